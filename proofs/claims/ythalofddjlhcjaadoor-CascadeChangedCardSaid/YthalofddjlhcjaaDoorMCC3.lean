/- Proved here: a part of the proof of the law at hand, in one text: no condition. -/
import Derived.Test.YthalofddjlhcjaaDoorMCC2
import Derived.Test.YthalofddjlhcjaaDoorProg
import Derived.Lib.ItoaLen
import Derived.Lib.Bytealg
import Derived.KernelRfl
import Derived.WalkKit
import Derived.Below
set_option linter.unusedVariables false
set_option linter.unusedSimpArgs false
namespace Go.Proofs.YthalofddjlhcjaaDoor
section
def zkW (fr : Fr) (g : Nat) : T :=
  match z1y fr.tm g with
  | .one (.h e []) => (match z0X fr.ob e with | some t => t | none => .dead)
  | .one (.a e [] 0) => (match z0X fr.ob e with | some (.vr cs) => .vr cs | _ => .dead)
  | _ => .dead
def zkV (fr : Fr) (g : Nat) : T :=
  match z1y fr.tm g with
  | .one (.a e [] off) => (match z0X fr.ob e with | some (.vr cs) => .vo off cs | _ => .dead)
  | _ => .dead
def zlx : T -> Bool
  | .vo _ _ => true
  | _ => false
theorem TRep.vr_val {w : World} {K : Nat -> z0e} {c : z0e} {v : Value} {cs : List T} {g : Nat} (h : TRep w K c v (.vr cs)) (hb : z4t v = some g) : v = .pointer (some ⟨g, 0, none⟩) := by
  cases h with
  | vr c g' cs arr e fz F hfz hc0 hK hg hl hF hh =>
    simp only [z4t, Option.some.injEq] at hb
    rw [hb]
def zg3 (fr : Fr) (g : Nat) : Option Nat :=
  match z1y fr.tm g with
  | .one (.h e []) => some e
  | .one (.a e [] _) => some e
  | _ => none
def zcI (fr : Fr) (nt : Nat) : List T -> Nat -> List T
  | [], _ => []
  | t :: ts, i => (if zlx t then zkV fr (nt + 1000 + i) else if z1S t then zkW fr (nt + 1000 + i) else .dead) :: zcI fr nt ts (i + 1)
theorem zcH (fr : Fr) (nt : Nat) : ∀ (ts : List T) (i j : Nat) (t : T), ts[j]? = some t -> z1S t = true -> (zcI fr nt ts i)[j]? = some (if zlx t then zkV fr (nt + 1000 + (i + j)) else zkW fr (nt + 1000 + (i + j)))
  | [], i, j, t, h, _ => by simp at h
  | t0 :: ts, i, 0, t, h, hio => by simp at h; subst h; simp [zcI, hio]
  | t0 :: ts, i, j + 1, t, h, hio => by
    simp only [zcI, List.getElem?_cons_succ]
    rw [zcH fr nt ts (i + 1) j t (by simpa using h) hio]
    rw [show i + 1 + j = i + (j + 1) by omega]
def zbG : List T -> Nat -> Option Nat
  | [], _ => none
  | t :: ts, i => if z1S t then some i else zbG ts (i + 1)
theorem zeX : ∀ (ts : List T) (i j : Nat) (t : T), (ts.filter z1S).length <= 1 -> ts[j]? = some t -> z1S t = true -> zbG ts i = some (i + j)
  | [], i, j, t, _, h, _ => by simp at h
  | t0 :: ts, i, 0, t, _, h, hio => by simp at h; subst h; simp [zbG, hio]
  | t0 :: ts, i, j + 1, t, hl, h, hio => by
    have h' : ts[j]? = some t := by simpa using h
    by_cases h0 : z1S t0 = true
    · exfalso
      have hm : t ∈ ts.filter z1S := by simp [List.mem_of_getElem? h', hio]
      have := List.length_pos_of_mem hm
      simp only [List.filter_cons, h0, if_true, List.length_cons] at hl
      omega
    · have h0' : z1S t0 = false := by simpa using h0
      simp only [zbG, h0', Bool.false_eq_true, if_false]
      rw [zeX ts (i + 1) j t (by simpa [List.filter_cons, h0'] using hl) h' hio]
      congr 1; omega
def zhy (fr : Fr) (nt : Nat) (args : List T) : Option Nat := match zbG args 0 with | some i => zg3 fr (nt + 1000 + i) | none => none
def zkT (fr : Fr) (nt : Nat) (args : List T) : Fr :=
  match zbG args 0 with
  | none => fr
  | some i => match z1y fr.tm (nt + 1000 + i) with
    | .one (.a e (j :: p) 0) => (z8R fr e (j :: p) (fr.nt + 7)).getD fr
    | _ => fr
def zff (P : Program) (fn : Func) (args : List T) (fr : Fr) : Option (T × List T) :=
  match zhq P fr fn.results.toList with
  | none => none
  | some es =>
    if (z7G es).length <= 900 /\ fr.nt = fn.ntmps then
      match plugL true { fr with tm := z4p (kill fr.nt) (putR fr.tm (fr.nt + 1) (z7G es)), ob := z3U fr.ob fr.nt (.tup (es.map zcm)) } fr.nt (z9l 0 (fr.nt + 1) es) with
      | none => none
      | some fr2 =>
        if zhy fr2 fn.ntmps args = some fr.nt then none else
        match z0X fr2.ob fr.nt with
        | some (.tup ts) =>
          if es.length = 1 then (match ts with | [t] => some (t, zcI fr2 fn.ntmps args 0) | _ => none)
          else some (.tup ts, zcI fr2 fn.ntmps args 0)
        | _ => none
    else none
def zaG (P : Program) (fn : Func) (args : List T) (fr : Fr) : Option (T × List T) := zff P fn args (zkT fr fn.ntmps args)
def zkx (cf : Cfg) (o : Option (T × List T)) : Option (T × List T) := match cf.fz 999998 with | none => o | some _ => o.map fun x => (z1v x.1, x.2)
def dz : z0e -> z0e
  | 0 :: _ => []
  | c => c
theorem zhC {cf : Cfg} {o : Option (T × List T)} {r : T} {outs : List T} (h : zkx cf o = some (r, outs)) : ∃ r0, o = some (r0, outs) /\ (r = r0 ∨ r = z1v r0) := by
  unfold zkx at h
  split at h
  · exact ⟨r, h, .inl rfl⟩
  · rw [Option.map_eq_some_iff] at h
    obtain ⟨⟨r0, outs0⟩, h1, h2⟩ := h
    cases h2
    exact ⟨r0, h1, .inr rfl⟩
noncomputable def zcr (P : Program) (C : z0m) (cf : Cfg) (LF : Nat) (fn : Func) (args : List T) : Option (T × List T) :=
  if args.length <= fn.ntmps /\ (args.filter z1S).length <= 1 then
    match fn.body with
    | none => none
    | some c => match z1z P C cf LF c (z0K fn.ntmps args) with
      | some (.n, fr) => zkx cf (zaG P fn args fr)
      | some (.r, fr) => zkx cf (zaG P fn args fr)
      | _ => none
  else none
theorem zhf {w : World} {K : Nat -> z0e} {R : Nat -> Value} {ob : List (Nat × T)} {e : E} {u : Value} (h : ERep w K R ob e u) (c : z0e) : TRep w K c u (zcm e) := by
  cases e with
  | one x => exact .dead c u
  | ag xs =>
    obtain ⟨arr, rfl, h2, h3⟩ := h
    refine .agg c arr _ (fun j => arr.getD j undef) (by simpa using h2) (fun j hj => z3e _ _ (by simp at hj; omega)) (fun j t ht => ?_)
    simp only [List.getElem?_map, Option.map_eq_some_iff] at ht
    obtain ⟨y, hy, rfl⟩ := ht
    exact .dead _ _
theorem zfW (fn : Func) (tmps : Array Value) : results fn tmps = (do let vs ← fn.results.mapM (fun r => zkv r tmps); pure (if h : vs.size = 1 then vs[0] else .tuple vs)) := by
  unfold results
  congr 1
  congr 1
  funext r
  cases r <;> rfl
def ziv (N : Nat) (e0 : Option (Nat × Nat)) (one : Bool) : z0e -> z0e
  | [] => []
  | h :: s => if h = N + 2 then (if one then (match s with | 0 :: s' => 0 :: s' | _ => [1]) else 0 :: s)
    else match e0 with | some (e, i) => if h = e + 2 then (i + 2) :: s else [1] | none => [1]
theorem zfe {P : Program} {fn : Func} {args : List T} {fr : Fr} {r : T} {outs : List T} {w : World} {K : Nat -> z0e} {R G : Nat -> Value} {a : Act} (h : FRep w K R G fr a) (hx : zff P fn args fr = some (r, outs)) (h1 : (args.filter z1S).length <= 1) :
    ∃ v K', (results fn a.tmps).run P w = .ok v w /\ TRep w K' [0] v r /\ (∀ i t, args[i]? = some t -> z1S t = true -> ∃ t', outs[i]? = some t' /\ TRep w K' (col i) (G (fn.ntmps + 1000 + i)) t') /\ Step w K w K' := by
  unfold zff at hx
  split at hx
  case h_1 => cases hx
  case h_2 es hes =>
  split at hx
  case isFalse => cases hx
  case isTrue hc =>
  obtain ⟨hfl, hnt⟩ := hc
  split at hx
  case h_1 => cases hx
  case h_2 fr2 hpl =>
  split at hx
  · cases hx
  rename_i hne
  obtain ⟨us, u1, u0, u2, u3⟩ := zcy h hes
  obtain ⟨vs, v1, v2, v3⟩ := z7W (j0 := 0) (base := fr.nt + 1) u1 u2
  have hp := h.putR (base := fr.nt + 1) (xs := z7G es) (us := fun j => vs.getD j undef) (by omega) v2
  have hrep : TRep w K (col fr.nt) (.tuple us.toArray) (.tup (es.map zcm)) := by
    refine .tup _ us.toArray _ (fun j => us.getD j undef) (by simp [u1]) (fun j hj => ?_) (fun j t ht => ?_)
    · have : j < us.length := by simp at hj; omega
      simp [List.getD, this]
    · simp only [List.getElem?_map, Option.map_eq_some_iff] at ht
      obtain ⟨e, he, rfl⟩ := ht
      exact zhf (u2 j e he) _
  have hq := hp.replace (d := fr.nt) (w' := w) (K' := K) (v := .tuple us.toArray) (t := .tup (es.map zcm)) ⟨fun b hb e => ⟨e, rfl⟩, fun b hb _ => ⟨rfl, rfl⟩, Nat.le_refl _⟩ hrep
  have hregs : ∀ k, k < vs.length -> z6M a (gv G (fr.nt + 1) (fun j => vs.getD j undef) (z7G es).length) (fr.nt + 1 + k) = vs.getD k undef := fun k hk => by
    rw [z6M, if_neg (by rw [h.nt]; omega)]
    simp only [gv]
    rw [if_pos (by omega)]
    congr 1; omega
  obtain ⟨K2, R2, q1, q2, q3, q4, _⟩ := hq.plugL (l := z9l 0 (fr.nt + 1) es) (fun q r' hm => by
    obtain ⟨k, k1, rfl, j, q', rfl, k4, k5⟩ := v3 q r' hm
    refine ⟨?_, by omega⟩
    rw [hregs k k1]
    have hju : j < us.length := by omega
    simp only [z6S, if_true, Nat.zero_add, nav, z9t]
    have : us.toArray[j]? = some (us.getD j undef) := by simp [List.getD, hju]
    rw [this]
    exact k5) hpl
  have hRN : R2 fr.nt = .tuple us.toArray := by
    rw [q4 fr.nt (fun q r' hm => by obtain ⟨k, k1, rfl, _⟩ := v3 q r' hm; omega)]
    simp [z6S]
  have hres : (results fn a.tmps).run P w = .ok (if us.length = 1 then us.getD 0 undef else .tuple us.toArray) w := by
    rw [zfW]
    have : (fn.results.mapM (fun r => zkv r a.tmps)).run P w = .ok us.toArray w := by
      rw [Array.mapM_eq_mapM_toList]
      simp only [map_eq_pure_bind, Sem.run_bind, u3, Result.andThen_ok, Sem.run_pure]
    simp only [Sem.run_bind, this, Result.andThen_ok, Sem.run_pure]
    congr 1
    by_cases e : us.length = 1
    · match us, e with
      | [u], _ => simp
    · rw [dif_neg (by simpa using e), if_neg e]
  let io : Option (Nat × Nat) := match zbG args 0 with | some i => (match zg3 fr2 (fn.ntmps + 1000 + i) with | some e => some (e, i) | none => none) | none => none
  have hio : ∀ e i, io = some (e, i) -> e ≠ fr.nt := fun e i he => by
    intro heq
    apply hne
    simp only [io] at he
    split at he
    · rename_i i' hi'
      split at he
      · rename_i e' he'
        cases he
        simp only [zhy, hi']
        rw [he', heq]
      · cases he
    · cases he
  let one : Bool := decide (es.length = 1)
  let K3 : Nat -> z0e := fun b => ziv fr.nt io one (K2 b)
  have hK3 : ∀ b, K2 b = [] -> K3 b = [] := fun b e => by show ziv fr.nt io one (K2 b) = []; rw [e]; rfl
  have hstep : Step w K2 w K3 := ⟨rfl, rfl, rfl, Nat.le_refl _, fun b hb hc => ⟨by
    show ziv fr.nt io one (K2 b) = K2 b
    rcases hc with e | e
    · rw [e]; rfl
    · rw [e]
      simp only [ziv]
      rw [if_neg (by omega)]
      cases io with
      | none => rfl
      | some x =>
        obtain ⟨e', i⟩ := x
        simp only
        rw [if_neg (by omega)], rfl⟩, .same rfl⟩
  have houts : outs = zcI fr2 fn.ntmps args 0 -> ∀ i t, args[i]? = some t -> z1S t = true -> ∃ t', outs[i]? = some t' /\ TRep w K3 (col i) (G (fn.ntmps + 1000 + i)) t' := fun ho i t ht hit => by
    refine ⟨if zlx t then zkV fr2 (fn.ntmps + 1000 + i) else zkW fr2 (fn.ntmps + 1000 + i), by rw [ho, zcH fr2 fn.ntmps args 0 i t ht hit, Nat.zero_add], ?_⟩
    have hidx := zeX args 0 i t h1 ht hit
    rw [Nat.zero_add] at hidx
    have hg := q1.tm (fn.ntmps + 1000 + i)
    have hgv : z6M a (gv G (fr.nt + 1) (fun j => vs.getD j undef) (z7G es).length) (fn.ntmps + 1000 + i) = G (fn.ntmps + 1000 + i) := by
      rw [z6M, if_neg (by rw [h.nt]; omega)]
      simp only [gv]
      rw [if_neg (by omega)]
    rw [hgv] at hg
    have hmv0 : ∀ e tt, io = some (e, i) -> z0X fr2.ob e = some tt -> TRep w K3 (col i) (R2 e) tt := fun e tt he hob => by
      have hr := q1.ob e tt hob
      have hen := hio e i he
      refine hr.move (fun b s hb hcc hKb => ⟨?_, rfl⟩) (fun b hb e0 => ⟨hK3 b e0, rfl⟩) (by simp [col]) (Nat.le_refl _)
      show ziv fr.nt io one (K2 b) = _
      rw [hKb, he]
      simp [ziv, col, hen]
    have hmv : ∀ e tt, io = some (e, i) -> z0X fr2.ob e = some tt -> R2 e = G (fn.ntmps + 1000 + i) -> TRep w K3 (col i) (G (fn.ntmps + 1000 + i)) tt := fun e tt he hob hR => hR ▸ hmv0 e tt he hob
    split
    · unfold zkV
      split
      · rename_i e off hge
        have hie : io = some (e, i) := by simp only [io, hidx, zg3, hge]
        split
        · rename_i cs hob
          rw [hge] at hg
          obtain ⟨hv, g, n1, n4, n5, _⟩ := hg
          simp only [nav, Option.some.injEq] at n1
          have hr := hmv0 e _ hie hob
          rw [n1] at hr
          rw [hr.vr_val n4] at hr
          rw [n5]
          exact .vo _ g off cs hr
        · exact .dead _ _
      · exact .dead _ _
    unfold zkW
    split
    · rename_i e hge
      have hie : io = some (e, i) := by simp only [io, hidx, zg3, hge]
      split
      · rename_i tt hob
        rw [hge] at hg
        obtain ⟨n1, _⟩ := hg
        simp only [nav, Option.some.injEq] at n1
        exact hmv e tt hie hob n1
      · exact .dead _ _
    · rename_i e hge
      have hie : io = some (e, i) := by simp only [io, hidx, zg3, hge]
      split
      · rename_i cs hob
        rw [hge] at hg
        obtain ⟨hv, g, n1, n4, n5, _⟩ := hg
        simp only [nav, Option.some.injEq] at n1
        refine hmv e _ hie hob ?_
        have hr := q1.ob e _ hob
        rw [n5, n1]
        rw [n1] at hr
        cases hr with
        | vr c g' cs arr e' fz F hfz hc0 hK hg' hl hF hh =>
          simp only [z4t, Option.some.injEq] at n4
          rw [n4]
      · exact .dead _ _
    · exact .dead _ _
  refine ⟨_, K3, hres, ?_⟩
  split at hx
  case h_2 => cases hx
  case h_1 ts hob =>
  have htup := q1.ob fr.nt _ hob
  rw [hRN] at htup
  split at hx
  · rename_i hone
    split at hx
    · rename_i t
      cases hx
      refine ⟨?_, houts rfl, q2.trans hstep⟩
      rw [if_pos (by omega)]
      obtain ⟨v', k1, k2⟩ := htup.kid (j := 0) (t' := r) (z0Q _) rfl
      have hv' : v' = us.getD 0 undef := by
        simp only [z9t] at k1
        have : 0 < us.length := by omega
        simp [List.getD, this] at k1 ⊢
        exact k1.symm
      rw [← hv']
      refine k2.move (fun b s hb hcc hKb => ⟨?_, rfl⟩) (fun b hb e0 => ⟨hK3 b e0, rfl⟩) (by simp [col]) (Nat.le_refl _)
      show ziv fr.nt io one (K2 b) = _
      rw [hKb]
      simp [ziv, col, one, hone]
    · cases hx
  · rename_i hone
    cases hx
    refine ⟨?_, houts rfl, q2.trans hstep⟩
    rw [if_neg (by omega)]
    refine htup.move (fun b s hb hcc hKb => ⟨?_, rfl⟩) (fun b hb e0 => ⟨hK3 b e0, rfl⟩) (by simp [col]) (Nat.le_refl _)
    show ziv fr.nt io one (K2 b) = _
    rw [hKb]
    simp [ziv, col, one, hone]
theorem zkb {P : Program} {fn : Func} {args : List T} {fr : Fr} {r : T} {outs : List T} {w : World} {K : Nat -> z0e} {R G : Nat -> Value} {a : Act} (h : FRep w K R G fr a) (hx : zaG P fn args fr = some (r, outs)) (h1 : (args.filter z1S).length <= 1) :
    ∃ v K', (results fn a.tmps).run P w = .ok v w /\ TRep w K' [0] v r /\ (∀ i t, args[i]? = some t -> z1S t = true -> ∃ t', outs[i]? = some t' /\ TRep w K' (col i) (G (fn.ntmps + 1000 + i)) t') /\ Step w K w K' := by
  unfold zaG at hx
  have keep : zkT fr fn.ntmps args = fr ∨ ∃ e p fr1, z8R fr e p (fr.nt + 7) = some fr1 /\ zkT fr fn.ntmps args = fr1 := by
    unfold zkT
    split
    · exact .inl rfl
    · split
      · rename_i e j p _
        cases ht : z8R fr e (j :: p) (fr.nt + 7) with
        | none => exact .inl rfl
        | some f => exact .inr ⟨_, _, f, ht, rfl⟩
      · exact .inl rfl
  rcases keep with e | ⟨e, p, fr1, e1, e2⟩
  · rw [e] at hx; exact zfe h hx h1
  · rw [e2] at hx
    obtain ⟨vp, t, -, -, h2⟩ := h.take e1
    obtain ⟨v, K', r1, r2, r3, r4⟩ := zfe h2 hx h1
    exact ⟨v, K', r1, r2, r3, (z9w e p _).trans r4⟩
theorem zjt {P : Program} {I : World -> (Nat -> z0e) -> Prop} {C : z0m} {cf : Cfg} {LF : Nat} {f : FuncId} {fn : Func} {c : Code} {args : List T} {r : T} {outs : List T} (hI : EnvS I) (hC : z5m P I C) (hm : P.follows .mixedOrders = true) (hfn : P.funcs[f]? = some fn) (hb : fn.body = some c) (hname : fn.name ≠ "runtime.NumGoroutine")
    (hok : okC cf c = true) (hr : zcr P C cf LF fn args = some (r, outs)) : CallOk P I f args r outs := by
  unfold zcr at hr
  split at hr
  case isFalse => cases hr
  case isTrue hc =>
  rw [hb] at hr
  simp only at hr
  refine ⟨fun vals w => by simp [callFunc, program, Sem.run, hfn, hname, hb], fun w K vals hs ha hIw => ?_⟩
  have hent := zi4 (nt := fn.ntmps) hs ha hc.1
  have main : ∀ x fr, (x = .n ∨ x = .r) -> z1z P C cf LF c (z0K fn.ntmps args) = some (x, fr) -> zkx cf (zaG P fn args fr) = some (r, outs) ->
      Calls P f vals w fun e w' => ∃ v K', e = .returned v /\ TRep w' K' [0] v r /\ (∀ i t, args[i]? = some t -> z1S t = true -> ∃ t', outs[i]? = some t' /\ TRep w' K' (col i) (vals.getD i undef) t') /\ Step w K w' K' := fun x fr hx hcode hexit => by
    refine calls_of_wp hfn hb (zki hI hC hm c hok hent hIw hcode fun a' w' K' R' h' hst => ?_)
    obtain ⟨r0, hex0, hr0⟩ := zhC hexit
    obtain ⟨v, K1, e1, e20, e30, e40⟩ := zkb h' hex0 hc.2
    obtain ⟨K2, e2, e3, e4⟩ : ∃ K2, TRep w' K2 [0] v r /\ (∀ i t, args[i]? = some t -> z1S t = true -> ∃ t', outs[i]? = some t' /\ TRep w' K2 (col i) (vals.getD (fn.ntmps + 1000 + i - (fn.ntmps + 1000)) undef) t') /\ Step w' K' w' K2 := by
      rcases hr0 with e | e
      · rw [e]; exact ⟨K1, e20, e30, e40⟩
      · rw [e]
        refine ⟨fun b => dz (K1 b), e20.freeze (fun b s hb hcc hK => ⟨by show dz (K1 b) = []; rw [hK]; rfl, rfl⟩) (fun b hb hK => ⟨by show dz (K1 b) = []; rw [hK]; rfl, rfl⟩) (Nat.le_refl _) [0], fun i t hi hio => ?_, e40.trans ⟨rfl, rfl, rfl, Nat.le_refl _, fun b hb hcc => ⟨by
          show dz (K1 b) = K1 b
          rcases hcc with q | q <;> rw [q] <;> rfl, rfl⟩, .same rfl⟩⟩
        obtain ⟨t', f1, f2⟩ := e30 i t hi hio
        exact ⟨t', f1, f2.move (fun b s hb hcc hK => ⟨by show dz (K1 b) = col i ++ s; rw [hK]; rfl, rfl⟩) (fun b hb hK => ⟨by show dz (K1 b) = []; rw [hK]; rfl, rfl⟩) Iff.rfl (Nat.le_refl _)⟩
    have hpost : a'.defers = [] /\ ∃ v, (results fn a'.tmps).run P w' = .ok v w' /\ ∃ v' K', Ending.returned v = .returned v' /\ TRep w' K' [0] v' r /\ (∀ i t, args[i]? = some t -> z1S t = true -> ∃ t', outs[i]? = some t' /\ TRep w' K' (col i) (vals.getD i undef) t') /\ Step w K w' K' :=
      ⟨h'.df, v, e1, v, K2, rfl, e2, fun i t hi hio => by
        obtain ⟨t', f1, f2⟩ := e3 i t hi hio
        rw [show fn.ntmps + 1000 + i - (fn.ntmps + 1000) = i by omega] at f2
        exact ⟨t', f1, f2⟩, hst.trans e4⟩
    rcases hx with rfl | rfl
    · exact hpost
    · exact hpost
  split at hr
  · rename_i fr hcode
    exact main .n fr (.inl rfl) hcode hr
  · rename_i fr hcode
    exact main .r fr (.inr rfl) hcode hr
  · cases hr
end
section
def wpC (P : Program) (C : z0m) (cf : Cfg) (LF : Nat) (c : Code) (fr : Fr) (Q : X -> Fr -> Prop) : Prop := ∃ x fr', z1z P C cf LF c fr = some (x, fr') /\ Q x fr'
def zlt (P : Program) (C : z0m) (wio : FuncId -> Nat -> Bool) (ops : Array Oper) : List Oper -> Fr -> (Fr -> Prop) -> Prop
  | [], fr, Q => Q fr
  | o :: rest, fr, Q => ∃ b, z5C ops fr o = some b /\ (b = true -> ∃ fr', opF P C wio fr o = some fr' /\ zlt P C wio ops rest fr' Q) /\ (b = false -> ∃ fr', putF fr o.dst (.one (.k undef)) = some fr' /\ zlt P C wio ops rest fr' Q)
variable {P : Program} {C : z0m} {cf : Cfg} {LF : Nat} {fr : Fr} {Q : X -> Fr -> Prop}
theorem ziz (h : Q .n fr) : wpC P C cf LF .skip fr Q := ⟨_, _, rfl, h⟩
theorem ziA {i} (h : Q (.x i) fr) : wpC P C cf LF (.exit i) fr Q := ⟨_, _, rfl, h⟩
theorem zjC (h : Q .r fr) : wpC P C cf LF .ret fr Q := ⟨_, _, rfl, h⟩
def zdD (Q1 : Fr -> Prop) (Q : X -> Fr -> Prop) : X -> Fr -> Prop
  | .n, fr => Q1 fr
  | .x i, fr => Q (.x i) fr
  | .r, fr => Q .r fr
theorem zjB {a b : Code} (h : wpC P C cf LF a fr (zdD (fun fr' => wpC P C cf LF b fr' Q) Q)) : wpC P C cf LF (.seq a b) fr Q := by
  obtain ⟨x, fr1, e, h⟩ := h
  cases x with
  | n =>
    obtain ⟨y, fr2, e2, h⟩ := h
    exact ⟨y, fr2, by simp only [z1z, e, e2], h⟩
  | x i => exact ⟨_, _, by simp only [z1z, e], h⟩
  | r => exact ⟨_, _, by simp only [z1z, e], h⟩
def z7P (id : Nat) (Q : X -> Fr -> Prop) : X -> Fr -> Prop
  | .n, fr => Q .n fr
  | .x i, fr => if i = id then Q .n fr else Q (.x i) fr
  | .r, fr => Q .r fr
theorem zgT {id : Nat} {c : Code} (h : wpC P C cf LF c fr (z7P id Q)) : wpC P C cf LF (.block id c) fr Q := by
  obtain ⟨x, fr1, e, h⟩ := h
  cases x with
  | n => exact ⟨_, _, by simp only [z1z, e], h⟩
  | x i =>
    simp only [z7P] at h
    by_cases hi : i = id
    · rw [if_pos hi] at h
      exact ⟨.n, fr1, by simp only [z1z, e, if_pos hi], h⟩
    · rw [if_neg hi] at h
      exact ⟨.x i, fr1, by simp only [z1z, e, if_neg hi], h⟩
  | r => exact ⟨_, _, by simp only [z1z, e], h⟩
structure Hid (p : Prop) : Prop where
  out : p
def zkF (o : Option Bool) (Q1 Q2 : Prop) : Prop := match o with | some b => (b = true -> Q1) /\ (b = false -> Q2) | none => False
theorem z2e {b : Bool} {Q1 Q2 : Prop} : zkF (some b) Q1 Q2 = ((b = true -> Q1) /\ (b = false -> Q2)) := rfl
theorem zjF {o : Option Bool} {Q1 Q2 : Prop} (h : zkF o Q1 Q2) : ∃ b, o = some b /\ (b = true -> Q1) /\ (b = false -> Q2) := by
  cases o with
  | none => exact absurd h id
  | some b => exact ⟨b, rfl, h⟩
def zkr (o : Option Value) (Q1 Q2 : Prop) : Prop := match o with | some (.bool b) => (b = true -> Q1) /\ (b = false -> Q2) | _ => False
theorem zca {b : Bool} {Q1 Q2 : Prop} : zkr (some (.bool b)) Q1 Q2 = ((b = true -> Q1) /\ (b = false -> Q2)) := rfl
theorem zjE {o : Option Value} {Q1 Q2 : Prop} (h : zkr o Q1 Q2) : ∃ b, o = some (.bool b) /\ (b = true -> Q1) /\ (b = false -> Q2) := by
  unfold zkr at h
  split at h
  · exact ⟨_, rfl, h⟩
  · exact absurd h id
def zdt (o : Option Fr) (Q : Fr -> Prop) : Prop := match o with | some fr => Q fr | none => False
theorem zds {fr : Fr} {Q : Fr -> Prop} : zdt (some fr) Q = Q fr := rfl
theorem zav {o : Option Fr} {Q : Fr -> Prop} (h : zdt o Q) : ∃ fr, o = some fr /\ Q fr := by
  cases o with
  | none => exact absurd h id
  | some fr => exact ⟨fr, rfl, h⟩
theorem zfy {id : Nat} {ops : Array Oper} {draw : Bool} (hd : draw = false) (hz : cf.fz id = none) (h : ∀ Q' : Fr -> Prop, Hid (∀ fr', Q .n fr' -> Q' fr') -> zdt (zdK P C cf.wio ops ops.toList fr) Q') : wpC P C cf LF (.region id ops draw) fr Q := by
  obtain ⟨fr', e, h⟩ := zav (h (Q .n) ⟨fun _ h => h⟩)
  subst hd
  exact ⟨.n, fr', by simp [z1z, hz, zj0, e], h⟩
theorem zjD {id : Nat} {ops : Array Oper} {draw : Bool} {l : List Nat} {fr1 : Fr} (hz : cf.fz id = some l) (hf : zk7 fr l = fr1) (h : wpC P C { cf with fz := fun _ => none } LF (.region id ops draw) fr1 Q) : wpC P C cf LF (.region id ops draw) fr Q := by
  obtain ⟨x, fr', e, h⟩ := h
  refine ⟨x, fr', ?_, h⟩
  simp only [z1z, zj0] at e
  simp only [z1z, hz, zj0, hf]
  exact e
def zlX (P : Program) (C : z0m) (wio : FuncId -> Nat -> Bool) (M : List Nat) (ops : Array Oper) (sch : List (Nat × Nat)) (fr : Fr) : Option Fr := match z7g P C wio M.isEmpty M.contains ops (z8u ops sch) fr with | some fr1 => z4V P ops.toList fr1 | none => none
def z1h (P : Program) (C : z0m) (wio : FuncId -> Nat -> Bool) (same : Bool) (M : Nat -> Bool) (fr : Fr) (o : Oper) (m : Nat) : Option Fr :=
  if m = 0 ∨ m = 3 then (match z7a P (if m = 0 then M else zlH) fr o.op with | some e => putF fr o.dst e | none => none)
  else if m = 2 then opF P C wio fr o else if same then z7H P C wio fr o else wrF P C wio M fr o
def z6Q (P : Program) (C : z0m) (wio : FuncId -> Nat -> Bool) (M : List Nat) (ops : Array Oper) : List (Nat × Nat) -> Fr -> (Fr -> Prop) -> Prop
  | [], fr, Q => Q fr
  | (k, m) :: rest, fr, Q => ∃ o, ops[k]? = some o /\ ∃ b, z5C ops fr o = some b /\ (b = true -> ∃ fr', z1h P C wio M.isEmpty M.contains fr o m = some fr' /\ z6Q P C wio M ops rest fr' Q) /\ (b = false -> ∃ fr', putF fr o.dst (.one (.k undef)) = some fr' /\ z6Q P C wio M ops rest fr' Q)
theorem z9a {P : Program} {C : z0m} {wio : FuncId -> Nat -> Bool} {M : List Nat} {ops : Array Oper} {Q : Fr -> Prop} : ∀ {l : List (Nat × Nat)} {fr : Fr}, z6Q P C wio M ops l fr Q -> ∃ fr', z7g P C wio M.isEmpty M.contains ops (z8u ops l) fr = some fr' /\ Q fr'
  | [], fr, h => ⟨fr, rfl, h⟩
  | (k, m) :: rest, fr, ⟨o, ho, b, hb, h1, h2⟩ => by
    have hp : z8u ops ((k, m) :: rest) = (k, o, m) :: z8u ops rest := by simp [z8u, ho]
    rw [hp]
    cases b with
    | true =>
      obtain ⟨fr', e, h⟩ := h1 rfl
      obtain ⟨x, e2, h⟩ := z9a h
      refine ⟨x, ?_, h⟩
      simp only [z7g, hb]
      unfold z1h at e
      by_cases hm : m = 0 ∨ m = 3
      · rw [if_pos hm] at e ⊢
        split at e
        · rename_i e' he'
          simp only [he', e, e2]
        · cases e
      · rw [if_neg hm] at e ⊢
        simp only [e, e2]
    | false =>
      obtain ⟨fr', e, h⟩ := h2 rfl
      obtain ⟨x, e2, h⟩ := z9a h
      exact ⟨x, by simp only [z7g, hb, e, e2], h⟩
theorem zgS {id : Nat} {ops : Array Oper} {draw : Bool} {sch : List (Nat × Nat)} (hd : draw = true) (hs : cf.dr id = some sch) (hz : cf.fz id = none) (h : z6Q P C cf.wio (cf.wr id) ops sch fr (fun fr1 => zdt (z4V P ops.toList fr1) (Q .n))) (ht : cf.dt id = none := by rfl) : wpC P C cf LF (.region id ops draw) fr Q := by
  obtain ⟨fr1, e1, h⟩ := z9a h
  obtain ⟨fr2, e2, h⟩ := zav h
  subst hd
  exact ⟨.n, fr2, by simp only [z1z, if_true, z5X, ht, hs, hz, zj0, e1, e2], h⟩
theorem zi5 {wio : FuncId -> Nat -> Bool} {M : List Nat} {ops : Array Oper} {l : List Oper} {Q : X -> Fr -> Prop} (h : ∀ Q' : Fr -> Prop, Hid (∀ fr', Q .n fr' -> Q' fr') -> zdt (z4V P l fr) Q') : z6Q P C wio M ops [] fr (fun fr1 => zdt (z4V P l fr1) (Q .n)) := h _ ⟨fun _ h => h⟩
theorem zj7 {wio : FuncId -> Nat -> Bool} {M : List Nat} {ops : Array Oper} {k m : Nat} {o : Oper} {l : List (Nat × Nat)} {Q : Fr -> Prop} (ho : ops[k]? = some o) (hg : o.guard = none) (h : ∀ Q' : Fr -> Prop, Hid (∀ fr', z6Q P C wio M ops l fr' Q -> Q' fr') -> zdt (z1h P C wio M.isEmpty M.contains fr o m) Q') : z6Q P C wio M ops ((k, m) :: l) fr Q := by
  obtain ⟨fr', e, h⟩ := zav (h _ ⟨fun _ h => h⟩)
  exact ⟨o, ho, true, by simp [z5C, hg], fun _ => ⟨fr', e, h⟩, fun h => by cases h⟩
theorem zea {wio : FuncId -> Nat -> Bool} {M : List Nat} {ops : Array Oper} {k m : Nat} {o : Oper} {l : List (Nat × Nat)} {Q : Fr -> Prop} (ho : ops[k]? = some o) (h : ∀ Q1 Q2 : Prop, Hid ((∀ Q' : Fr -> Prop, Hid (∀ fr', z6Q P C wio M ops l fr' Q -> Q' fr') -> zdt (z1h P C wio M.isEmpty M.contains fr o m) Q') -> Q1) -> Hid ((∀ Q' : Fr -> Prop, Hid (∀ fr', z6Q P C wio M ops l fr' Q -> Q' fr') -> zdt (putF fr o.dst (.one (.k undef))) Q') -> Q2) -> zkF (z5C ops fr o) Q1 Q2) : z6Q P C wio M ops ((k, m) :: l) fr Q := by
  obtain ⟨b, hb, h1, h2⟩ := zjF (h _ _ ⟨id⟩ ⟨id⟩)
  refine ⟨o, ho, b, hb, fun e => ?_, fun e => ?_⟩
  · obtain ⟨fr', e, h⟩ := zav (h1 e _ ⟨fun _ h => h⟩)
    exact ⟨fr', e, h⟩
  · obtain ⟨fr', e, h⟩ := zav (h2 e _ ⟨fun _ h => h⟩)
    exact ⟨fr', e, h⟩
theorem zkD {c : Operand} {x y : Code} (h : ∀ Q1 Q2 : Prop, Hid (wpC P C cf LF x fr Q -> Q1) -> Hid (wpC P C cf LF y fr Q -> Q2) -> zkr (rdV (opE fr c)) Q1 Q2) : wpC P C cf LF (.cond c x y) fr Q := by
  obtain ⟨b, h, h1, h2⟩ := zjE (h _ _ ⟨id⟩ ⟨id⟩)
  cases b with
  | true =>
    obtain ⟨x, fr1, e, h'⟩ := h1 rfl
    exact ⟨x, fr1, by simp only [z1z, h, e], h'⟩
  | false =>
    obtain ⟨x, fr1, e, h'⟩ := h2 rfl
    exact ⟨x, fr1, by simp only [z1z, h, e], h'⟩
theorem z0a {Q1 : Fr -> Prop} (h : Q1 fr) : zdD Q1 Q .n fr := h
theorem z0B {Q1 : Fr -> Prop} {i} (h : Q (.x i) fr) : zdD Q1 Q (.x i) fr := h
theorem z0c {Q1 : Fr -> Prop} (h : Q .r fr) : zdD Q1 Q .r fr := h
theorem z0g {id} (h : Q .n fr) : z7P id Q .n fr := h
theorem zgB {id} (h : Q .n fr) : z7P id Q (.x id) fr := by simp [z7P, h]
theorem z0h {id} (h : Q .r fr) : z7P id Q .r fr := h
theorem znO {a b : Int} (h : b <= a) : (a < b) = False := by simp; omega
theorem znQ {a b : Int} (h : b < a) : (a <= b) = False := by simp; omega
theorem znN {a b : Nat} (h : b <= a) : (a < b) = False := by simp; omega
theorem znP {a b : Nat} (h : b < a) : (a <= b) = False := by simp; omega
def zlT (I : Nat -> Fr -> Prop) (cn : Fr -> Fr) (m : Nat) (Q : X -> Fr -> Prop) : X -> Fr -> Prop
  | .n, fr => ∃ k, k < m /\ I k (cn fr)
  | .x i, fr => Q (.x i) fr
  | .r, fr => Q .r fr
def zkR (I : Nat -> Prop) (H : Nat -> Fr) (cn : Fr -> Fr) (n k : Nat) (Q : X -> Fr -> Prop) : X -> Fr -> Prop
  | .n, fr => k < n /\ I (k + 1) /\ cn fr = H (k + 1)
  | .x i, fr => Q (.x i) fr
  | .r, fr => Q .r fr
def zlh (P : Program) (fn : Func) (args : List T) (r : T) (outs : List T) : X -> Fr -> Prop
  | .n, fr => zaG P fn args fr = some (r, outs)
  | .r, fr => zaG P fn args fr = some (r, outs)
  | .x _, _ => False
def zlW (P : Program) (fn : Func) (args : List T) (r : T) (outs : List T) : X -> Fr -> Prop
  | .n, fr => (zaG P fn args fr).map (fun x => (z1v x.1, x.2)) = some (r, outs)
  | .r, fr => (zaG P fn args fr).map (fun x => (z1v x.1, x.2)) = some (r, outs)
  | .x _, _ => False
theorem z0F {fn : Func} {c : Code} {args : List T} {r : T} {outs : List T} (hb : fn.body = some c) (ha : args.length <= fn.ntmps /\ (args.filter z1S).length <= 1) (h : wpC P C cf LF c (z0K fn.ntmps args) (zlh P fn args r outs)) (hz : cf.fz 999998 = none := by rfl) : zcr P C cf LF fn args = some (r, outs) := by
  obtain ⟨x, fr', e, h⟩ := h
  unfold zcr zkx
  rw [if_pos ha, hb]
  simp only [e, hz]
  cases x with
  | n => exact h
  | x i => exact absurd h id
  | r => exact h
def zbF : Code -> Nat
  | .skip => 0
  | .region _ _ _ => 1
  | .seq _ _ => 2
  | .cond _ _ _ => 3
  | .block _ _ => 4
  | .loop _ => 5
  | .exit _ => 6
  | .ret => 7
  | .label _ => 8
  | .scope _ => 10
  | _ => 9
def znv : Code -> Code
  | .seq a _ => a
  | c => c
def znu : Code -> Code
  | .seq _ b => b
  | c => c
def cdA : Code -> Code
  | .cond _ x _ => x
  | c => c
def cdB : Code -> Code
  | .cond _ _ y => y
  | c => c
def cdO : Code -> Option Operand
  | .cond o _ _ => some o
  | _ => none
def blC : Code -> Code
  | .block _ c => c
  | c => c
def blI : Code -> Nat
  | .block i _ => i
  | _ => 0
def lpC : Code -> Code
  | .loop c => c
  | c => c
def exI : Code -> Nat
  | .exit i => i
  | _ => 0
def rgI : Code -> Nat
  | .region i _ _ => i
  | _ => 0
def rgD : Code -> Bool
  | .region _ _ d => d
  | _ => false
def rgO : Code -> Array Oper
  | .region _ ops _ => ops
  | _ => #[]
def rgN : Code -> Option Nat
  | .region i _ _ => some i
  | _ => none
def rgL (c : Code) : Option (List Oper) := match c with | .region _ ops _ => some ops.toList | _ => none
section
variable {c : Code}
theorem z0n (hk : zbF c = 0) (h : Q .n fr) : wpC P C cf LF c fr Q := by
  cases c <;> first | exact ziz h | cases hk
theorem z0I (hk : zbF c = 6) (h : Q (.x (exI c)) fr) : wpC P C cf LF c fr Q := by
  cases c <;> first | exact ziA h | cases hk
theorem z0o (hk : zbF c = 7) (h : Q .r fr) : wpC P C cf LF c fr Q := by
  cases c <;> first | exact zjC h | cases hk
theorem zlN (hk : zbF c = 2) (h : wpC P C cf LF (znv c) fr (zdD (fun fr' => wpC P C cf LF (znu c) fr' Q) Q)) : wpC P C cf LF c fr Q := by
  cases c <;> first | exact zjB h | cases hk
theorem zjQ (hk : zbF c = 4) (h : wpC P C cf LF (blC c) fr (z7P (blI c) Q)) : wpC P C cf LF c fr Q := by
  cases c <;> first | exact zgT h | cases hk
theorem znx {o : Operand} (ho : cdO c = some o) (h : ∀ Q1 Q2 : Prop, Hid (wpC P C cf LF (cdA c) fr Q -> Q1) -> Hid (wpC P C cf LF (cdB c) fr Q -> Q2) -> zkr (rdV (opE fr o)) Q1 Q2) : wpC P C cf LF c fr Q := by
  cases c <;> first | (cases ho; exact zkD h) | cases ho
theorem ziM {l : List Oper} (hl : rgL c = some l) (hd : rgD c = false) (hz : cf.fz (rgI c) = none) (h : ∀ Q' : Fr -> Prop, Hid (∀ fr', Q .n fr' -> Q' fr') -> zdt (zdK P C cf.wio l.toArray l fr) Q') : wpC P C cf LF c fr Q := by
  cases c with
  | region i ops d =>
    cases hl
    exact zfy hd hz (by simpa using h)
  | _ => cases hl
theorem zhv {l : List Nat} {fr1 : Fr} (hk : zbF c = 1) (hz : cf.fz (rgI c) = some l) (hf : zk7 fr l = fr1) (h : wpC P C { cf with fz := fun _ => none } LF c fr1 Q) : wpC P C cf LF c fr Q := by
  cases c <;> first | exact zjD hz hf h | cases hk
theorem z1o {i : Nat} {sch : List (Nat × Nat)} (hi : rgN c = some i) (hd : rgD c = true) (hs : cf.dr i = some sch) (hz : cf.fz i = none) (h : z6Q P C cf.wio (cf.wr i) (rgO c) sch fr (fun fr1 => zdt (z4V P (rgO c).toList fr1) (Q .n))) (ht : cf.dt i = none := by rfl) : wpC P C cf LF c fr Q := by
  cases c with
  | region j ops d =>
    cases hi
    exact zgS hd hs hz h ht
  | _ => cases hi
def zkY : List Oper -> Nat -> Option Oper
  | [], _ => none
  | o :: _, 0 => some o
  | _ :: l, k + 1 => zkY l k
theorem zjW (l : List Oper) : ∀ (k : Nat) (o : Oper), zkY l k = some o -> l[k]? = some o := by
  induction l with
  | nil => intro k o h; cases k <;> cases h
  | cons a l ih =>
    intro k o h
    cases k with
    | zero => simpa [zkY] using h
    | succ k => simpa using ih k o (by simpa [zkY] using h)
def zgK (c : Code) (k : Nat) : Option Oper := match c with | .region _ ops _ => zkY ops.toList k | _ => none
theorem zbv {c : Code} {k : Nat} {o : Oper} (h : zgK c k = some o) : (rgO c)[k]? = some o := by
  cases c with
  | region i ops d => rw [← Array.getElem?_toList]; exact zjW _ _ _ h
  | _ => cases h
theorem z0A {wio : FuncId -> Nat -> Bool} {M : List Nat} {ops : Array Oper} {l : List Oper} {Q : X -> Fr -> Prop} (hl : rgL c = some l) (h : ∀ Q' : Fr -> Prop, Hid (∀ fr', Q .n fr' -> Q' fr') -> zdt (z4V P l fr) Q') : z6Q P C wio M ops [] fr (fun fr1 => zdt (z4V P (rgO c).toList fr1) (Q .n)) := by
  have e : (rgO c).toList = l := by
    cases c with
    | region i ops d => cases hl; rfl
    | _ => cases hl
  rw [e]
  exact zi5 h
def znA : Option Oper -> Option Nat
  | some o => o.dst
  | none => none
def zlV (c : Code) (o : Oper) : Option (Option (Option Nat × Bool)) := match o.guard with | none => some none | some (j, want) => (match znA (zgK c j) with | some t => some (some (some t, want)) | none => none)
def zly (g : Option (Option Nat × Bool)) (fr : Fr) : Option Bool :=
  match g with
  | none => some true
  | some (none, _) => some false
  | some (some t, want) => if t < fr.nt then (match zem (z1y fr.tm t) with | some b => some (b == some want) | none => none) else none
theorem zlf {o : Oper} {g : Option (Option Nat × Bool)} (hg : zlV c o = some g) (fr : Fr) : z5C (rgO c) fr o = zly g fr := by
  unfold zlV at hg
  unfold z5C zly
  split at hg
  · rename_i h; cases hg; simp [h]
  · rename_i j want h
    split at hg
    · rename_i t ht
      cases hg
      have e : ((rgO c)[j]?).bind (·.dst) = some t := by
        unfold znA at ht
        split at ht
        · rename_i o' ho'
          rw [zbv ho']; exact ht
        · cases ht
      simp only [h, e]
      all_goals rfl
    · cases hg
theorem z0D {wio : FuncId -> Nat -> Bool} {M : List Nat} {k m : Nat} {o : Oper} {l : List (Nat × Nat)} {Q : Fr -> Prop} (ho : zgK c k = some o) (hg : o.guard = none) (h : ∀ Q' : Fr -> Prop, Hid (∀ fr', z6Q P C wio M (rgO c) l fr' Q -> Q' fr') -> zdt (z1h P C wio M.isEmpty M.contains fr o m) Q') : z6Q P C wio M (rgO c) ((k, m) :: l) fr Q := zj7 (zbv ho) hg h
theorem z0V {wio : FuncId -> Nat -> Bool} {M : List Nat} {k m : Nat} {o : Oper} {g : Option (Option Nat × Bool)} {l : List (Nat × Nat)} {Q : Fr -> Prop} (ho : zgK c k = some o) (hg : zlV c o = some g) (h : ∀ Q1 Q2 : Prop, Hid ((∀ Q' : Fr -> Prop, Hid (∀ fr', z6Q P C wio M (rgO c) l fr' Q -> Q' fr') -> zdt (z1h P C wio M.isEmpty M.contains fr o m) Q') -> Q1) -> Hid ((∀ Q' : Fr -> Prop, Hid (∀ fr', z6Q P C wio M (rgO c) l fr' Q -> Q' fr') -> zdt (putF fr o.dst (.one (.k undef))) Q') -> Q2) -> zkF (zly g fr) Q1 Q2) : z6Q P C wio M (rgO c) ((k, m) :: l) fr Q :=
  zea (zbv ho) (by simpa only [zlf hg] using h)
def znM (P : Program) (C : z0m) (wio : FuncId -> Nat -> Bool) (c : Code) (k : Nat) (fr : Fr) (Q : Fr -> Prop) : Prop := zlt P C wio (rgO c) ((rgO c).toList.drop k) fr Q
def zal (P : Program) (C : z0m) (cf : Cfg) (c : Code) (i : Nat) (t : SchT) (fr : Fr) (Q : Fr -> Prop) : Prop := ∃ fr', z4x P C cf.wio (cf.wr i).isEmpty (cf.wr i).contains (rgO c) t fr = some fr' /\ Q fr'
theorem zjv {i : Nat} {t : SchT} (hi : rgN c = some i) (hd : rgD c = true) (ht : cf.dt i = some t) (hz : cf.fz i = none) (h : zal P C cf c i t fr (fun fr1 => ∃ fr2, z4V P (rgO c).toList fr1 = some fr2 /\ Q .n fr2)) : wpC P C cf LF c fr Q := by
  cases c with
  | region j ops d =>
    cases hi
    simp only [rgD] at hd
    subst hd
    obtain ⟨fr1, e1, fr2, e2, h⟩ := h
    simp only [rgO] at e1 e2
    exact ⟨.n, fr2, by simp only [z1z, if_true, z5X, ht, hz, zj0, e1, e2], h⟩
  | _ => cases hi
theorem zjq {i : Nat} {Q : Fr -> Prop} (h : Q fr) : zal P C cf c i .nil fr Q := ⟨fr, by simp only [z4x], h⟩
theorem zjr {l : List Oper} {fr2 : Fr} {Q : X -> Fr -> Prop} (hl : rgL c = some l) (ha : z4V P l fr = some fr2) (h : Q .n fr2) : ∃ fr2, z4V P (rgO c).toList fr = some fr2 /\ Q .n fr2 := by
  cases c with
  | region j ops d => cases hl; exact ⟨fr2, ha, h⟩
  | _ => cases hl
def z1i (P : Program) (C : z0m) (wio : FuncId -> Nat -> Bool) (same : Bool) (M : Nat -> Bool) (fr : Fr) (o : Oper) (m : Nat) : Option Fr := match z1h P C wio same M fr o m with | some f => some (zjx f) | none => none
theorem zaX {i k m : Nat} {rest : SchT} {o : Oper} {fr1 fr' : Fr} (ho : zgK c k = some o) (hgd : z5C (rgO c) fr o = some true) (hs : z1i P C cf.wio (cf.wr i).isEmpty (cf.wr i).contains fr o m = some fr1) (e : z4x P C cf.wio (cf.wr i).isEmpty (cf.wr i).contains (rgO c) rest fr1 = some fr') : z4x P C cf.wio (cf.wr i).isEmpty (cf.wr i).contains (rgO c) (.op k m rest) fr = some fr' := by
  unfold z1i at hs
  split at hs
  case h_2 => cases hs
  case h_1 f hz =>
  cases hs
  simp only [z4x, zbv ho, hgd]
  unfold z1h at hz
  split at hz
  · rename_i hm
    rw [if_pos hm]
    split at hz
    · rename_i e1 he
      try rw [he]
      simp only [hz]
      exact e
    · cases hz
  · rename_i hm
    rw [if_neg hm]
    rw [hz]
    exact e
theorem z7D {i k m : Nat} {rest : SchT} {o : Oper} {fr1 : Fr} {Q : Fr -> Prop} (ho : zgK c k = some o) (hg : o.guard = none) (hs : z1i P C cf.wio (cf.wr i).isEmpty (cf.wr i).contains fr o m = some fr1) (h : zal P C cf c i rest fr1 Q) : zal P C cf c i (.op k m rest) fr Q := by
  obtain ⟨fr', e, h⟩ := h
  exact ⟨fr', zaX ho (by unfold z5C; rw [hg]) hs e, h⟩
def nrmO? : Option Fr -> Option Fr
  | some f => some (zjx f)
  | none => none
def lkp (s : Nat) : List (Nat × Fr) -> Option Fr
  | [] => none
  | (j, f) :: r => if s = j then some f else lkp s r
def zlv (s k : Nat) : List (Nat × Nat × Nat × Nat) -> Option (Nat × Nat)
  | [] => none
  | (a, b, m, z) :: r => if Nat.beq a s && Nat.beq b k then some (m, z) else zlv s k r
def zkg (es : List (Nat × Nat × Nat × Nat)) (z : Nat) : SchT -> Nat -> Bool
  | .nil, s => Nat.beq s z
  | .op k m r, s => match zlv s k es with | some (m', s') => Nat.beq m m' && zkg es z r s' | none => false
  | .alt a b, s => zkg es z a s && zkg es z b s
theorem zeL {s k m z : Nat} : ∀ {es : List (Nat × Nat × Nat × Nat)}, zlv s k es = some (m, z) -> (s, k, m, z) ∈ es
  | (a, b, m', z') :: r, h => by
    simp only [zlv] at h
    split at h
    · rename_i hb
      simp only [Bool.and_eq_true] at hb
      obtain rfl := Nat.eq_of_beq_eq_true hb.1
      obtain rfl := Nat.eq_of_beq_eq_true hb.2
      cases h
      simp
    · exact List.mem_cons_of_mem _ (zeL h)
def zj8 (P : Program) (C : z0m) (cf : Cfg) (c : Code) (i : Nat) : List (Nat × Nat × Nat × Nat) -> List (Nat × Fr) -> (List (Nat × Fr) -> Prop) -> Prop
  | [], kn, Q => Q kn
  | (s, k, m, s') :: es, kn, Q => ∃ F o F1, lkp s kn = some F /\ zgK c k = some o /\ o.guard = none /\ z1i P C cf.wio (cf.wr i).isEmpty (cf.wr i).contains F o m = some F1 /\ ((lkp s' kn = some F1 /\ zj8 P C cf c i es kn Q) ∨ (lkp s' kn = none /\ zj8 P C cf c i es ((s', F1) :: kn) Q))
theorem z2F {i s k m s' : Nat} {es : List (Nat × Nat × Nat × Nat)} {kn : List (Nat × Fr)} {Q : List (Nat × Fr) -> Prop} {F F1 : Fr} {o : Oper} (hk : lkp s kn = some F) (ho : zgK c k = some o) (hg : o.guard = none) (hl : lkp s' kn = none) (hs : z1i P C cf.wio (cf.wr i).isEmpty (cf.wr i).contains F o m = some F1) (h : zj8 P C cf c i es ((s', F1) :: kn) Q) : zj8 P C cf c i ((s, k, m, s') :: es) kn Q := ⟨F, o, F1, hk, ho, hg, hs, .inr ⟨hl, h⟩⟩
theorem z7L {i s k m s' : Nat} {es : List (Nat × Nat × Nat × Nat)} {kn : List (Nat × Fr)} {Q : List (Nat × Fr) -> Prop} {F F1 : Fr} {o : Oper} (hk : lkp s kn = some F) (ho : zgK c k = some o) (hg : o.guard = none) (hl : lkp s' kn = some F1) (hs : z1i P C cf.wio (cf.wr i).isEmpty (cf.wr i).contains F o m = some F1) (h : zj8 P C cf c i es kn Q) : zj8 P C cf c i ((s, k, m, s') :: es) kn Q := ⟨F, o, F1, hk, ho, hg, hs, .inl ⟨hl, h⟩⟩
theorem zlk {i z : Nat} {kn : List (Nat × Fr)} {Q : Fr -> Prop} {G : Fr} (hk : lkp z kn = some G) (h : Q G) : zj8 P C cf c i [] kn (fun kn => ∃ G, lkp z kn = some G /\ Q G) := ⟨G, hk, h⟩
theorem zed {i : Nat} {Q : List (Nat × Fr) -> Prop} : ∀ {es : List (Nat × Nat × Nat × Nat)} {kn : List (Nat × Fr)}, zj8 P C cf c i es kn Q -> ∃ kn', Q kn' /\ (∀ s F, lkp s kn = some F -> lkp s kn' = some F) /\
    ∀ s k m s', (s, k, m, s') ∈ es -> ∃ F o F1, lkp s kn' = some F /\ zgK c k = some o /\ o.guard = none /\ z1i P C cf.wio (cf.wr i).isEmpty (cf.wr i).contains F o m = some F1 /\ lkp s' kn' = some F1
  | [], kn, h => ⟨kn, h, fun _ _ e => e, fun _ _ _ _ h => by cases h⟩
  | (s, k, m, s') :: es, kn, ⟨F, o, F1, h1, h2, h3, h4, h5⟩ => by
    have : ∃ kn', Q kn' /\ (∀ s F, lkp s kn = some F -> lkp s kn' = some F) /\ lkp s' kn' = some F1 /\
        ∀ s k m s', (s, k, m, s') ∈ es -> ∃ F o F1, lkp s kn' = some F /\ zgK c k = some o /\ o.guard = none /\ z1i P C cf.wio (cf.wr i).isEmpty (cf.wr i).contains F o m = some F1 /\ lkp s' kn' = some F1 := by
      rcases h5 with ⟨hl, hd⟩ | ⟨hl, hd⟩
      · obtain ⟨kn', a1, a2, a3⟩ := zed hd
        exact ⟨kn', a1, a2, a2 _ _ hl, a3⟩
      · obtain ⟨kn', a1, a2, a3⟩ := zed hd
        refine ⟨kn', a1, fun s F e => a2 s F ?_, a2 _ _ (by simp [lkp]), a3⟩
        simp only [lkp]
        rw [if_neg (fun e' => by rw [e', hl] at e; cases e)]
        exact e
    obtain ⟨kn', a1, a2, a3, a4⟩ := this
    refine ⟨kn', a1, a2, fun s1 k1 m1 s1' hm => ?_⟩
    rcases List.mem_cons.1 hm with e | e
    · cases e
      exact ⟨F, o, F1, a2 _ _ h1, h2, h3, h4, a3⟩
    · exact a4 _ _ _ _ e
theorem z9K {i z : Nat} {es : List (Nat × Nat × Nat × Nat)} {kn : List (Nat × Fr)} (he : ∀ s k m s', (s, k, m, s') ∈ es -> ∃ F o F1, lkp s kn = some F /\ zgK c k = some o /\ o.guard = none /\ z1i P C cf.wio (cf.wr i).isEmpty (cf.wr i).contains F o m = some F1 /\ lkp s' kn = some F1) :
    ∀ {t : SchT} {s : Nat} {F G : Fr}, zkg es z t s = true -> lkp s kn = some F -> lkp z kn = some G -> z4x P C cf.wio (cf.wr i).isEmpty (cf.wr i).contains (rgO c) t F = some G
  | .nil, s, F, G, h, hF, hG => by
    obtain rfl := Nat.eq_of_beq_eq_true h
    rw [hF] at hG; cases hG
    simp only [z4x]
  | .op k m r, s, F, G, h, hF, hG => by
    simp only [zkg] at h
    split at h
    · rename_i m' s' hn
      simp only [Bool.and_eq_true] at h
      obtain ⟨hm, h⟩ := h
      obtain rfl := Nat.eq_of_beq_eq_true hm
      obtain ⟨F', o, F1, b1, b2, b3, b4, b5⟩ := he _ _ _ _ (zeL hn)
      rw [hF] at b1; cases b1
      exact zaX b2 (by unfold z5C; rw [b3]) b4 (z9K he h b5 hG)
    · cases h
  | .alt a b, s, F, G, h, hF, hG => by
    simp only [zkg, Bool.and_eq_true] at h
    simp only [z4x, z9K he h.1 hF hG, z9K he h.2 hF hG]
    exact z9z ⟨rfl, fun _ _ => rfl, fun _ _ => rfl⟩
theorem zkH {i : Nat} {t : SchT} {Q : Fr -> Prop} (es : List (Nat × Nat × Nat × Nat)) (z : Nat) (hc : zkg es z t 0 = true) (h : zj8 P C cf c i es [(0, fr)] (fun kn => ∃ G, lkp z kn = some G /\ Q G)) : zal P C cf c i t fr Q := by
  obtain ⟨kn, ⟨G, hG, hQ⟩, h2, h3⟩ := zed h
  exact ⟨G, z9K h3 hc (h2 0 fr (by simp [lkp])) hG, hQ⟩
theorem zkI {i : Nat} {a b : SchT} {f : Fr} {Q : Fr -> Prop} (h1 : zal P C cf c i a fr (fun x => x = f)) (h2 : zal P C cf c i b fr (fun y => zbo f y)) (h : Q f) : zal P C cf c i (.alt a b) fr Q := by
  obtain ⟨x, e1, rfl⟩ := h1
  obtain ⟨y, e2, hs⟩ := h2
  exact ⟨x, by simp only [z4x, e1, e2]; exact z9z hs, h⟩
theorem zjG {i : Nat} {a b : SchT} {Q : Fr -> Prop} (h : zal P C cf c i a fr (fun x => zal P C cf c i b fr (fun y => zbo x y) /\ Q x)) : zal P C cf c i (.alt a b) fr Q := by
  obtain ⟨x, e1, h1, h2⟩ := h
  exact zkI ⟨x, e1, rfl⟩ h1 h2
theorem z0l {id i : Nat} (hi : i = id) (h : Q .n fr) : z7P id Q (.x i) fr := by
  subst hi; exact zgB h
end
attribute [irreducible] wpC zdD z7P zlt znM z6Q zlT zkR zdt zkF zkr
end
section
def LFm : Nat := 18446744073709551616
noncomputable def z2j (P : Program) (X : z0m -> z0m) (cf : FuncId -> Option Cfg) : Nat -> z0m
  | 0 => fun f args => match cf f with | some _ => none | none => X (fun _ _ => none) f args
  | n + 1 => fun f args => match cf f with
    | some c => (match P.funcs[f]? with | some fn => zcr P (z2j P X cf n) c LFm fn args | none => none)
    | none => X (z2j P X cf n) f args
def z4o (P : Program) (f : FuncId) (c : Cfg) : Bool :=
  match P.funcs[f]? with
  | none => false
  | some fn => match fn.body with
    | none => false
    | some b => (fn.name != "runtime.NumGoroutine") && okC c b
theorem z7Z {P : Program} {I : World -> (Nat -> z0e) -> Prop} {X : z0m -> z0m} {cf : FuncId -> Option Cfg} (hI : EnvS I) (hX : ∀ C, z5m P I C -> z5m P I (X C)) (hm : P.follows .mixedOrders = true) (hf : ∀ f c, cf f = some c -> z4o P f c = true) : ∀ n, z5m P I (z2j P X cf n)
  | 0 => fun f args r outs h => by
    simp only [z2j] at h
    split at h
    · cases h
    · exact hX _ (fun _ _ _ _ h => by cases h) f args r outs h
  | n + 1 => fun f args r outs h => by
    simp only [z2j] at h
    split at h
    · rename_i c hc
      split at h
      · rename_i fn hfn
        have hok := hf f c hc
        unfold z4o at hok
        rw [hfn] at hok
        simp only at hok
        split at hok
        · cases hok
        · rename_i b hb
          simp only [Bool.and_eq_true, bne_iff_ne, ne_eq] at hok
          exact zjt hI (z7Z hI hX hm hf n) hm hfn hb hok.1 hok.2 h
      · cases h
    · exact hX _ (z7Z hI hX hm hf n) f args r outs h
theorem zcR {P : Program} {X : z0m -> z0m} {cf : FuncId -> Option Cfg} {f : FuncId} {c : Cfg} {fn : Func} {n : Nat} {args : List T} {o : T × List T} (hc : cf f = some c) (hfn : P.funcs[f]? = some fn) (h : zcr P (z2j P X cf n) c LFm fn args = some o) : z2j P X cf (n + 1) f args = some o := by
  simp only [z2j, hc, hfn, h]
def From (P : Program) (X : z0m -> z0m) (cf : FuncId -> Option Cfg) (d : Nat) (f : FuncId) (args : List T) (o : T × List T) : Prop := ∀ n, d <= n -> z2j P X cf n f args = some o
theorem From.run {P : Program} {X : z0m -> z0m} {cf : FuncId -> Option Cfg} {f : FuncId} {c : Cfg} {fn : Func} {d : Nat} {args : List T} {o : T × List T} (hc : cf f = some c) (hfn : P.funcs[f]? = some fn) (h : ∀ n, d <= n -> zcr P (z2j P X cf n) c LFm fn args = some o) : From P X cf (d + 1) f args o := fun n hn => by
  match n, hn with
  | m + 1, hm => exact zcR hc hfn (h m (by omega))
theorem From.mono {P : Program} {X : z0m -> z0m} {cf : FuncId -> Option Cfg} {f : FuncId} {d e : Nat} {args : List T} {o : T × List T} (h : From P X cf d f args o) (he : d <= e) : From P X cf e f args o := fun n hn => h n (by omega)
theorem From.ok {P : Program} {I : World -> (Nat -> z0e) -> Prop} {X : z0m -> z0m} {cf : FuncId -> Option Cfg} {f : FuncId} {d : Nat} {args : List T} {r : T} {outs : List T} (hI : EnvS I) (hX : ∀ C, z5m P I C -> z5m P I (X C)) (hm : P.follows .mixedOrders = true) (hf : ∀ f c, cf f = some c -> z4o P f c = true) (h : From P X cf d f args (r, outs)) : CallOk P I f args r outs :=
  z7Z hI hX hm hf d f args r outs (h d (Nat.le_refl d))
end
section
noncomputable def Lim (P : Program) (X : z0m -> z0m) (cf : FuncId -> Option Cfg) : z0m := fun f args =>
  @dite _ (∃ o d, From P X cf d f args o) (Classical.propDecidable _) (fun h => some h.choose) (fun _ => none)
section
variable {P : Program} {Xc : z0m -> z0m} {cf : FuncId -> Option Cfg}
theorem zeU {d : Nat} {f : FuncId} {args : List T} {o : T × List T} (h : From P Xc cf d f args o) : Lim P Xc cf f args = some o := by
  have he : ∃ o d, From P Xc cf d f args o := ⟨o, d, h⟩
  unfold Lim
  rw [dif_pos he]
  obtain ⟨e, h2⟩ := he.choose_spec
  have a1 := h (d + e) (by omega)
  have a2 := h2 (d + e) (by omega)
  rw [a1] at a2
  exact a2.symm
theorem zjw {f : FuncId} {args : List T} {o : T × List T} (h : Lim P Xc cf f args = some o) : ∃ d, From P Xc cf d f args o := by
  unfold Lim at h
  split at h
  · rename_i he
    cases h
    exact he.choose_spec
  · cases h
def Ev (p : Nat -> Prop) : Prop := ∃ n, ∀ m, n <= m -> p m
theorem Ev.pure {p : Nat -> Prop} (h : ∀ m, p m) : Ev p := ⟨0, fun m _ => h m⟩
theorem Ev.both {p q r : Nat -> Prop} (h1 : Ev p) (h2 : Ev q) (h : ∀ m, p m -> q m -> r m) : Ev r := by
  obtain ⟨a, h1⟩ := h1
  obtain ⟨b, h2⟩ := h2
  exact ⟨a + b, fun m hm => h m (h1 m (by omega)) (h2 m (by omega))⟩
theorem Ev.imp {p q : Nat -> Prop} (h1 : Ev p) (h : ∀ m, p m -> q m) : Ev q := by
  obtain ⟨a, h1⟩ := h1
  exact ⟨a, fun m hm => h m (h1 m hm)⟩
theorem z8L {wio : FuncId -> Nat -> Bool} {fr fr' : Fr} {f : FuncId} {args : List E} {dst : Option Nat} (h : z8M (Lim P Xc cf) wio fr f args dst = some fr') : Ev fun m => z8M (z2j P Xc cf m) wio fr f args dst = some fr' := by
  unfold z8M at h ⊢
  split at h
  · cases h
  · rename_i ts deps io ha
    split at h
    · cases h
    · rename_i r outs hc
      obtain ⟨d, hd⟩ := zjw hc
      refine ⟨d, fun m hm => ?_⟩
      show (match z2j P Xc cf m f ts with | none => none | some (r, outs) => _) = _
      rw [hd m hm]
      exact h
theorem zdQ {wio : FuncId -> Nat -> Bool} {fr fr' : Fr} {o : Oper} (h : opF P (Lim P Xc cf) wio fr o = some fr') : Ev fun m => opF P (z2j P Xc cf m) wio fr o = some fr' := by
  unfold opF at h ⊢
  split at h
  · exact .pure fun _ => h
  · split at h
    · exact z8L h
    · cases h
  · exact .pure fun _ => h
  · exact .pure fun _ => h
  · exact .pure fun _ => h
theorem zdm {wio : FuncId -> Nat -> Bool} {fr fr' : Fr} {o : Oper} (h : z7H P (Lim P Xc cf) wio fr o = some fr') : Ev fun m => z7H P (z2j P Xc cf m) wio fr o = some fr' := by
  unfold z7H at h ⊢
  split at h
  · split at h
    · split at h
      · exact z8L h
      · cases h
    · cases h
  · exact .pure fun _ => h
theorem zgQ {wio : FuncId -> Nat -> Bool} {M : Nat -> Bool} {fr fr' : Fr} {o : Oper} (h : wrF P (Lim P Xc cf) wio M fr o = some fr') : Ev fun m => wrF P (z2j P Xc cf m) wio M fr o = some fr' := by
  unfold wrF at h ⊢
  split at h
  · split at h
    · cases h
    · split at h
      · exact z8L h
      · split at h
        · rename_i hM
          simp only [hM, if_true]
          exact z8L h
        · cases h
      · cases h
  · exact .pure fun _ => h
  · exact .pure fun _ => h
  · exact .pure fun _ => h
  · cases h
theorem zbp {wio : FuncId -> Nat -> Bool} {ops : Array Oper} : ∀ {l : List Oper} {fr fr' : Fr}, zdK P (Lim P Xc cf) wio ops l fr = some fr' -> Ev fun m => zdK P (z2j P Xc cf m) wio ops l fr = some fr'
  | [], fr, fr', h => .pure fun _ => h
  | o :: rest, fr, fr', h => by
    simp only [zdK] at h ⊢
    split at h
    · cases h
    · split at h
      · rename_i fr1 h1
        exact (zdQ h1).both (zbp h) fun m a1 a2 => by rw [a1]; exact a2
      · cases h
    · split at h
      · rename_i fr1 h1
        exact (zbp h)
      · cases h
theorem z8K {wio : FuncId -> Nat -> Bool} {same : Bool} {M : Nat -> Bool} {ops : Array Oper} : ∀ {l : List (Nat × Oper × Nat)} {fr fr' : Fr}, z7g P (Lim P Xc cf) wio same M ops l fr = some fr' -> Ev fun m => z7g P (z2j P Xc cf m) wio same M ops l fr = some fr'
  | [], fr, fr', h => .pure fun _ => h
  | (k, o, mk) :: rest, fr, fr', h => by
    simp only [z7g] at h ⊢
    split at h
    · cases h
    · split at h
      · exact z8K h
      · cases h
    · split at h
      · rename_i hm
        simp only [if_pos hm]
        split at h
        · split at h
          · exact z8K h
          · cases h
        · cases h
      · rename_i hm
        simp only [if_neg hm]
        split at h
        · rename_i fr1 h1
          have h2 : Ev fun m => (if mk = 2 then opF P (z2j P Xc cf m) wio fr o else if same = true then z7H P (z2j P Xc cf m) wio fr o else wrF P (z2j P Xc cf m) wio M fr o) = some fr1 := by
            by_cases e : mk = 2
            · simp only [if_pos e] at h1 ⊢; exact zdQ h1
            · simp only [if_neg e] at h1 ⊢
              by_cases e2 : same = true
              · simp only [if_pos e2] at h1 ⊢; exact zdm h1
              · simp only [if_neg e2] at h1 ⊢; exact zgQ h1
          exact h2.both (z8K h) fun m a1 a2 => by rw [a1]; exact a2
        · cases h
theorem z6n {wio : FuncId -> Nat -> Bool} {same : Bool} {M : Nat -> Bool} {ops : Array Oper} : ∀ {l : SchT} {fr fr' : Fr}, z4x P (Lim P Xc cf) wio same M ops l fr = some fr' -> Ev fun m => z4x P (z2j P Xc cf m) wio same M ops l fr = some fr'
  | .nil, fr, fr', h => .pure fun _ => h
  | .alt x y, fr, fr', h => by
    simp only [z4x] at h ⊢
    split at h
    · rename_i f1 f2 h1 h2
      obtain ⟨rfl, hs⟩ := z8U h
      exact (z6n h1).both (z6n h2) fun m a1 a2 => by rw [a1, a2]; exact z9z hs
    · cases h
  | .op k mk rest, fr, fr', h => by
    simp only [z4x] at h ⊢
    split at h
    · cases h
    rename_i o ho
    try simp only [ho]
    split at h
    · cases h
    · split at h
      · exact z6n h
      · cases h
    · split at h
      · rename_i hm
        simp only [if_pos hm]
        split at h
        · split at h
          · exact z6n h
          · cases h
        · cases h
      · rename_i hm
        simp only [if_neg hm]
        split at h
        · rename_i fr1 h1
          have h2 : Ev fun m => (if mk = 2 then opF P (z2j P Xc cf m) wio fr o else if same = true then z7H P (z2j P Xc cf m) wio fr o else wrF P (z2j P Xc cf m) wio M fr o) = some fr1 := by
            by_cases e : mk = 2
            · simp only [if_pos e] at h1 ⊢; exact zdQ h1
            · simp only [if_neg e] at h1 ⊢
              by_cases e2 : same = true
              · simp only [if_pos e2] at h1 ⊢; exact zdm h1
              · simp only [if_neg e2] at h1 ⊢; exact zgQ h1
          exact h2.both (z6n h) fun m a1 a2 => by rw [a1]; exact a2
        · cases h
theorem zeb {c : Cfg} {id : Nat} {ops : Array Oper} {fr fr' : Fr} (h : z5X P (Lim P Xc cf) c id ops fr = some fr') : Ev fun m => z5X P (z2j P Xc cf m) c id ops fr = some fr' := by
  unfold z5X at h ⊢
  split at h
  · exact z6n h
  · split at h
    · exact z8K h
    · cases h
theorem zcX {B : z0m -> Fr -> Option (X × Fr)} {cn : Fr -> Fr} (hB : ∀ fr o, B (Lim P Xc cf) fr = some o -> Ev fun m => B (z2j P Xc cf m) fr = some o) : ∀ {n : Nat} {fr : Fr} {o : X × Fr}, z8E (B (Lim P Xc cf)) cn n fr = some o -> Ev fun m => z8E (B (z2j P Xc cf m)) cn n fr = some o
  | 0, fr, o, h => by cases h
  | n + 1, fr, o, h => by
    simp only [z8E] at h ⊢
    split at h
    · rename_i fr1 h1
      exact (hB _ _ h1).both (zcX hB h) fun m a1 a2 => by rw [a1]; exact a2
    · rename_i x fr1 hne h1
      refine (hB _ _ h1).imp fun m a1 => ?_
      rw [a1]
      cases x with
      | n => exact absurd rfl hne
      | x i => exact h
      | r => exact h
    · cases h
theorem zdf {c : Cfg} {LF : Nat} : ∀ (b : Code) {fr : Fr} {o : X × Fr}, z1z P (Lim P Xc cf) c LF b fr = some o -> Ev fun m => z1z P (z2j P Xc cf m) c LF b fr = some o := by
  intro b
  induction b with
  | skip => intro fr o h; exact .pure fun _ => h
  | label l => intro fr o h; exact .pure fun _ => h
  | exit id => intro fr o h; exact .pure fun _ => h
  | ret => intro fr o h; exact .pure fun _ => h
  | goto l => intro fr o h; cases h
  | scope c ih => intro fr o h; simp only [z1z] at h ⊢; exact ih h
  | refuse s => intro fr o h; cases h
  | rangeFunc => intro fr o h; cases h
  | region id ops draw =>
    intro fr o h
    simp only [z1z] at h ⊢
    split at h
    · rename_i hd
      simp only [hd, if_true]
      split at h
      · rename_i fr1 h1
        exact (zeb h1).imp fun m a1 => by rw [a1]; exact h
      · cases h
    · rename_i hd
      simp only [hd, Bool.false_eq_true, if_false]
      split at h
      · rename_i fr1 h1
        exact (zbp h1).imp fun m a1 => by rw [a1]; exact h
      · cases h
  | seq a b ih1 ih2 =>
    intro fr o h
    simp only [z1z] at h ⊢
    split at h
    · rename_i fr1 h1
      exact (ih1 h1).both (ih2 h) fun m a1 a2 => by rw [a1]; exact a2
    · rename_i hne
      refine (ih1 h).imp fun m a1 => ?_
      rw [a1]
      obtain ⟨x, fr1⟩ := o
      cases x with
      | n => exact absurd h (hne _)
      | x i => rfl
      | r => rfl
  | cond c x y ih1 ih2 =>
    intro fr o h
    simp only [z1z] at h ⊢
    split at h
    · exact ih1 h
    · exact ih2 h
    · cases h
  | block id c ih =>
    intro fr o h
    simp only [z1z] at h ⊢
    split at h
    · rename_i i fr1 h1
      exact (ih h1).imp fun m a1 => by rw [a1]; exact h
    · rename_i hne
      refine (ih h).imp fun m a1 => ?_
      rw [a1]
      obtain ⟨x, fr1⟩ := o
      cases x with
      | n => rfl
      | x i => exact absurd h (hne _ _)
      | r => rfl
  | loop b ih =>
    intro fr o h
    simp only [z1z] at h ⊢
    exact zcX (B := fun C fr => z1z P C c LF b fr) (fun fr o h => ih h) h
theorem zeF {c : Cfg} {LF : Nat} {fn : Func} {args : List T} {o : T × List T} (h : zcr P (Lim P Xc cf) c LF fn args = some o) : Ev fun m => zcr P (z2j P Xc cf m) c LF fn args = some o := by
  unfold zcr at h ⊢
  split at h
  · rename_i hc
    simp only [if_pos hc]
    split at h
    · cases h
    · rename_i b hb
      split at h
      · rename_i fr h1
        exact (zdf _ h1).imp fun m a1 => by rw [a1]; exact h
      · rename_i fr h1
        exact (zdf _ h1).imp fun m a1 => by rw [a1]; exact h
      · cases h
  · cases h
theorem zk0 {f : FuncId} {c : Cfg} {fn : Func} {args : List T} {o : T × List T} (hc : cf f = some c) (hfn : P.funcs[f]? = some fn) (h : zcr P (Lim P Xc cf) c LFm fn args = some o) : Lim P Xc cf f args = some o := by
  obtain ⟨d, hd⟩ := zeF h
  exact zeU (d := d + 1) (From.run hc hfn hd)
theorem zk1 {f : FuncId} {args : List T} (hc : cf f = none) {o : T × List T} (h : ∀ C, Xc C f args = some o) : Lim P Xc cf f args = some o :=
  zeU (d := 0) fun n _ => by
    cases n with
    | zero => simp only [z2j, hc, h]
    | succ n => simp only [z2j, hc, h]
theorem ziR {f : FuncId} {args : List T} (hc : cf f = none) {o : T × List T} (h : Ev fun m => Xc (z2j P Xc cf m) f args = some o) : Lim P Xc cf f args = some o := by
  obtain ⟨d, hd⟩ := h
  refine zeU (d := d + 1) fun n hn => ?_
  match n, hn with
  | n + 1, hn => simp only [z2j, hc]; exact hd n (by omega)
theorem zl8 {I : World -> (Nat -> z0e) -> Prop} {f : FuncId} {args : List T} {r : T} {outs : List T} (hI : EnvS I) (hX : ∀ C, z5m P I C -> z5m P I (Xc C)) (hm : P.follows .mixedOrders = true) (hf : ∀ f c, cf f = some c -> z4o P f c = true) (h : Lim P Xc cf f args = some (r, outs)) : CallOk P I f args r outs := by
  obtain ⟨d, hd⟩ := zjw h
  exact From.ok hI hX hm hf hd
end
end
section
def z2Q (P : Program) (t : TypeId) (f : Nat) : Option (Nat × Nat × Bool) :=
  match z1M P t with
  | some ⟨.struct fields, _, _, _⟩ => match fields[f]? with
    | none => none
    | some fd => match z1M P fd.type with
      | none => none
      | some ti => some (fd.offset, ti.size, z3B ti.u)
  | _ => none
def z7T (P : Program) (t : TypeId) : Option (List T) :=
  match z1M P t with
  | some ⟨.struct fields, _, _, some zs⟩ => if zs.all z9d = true /\ (fields.toList.all fun f => (z1M P f.type).isSome) = true then some zs else none
  | _ => none
theorem zbS (P : Program) (t : TypeId) (e : E) (f : Nat) : z6m P t e f = match z2Q P t f with
    | some (off, size, _) => if size = 0 then none else match e with
      | .one (.a id p o) => some (.one (.a id p (o + off)))
      | .one (.ea dep cs o) => some (.one (.ea dep cs (o + off)))
      | _ => none
    | none => none := by
  unfold z6m z2Q
  cases z1M P t with
  | none => rfl
  | some i =>
    obtain ⟨u, s, b, z⟩ := i
    cases u with
    | struct fields =>
      simp only
      cases fields[f]? with
      | none => rfl
      | some fd =>
        simp only
        cases z1M P fd.type with
        | none => rfl
        | some ti => rfl
    | _ => rfl
theorem zhY (P : Program) (fr : Fr) (t : TypeId) (e : E) (f : Nat) : zd8 P fr t e f = match z2Q P t f with
    | some (off, size, agg) => zg1 fr agg size off e
    | none => none := by
  unfold zd8 z2Q
  cases z1M P t with
  | none => rfl
  | some i =>
    obtain ⟨u, s, b, z⟩ := i
    cases u with
    | struct fields =>
      simp only
      cases fields[f]? with
      | none => rfl
      | some fd =>
        simp only
        cases z1M P fd.type with
        | none => rfl
        | some ti => rfl
    | _ => rfl
theorem z4n {P : Program} {t : TypeId} {zs : List T} (h : z7T P t = some zs) (fr : Fr) (parts : List (Nat × Operand)) : z7N P fr t parts = match z7f fr (z2Q P t) (zs.map (A.t none)) parts with
    | some xs => some (.ag xs)
    | none => none := by
  unfold z7T at h
  split at h
  · rename_i fields s b zs' ht
    split at h
    · rename_i hc
      cases h
      unfold z7N
      rw [ht]
      simp only
      rw [if_pos hc]
      have : (fun i => match fields[i]? with | some f => (match z1M P f.type with | some ti => some (f.offset, ti.size, z3B ti.u) | none => none) | none => none) = z2Q P t := by
        funext i
        unfold z2Q
        rw [ht]
        simp only
        cases fields[i]? with
        | none => rfl
        | some f =>
          simp only
          cases z1M P f.type with
          | none => rfl
          | some ti => rfl
      exact congrArg (fun g => match z7f fr g (zs.map (A.t none)) parts with | some xs => some (E.ag xs) | none => none) this
    · cases h
  · cases h
abbrev bT (x : Bool) : T := .sc (.bool x)
abbrev zlb (xs : List Int) : T := .sl xs.length (xs.map fun x => .sc (.int .i64 x))
abbrev zcK (xs : List Int) : T := .os 1 xs.length (xs.map fun x => .sc (.int .i64 x))
abbrev hE (id : Nat) : E := .one (.h id [])
theorem zbh : ∀ l : List UInt8, z7M (l.map fun b => .sc (.int .u8 b.toNat)) = some l
  | [] => rfl
  | b :: l => by simp [z7M, zbh l]
theorem zdA (b : UInt8) : IntKind.u8.wrap (b.toNat : Int) = b.toNat := by
  have := b.toNat_lt
  rw [IntKind.wrap_u8]; omega
@[simp] theorem range_1 : List.range 1 = [0] := rfl
@[simp] theorem range_2 : List.range 2 = [0, 1] := rfl
@[simp] theorem range_3 : List.range 3 = [0, 1, 2] := rfl
@[simp] theorem range_4 : List.range 4 = [0, 1, 2, 3] := rfl
@[simp] theorem range_5 : List.range 5 = [0, 1, 2, 3, 4] := rfl
@[simp] theorem range_6 : List.range 6 = [0, 1, 2, 3, 4, 5] := rfl
@[simp] theorem range_7 : List.range 7 = [0, 1, 2, 3, 4, 5, 6] := rfl
@[simp] theorem range_8 : List.range 8 = [0, 1, 2, 3, 4, 5, 6, 7] := rfl
@[simp] theorem range_9 : List.range 9 = [0, 1, 2, 3, 4, 5, 6, 7, 8] := rfl
@[simp] theorem range_10 : List.range 10 = [0, 1, 2, 3, 4, 5, 6, 7, 8, 9] := rfl
@[simp] theorem range_11 : List.range 11 = [0, 1, 2, 3, 4, 5, 6, 7, 8, 9, 10] := rfl
@[simp] theorem range_12 : List.range 12 = [0, 1, 2, 3, 4, 5, 6, 7, 8, 9, 10, 11] := rfl
@[simp] theorem zgL (t : T) : ∀ n, z6L n [t] = List.replicate n t
  | 0 => rfl
  | n + 1 => by simp [z6L, zgL t n, List.replicate_succ]
@[simp] theorem zjT {α : Type} (g : α -> Value) : ∀ l : List α, zaw (l.map fun x => T.sc (g x)) = false
  | [] => rfl
  | x :: l => by simp [zaw, opn, zjT g l]
@[simp] theorem bits_u64 : IntKind.u64.bits = 64 := rfl
@[simp] theorem bits_i64 : IntKind.i64.bits = 64 := rfl
@[simp] theorem int_beq (a b : Int) : (a == b) = decide (a = b) := rfl
@[simp] theorem int_bne (a b : Int) : (a != b) = !decide (a = b) := rfl
@[simp] theorem wrap_0 : IntKind.i64.wrap 0 = 0 := by decide
@[simp] theorem wrap_1 : IntKind.i64.wrap 1 = 1 := by decide
@[simp] theorem wrap_2 : IntKind.i64.wrap 2 = 2 := by decide
@[simp] theorem wrap_3 : IntKind.i64.wrap 3 = 3 := by decide
@[simp] theorem wrap_m1 : IntKind.i64.wrap (-1) = -1 := by decide
end
section
def z0E {σ ρ : Type} (b : σ -> Option (σ ⊕ ρ)) : Nat -> σ -> Option ρ
  | 0, _ => none
  | n + 1, s => match b s with
    | none => none
    | some (.inl s') => z0E b n s'
    | some (.inr r) => some r
def z0y {σ ρ : Type} (s : σ) : Option (σ ⊕ ρ) := some (.inl s)
def z0t {σ ρ : Type} (x : Option ρ) : Option (σ ⊕ ρ) := x.map .inr
def chk {α : Type} (p : Prop) [Decidable p] (x : Option α) : Option α := if p then x else none
def atI {α : Type} (xs : List α) (i : Int) : Option α := if 0 <= i then xs[i.toNat]? else none
def zbY (s : ByteArray) (i : Int) : Option Int := if 0 <= i then (s[i.toNat]?).map fun b => (b.toNat : Int) else none
def z6i {α : Type} (xs : List α) (l h : Int) : Option (List α) := if 0 <= l /\ l <= h /\ h <= xs.length then some ((xs.drop l.toNat).take (h.toNat - l.toNat)) else none
def zb2 (s : ByteArray) (l h : Int) : Option ByteArray := if 0 <= l /\ l <= h /\ h <= s.size then some (s.extract l.toNat h.toNat) else none
def z1g (bytes n : Nat) : Prop := n * bytes <= 140737488355328 /\ n <= 4611686018427387904
instance (b n : Nat) : Decidable (z1g b n) := by unfold z1g; exact inferInstance
def z8w (bytes l : Int) : Prop := 0 <= l /\ l <= 140737488355328 /\ bytes * l <= 140737488355328
instance (b n : Int) : Decidable (z8w b n) := by unfold z8w; exact inferInstance
def z5E (a b : ByteArray) : Prop := ((a.size : Int) + b.size) <= 9223372036854775807
instance (a b : ByteArray) : Decidable (z5E a b) := by unfold z5E; exact inferInstance
def z0P (l : List Int) : ByteArray := ⟨(l.map fun z => UInt8.ofNat z.toNat).toArray⟩
def z8F (s : ByteArray) : List Int := s.data.toList.map fun b => (b.toNat : Int)
def zdx {κ ν : Type} [DecidableEq κ] (k : κ) : List (κ × ν) -> Option ν
  | [] => none
  | (a, v) :: r => if a = k then some v else zdx k r
def zeC {κ ν : Type} [DecidableEq κ] (k : κ) (v : ν) : List (κ × ν) -> List (κ × ν)
  | [] => [(k, v)]
  | (a, u) :: r => if a = k then (k, v) :: r else (a, u) :: zeC k v r
def zqf (k : IntKind) (a b : Int) : Int := k.wrap (BitVec.ofInt k.bits a &&& BitVec.ofInt k.bits b).toNat
def orI (k : IntKind) (a b : Int) : Int := k.wrap (BitVec.ofInt k.bits a ||| BitVec.ofInt k.bits b).toNat
def znD (k : IntKind) (a b : Int) : Int := k.wrap (BitVec.ofInt k.bits a ^^^ BitVec.ofInt k.bits b).toNat
def zkn (k : IntKind) (a b : Int) : Int := k.wrap (BitVec.ofInt k.bits a &&& ~~~ BitVec.ofInt k.bits b).toNat
theorem zhe : ∃ f : IntKind -> Int -> Int -> Int, ∀ k a b, f k a b = k.wrap (a * 2 ^ (min b.toNat k.bits)) := ⟨_, fun _ _ _ => rfl⟩
noncomputable def znt : IntKind -> Int -> Int -> Int := Classical.choose zhe
theorem zjK (k : IntKind) (a b : Int) : znt k a b = k.wrap (a * 2 ^ (min b.toNat k.bits)) := Classical.choose_spec zhe k a b
def zjJ (k : IntKind) (a b : Int) : Int := a.fdiv (2 ^ (min b.toNat k.bits))
def zlu (k : IntKind) (a b : Int) : Int := k.wrap (a.tdiv b)
def zkJ (a b : ByteArray) : Bool := Go.Op.bytesLess a.toList b.toList
theorem z1a {α : Type} {p : Prop} [Decidable p] {x : Option α} {r : α} (h : chk p x = some r) : p /\ x = some r := by
  unfold chk at h; split at h
  · exact ⟨by assumption, h⟩
  · cases h
theorem z0b {α β : Type} {x : Option α} {f : α -> Option β} {r : β} (h : x.bind f = some r) : ∃ v, x = some v /\ f v = some r := by
  cases x with
  | none => cases h
  | some v => exact ⟨v, rfl, h⟩
theorem z0d {σ ρ : Type} {x : Option ρ} {o : σ ⊕ ρ} (h : z0t x = some o) : ∃ r, x = some r /\ o = .inr r := by
  unfold z0t at h
  cases x with
  | none => cases h
  | some v => cases h; exact ⟨v, rfl, rfl⟩
theorem z0f {σ ρ : Type} {s : σ} {o : σ ⊕ ρ} (h : z0y s = some o) : o = .inl s := by cases h; rfl
theorem z0W {α : Type} {xs : List α} {i : Int} {v : α} (h : atI xs i = some v) : 0 <= i /\ i < xs.length /\ i.toNat + 1 <= xs.length /\ xs[i.toNat]? = some v /\ ∀ hh : i.toNat < xs.length, xs[i.toNat]'hh = v := by
  unfold atI at h
  split at h
  · have := (List.getElem?_eq_some_iff.1 h).1
    exact ⟨by assumption, by omega, this, h, fun _ => (List.getElem?_eq_some_iff.1 h).2⟩
  · cases h
theorem z6q {s : ByteArray} {i v : Int} (h : zbY s i = some v) : 0 <= i /\ i < s.size /\ ∃ b, s[i.toNat]? = some b /\ v = (b.toNat : Int) /\ ∀ hh : i.toNat < s.size, ((s[i.toNat]'hh).toNat : Int) = v := by
  unfold zbY at h
  split at h
  · simp only [Option.map_eq_some_iff] at h
    obtain ⟨b, hb, rfl⟩ := h
    have : i.toNat < s.size := by
      rcases Nat.lt_or_ge i.toNat s.size with h' | h'
      · exact h'
      · rw [getElem?_neg s i.toNat (by omega)] at hb; cases hb
    exact ⟨by assumption, by omega, b, hb, rfl, fun hh => by rw [getElem?_pos s i.toNat hh] at hb; cases hb; rfl⟩
  · cases h
theorem z1x {α β : Type} {xs : List α} {i : Int} {f : α -> Option β} {r : β} (h : (atI xs i).bind f = some r) : ∃ v, (0 <= i /\ i < xs.length /\ i.toNat + 1 <= xs.length /\ xs[i.toNat]? = some v /\ ∀ hh : i.toNat < xs.length, xs[i.toNat]'hh = v) /\ f v = some r := by
  obtain ⟨v, h1, h2⟩ := z0b h
  exact ⟨v, z0W h1, h2⟩
theorem zji {α β : Type} {xs : List α} {i : Nat} {f : α -> Option β} {r : β} (h : (atI xs (i : Int)).bind f = some r) : ∃ v, (i < xs.length /\ i + 1 <= xs.length /\ xs[i]? = some v /\ ∀ hh : i < xs.length, xs[i]'hh = v) /\ f v = some r := by
  obtain ⟨v, h1, h2⟩ := z0b h
  obtain ⟨a, b, c, d, e⟩ := z0W h1
  simp only [Int.toNat_natCast] at c d e
  exact ⟨v, ⟨by omega, c, d, e⟩, h2⟩
theorem z5l {α : Type} {b n : Nat} {x : Option α} {r : α} (h : chk (z1g b n) x = some r) : (n * b <= 140737488355328 /\ n <= 4611686018427387904) /\ x = some r := z1a h
theorem zeh {α : Type} {n : Nat} {x : Option α} {r : α} (h : chk (z1g 1 n) x = some r) : (n <= 140737488355328 /\ n <= 4611686018427387904) /\ x = some r := by
  obtain ⟨⟨a, b⟩, h⟩ := z1a h
  exact ⟨⟨by omega, b⟩, h⟩
theorem zlQ {α : Type} {b l : Int} {x : Option α} {r : α} (h : chk (z8w b l) x = some r) : (0 <= l /\ l <= 140737488355328 /\ b * l <= 140737488355328 /\ max l 0 = l) /\ x = some r := by
  obtain ⟨⟨a, b, c⟩, h⟩ := z1a h
  exact ⟨⟨a, b, c, by omega⟩, h⟩
theorem z3O {α : Type} {xs ys : List α} {l h : Int} (e : z6i xs l h = some ys) : 0 <= l /\ l <= h /\ h <= xs.length /\ ys = (xs.drop l.toNat).take (h.toNat - l.toNat) /\ ys.length = h.toNat - l.toNat := by
  unfold z6i at e
  split at e
  · cases e
    refine ⟨by omega, by omega, by omega, rfl, ?_⟩
    simp; omega
  · cases e
theorem za3 {s t : ByteArray} {l h : Int} (e : zb2 s l h = some t) : 0 <= l /\ l <= h /\ h <= s.size /\ t = s.extract l.toNat h.toNat := by
  unfold zb2 at e
  split at e
  · cases e; exact ⟨by omega, by omega, by omega, rfl⟩
  · cases e
theorem z4u {σ ρ : Type} {b : σ -> Option (σ ⊕ ρ)} (I : σ -> Prop) (m : σ -> Nat) (Post : ρ -> Prop) (step : ∀ s, I s -> (∃ s', b s = some (.inl s') /\ I s' /\ m s' < m s) ∨ (∃ r, b s = some (.inr r) /\ Post r)) :
    ∀ (n : Nat) (s : σ), I s -> m s < n -> ∃ r, z0E b n s = some r /\ Post r
  | 0, s, _, h => by omega
  | n + 1, s, hI, hm => by
    rcases step s hI with ⟨s', e, hI', hm'⟩ | ⟨r, e, hr⟩
    · obtain ⟨r, h1, h2⟩ := z4u I m Post step n s' hI' (by omega)
      exact ⟨r, by simp only [z0E, e]; exact h1, h2⟩
    · exact ⟨r, by simp only [z0E, e], hr⟩
theorem z7t {σ ρ : Type} {b : σ -> Option (σ ⊕ ρ)} {r : ρ} (I : σ -> Prop) (m : σ -> Nat) {n : Nat} {s : σ} (hI : I s) (hm : m s < n) (step : ∀ s, I s -> (∃ s', b s = z0y s' /\ I s' /\ m s' < m s) ∨ b s = z0t (some r)) : z0E b n s = some r := by
  obtain ⟨r', h1, h2⟩ := z4u I m (· = r) (fun s hs => (step s hs).imp id fun h => ⟨r, h, rfl⟩) n s hI hm
  rw [h1, h2]
theorem z0p {P : Program} {C : z0m} {cf : Cfg} {LF : Nat} {c : Code} {fr : Fr} {Q : X -> Fr -> Prop} {o : Operand} (ho : cdO c = some o) (hv : rdV (opE fr o) = some (.bool true)) (h : wpC P C cf LF (cdA c) fr Q) : wpC P C cf LF c fr Q :=
  znx ho fun Q1 Q2 h1 h2 => by rw [hv, zca]; exact ⟨fun _ => h1.out h, fun e => by cases e⟩
theorem z0s {P : Program} {C : z0m} {cf : Cfg} {LF : Nat} {c : Code} {fr : Fr} {Q : X -> Fr -> Prop} {o : Operand} (ho : cdO c = some o) (hv : rdV (opE fr o) = some (.bool false)) (h : wpC P C cf LF (cdB c) fr Q) : wpC P C cf LF c fr Q :=
  znx ho fun Q1 Q2 h1 h2 => by rw [hv, zca]; exact ⟨(fun e => by cases e), fun _ => h2.out h⟩
def zcx {σ ρ : Type} (H : σ -> Fr) (cn : Fr -> Fr) (o : σ ⊕ ρ) (Q : X -> Fr -> Prop) : X -> Fr -> Prop
  | .n, fr => ∃ s', o = .inl s' /\ cn fr = H s'
  | .x i, fr => (∃ r, o = .inr r) /\ Q (.x i) fr
  | .r, fr => (∃ r, o = .inr r) /\ Q .r fr
theorem z0j {σ ρ : Type} {H : σ -> Fr} {cn : Fr -> Fr} {o : σ ⊕ ρ} {Q : X -> Fr -> Prop} {fr : Fr} {s : σ} (ho : o = .inl s) (h : cn fr = H s) : zcx H cn o Q .n fr := ⟨s, ho, h⟩
theorem z0v {σ ρ : Type} {H : σ -> Fr} {cn : Fr -> Fr} {o : σ ⊕ ρ} {Q : X -> Fr -> Prop} {fr : Fr} {i : Nat} {r : ρ} (ho : o = .inr r) (h : Q (.x i) fr) : zcx H cn o Q (.x i) fr := ⟨⟨r, ho⟩, h⟩
theorem z0w {σ ρ : Type} {H : σ -> Fr} {cn : Fr -> Fr} {o : σ ⊕ ρ} {Q : X -> Fr -> Prop} {fr : Fr} {r : ρ} (ho : o = .inr r) (h : Q .r fr) : zcx H cn o Q .r fr := ⟨⟨r, ho⟩, h⟩
theorem zbb {σ ρ : Type} {B : Fr -> Option (X × Fr)} {cn : Fr -> Fr} {body : σ -> Option (σ ⊕ ρ)} {H : σ -> Fr} {r : ρ} {Q : X -> Fr -> Prop}
    (round : ∀ s o, body s = some o -> (∀ r', o = .inr r' -> r' = r) -> ∃ x fr', B (H s) = some (x, fr') /\ zcx H cn o Q x fr') :
    ∀ (n : Nat) (s : σ) (fr : Fr), z0E body n s = some r -> cn fr = H s -> ∃ x fr', z8E B cn n fr = some (x, fr') /\ Q x fr'
  | 0, s, fr, h, _ => by cases h
  | n + 1, s, fr, h, h0 => by
    simp only [z0E] at h
    split at h
    · cases h
    · rename_i s' e
      obtain ⟨x, fr', e1, e2⟩ := round s _ e (fun r' h' => by cases h')
      cases x with
      | n =>
        obtain ⟨s2, e3, e4⟩ := e2
        cases e3
        obtain ⟨x2, fr2, e5, e6⟩ := zbb round n s' fr' h e4
        exact ⟨x2, fr2, by simp only [z8E, h0, e1]; exact e5, e6⟩
      | x i => obtain ⟨⟨r', e3⟩, _⟩ := e2; cases e3
      | r => obtain ⟨⟨r', e3⟩, _⟩ := e2; cases e3
    · rename_i r0 e
      cases h
      obtain ⟨x, fr', e1, e2⟩ := round s _ e (fun r' h' => by cases h'; rfl)
      cases x with
      | n => obtain ⟨s2, e3, _⟩ := e2; cases e3
      | x i => exact ⟨_, _, by simp only [z8E, h0, e1], e2.2⟩
      | r => exact ⟨_, _, by simp only [z8E, h0, e1], e2.2⟩
theorem z0C {P : Program} {C : z0m} {cf : Cfg} {LF : Nat} {c : Code} {fr : Fr} {Q : X -> Fr -> Prop} {σ ρ : Type} {lv : List Nat} {body : σ -> Option (σ ⊕ ρ)} {s0 : σ} {r : ρ} (h : z0E body LF s0 = some r) (H : σ -> Fr) (hk : zbF c = 5) (hv : cf.live (z8H (lpC c)) = some lv)
    (h0 : z9o (some lv) fr = H s0) (round : ∀ s o, body s = some o -> (∀ r', o = .inr r' -> r' = r) -> wpC P C cf LF (lpC c) (H s) (zcx H (z9o (some lv)) o Q)) : wpC P C cf LF c fr Q := by
  cases c with
  | loop b =>
    obtain ⟨x, fr', e1, e2⟩ := zbb (B := fun fr => z1z P C cf LF b fr) (cn := z9o (some lv)) (H := H) (body := body) (r := r) (Q := Q) (fun s o h1 h2 => by have := round s o h1 h2; unfold wpC at this; exact this) LF s0 fr h h0
    unfold wpC
    refine ⟨x, fr', ?_, e2⟩
    simp only [z1z]
    simp only [lpC] at hv
    rw [hv]
    exact e1
  | _ => cases hk
theorem zgm (k : IntKind) (a b : Int) : z4q .add k a b = some (.int k (k.wrap (a + b))) := rfl
theorem zgb (k : IntKind) (a b : Int) : z4q .sub k a b = some (.int k (k.wrap (a - b))) := rfl
theorem zgf (k : IntKind) (a b : Int) : z4q .mul k a b = some (.int k (k.wrap (a * b))) := rfl
theorem zgd (k : IntKind) (a b : Int) : z4q .quo k a b = if b = 0 then none else some (.int k (zlu k a b)) := rfl
theorem zgc (k : IntKind) (a b : Int) : z4q .rem k a b = if b = 0 then none else some (.int k (a.tmod b)) := rfl
theorem zgl (k : IntKind) (a b : Int) : z4q .and k a b = some (.int k (zqf k a b)) := Eq.trans rfl rfl
theorem zhL (k : IntKind) (a b : Int) : z4q .or k a b = some (.int k (orI k a b)) := Eq.trans rfl rfl
theorem zga (k : IntKind) (a b : Int) : z4q .xor k a b = some (.int k (znD k a b)) := Eq.trans rfl rfl
theorem zbH (k : IntKind) (a b : Int) : z4q .andNot k a b = some (.int k (zkn k a b)) := Eq.trans rfl rfl
theorem zgk (k : IntKind) (a b : Int) : z4q .eql k a b = some (.bool (decide (a = b))) := rfl
theorem zge (k : IntKind) (a b : Int) : z4q .neq k a b = some (.bool (!decide (a = b))) := rfl
theorem zgg (k : IntKind) (a b : Int) : z4q .lss k a b = some (.bool (decide (a < b))) := rfl
theorem zgh (k : IntKind) (a b : Int) : z4q .leq k a b = some (.bool (decide (a <= b))) := rfl
theorem zgi (k : IntKind) (a b : Int) : z4q .gtr k a b = some (.bool (decide (b < a))) := rfl
theorem zgj (k : IntKind) (a b : Int) : z4q .geq k a b = some (.bool (decide (b <= a))) := rfl
theorem toList_inj {a b : ByteArray} : a.toList = b.toList ↔ a = b := by
  constructor
  · intro h
    have h1 : a.data.toList = b.data.toList := by simpa [ByteArray.toList_eq] using h
    obtain ⟨⟨x⟩⟩ := a
    obtain ⟨⟨y⟩⟩ := b
    simp at h1
    rw [h1]
  · intro h; rw [h]
theorem zfM (a b : ByteArray) : z7I .eql a b = some (.bool (decide (a = b))) := by
  simp only [z7I]
  congr 2
  rw [Bool.eq_iff_iff]; simp [toList_inj]
theorem zfJ (a b : ByteArray) : z7I .neq a b = some (.bool (!decide (a = b))) := by
  simp only [z7I]
  congr 3
  rw [Bool.eq_iff_iff]; simp [toList_inj]
theorem zfK (a b : ByteArray) : z7I .lss a b = some (.bool (zkJ a b)) := rfl
theorem zfL (a b : ByteArray) : z7I .geq a b = some (.bool (!zkJ a b)) := rfl
theorem zfN (a b : ByteArray) : z7I .add a b = if z5E a b then some (.string (a ++ b)) else none := by
  have hm : IntKind.i64.max = 9223372036854775807 := by decide
  show (if ((a.size + b.size : Nat) : Int) > IntKind.i64.max then none else some (Value.string (a ++ b))) = _
  rw [hm]
  by_cases h : z5E a b
  · rw [if_pos h]
    unfold z5E at h
    rw [if_neg (by omega)]
  · rw [if_neg h]
    unfold z5E at h
    rw [if_pos (by omega)]
theorem zjg (op : BinOp) (u : Option TyI) (k k' : IntKind) (a b : Int) : zkA op u (.int k a) (.int k' b) = match op with
    | .shl => if b < 0 then none else some (.int k (znt k a b))
    | .shr => if b < 0 then none else some (.int k (zjJ k a b))
    | _ => if k = k' then z4q op k a b else none := by
  cases op
  case shl => simp only [zjK]; rfl
  all_goals rfl
theorem zjf (op : BinOp) (u : Option TyI) (a b : ByteArray) : zkA op u (.string a) (.string b) = z7I op a b := rfl
theorem zih (op : BinOp) (u : Option TyI) (a b : Bool) : zkA op u (.bool a) (.bool b) = match u with
    | some ⟨.bool, _, _, _⟩ => (match op with | .eql => some (.bool (a == b)) | .neq => some (.bool (!(a == b))) | _ => none)
    | _ => none := rfl
theorem zfn : ∀ l : List Int, z7M (l.map fun z => .sc (.int .u8 z)) = some (l.map fun z => UInt8.ofNat z.toNat)
  | [] => rfl
  | z :: l => by simp [z7M, zfn l]
theorem z1k {α β : Type} {g : α -> List β} {m : Nat} (hg : ∀ x, (g x).length = m) : ∀ xs : List α, (xs.flatMap g).length = xs.length * m
  | [] => by simp
  | x :: xs => by
    have := z1k hg xs
    simp only [List.flatMap_cons, List.length_append, hg, this, List.length_cons, Nat.add_mul, Nat.one_mul]
    omega
theorem zd4 {α β : Type} {g : α -> List β} {m : Nat} (hg : ∀ x, (g x).length = m) : ∀ (xs : List α) (i : Nat), (xs.flatMap g).drop (i * m) = (xs.drop i).flatMap g
  | xs, 0 => by simp
  | [], i + 1 => by simp
  | x :: xs, i + 1 => by
    have := zd4 hg xs i
    rw [List.flatMap_cons, List.drop_succ_cons, ← this, List.drop_append, List.drop_eq_nil_of_le (by rw [hg, Nat.add_mul]; omega), List.nil_append, hg]
    congr 1
    rw [Nat.add_mul]; omega
theorem z1e {α β : Type} {g : α -> List β} {m : Nat} (hg : ∀ x, (g x).length = m) {xs : List α} {i : Nat} {v : α} (h : xs[i]? = some v) :
    i * m + m <= xs.length * m /\ ((xs.flatMap g).drop (i * m)).take m = g v /\ (∀ j, j < m -> (xs.flatMap g)[i * m + j]? = (g v)[j]?) /\ ∀ j c, (g v)[j]? = some c -> ∀ hh : i * m + j < (xs.flatMap g).length, (xs.flatMap g)[i * m + j]'hh = c := by
  obtain ⟨hi, hv⟩ := List.getElem?_eq_some_iff.1 h
  have hd : xs.drop i = v :: xs.drop (i + 1) := by rw [← hv]; exact List.drop_eq_getElem_cons hi
  have h2 : ((xs.flatMap g).drop (i * m)) = g v ++ (xs.drop (i + 1)).flatMap g := by rw [zd4 hg, hd, List.flatMap_cons]
  have key : ∀ j, j < m -> (xs.flatMap g)[i * m + j]? = (g v)[j]? := fun j hj => by
    rw [← List.getElem?_drop, h2, List.getElem?_append_left (by rw [hg]; exact hj)]
  refine ⟨?_, ?_, key, fun j c hc hh => ?_⟩
  · calc i * m + m = (i + 1) * m := by rw [Nat.add_mul, Nat.one_mul]
      _ <= _ := Nat.mul_le_mul_right _ hi
  · rw [h2, List.take_append_of_le_length (by rw [hg]; exact Nat.le_refl _), List.take_of_length_le (by rw [hg]; exact Nat.le_refl _)]
  · have hj : j < m := by rw [← hg v]; exact (List.getElem?_eq_some_iff.1 hc).1
    have := key j hj
    rw [hc, List.getElem?_eq_getElem hh] at this
    exact Option.some.inj this
theorem z6h {α β : Type} {g : α -> β} {xs ys : List α} {l h : Int} (e : z6i xs l h = some ys) : ((xs.map g).drop l.toNat).take (h.toNat - l.toNat) = ys.map g := by
  obtain ⟨_, _, _, e2, _⟩ := z3O e
  rw [e2, List.map_take, List.map_drop]
theorem z6g {α : Type} {xs ys : List α} {l h : Int} (e : z6i xs l h = some ys) (f : α -> T) : T.sl (h.toNat - l.toNat) (ys.map f) = T.sl ys.length (ys.map f) := by
  obtain ⟨_, _, _, _, e2⟩ := z3O e
  rw [e2]
theorem z6x {l h : Int} (a : 0 <= l) (b : l <= h) : 0 <= h /\ l <= (h.toNat : Int) := by omega
theorem zaK {α : Type} {g : α -> List T} (z : α) : ∀ n : Nat, z6L n (g z) = (List.replicate n z).flatMap g
  | 0 => rfl
  | n + 1 => by rw [z6L, zaK z n, List.replicate_succ, List.flatMap_cons]
theorem za5 : ∀ a b : List T, zaw (a ++ b) = (zaw a || zaw b)
  | [], b => by simp [zaw]
  | t :: a, b => by simp [zaw, za5 a b, Bool.or_assoc]
theorem zeK {α : Type} (g : α -> T) : ∀ l : List α, zaw (l.map g) = l.any fun x => opn (g x)
  | [] => rfl
  | x :: l => by simp [zaw, zeK g l]
theorem zcJ {α : Type} (g : α -> List T) : ∀ l : List α, zaw (l.flatMap g) = l.any fun x => zaw (g x)
  | [] => rfl
  | x :: l => by simp [za5, zcJ g l]
theorem zf8 (k : ByteArray) (kd : IntKind) : ∀ m : List (ByteArray × Int), z3t (.string k) (m.map fun p => (Value.string p.1, Value.int kd p.2)) = (zdx k m).map (Value.int kd)
  | [] => rfl
  | (a, v) :: m => by
    simp only [List.map_cons, z3t, zdx, z2t, zf8 k kd m]
    by_cases h : a = k <;> simp [h]
theorem zf9 (k : ByteArray) : ∀ m : List (ByteArray × Bool), z3t (.string k) (m.map fun p => (Value.string p.1, Value.bool p.2)) = (zdx k m).map Value.bool
  | [] => rfl
  | (a, v) :: m => by
    simp only [List.map_cons, z3t, zdx, z2t, zf9 k m]
    by_cases h : a = k <;> simp [h]
theorem zfc (k : Int) (kk kd : IntKind) : ∀ m : List (Int × Int), z3t (.int kk k) (m.map fun p => (Value.int kk p.1, Value.int kd p.2)) = (zdx k m).map (Value.int kd)
  | [] => rfl
  | (a, v) :: m => by
    simp only [List.map_cons, z3t, zdx, z2t, zfc k kk kd m]
    by_cases h : a = k <;> simp [h]
theorem zfd (k : Int) (kk : IntKind) : ∀ m : List (Int × Bool), z3t (.int kk k) (m.map fun p => (Value.int kk p.1, Value.bool p.2)) = (zdx k m).map Value.bool
  | [] => rfl
  | (a, v) :: m => by
    simp only [List.map_cons, z3t, zdx, z2t, zfd k kk m]
    by_cases h : a = k <;> simp [h]
theorem zhh (k : ByteArray) (kd : IntKind) (v : Int) : ∀ m : List (ByteArray × Int), z9V (.string k) (.int kd v) (m.map fun p => (Value.string p.1, Value.int kd p.2)) = (zeC k v m).map fun p => (Value.string p.1, Value.int kd p.2)
  | [] => rfl
  | (a, u) :: m => by
    simp only [List.map_cons, z9V, zeC, z2t, zhh k kd v m]
    by_cases h : a = k <;> simp [h]
theorem zhi (k : ByteArray) (v : Bool) : ∀ m : List (ByteArray × Bool), z9V (.string k) (.bool v) (m.map fun p => (Value.string p.1, Value.bool p.2)) = (zeC k v m).map fun p => (Value.string p.1, Value.bool p.2)
  | [] => rfl
  | (a, u) :: m => by
    simp only [List.map_cons, z9V, zeC, z2t, zhi k v m]
    by_cases h : a = k <;> simp [h]
theorem zhl (k : Int) (kk kd : IntKind) (v : Int) : ∀ m : List (Int × Int), z9V (.int kk k) (.int kd v) (m.map fun p => (Value.int kk p.1, Value.int kd p.2)) = (zeC k v m).map fun p => (Value.int kk p.1, Value.int kd p.2)
  | [] => rfl
  | (a, u) :: m => by
    simp only [List.map_cons, z9V, zeC, z2t, zhl k kk kd v m]
    by_cases h : a = k <;> simp [h]
theorem zhm (k : Int) (kk : IntKind) (v : Bool) : ∀ m : List (Int × Bool), z9V (.int kk k) (.bool v) (m.map fun p => (Value.int kk p.1, Value.bool p.2)) = (zeC k v m).map fun p => (Value.int kk p.1, Value.bool p.2)
  | [] => rfl
  | (a, u) :: m => by
    simp only [List.map_cons, z9V, zeC, z2t, zhm k kk v m]
    by_cases h : a = k <;> simp [h]
theorem zfb (k : Int) (kk : IntKind) : ∀ m : List (Int × ByteArray), z3t (.int kk k) (m.map fun p => (Value.int kk p.1, Value.string p.2)) = (zdx k m).map Value.string
  | [] => rfl
  | (a, v) :: m => by
    simp only [List.map_cons, z3t, zdx, z2t, zfb k kk m]
    by_cases h : a = k <;> simp [h]
theorem zhk (k : Int) (kk : IntKind) (v : ByteArray) : ∀ m : List (Int × ByteArray), z9V (.int kk k) (.string v) (m.map fun p => (Value.int kk p.1, Value.string p.2)) = (zeC k v m).map fun p => (Value.int kk p.1, Value.string p.2)
  | [] => rfl
  | (a, u) :: m => by
    simp only [List.map_cons, z9V, zeC, z2t, zhk k kk v m]
    by_cases h : a = k <;> simp [h]
theorem zfa (x y : Int) (kd : IntKind) : ∀ m : List ((Int × Int) × Int), z3t (.agg #[.int .i64 x, .int .i64 y]) (m.map fun p => (Value.agg #[.int .i64 p.1.1, .int .i64 p.1.2], Value.int kd p.2)) = (zdx (x, y) m).map (Value.int kd)
  | [] => rfl
  | ((a, b), v) :: m => by
    simp only [List.map_cons, z3t, zdx, z2t, zb3, zfa x y kd m]
    by_cases h : a = x /\ b = y
    · simp [h]
    · rw [if_neg (by simpa using h), if_neg (by simpa using h)]
theorem zhj (x y : Int) (kd : IntKind) (v : Int) : ∀ m : List ((Int × Int) × Int), z9V (.agg #[.int .i64 x, .int .i64 y]) (.int kd v) (m.map fun p => (Value.agg #[.int .i64 p.1.1, .int .i64 p.1.2], Value.int kd p.2)) = (zeC (x, y) v m).map fun p => (Value.agg #[.int .i64 p.1.1, .int .i64 p.1.2], Value.int kd p.2)
  | [] => rfl
  | ((a, b), u) :: m => by
    simp only [List.map_cons, z9V, zeC, z2t, zb3, zhj x y kd v m]
    by_cases h : a = x /\ b = y
    · simp [h]
    · rw [if_neg (by simpa using h), if_neg (by simpa using h)]; rfl
def zjy {κ ν : Type} [DecidableEq κ] (k : κ) : List (κ × ν) -> Option (κ × ν)
  | [] => none
  | (a, v) :: m => if a = k then some (a, v) else zjy k m
theorem zd1 {κ ν : Type} [DecidableEq κ] (k : κ) : ∀ m : List (κ × ν), (zjy k m).map (·.2) = zdx k m
  | [] => rfl
  | (a, v) :: m => by
    simp only [zjy, zdx]
    split
    · rfl
    · exact zd1 k m
theorem zhP {κ ν : Type} [DecidableEq κ] (k : κ) (m : List (κ × ν)) : (zjy k m).isSome = (zdx k m).isSome := by rw [← zd1, Option.isSome_map]
theorem zhV {α : Type} (k : ByteArray) (g : ByteArray × α -> T) : ∀ m : List (ByteArray × α), z6P (.string k) (m.map fun p => Value.string p.1) (m.map g) = (zjy k m).map g
  | [] => rfl
  | (a, v) :: m => by
    simp only [List.map_cons, z6P, zjy, z2t, zhV k g m]
    by_cases h : a = k <;> simp [h]
theorem zhW {α : Type} (k : Int) (kk : IntKind) (g : Int × α -> T) : ∀ m : List (Int × α), z6P (.int kk k) (m.map fun p => Value.int kk p.1) (m.map g) = (zjy k m).map g
  | [] => rfl
  | (a, v) :: m => by
    simp only [List.map_cons, z6P, zjy, z2t, zhW k kk g m]
    by_cases h : a = k <;> simp [h]
theorem zhn (k : Value) (t : T) : z7U k t [] [] = ([k], [t]) := rfl
theorem ziF (k v : Value) : z9V k v [] = [(k, v)] := rfl
theorem ziG {κ ν : Type} [DecidableEq κ] (k : κ) (v : ν) : zeC k v [] = [(k, v)] := rfl
theorem ziY (kd : IntKind) (z : Int) (o : Option Int) : (o.map (Value.int kd)).getD (.int kd z) = .int kd (o.getD z) := by cases o <;> rfl
theorem zhR (z : Bool) (o : Option Bool) : (o.map Value.bool).getD (.bool z) = .bool (o.getD z) := by cases o <;> rfl
@[simp] theorem oneNil : (Value.slice none 0 0).oneCell' = true := rfl
@[simp] theorem znB (a : Array UInt8) : ByteArray.size ⟨a⟩ = a.size := rfl
@[simp] theorem bempty : (⟨#[]⟩ : ByteArray) = ByteArray.empty := rfl
theorem zlJ {α : Type} {g : α -> List T} {m : Nat} (hm : ∀ x, (g x).length = m) (y : α) {xs : List α} {k : Nat} {x : α} (h : xs[k]? = some x) :
    xs.flatMap g = (xs.take k).flatMap g ++ (g x ++ (xs.drop (k + 1)).flatMap g) /\ (xs.set k y).flatMap g = (xs.take k).flatMap g ++ (g y ++ (xs.drop (k + 1)).flatMap g) /\ ((xs.take k).flatMap g).length = k * m := by
  obtain ⟨hk, hx⟩ := List.getElem?_eq_some_iff.1 h
  have hd : xs.drop k = x :: xs.drop (k + 1) := by rw [← hx]; exact List.drop_eq_getElem_cons hk
  refine ⟨?_, ?_, ?_⟩
  · rw [← List.flatMap_cons, ← hd, ← List.flatMap_append, List.take_append_drop]
  · rw [← List.flatMap_cons, ← List.flatMap_append, List.set_eq_take_append_cons_drop, if_pos hk]
  · rw [z1k hm, List.length_take, Nat.min_eq_left (by omega)]
@[simp] theorem voG0 (p l : List T) : (p ++ l)[p.length]? = l[0]? := by rw [List.getElem?_append_right (Nat.le_refl _), Nat.sub_self]
@[simp] theorem voG (p l : List T) (j : Nat) : (p ++ l)[p.length + j]? = l[j]? := by rw [List.getElem?_append_right (by omega), Nat.add_sub_cancel_left]
@[simp] theorem voSet0 (p l : List T) (x : T) : (p ++ l).set p.length x = p ++ l.set 0 x := by rw [List.set_append_right _ _ (Nat.le_refl _), Nat.sub_self]
@[simp] theorem zlK (p l : List T) (j : Nat) (x : T) : (p ++ l).set (p.length + j) x = p ++ l.set j x := by rw [List.set_append_right _ _ (by omega), Nat.add_sub_cancel_left]
section
variable {P : Program} {C : z0m} {cf : Cfg} {LF : Nat} {c : Code} {fr fr1 : Fr} {Q : X -> Fr -> Prop}
theorem zr {l : List Oper} (hl : rgL c = some l) (hd : rgD c = false) (hz : cf.fz (rgI c) = none) (hf : zdK P C cf.wio l.toArray l fr = some fr1) (h : Q .n fr1) : wpC P C cf LF c fr Q :=
  ziM hl hd hz fun Q' hQ => by rw [hf, zds]; exact hQ.out _ h
theorem zq (hk : zbF c = 2) (h : wpC P C cf LF (znv c) fr (zdD (fun fr' => wpC P C cf LF (znu c) fr' Q) Q)) : wpC P C cf LF c fr Q := zlN hk h
theorem zb (hk : zbF c = 4) (h : wpC P C cf LF (blC c) fr (z7P (blI c) Q)) : wpC P C cf LF c fr Q := zjQ hk h
end
@[simp] theorem voLe (a j k n : Nat) : (a + j + k <= a + n) = (j + k <= n) := by simp only [eq_iff_iff]; omega
theorem z6V (p : List T) : ∀ (xs l : List T) (j : Nat), z1I (p ++ l) (p.length + j) xs = p ++ z1I l j xs
  | [], l, j => rfl
  | x :: xs, l, j => by
    simp only [z1I]
    rw [zlK, show p.length + j + 1 = p.length + (j + 1) by omega, z6V p xs]
theorem z9k : ∀ (xs a l : List T), a.length = xs.length -> z1I (a ++ l) 0 xs = xs ++ l
  | [], a, l, h => by
    have : a = [] := List.eq_nil_of_length_eq_zero h
    subst this; rfl
  | x :: xs, [], l, h => by cases h
  | x :: xs, b :: a, l, h => by
    have ih := z9k xs a l (by simpa using h)
    have h2 := z6V [x] xs (a ++ l) 0
    simp only [List.length_singleton, Nat.add_zero, ih] at h2
    simp only [List.cons_append, z1I, List.set_cons_zero, Nat.zero_add]
    simpa using h2
theorem z9j : ∀ (xs : List T) (j : Nat), z1I [] j xs = []
  | [], j => rfl
  | x :: xs, j => by simp only [z1I, List.set_nil]; exact z9j xs _
theorem zf6 {α : Type} {g : α -> List T} {m : Nat} (hg : ∀ x, (g x).length = m) (v : α) : ∀ (k : Nat) (xs : List α), z1I (xs.flatMap g) (k * m) (g v) = (xs.set k v).flatMap g
  | k, [] => by simp only [List.flatMap_nil, z9j, List.set_nil]
  | 0, x :: xs => by
    rw [Nat.zero_mul, List.flatMap_cons, z9k _ _ _ (by rw [hg, hg]), List.set_cons_zero, List.flatMap_cons]
  | k + 1, x :: xs => by
    have h := z6V (g x) (g v) (xs.flatMap g) (k * m)
    rw [hg] at h
    rw [List.flatMap_cons, show (k + 1) * m = m + k * m by rw [Nat.add_mul]; omega, h, zf6 hg v k xs, List.set_cons_succ, List.flatMap_cons]
end
section
attribute [simp] undef scB ext z1v z1T Function.comp_def zbh zdA z9t zdw nav sub upd z2R z5v z1y z9X z0X zde z3U zl7 z4p z7h z9n zec onA kill z2W zb1 z8R z1I z6T z8V zk9 z3P z8A z8s ziV z8b z9d setT moveT moveR mvA zfZ zeH plugL' zgu zdS z3Z zl0 zkZ zjx zld zlc nrmO? plugL putR z7j explode cellsE z3B rdV scE zjg zeM zlP zjf zih zgm zgb zgf zgd zgc zgl zhL zga zbH zgk zge zgg zgh zgi zgj zfM zfJ zfK zfL zfN zf8 zf9 zfc zfd zhh zhi zhl zfb zhk zfa zhj zg2 zb3 rdK zhm ziY zhR ziF ziG List.map_flatMap zeK zcJ zfn z0P z8F unS zlR zlS zfj opE zkz zbU zg8 zg1 zht znS z7v zeY zix zeB z9H zlw z7M zhK zja zkk z6Z z7e z7F z5U z9u ziw zjY zl3 z5G freezeKids zk8 zaY zfu zlF zaz zhI z7d z7f z6L z3R z3Q z5q zh9 zaW zbo zii zc1 zny zks zhx zhJ zau zc2 zk6 z7C zc3 zk4 ziP zfo zlD zei zlo opn zaw z1S zey zkm zim zlG z2E zaJ z6N zag clB ioF zlL zls z8M z7a putF opF zem z5C zly zdK z7H z8H onE ids zaF zaE z6I zgp z9o z4V z0L z0H z0G z0K zkP zhq zcm z7G z9l zkW zg3 zcI zbG zhy zlx zkV zdp zkU zaG zff zkT zbG zds znO znQ znN znP zlX z7g z1h wrF z8u noM zlH zka ziZ zk7 z8C zkQ zbC zbz z8a zbx zhO z9E zkG ziU zcT ziT zkw z9F z9B z9A z8x z9D za8 zbB zby zhV zhW zhP zhn zln zib zlE zic zdd z8y z8g zdW zda zbg zlh zlW Option.map_some zbS zhY
end
section
def Mo (C0 C1 : z0m) : Prop := ∀ f a o, C0 f a = some o -> C1 f a = some o
section
variable {P : Program} {C0 C1 : z0m}
theorem z9L (hMo : Mo C0 C1) {wio : FuncId -> Nat -> Bool} {fr fr' : Fr} {f : FuncId} {args : List E} {dst : Option Nat} (h : z8M C0 wio fr f args dst = some fr') : Ev fun m => z8M C1 wio fr f args dst = some fr' := by
  unfold z8M at h ⊢
  split at h
  · cases h
  · rename_i ts deps io ha
    split at h
    · cases h
    · rename_i r outs hc
      refine ⟨0, fun m _ => ?_⟩
      show (match C1 f ts with | none => none | some (r, outs) => _) = _
      rw [hMo _ _ _ hc]
      exact h
theorem zhA (hMo : Mo C0 C1) {wio : FuncId -> Nat -> Bool} {fr fr' : Fr} {o : Oper} (h : opF P C0 wio fr o = some fr') : Ev fun m => opF P C1 wio fr o = some fr' := by
  unfold opF at h ⊢
  split at h
  · exact .pure fun _ => h
  · split at h
    · exact z9L hMo h
    · cases h
  · exact .pure fun _ => h
  · exact .pure fun _ => h
  · exact .pure fun _ => h
theorem zfm (hMo : Mo C0 C1) {wio : FuncId -> Nat -> Bool} {fr fr' : Fr} {o : Oper} (h : z7H P C0 wio fr o = some fr') : Ev fun m => z7H P C1 wio fr o = some fr' := by
  unfold z7H at h ⊢
  split at h
  · split at h
    · split at h
      · exact z9L hMo h
      · cases h
    · cases h
  · exact .pure fun _ => h
theorem zjp (hMo : Mo C0 C1) {wio : FuncId -> Nat -> Bool} {M : Nat -> Bool} {fr fr' : Fr} {o : Oper} (h : wrF P C0 wio M fr o = some fr') : Ev fun m => wrF P C1 wio M fr o = some fr' := by
  unfold wrF at h ⊢
  split at h
  · split at h
    · cases h
    · split at h
      · exact z9L hMo h
      · split at h
        · rename_i hM
          simp only [hM, if_true]
          exact z9L hMo h
        · cases h
      · cases h
  · exact .pure fun _ => h
  · exact .pure fun _ => h
  · exact .pure fun _ => h
  · cases h
theorem zdJ (hMo : Mo C0 C1) {wio : FuncId -> Nat -> Bool} {ops : Array Oper} : ∀ {l : List Oper} {fr fr' : Fr}, zdK P C0 wio ops l fr = some fr' -> Ev fun m => zdK P C1 wio ops l fr = some fr'
  | [], fr, fr', h => .pure fun _ => h
  | o :: rest, fr, fr', h => by
    simp only [zdK] at h ⊢
    split at h
    · cases h
    · split at h
      · rename_i fr1 h1
        exact (zhA hMo h1).both (zdJ hMo h) fun m a1 a2 => by rw [a1]; exact a2
      · cases h
    · split at h
      · rename_i fr1 h1
        exact (zdJ hMo h)
      · cases h
theorem z9J (hMo : Mo C0 C1) {wio : FuncId -> Nat -> Bool} {same : Bool} {M : Nat -> Bool} {ops : Array Oper} : ∀ {l : List (Nat × Oper × Nat)} {fr fr' : Fr}, z7g P C0 wio same M ops l fr = some fr' -> Ev fun m => z7g P C1 wio same M ops l fr = some fr'
  | [], fr, fr', h => .pure fun _ => h
  | (k, o, mk) :: rest, fr, fr', h => by
    simp only [z7g] at h ⊢
    split at h
    · cases h
    · split at h
      · exact z9J hMo h
      · cases h
    · split at h
      · rename_i hm
        simp only [if_pos hm]
        split at h
        · split at h
          · exact z9J hMo h
          · cases h
        · cases h
      · rename_i hm
        simp only [if_neg hm]
        split at h
        · rename_i fr1 h1
          have h2 : Ev fun m => (if mk = 2 then opF P C1 wio fr o else if same = true then z7H P C1 wio fr o else wrF P C1 wio M fr o) = some fr1 := by
            by_cases e : mk = 2
            · simp only [if_pos e] at h1 ⊢; exact zhA hMo h1
            · simp only [if_neg e] at h1 ⊢
              by_cases e2 : same = true
              · simp only [if_pos e2] at h1 ⊢; exact zfm hMo h1
              · simp only [if_neg e2] at h1 ⊢; exact zjp hMo h1
          exact h2.both (z9J hMo h) fun m a1 a2 => by rw [a1]; exact a2
        · cases h
theorem z7A (hMo : Mo C0 C1) {wio : FuncId -> Nat -> Bool} {same : Bool} {M : Nat -> Bool} {ops : Array Oper} : ∀ {l : SchT} {fr fr' : Fr}, z4x P C0 wio same M ops l fr = some fr' -> Ev fun m => z4x P C1 wio same M ops l fr = some fr'
  | .nil, fr, fr', h => .pure fun _ => h
  | .alt x y, fr, fr', h => by
    simp only [z4x] at h ⊢
    split at h
    · rename_i f1 f2 h1 h2
      obtain ⟨rfl, hs⟩ := z8U h
      exact (z7A hMo h1).both (z7A hMo h2) fun m a1 a2 => by rw [a1, a2]; exact z9z hs
    · cases h
  | .op k mk rest, fr, fr', h => by
    simp only [z4x] at h ⊢
    split at h
    · cases h
    rename_i o ho
    try simp only [ho]
    split at h
    · cases h
    · split at h
      · exact z7A hMo h
      · cases h
    · split at h
      · rename_i hm
        simp only [if_pos hm]
        split at h
        · split at h
          · exact z7A hMo h
          · cases h
        · cases h
      · rename_i hm
        simp only [if_neg hm]
        split at h
        · rename_i fr1 h1
          have h2 : Ev fun m => (if mk = 2 then opF P C1 wio fr o else if same = true then z7H P C1 wio fr o else wrF P C1 wio M fr o) = some fr1 := by
            by_cases e : mk = 2
            · simp only [if_pos e] at h1 ⊢; exact zhA hMo h1
            · simp only [if_neg e] at h1 ⊢
              by_cases e2 : same = true
              · simp only [if_pos e2] at h1 ⊢; exact zfm hMo h1
              · simp only [if_neg e2] at h1 ⊢; exact zjp hMo h1
          exact h2.both (z7A hMo h) fun m a1 a2 => by rw [a1]; exact a2
        · cases h
theorem zgw (hMo : Mo C0 C1) {c : Cfg} {id : Nat} {ops : Array Oper} {fr fr' : Fr} (h : z5X P C0 c id ops fr = some fr') : Ev fun m => z5X P C1 c id ops fr = some fr' := by
  unfold z5X at h ⊢
  split at h
  · exact z7A hMo h
  · split at h
    · exact z9J hMo h
    · cases h
theorem zeW (hMo : Mo C0 C1) {B : z0m -> Fr -> Option (X × Fr)} {cn : Fr -> Fr} (hB : ∀ fr o, B C0 fr = some o -> Ev fun m => B C1 fr = some o) : ∀ {n : Nat} {fr : Fr} {o : X × Fr}, z8E (B C0) cn n fr = some o -> Ev fun m => z8E (B C1) cn n fr = some o
  | 0, fr, o, h => by cases h
  | n + 1, fr, o, h => by
    simp only [z8E] at h ⊢
    split at h
    · rename_i fr1 h1
      exact (hB _ _ h1).both (zeW hMo hB h) fun m a1 a2 => by rw [a1]; exact a2
    · rename_i x fr1 hne h1
      refine (hB _ _ h1).imp fun m a1 => ?_
      rw [a1]
      cases x with
      | n => exact absurd rfl hne
      | x i => exact h
      | r => exact h
    · cases h
theorem zfk (hMo : Mo C0 C1) {c : Cfg} {LF : Nat} : ∀ (b : Code) {fr : Fr} {o : X × Fr}, z1z P C0 c LF b fr = some o -> Ev fun m => z1z P C1 c LF b fr = some o := by
  intro b
  induction b with
  | skip => intro fr o h; exact .pure fun _ => h
  | label l => intro fr o h; exact .pure fun _ => h
  | exit id => intro fr o h; exact .pure fun _ => h
  | ret => intro fr o h; exact .pure fun _ => h
  | goto l => intro fr o h; cases h
  | scope c ih => intro fr o h; simp only [z1z] at h ⊢; exact ih h
  | refuse s => intro fr o h; cases h
  | rangeFunc => intro fr o h; cases h
  | region id ops draw =>
    intro fr o h
    simp only [z1z] at h ⊢
    split at h
    · rename_i hd
      simp only [hd, if_true]
      split at h
      · rename_i fr1 h1
        exact (zgw hMo h1).imp fun m a1 => by rw [a1]; exact h
      · cases h
    · rename_i hd
      simp only [hd, Bool.false_eq_true, if_false]
      split at h
      · rename_i fr1 h1
        exact (zdJ hMo h1).imp fun m a1 => by rw [a1]; exact h
      · cases h
  | seq a b ih1 ih2 =>
    intro fr o h
    simp only [z1z] at h ⊢
    split at h
    · rename_i fr1 h1
      exact (ih1 h1).both (ih2 h) fun m a1 a2 => by rw [a1]; exact a2
    · rename_i hne
      refine (ih1 h).imp fun m a1 => ?_
      rw [a1]
      obtain ⟨x, fr1⟩ := o
      cases x with
      | n => exact absurd h (hne _)
      | x i => rfl
      | r => rfl
  | cond c x y ih1 ih2 =>
    intro fr o h
    simp only [z1z] at h ⊢
    split at h
    · exact ih1 h
    · exact ih2 h
    · cases h
  | block id c ih =>
    intro fr o h
    simp only [z1z] at h ⊢
    split at h
    · rename_i i fr1 h1
      exact (ih h1).imp fun m a1 => by rw [a1]; exact h
    · rename_i hne
      refine (ih h).imp fun m a1 => ?_
      rw [a1]
      obtain ⟨x, fr1⟩ := o
      cases x with
      | n => rfl
      | x i => exact absurd h (hne _ _)
      | r => rfl
  | loop b ih =>
    intro fr o h
    simp only [z1z] at h ⊢
    exact zeW hMo (B := fun C fr => z1z P C c LF b fr) (fun fr o h => ih h) h
theorem zho (hMo : Mo C0 C1) {c : Cfg} {LF : Nat} {fn : Func} {args : List T} {o : T × List T} (h : zcr P C0 c LF fn args = some o) : Ev fun m => zcr P C1 c LF fn args = some o := by
  unfold zcr at h ⊢
  split at h
  · rename_i hc
    simp only [if_pos hc]
    split at h
    · cases h
    · rename_i b hb
      split at h
      · rename_i fr h1
        exact (zfk hMo _ h1).imp fun m a1 => by rw [a1]; exact h
      · rename_i fr h1
        exact (zfk hMo _ h1).imp fun m a1 => by rw [a1]; exact h
      · cases h
  · cases h
end
class XMo (X : z0m -> z0m) : Prop where
  mo : ∀ {C D : z0m}, Mo C D -> Mo (X C) (X D)
instance {x : z0m} : XMo (fun _ => x) := ⟨fun _ => fun _ _ _ h => h⟩
theorem zjX {D : z0m} : Mo (fun _ _ => none) D := fun _ _ _ h => by cases h
theorem zbE {P : Program} {X : z0m -> z0m} [hx : XMo X] {cf : FuncId -> Option Cfg} : ∀ n, Mo (z2j P X cf n) (z2j P X cf (n + 1))
  | 0 => fun f a o h => by
    simp only [z2j] at h ⊢
    split at h
    · cases h
    · rename_i hc
      exact hx.mo zjX f a o h
  | n + 1 => fun f a o h => by
    simp only [z2j] at h
    split at h
    · rename_i c hc
      split at h
      · rename_i fn hfn
        obtain ⟨k, hk⟩ := zho (zbE n) h
        exact zcR hc hfn (hk k (Nat.le_refl _))
      · cases h
    · rename_i hc
      simp only [z2j, hc]
      exact hx.mo (zbE n) f a o h
theorem zl9 {P : Program} {X : z0m -> z0m} [XMo X] {cf : FuncId -> Option Cfg} (n : Nat) {f : FuncId} {a : List T} {o : T × List T} (h : z2j P X cf n f a = some o) : Lim P X cf f a = some o := by
  refine zeU (d := n) fun m hm => ?_
  obtain ⟨k, rfl⟩ := Nat.exists_eq_add_of_le hm
  clear hm
  induction k with
  | zero => exact h
  | succ k ih => exact zbE (n + k) f a o ih
end
section
open Go
def ze2 : List T -> Option (List Int)
  | [] => some []
  | .sc (.int .i64 x) :: l => (ze2 l).map (x :: ·)
  | _ => none
theorem zcY : ∀ xs : List Int, ze2 (xs.map fun x => .sc (.int .i64 x)) = some xs
  | [] => rfl
  | x :: xs => by simp [ze2, zcY xs]
def zen (args : List T) : Option (T × List T) := match args with
  | [.sl n cs] => (match ze2 cs with | some xs => if xs.length = n /\ n * 8 <= 140737488355328 then some (zcK xs, [.dead]) else none | none => none)
  | _ => none
def zjn (args : List T) : Option (T × List T) := match args with
  | [.sc (.string s), .sc (.string b)] => (match b.data.toList with | [c] => some (.sc (.int .i64 (Lib.indexByte s.data.toList c)), [.dead, .dead]) | _ => none)
  | _ => none
def zjo (args : List T) : Option (T × List T) := match args with
  | [.sc (.string s), .sc (.string b)] => (match b.data.toList with | [c] => some (.sc (.int .i64 ((Lib.countByte s.data.toList c : Nat) : Int)), [.dead, .dead]) | _ => none)
  | _ => none
def xtC : z0m := fun f args => if f = 33 then zen args else if f = 76 ∨ f = 79 then zjn args else if f = 78 then zjo args else none
def dlT : T -> T
  | .vr cs => .vr (cs.map fun t => match t with | .sc v => .sc v | _ => .dead)
  | t => t
noncomputable def zlm : Cfg := { wio := fun f i => (f == 16 && (i == 0)), live := fun r => if r = 3 then some [0, 5, 10, 11, 12] else none, dr := fun r => none }
noncomputable def zkB (C : z0m) (args : List T) : Option (T × List T) := (zcr Tryd.prog C zlm LFm Tryd.f13 args).map fun x => (x.1, x.2.map dlT)
noncomputable def xtF (C : z0m) : z0m := fun f args => if f = 13 then zkB C args else xtC f args
instance : XMo xtF := ⟨fun {C0 C1} h f a o => by
  unfold xtF
  split
  · unfold zkB
    intro h2
    rw [Option.map_eq_some_iff] at h2 ⊢
    obtain ⟨x, h3, h4⟩ := h2
    obtain ⟨n, hn⟩ := zho h h3
    exact ⟨x, hn n (Nat.le_refl _), h4⟩
  · exact id⟩
def zaO (xs : List Int) : Option (List Int) := if xs.length * 8 <= 140737488355328 then some xs else none
theorem zdz (xs : List Int) (h : xs.length * 8 <= 140737488355328) : zen [zlb xs] = some (zcK xs, [.dead]) := by
  simp [zen, zcY, h]
end
section
open Go
set_option maxRecDepth 100000
@[simp] theorem ty2 : z1M Tryd.prog 2 = some ⟨.int .i64, 1, 8, (some [(.sc (.int .i64 0))])⟩ := by kernel_rfl
@[simp] theorem ty3 : z1M Tryd.prog 3 = some ⟨.int .i64, 1, 8, (some [(.sc (.int .i64 0))])⟩ := by kernel_rfl
@[simp] theorem ty4 : z1M Tryd.prog 4 = some ⟨.bool, 1, 1, (some [(.sc (.bool false))])⟩ := by kernel_rfl
@[simp] theorem ty5 : z1M Tryd.prog 5 = some ⟨.int .u8, 1, 1, (some [(.sc (.int .u8 0))])⟩ := by kernel_rfl
@[simp] theorem ty9 : z1M Tryd.prog 9 = some ⟨.string, 1, 16, (some [(.sc (.string ByteArray.empty))])⟩ := by kernel_rfl
@[simp] theorem ty22 : z1M Tryd.prog 22 = some ⟨.slice 3, 1, 24, (some [(.os 1 0 [])])⟩ := by kernel_rfl
@[simp] theorem ty23 : z1M Tryd.prog 23 = some ⟨.pointer 57, 1, 8, (some [(.sc (.pointer none))])⟩ := by kernel_rfl
@[simp] theorem ty25 : z1M Tryd.prog 25 = some ⟨.slice 47, 1, 24, (some [(.os 2 0 [])])⟩ := by kernel_rfl
noncomputable def znX : Array Field := match Tryd.prog.underlying 27 with | some (.struct fs) => fs | _ => #[]
@[simp] theorem ty27 : z1M Tryd.prog 27 = some ⟨.struct znX, 3, 56, (some [(.sc (.int .i64 0)), (.os 1 0 []), (.os 2 0 [])])⟩ := by kernel_rfl
@[simp] theorem fi27_0 : z2Q Tryd.prog 27 0 = some (0, 1, false) := by kernel_rfl
@[simp] theorem fi27_1 : z2Q Tryd.prog 27 1 = some (1, 1, false) := by kernel_rfl
@[simp] theorem fi27_2 : z2Q Tryd.prog 27 2 = some (2, 1, false) := by kernel_rfl
@[simp] theorem znK : z7T Tryd.prog 27 = (some [(.sc (.int .i64 0)), (.os 1 0 []), (.os 2 0 [])]) := by kernel_rfl
@[simp] theorem bs27 (fr : Fr) (parts : List (Nat × Operand)) : z7N Tryd.prog fr 27 parts = match z7f fr (z2Q Tryd.prog 27) ([(.sc (.int .i64 0)), (.os 1 0 []), (.os 2 0 [])].map (A.t none)) parts with | some xs => some (E.ag xs) | none => none := z4n znK fr parts
@[simp] theorem ty33 : z1M Tryd.prog 33 = some ⟨.int .i64, 1, 8, (some [(.sc (.int .i64 0))])⟩ := by kernel_rfl
@[simp] theorem ty40 : z1M Tryd.prog 40 = some ⟨.slice 22, 1, 24, (some [(.os 1 0 [])])⟩ := by kernel_rfl
noncomputable def znW : Array Field := match Tryd.prog.underlying 47 with | some (.struct fs) => fs | _ => #[]
@[simp] theorem ty47 : z1M Tryd.prog 47 = some ⟨.struct znW, 2, 48, (some [(.os 1 0 []), (.os 1 0 [])])⟩ := by kernel_rfl
@[simp] theorem fi47_0 : z2Q Tryd.prog 47 0 = some (0, 1, false) := by kernel_rfl
@[simp] theorem fi47_1 : z2Q Tryd.prog 47 1 = some (1, 1, false) := by kernel_rfl
@[simp] theorem znJ : z7T Tryd.prog 47 = (some [(.os 1 0 []), (.os 1 0 [])]) := by kernel_rfl
@[simp] theorem bs47 (fr : Fr) (parts : List (Nat × Operand)) : z7N Tryd.prog fr 47 parts = match z7f fr (z2Q Tryd.prog 47) ([(.os 1 0 []), (.os 1 0 [])].map (A.t none)) parts with | some xs => some (E.ag xs) | none => none := z4n znJ fr parts
@[simp] theorem ty54 : z1M Tryd.prog 54 = some ⟨.slice 5, 1, 24, (some [(.os 1 0 [])])⟩ := by kernel_rfl
noncomputable def znV : Array Field := match Tryd.prog.underlying 57 with | some (.struct fs) => fs | _ => #[]
@[simp] theorem ty57 : z1M Tryd.prog 57 = some ⟨.struct znV, 2, 32, (some [(.os 1 0 []), (.sc (.int .i64 0))])⟩ := by kernel_rfl
@[simp] theorem fi57_0 : z2Q Tryd.prog 57 0 = some (0, 1, false) := by kernel_rfl
@[simp] theorem fi57_1 : z2Q Tryd.prog 57 1 = some (1, 1, false) := by kernel_rfl
@[simp] theorem znI : z7T Tryd.prog 57 = (some [(.os 1 0 []), (.sc (.int .i64 0))]) := by kernel_rfl
@[simp] theorem bs57 (fr : Fr) (parts : List (Nat × Operand)) : z7N Tryd.prog fr 57 parts = match z7f fr (z2Q Tryd.prog 57) ([(.os 1 0 []), (.sc (.int .i64 0))].map (A.t none)) parts with | some xs => some (E.ag xs) | none => none := z4n znI fr parts
noncomputable def znU : Array Field := match Tryd.prog.underlying 59 with | some (.struct fs) => fs | _ => #[]
@[simp] theorem ty59 : z1M Tryd.prog 59 = some ⟨.struct znU, 3, 56, (some [(.sc (.int .i64 0)), (.os 1 0 []), (.os 2 0 [])])⟩ := by kernel_rfl
@[simp] theorem fi59_0 : z2Q Tryd.prog 59 0 = some (0, 3, true) := by kernel_rfl
@[simp] theorem znH : z7T Tryd.prog 59 = (some [(.sc (.int .i64 0)), (.os 1 0 []), (.os 2 0 [])]) := by kernel_rfl
@[simp] theorem bs59 (fr : Fr) (parts : List (Nat × Operand)) : z7N Tryd.prog fr 59 parts = match z7f fr (z2Q Tryd.prog 59) ([(.sc (.int .i64 0)), (.os 1 0 []), (.os 2 0 [])].map (A.t none)) parts with | some xs => some (E.ag xs) | none => none := z4n znH fr parts
@[simp] theorem ty92 : z1M Tryd.prog 92 = some ⟨.slice 94, 1, 24, (some [(.os 4 0 [])])⟩ := by kernel_rfl
noncomputable def znT : Array Field := match Tryd.prog.underlying 94 with | some (.struct fs) => fs | _ => #[]
@[simp] theorem ty94 : z1M Tryd.prog 94 = some ⟨.struct znT, 4, 4, (some [(.sc (.bool false)), (.sc (.bool false)), (.sc (.bool false)), (.sc (.bool false))])⟩ := by kernel_rfl
@[simp] theorem fi94_0 : z2Q Tryd.prog 94 0 = some (0, 1, false) := by kernel_rfl
@[simp] theorem fi94_1 : z2Q Tryd.prog 94 1 = some (1, 1, false) := by kernel_rfl
@[simp] theorem fi94_2 : z2Q Tryd.prog 94 2 = some (2, 1, false) := by kernel_rfl
@[simp] theorem fi94_3 : z2Q Tryd.prog 94 3 = some (3, 1, false) := by kernel_rfl
@[simp] theorem znG : z7T Tryd.prog 94 = (some [(.sc (.bool false)), (.sc (.bool false)), (.sc (.bool false)), (.sc (.bool false))]) := by kernel_rfl
@[simp] theorem bs94 (fr : Fr) (parts : List (Nat × Operand)) : z7N Tryd.prog fr 94 parts = match z7f fr (z2Q Tryd.prog 94) ([(.sc (.bool false)), (.sc (.bool false)), (.sc (.bool false)), (.sc (.bool false))].map (A.t none)) parts with | some xs => some (E.ag xs) | none => none := z4n znG fr parts
@[simp] theorem ty102 : z1M Tryd.prog 102 = some ⟨.int .u64, 1, 8, (some [(.sc (.int .u64 0))])⟩ := by kernel_rfl
@[simp] theorem ty104 : z1M Tryd.prog 104 = some ⟨.pointer 94, 1, 8, (some [(.sc (.pointer none))])⟩ := by kernel_rfl
@[simp] theorem ty105 : z1M Tryd.prog 105 = some ⟨.array 32 4, 32, 32, (some [(.sc (.bool false)), (.sc (.bool false)), (.sc (.bool false)), (.sc (.bool false)), (.sc (.bool false)), (.sc (.bool false)), (.sc (.bool false)), (.sc (.bool false)), (.sc (.bool false)), (.sc (.bool false)), (.sc (.bool false)), (.sc (.bool false)), (.sc (.bool false)), (.sc (.bool false)), (.sc (.bool false)), (.sc (.bool false)), (.sc (.bool false)), (.sc (.bool false)), (.sc (.bool false)), (.sc (.bool false)), (.sc (.bool false)), (.sc (.bool false)), (.sc (.bool false)), (.sc (.bool false)), (.sc (.bool false)), (.sc (.bool false)), (.sc (.bool false)), (.sc (.bool false)), (.sc (.bool false)), (.sc (.bool false)), (.sc (.bool false)), (.sc (.bool false))])⟩ := by kernel_rfl
@[simp] theorem ty112 : z1M Tryd.prog 112 = some ⟨.int .u64, 1, 8, (some [(.sc (.int .u64 0))])⟩ := by kernel_rfl
@[simp] theorem ty117 : z1M Tryd.prog 117 = some ⟨.array 24 5, 24, 24, (some [(.sc (.int .u8 0)), (.sc (.int .u8 0)), (.sc (.int .u8 0)), (.sc (.int .u8 0)), (.sc (.int .u8 0)), (.sc (.int .u8 0)), (.sc (.int .u8 0)), (.sc (.int .u8 0)), (.sc (.int .u8 0)), (.sc (.int .u8 0)), (.sc (.int .u8 0)), (.sc (.int .u8 0)), (.sc (.int .u8 0)), (.sc (.int .u8 0)), (.sc (.int .u8 0)), (.sc (.int .u8 0)), (.sc (.int .u8 0)), (.sc (.int .u8 0)), (.sc (.int .u8 0)), (.sc (.int .u8 0)), (.sc (.int .u8 0)), (.sc (.int .u8 0)), (.sc (.int .u8 0)), (.sc (.int .u8 0))])⟩ := by kernel_rfl
def zcc : SchT := .nil
def zcd : SchT := .op 16 2 zcc
def zce : SchT := .op 15 0 zcd
def z9N : SchT := .op 14 0 zce
def zcf : SchT := .op 1 1 z9N
def z8l : SchT := .op 13 2 z9N
def z9O : SchT := .alt (.op 1 1 z8l) (.op 13 2 zcf)
def z8m : SchT := .op 10 2 z8l
def z9P : SchT := .op 12 1 z8l
def z9Q : SchT := .alt (.op 1 1 z8m) (.op 10 2 z9O)
def zcg : SchT := .alt (.op 1 1 z9P) (.op 12 1 z9O)
def z9R : SchT := .op 3 1 z8m
def z9S : SchT := .alt (.op 10 2 z9P) (.op 12 1 z8m)
def zch : SchT := .alt (.op 1 1 z9R) (.op 3 1 z9Q)
def zci : SchT := .alt (.op 1 1 z9S) (.alt (.op 10 2 zcg) (.op 12 1 z9Q))
def zcj : SchT := .alt (.op 3 1 z9S) (.op 12 1 z9R)
def zeo : SchT := .alt (.op 1 1 zcj) (.alt (.op 3 1 zci) (.op 12 1 zch))
def zep : SchT := .op 11 3 zeo
def zeq : SchT := .op 9 0 zep
def zer : SchT := .op 8 0 zeq
def zes : SchT := .op 7 0 zer
def zet : SchT := .op 6 0 zes
def zeu : SchT := .op 5 0 zet
def zev : SchT := .op 4 0 zeu
def zew : SchT := .op 2 3 zev
def zex : SchT := .op 0 3 zew
def cf8 : Cfg := { wio := fun f i => (f == 16 && (i == 0)) || (f == 12 && (i == 0)) || (f == 13 && (i == 0)) || (f == 999999 && (i == 0)) || (f == 777784 && (i == 77)), live := fun r => none, dr := fun r => if r = 12 then some [(0, 0), (1, 0), (2, 0), (3, 0), (4, 0), (5, 0), (7, 0), (6, 1), (8, 0), (9, 2)] else if r = 14 then some [(0, 0), (1, 0), (2, 0), (3, 0), (4, 0), (5, 0), (6, 0), (7, 1), (8, 2), (9, 0), (10, 2)] else if r = 20 then some [(0, 0), (1, 0), (2, 0), (3, 0), (4, 0), (5, 0), (6, 0), (7, 0), (8, 0), (9, 0), (10, 0), (11, 0), (12, 2)] else none, fz := fun r => if r = 14 then some [1000300010] else if r = 16 then some [1000300010] else if r = 20 then some [1000300010] else none, dt := fun r => if r = 16 then some (zex) else none }
@[simp] theorem wio8 : cf8.wio = fun f i => (f == 16 && (i == 0)) || (f == 12 && (i == 0)) || (f == 13 && (i == 0)) || (f == 999999 && (i == 0)) || (f == 777784 && (i == 77)) := rfl
@[simp] theorem live8 : cf8.live = fun r => none := rfl
@[simp] theorem wr8 : cf8.wr = fun _ => [] := rfl
def cf11 : Cfg := { wio := fun f i => false, live := fun r => none, dr := fun r => none }
@[simp] theorem wio11 : cf11.wio = fun f i => false := rfl
@[simp] theorem live11 : cf11.live = fun r => none := rfl
@[simp] theorem wr11 : cf11.wr = fun _ => [] := rfl
def cf12 : Cfg := { wio := fun f i => (f == 16 && (i == 0)) || (f == 999999 && (i == 0)) || (f == 777782 && (i == 97)), live := fun r => if r = 4 then some [0, 2, 3, 4, 5] else if r = 10 then some [0, 2, 3, 5, 6, 7, 38, 39, 40] else if r = 15 then some [0, 2, 3, 5, 6, 7, 9, 10, 11, 38, 39, 40] else if r = 20 then some [0, 2, 3, 5, 6, 7, 9, 10, 11, 12, 13, 14, 15, 38, 39, 40] else if r = 31 then some [0, 2, 3, 5, 6, 7, 9, 16, 38, 39, 40] else none, dr := fun r => none, fz := fun r => if r = 9 then some [4] else none }
@[simp] theorem wio12 : cf12.wio = fun f i => (f == 16 && (i == 0)) || (f == 999999 && (i == 0)) || (f == 777782 && (i == 97)) := rfl
@[simp] theorem live12 : cf12.live = fun r => if r = 4 then some [0, 2, 3, 4, 5] else if r = 10 then some [0, 2, 3, 5, 6, 7, 38, 39, 40] else if r = 15 then some [0, 2, 3, 5, 6, 7, 9, 10, 11, 38, 39, 40] else if r = 20 then some [0, 2, 3, 5, 6, 7, 9, 10, 11, 12, 13, 14, 15, 38, 39, 40] else if r = 31 then some [0, 2, 3, 5, 6, 7, 9, 16, 38, 39, 40] else none := rfl
@[simp] theorem wr12 : cf12.wr = fun _ => [] := rfl
def cf15 : Cfg := { wio := fun f i => false, live := fun r => none, dr := fun r => none }
@[simp] theorem wio15 : cf15.wio = fun f i => false := rfl
@[simp] theorem live15 : cf15.live = fun r => none := rfl
@[simp] theorem wr15 : cf15.wr = fun _ => [] := rfl
def cf16 : Cfg := { wio := fun f i => false, live := fun r => none, dr := fun r => if r = 1 then some [(0, 0), (1, 0), (2, 0), (3, 0), (4, 0), (5, 0), (6, 0), (7, 0), (8, 0), (9, 0)] else if r = 4 then some [(0, 0), (1, 0), (2, 0), (3, 0), (4, 0), (5, 0), (6, 0), (7, 0), (8, 0), (9, 0), (10, 0), (11, 0), (12, 1), (13, 0)] else none }
@[simp] theorem wio16 : cf16.wio = fun f i => false := rfl
@[simp] theorem live16 : cf16.live = fun r => none := rfl
@[simp] theorem wr16 : cf16.wr = fun _ => [] := rfl
def cf17 : Cfg := { wio := fun f i => false, live := fun r => if r = 8 then some [2, 8, 10, 35, 36] else none, dr := fun r => if r = 10 then some [(0, 0), (1, 0), (2, 0), (3, 0), (4, 0), (5, 0), (6, 0), (7, 1), (8, 0), (9, 0), (10, 0), (11, 0), (12, 0)] else none }
@[simp] theorem wio17 : cf17.wio = fun f i => false := rfl
@[simp] theorem live17 : cf17.live = fun r => if r = 8 then some [2, 8, 10, 35, 36] else none := rfl
@[simp] theorem wr17 : cf17.wr = fun _ => [] := rfl
def cf18 : Cfg := { wio := fun f i => false, live := fun r => none, dr := fun r => none }
@[simp] theorem wio18 : cf18.wio = fun f i => false := rfl
@[simp] theorem live18 : cf18.live = fun r => none := rfl
@[simp] theorem wr18 : cf18.wr = fun _ => [] := rfl
def cf19 : Cfg := { wio := fun f i => false, live := fun r => if r = 4 then some [0, 1, 12, 13] else none, dr := fun r => if r = 6 then some [(0, 0), (1, 0), (2, 0), (3, 0), (4, 0), (5, 0), (6, 0), (7, 0), (8, 0)] else none }
@[simp] theorem wio19 : cf19.wio = fun f i => false := rfl
@[simp] theorem live19 : cf19.live = fun r => if r = 4 then some [0, 1, 12, 13] else none := rfl
@[simp] theorem wr19 : cf19.wr = fun _ => [] := rfl
def cf24 : Cfg := { wio := fun f i => false, live := fun r => none, dr := fun r => if r = 1 then some [(0, 0), (2, 0), (1, 1), (3, 1), (4, 0), (5, 0), (6, 0), (8, 0), (7, 1), (9, 1), (10, 1), (11, 0), (12, 0)] else none }
@[simp] theorem wio24 : cf24.wio = fun f i => false := rfl
@[simp] theorem live24 : cf24.live = fun r => none := rfl
@[simp] theorem wr24 : cf24.wr = fun _ => [] := rfl
def cf28 : Cfg := { wio := fun f i => false, live := fun r => if r = 6 then some [1, 5, 26, 27, 28] else if r = 12 then some [5, 41, 42, 43] else if r = 16 then some [5, 9, 41, 42, 43, 50, 51, 52] else if r = 21 then some [5, 41, 42, 43, 63, 64, 65] else if r = 25 then some [5, 41, 42, 43, 63, 64, 65, 71, 72, 73] else none, dr := fun r => none }
@[simp] theorem wio28 : cf28.wio = fun f i => false := rfl
@[simp] theorem live28 : cf28.live = fun r => if r = 6 then some [1, 5, 26, 27, 28] else if r = 12 then some [5, 41, 42, 43] else if r = 16 then some [5, 9, 41, 42, 43, 50, 51, 52] else if r = 21 then some [5, 41, 42, 43, 63, 64, 65] else if r = 25 then some [5, 41, 42, 43, 63, 64, 65, 71, 72, 73] else none := rfl
@[simp] theorem wr28 : cf28.wr = fun _ => [] := rfl
def cf29 : Cfg := { wio := fun f i => (f == 55 && (i == 0)), live := fun r => if r = 7 then some [5, 28, 29, 30] else if r = 11 then some [5, 28, 29, 30, 40, 41, 42] else none, dr := fun r => if r = 9 then some [(0, 0), (2, 3), (3, 3), (1, 2), (4, 2), (5, 0)] else none, fz := fun r => if r = 9 then some [7] else none }
@[simp] theorem wio29 : cf29.wio = fun f i => (f == 55 && (i == 0)) := rfl
@[simp] theorem live29 : cf29.live = fun r => if r = 7 then some [5, 28, 29, 30] else if r = 11 then some [5, 28, 29, 30, 40, 41, 42] else none := rfl
@[simp] theorem wr29 : cf29.wr = fun _ => [] := rfl
def cf30 : Cfg := { wio := fun f i => false, live := fun r => none, dr := fun r => none }
@[simp] theorem wio30 : cf30.wio = fun f i => false := rfl
@[simp] theorem live30 : cf30.live = fun r => none := rfl
@[simp] theorem wr30 : cf30.wr = fun _ => [] := rfl
def cf31 : Cfg := { wio := fun f i => false, live := fun r => if r = 4 then some [0, 12, 13, 14] else none, dr := fun r => none }
@[simp] theorem wio31 : cf31.wio = fun f i => false := rfl
@[simp] theorem live31 : cf31.live = fun r => if r = 4 then some [0, 12, 13, 14] else none := rfl
@[simp] theorem wr31 : cf31.wr = fun _ => [] := rfl
def cf32 : Cfg := { wio := fun f i => false, live := fun r => if r = 4 then some [0, 1, 18, 19] else none, dr := fun r => none }
@[simp] theorem wio32 : cf32.wio = fun f i => false := rfl
@[simp] theorem live32 : cf32.live = fun r => if r = 4 then some [0, 1, 18, 19] else none := rfl
@[simp] theorem wr32 : cf32.wr = fun _ => [] := rfl
def cf34 : Cfg := { wio := fun f i => false, live := fun r => if r = 5 then some [1, 2, 3, 8, 33, 34, 35] else none, dr := fun r => if r = 7 then some [(0, 0), (1, 0), (2, 0), (3, 0), (4, 0), (5, 0), (6, 1), (7, 0), (8, 0), (9, 0), (10, 0), (11, 0)] else none }
@[simp] theorem wio34 : cf34.wio = fun f i => false := rfl
@[simp] theorem live34 : cf34.live = fun r => if r = 5 then some [1, 2, 3, 8, 33, 34, 35] else none := rfl
@[simp] theorem wr34 : cf34.wr = fun _ => [] := rfl
def cf35 : Cfg := { wio := fun f i => false, live := fun r => none, dr := fun r => none }
@[simp] theorem wio35 : cf35.wio = fun f i => false := rfl
@[simp] theorem live35 : cf35.live = fun r => none := rfl
@[simp] theorem wr35 : cf35.wr = fun _ => [] := rfl
def cf36 : Cfg := { wio := fun f i => false, live := fun r => none, dr := fun r => none }
@[simp] theorem wio36 : cf36.wio = fun f i => false := rfl
@[simp] theorem live36 : cf36.live = fun r => none := rfl
@[simp] theorem wr36 : cf36.wr = fun _ => [] := rfl
def cf38 : Cfg := { wio := fun f i => false, live := fun r => if r = 6 then some [1, 31, 32, 33] else if r = 12 then some [1, 45, 46, 47] else if r = 18 then some [1, 7, 45, 46, 47, 100, 101, 102] else if r = 23 then some [1, 7, 45, 46, 47, 100, 101, 102, 110, 111, 112] else none, dr := fun r => if r = 14 then some [(0, 0), (1, 0), (2, 0), (3, 0), (4, 0), (5, 0), (6, 0), (7, 0), (8, 0), (9, 0), (10, 0), (11, 0), (12, 1), (13, 0), (14, 0), (15, 0), (16, 0), (17, 0), (18, 0), (19, 0), (20, 0), (21, 0), (22, 0), (23, 0), (24, 0), (25, 0), (26, 0), (27, 0), (28, 1), (29, 0), (30, 0), (31, 0), (32, 0), (33, 0), (34, 0), (35, 0), (36, 0), (37, 0), (38, 0), (39, 0)] else none }
@[simp] theorem wio38 : cf38.wio = fun f i => false := rfl
@[simp] theorem live38 : cf38.live = fun r => if r = 6 then some [1, 31, 32, 33] else if r = 12 then some [1, 45, 46, 47] else if r = 18 then some [1, 7, 45, 46, 47, 100, 101, 102] else if r = 23 then some [1, 7, 45, 46, 47, 100, 101, 102, 110, 111, 112] else none := rfl
@[simp] theorem wr38 : cf38.wr = fun _ => [] := rfl
def cf39 : Cfg := { wio := fun f i => false, live := fun r => none, dr := fun r => none }
@[simp] theorem wio39 : cf39.wio = fun f i => false := rfl
@[simp] theorem live39 : cf39.live = fun r => none := rfl
@[simp] theorem wr39 : cf39.wr = fun _ => [] := rfl
def cf40 : Cfg := { wio := fun f i => false, live := fun r => if r = 3 then some [1, 2, 3, 8, 13, 14] else none, dr := fun r => if r = 5 then some [(0, 0), (1, 0), (2, 0), (3, 0), (4, 1), (5, 0)] else if r = 8 then some [(0, 0), (1, 0), (2, 0), (3, 0), (4, 0), (5, 0), (6, 0), (7, 0), (8, 0), (9, 0), (10, 0), (11, 0), (12, 0), (13, 0), (14, 0), (15, 0), (16, 1), (17, 2), (18, 0)] else none }
@[simp] theorem wio40 : cf40.wio = fun f i => false := rfl
@[simp] theorem live40 : cf40.live = fun r => if r = 3 then some [1, 2, 3, 8, 13, 14] else none := rfl
@[simp] theorem wr40 : cf40.wr = fun _ => [] := rfl
def cf43 : Cfg := { wio := fun f i => false, live := fun r => if r = 6 then some [1, 26, 27, 28] else if r = 12 then some [1, 40, 41, 42] else none, dr := fun r => if r = 14 then some [(0, 0), (1, 0), (2, 1), (3, 0), (4, 0), (5, 0), (6, 0), (7, 0), (8, 0), (9, 0), (10, 0), (11, 0), (12, 0), (13, 0), (14, 0), (15, 0), (16, 0), (17, 1), (18, 0), (19, 0), (20, 0)] else none }
@[simp] theorem wio43 : cf43.wio = fun f i => false := rfl
@[simp] theorem live43 : cf43.live = fun r => if r = 6 then some [1, 26, 27, 28] else if r = 12 then some [1, 40, 41, 42] else none := rfl
@[simp] theorem wr43 : cf43.wr = fun _ => [] := rfl
def cf44 : Cfg := { wio := fun f i => (f == 63 && (i == 0)), live := fun r => if r = 5 then some [1, 3, 20, 21] else if r = 10 then some [3, 30, 31, 32] else if r = 13 then some [3, 6, 30, 31, 32, 37, 38, 39] else if r = 20 then some [9, 55, 56, 57] else none, dr := fun r => none }
@[simp] theorem wio44 : cf44.wio = fun f i => (f == 63 && (i == 0)) := rfl
@[simp] theorem live44 : cf44.live = fun r => if r = 5 then some [1, 3, 20, 21] else if r = 10 then some [3, 30, 31, 32] else if r = 13 then some [3, 6, 30, 31, 32, 37, 38, 39] else if r = 20 then some [9, 55, 56, 57] else none := rfl
@[simp] theorem wr44 : cf44.wr = fun _ => [] := rfl
def cf45 : Cfg := { wio := fun f i => false, live := fun r => if r = 5 then some [1, 3, 21, 22] else if r = 9 then some [1, 3, 4, 5, 6, 7, 8, 21, 22, 26, 27, 28] else if r = 12 then some [1, 3, 4, 5, 6, 7, 8, 10, 21, 22, 26, 27, 28, 33, 34, 35] else none, dr := fun r => none }
@[simp] theorem wio45 : cf45.wio = fun f i => false := rfl
@[simp] theorem live45 : cf45.live = fun r => if r = 5 then some [1, 3, 21, 22] else if r = 9 then some [1, 3, 4, 5, 6, 7, 8, 21, 22, 26, 27, 28] else if r = 12 then some [1, 3, 4, 5, 6, 7, 8, 10, 21, 22, 26, 27, 28, 33, 34, 35] else none := rfl
@[simp] theorem wr45 : cf45.wr = fun _ => [] := rfl
def cf46 : Cfg := { wio := fun f i => false, live := fun r => none, dr := fun r => none }
@[simp] theorem wio46 : cf46.wio = fun f i => false := rfl
@[simp] theorem live46 : cf46.live = fun r => none := rfl
@[simp] theorem wr46 : cf46.wr = fun _ => [] := rfl
def cf47 : Cfg := { wio := fun f i => false, live := fun r => if r = 8 then some [2, 3, 9, 10] else none, dr := fun r => if r = 10 then some [(0, 0), (1, 0), (2, 0), (3, 0), (4, 0), (5, 0), (6, 0), (7, 1), (8, 0), (9, 0), (10, 0), (11, 0), (12, 0)] else none }
@[simp] theorem wio47 : cf47.wio = fun f i => false := rfl
@[simp] theorem live47 : cf47.live = fun r => if r = 8 then some [2, 3, 9, 10] else none := rfl
@[simp] theorem wr47 : cf47.wr = fun _ => [] := rfl
def cf54 : Cfg := { wio := fun f i => false, live := fun r => none, dr := fun r => none, dt := fun r => if r = 3 then some (.op 0 0 (.op 1 0 (.op 3 0 (.op 4 0 (.op 5 0 (.op 6 0 (.alt (.op 2 1 (.op 7 1 (.op 8 0 (.op 9 0 (.op 10 0 .nil))))) (.op 7 1 (.op 8 0 (.op 2 1 (.op 9 0 (.op 10 0 .nil)))))))))))) else none }
@[simp] theorem wio54 : cf54.wio = fun f i => false := rfl
@[simp] theorem live54 : cf54.live = fun r => none := rfl
@[simp] theorem wr54 : cf54.wr = fun _ => [] := rfl
def cf55 : Cfg := { wio := fun f i => (f == 70 && (i == 0)), live := fun r => if r = 2 then some [0, 7, 8, 9, 999999] else none, dr := fun r => none }
@[simp] theorem wio55 : cf55.wio = fun f i => (f == 70 && (i == 0)) := rfl
@[simp] theorem live55 : cf55.live = fun r => if r = 2 then some [0, 7, 8, 9, 999999] else none := rfl
@[simp] theorem wr55 : cf55.wr = fun _ => [] := rfl
def cf56 : Cfg := { wio := fun f i => false, live := fun r => if r = 3 then some [0, 1, 2, 8, 9, 10] else none, dr := fun r => none }
@[simp] theorem wio56 : cf56.wio = fun f i => false := rfl
@[simp] theorem live56 : cf56.live = fun r => if r = 3 then some [0, 1, 2, 8, 9, 10] else none := rfl
@[simp] theorem wr56 : cf56.wr = fun _ => [] := rfl
def cf57 : Cfg := { wio := fun f i => false, live := fun r => none, dr := fun r => none }
@[simp] theorem wio57 : cf57.wio = fun f i => false := rfl
@[simp] theorem live57 : cf57.live = fun r => none := rfl
@[simp] theorem wr57 : cf57.wr = fun _ => [] := rfl
def cf58 : Cfg := { wio := fun f i => false, live := fun r => none, dr := fun r => none }
@[simp] theorem wio58 : cf58.wio = fun f i => false := rfl
@[simp] theorem live58 : cf58.live = fun r => none := rfl
@[simp] theorem wr58 : cf58.wr = fun _ => [] := rfl
def cf59 : Cfg := { wio := fun f i => false, live := fun r => if r = 2 then some [0, 7, 8, 9] else none, dr := fun r => none }
@[simp] theorem wio59 : cf59.wio = fun f i => false := rfl
@[simp] theorem live59 : cf59.live = fun r => if r = 2 then some [0, 7, 8, 9] else none := rfl
@[simp] theorem wr59 : cf59.wr = fun _ => [] := rfl
def cf60 : Cfg := { wio := fun f i => false, live := fun r => none, dr := fun r => none }
@[simp] theorem wio60 : cf60.wio = fun f i => false := rfl
@[simp] theorem live60 : cf60.live = fun r => none := rfl
@[simp] theorem wr60 : cf60.wr = fun _ => [] := rfl
def cf61 : Cfg := { wio := fun f i => false, live := fun r => if r = 2 then some [1, 8, 9, 10] else none, dr := fun r => none }
@[simp] theorem wio61 : cf61.wio = fun f i => false := rfl
@[simp] theorem live61 : cf61.live = fun r => if r = 2 then some [1, 8, 9, 10] else none := rfl
@[simp] theorem wr61 : cf61.wr = fun _ => [] := rfl
def cf62 : Cfg := { wio := fun f i => false, live := fun r => if r = 5 then some [2, 5, 37, 38, 39] else if r = 10 then some [2, 5, 37, 38, 39, 51, 52, 53] else none, dr := fun r => if r = 2 then some [(0, 0), (1, 0), (2, 0), (3, 0), (4, 0), (5, 0), (6, 0), (7, 0), (8, 0), (9, 0), (10, 0), (11, 0), (12, 1), (13, 0), (14, 0), (15, 0), (16, 0), (17, 0), (18, 0), (19, 0), (20, 0), (21, 0), (22, 0)] else none }
@[simp] theorem wio62 : cf62.wio = fun f i => false := rfl
@[simp] theorem live62 : cf62.live = fun r => if r = 5 then some [2, 5, 37, 38, 39] else if r = 10 then some [2, 5, 37, 38, 39, 51, 52, 53] else none := rfl
@[simp] theorem wr62 : cf62.wr = fun _ => [] := rfl
def cf63 : Cfg := { wio := fun f i => false, live := fun r => if r = 3 then some [0, 1, 4, 5, 6, 7, 10, 11, 12] else none, dr := fun r => none }
@[simp] theorem wio63 : cf63.wio = fun f i => false := rfl
@[simp] theorem live63 : cf63.live = fun r => if r = 3 then some [0, 1, 4, 5, 6, 7, 10, 11, 12] else none := rfl
@[simp] theorem wr63 : cf63.wr = fun _ => [] := rfl
def cf64 : Cfg := { wio := fun f i => false, live := fun r => none, dr := fun r => none }
@[simp] theorem wio64 : cf64.wio = fun f i => false := rfl
@[simp] theorem live64 : cf64.live = fun r => none := rfl
@[simp] theorem wr64 : cf64.wr = fun _ => [] := rfl
def cf65 : Cfg := { wio := fun f i => false, live := fun r => if r = 3 then some [0, 2, 3, 4, 8, 9, 10] else if r = 8 then some [0, 2, 3, 4, 5, 6, 7, 8, 9, 10] else none, dr := fun r => none }
@[simp] theorem wio65 : cf65.wio = fun f i => false := rfl
@[simp] theorem live65 : cf65.live = fun r => if r = 3 then some [0, 2, 3, 4, 8, 9, 10] else if r = 8 then some [0, 2, 3, 4, 5, 6, 7, 8, 9, 10] else none := rfl
@[simp] theorem wr65 : cf65.wr = fun _ => [] := rfl
def cf66 : Cfg := { wio := fun f i => false, live := fun r => if r = 4 then some [0, 1, 5] else none, dr := fun r => none }
@[simp] theorem wio66 : cf66.wio = fun f i => false := rfl
@[simp] theorem live66 : cf66.live = fun r => if r = 4 then some [0, 1, 5] else none := rfl
@[simp] theorem wr66 : cf66.wr = fun _ => [] := rfl
def cf70 : Cfg := { wio := fun f i => (f == 80 && (i == 0)), live := fun r => none, dr := fun r => none }
@[simp] theorem wio70 : cf70.wio = fun f i => (f == 80 && (i == 0)) := rfl
@[simp] theorem live70 : cf70.live = fun r => none := rfl
@[simp] theorem wr70 : cf70.wr = fun _ => [] := rfl
def cf71 : Cfg := { wio := fun f i => false, live := fun r => if r = 3 then some [3, 6, 7, 8] else none, dr := fun r => none }
@[simp] theorem wio71 : cf71.wio = fun f i => false := rfl
@[simp] theorem live71 : cf71.live = fun r => if r = 3 then some [3, 6, 7, 8] else none := rfl
@[simp] theorem wr71 : cf71.wr = fun _ => [] := rfl
def cf72 : Cfg := { wio := fun f i => false, live := fun r => none, dr := fun r => none }
@[simp] theorem wio72 : cf72.wio = fun f i => false := rfl
@[simp] theorem live72 : cf72.live = fun r => none := rfl
@[simp] theorem wr72 : cf72.wr = fun _ => [] := rfl
def cf73 : Cfg := { wio := fun f i => false, live := fun r => if r = 2 then some [0, 1, 9, 10, 11] else none, dr := fun r => none }
@[simp] theorem wio73 : cf73.wio = fun f i => false := rfl
@[simp] theorem live73 : cf73.live = fun r => if r = 2 then some [0, 1, 9, 10, 11] else none := rfl
@[simp] theorem wr73 : cf73.wr = fun _ => [] := rfl
def cf74 : Cfg := { wio := fun f i => false, live := fun r => if r = 2 then some [0, 1, 5] else none, dr := fun r => if r = 4 then some [(0, 0), (1, 0), (2, 0), (3, 0), (4, 0), (5, 0), (6, 0), (7, 0), (8, 0)] else if r = 5 then some [(0, 0), (1, 0), (2, 0), (3, 0), (4, 0), (5, 0), (6, 0), (7, 0), (8, 0), (9, 0)] else none }
@[simp] theorem wio74 : cf74.wio = fun f i => false := rfl
@[simp] theorem live74 : cf74.live = fun r => if r = 2 then some [0, 1, 5] else none := rfl
@[simp] theorem wr74 : cf74.wr = fun _ => [] := rfl
def cf75 : Cfg := { wio := fun f i => false, live := fun r => none, dr := fun r => none }
@[simp] theorem wio75 : cf75.wio = fun f i => false := rfl
@[simp] theorem live75 : cf75.live = fun r => none := rfl
@[simp] theorem wr75 : cf75.wr = fun _ => [] := rfl
def cf80 : Cfg := { wio := fun f i => (f == 89 && (i == 0)), live := fun r => none, dr := fun r => none }
@[simp] theorem wio80 : cf80.wio = fun f i => (f == 89 && (i == 0)) := rfl
@[simp] theorem live80 : cf80.live = fun r => none := rfl
@[simp] theorem wr80 : cf80.wr = fun _ => [] := rfl
def cf81 : Cfg := { wio := fun f i => false, live := fun r => none, dr := fun r => none }
@[simp] theorem wio81 : cf81.wio = fun f i => false := rfl
@[simp] theorem live81 : cf81.live = fun r => none := rfl
@[simp] theorem wr81 : cf81.wr = fun _ => [] := rfl
def cf89 : Cfg := { wio := fun f i => false, live := fun r => none, dr := fun r => none }
@[simp] theorem wio89 : cf89.wio = fun f i => false := rfl
@[simp] theorem live89 : cf89.live = fun r => none := rfl
@[simp] theorem wr89 : cf89.wr = fun _ => [] := rfl
def cf93 : Cfg := { wio := fun f i => false, live := fun r => none, dr := fun r => none }
@[simp] theorem wio93 : cf93.wio = fun f i => false := rfl
@[simp] theorem live93 : cf93.live = fun r => none := rfl
@[simp] theorem wr93 : cf93.wr = fun _ => [] := rfl
def z1A (f : FuncId) : Option Cfg :=
  if f = 8 then some cf8 else
  if f = 11 then some cf11 else
  if f = 12 then some cf12 else
  if f = 15 then some cf15 else
  if f = 16 then some cf16 else
  if f = 17 then some cf17 else
  if f = 18 then some cf18 else
  if f = 19 then some cf19 else
  if f = 24 then some cf24 else
  if f = 28 then some cf28 else
  if f = 29 then some cf29 else
  if f = 30 then some cf30 else
  if f = 31 then some cf31 else
  if f = 32 then some cf32 else
  if f = 34 then some cf34 else
  if f = 35 then some cf35 else
  if f = 36 then some cf36 else
  if f = 38 then some cf38 else
  if f = 39 then some cf39 else
  if f = 40 then some cf40 else
  if f = 43 then some cf43 else
  if f = 44 then some cf44 else
  if f = 45 then some cf45 else
  if f = 46 then some cf46 else
  if f = 47 then some cf47 else
  if f = 54 then some cf54 else
  if f = 55 then some cf55 else
  if f = 56 then some cf56 else
  if f = 57 then some cf57 else
  if f = 58 then some cf58 else
  if f = 59 then some cf59 else
  if f = 60 then some cf60 else
  if f = 61 then some cf61 else
  if f = 62 then some cf62 else
  if f = 63 then some cf63 else
  if f = 64 then some cf64 else
  if f = 65 then some cf65 else
  if f = 66 then some cf66 else
  if f = 70 then some cf70 else
  if f = 71 then some cf71 else
  if f = 72 then some cf72 else
  if f = 73 then some cf73 else
  if f = 74 then some cf74 else
  if f = 75 then some cf75 else
  if f = 80 then some cf80 else
  if f = 81 then some cf81 else
  if f = 89 then some cf89 else
  if f = 93 then some cf93 else none
theorem zoI : z1A 8 = some cf8 := rfl
theorem znr : z1A 11 = some cf11 := rfl
theorem znq : z1A 12 = some cf12 := rfl
theorem znp : z1A 15 = some cf15 := rfl
theorem zno : z1A 16 = some cf16 := rfl
theorem znn : z1A 17 = some cf17 := rfl
theorem znm : z1A 19 = some cf19 := rfl
theorem znl : z1A 24 = some cf24 := rfl
theorem znk : z1A 28 = some cf28 := rfl
theorem znj : z1A 29 = some cf29 := rfl
theorem zni : z1A 30 = some cf30 := rfl
theorem znh : z1A 31 = some cf31 := rfl
theorem zng : z1A 32 = some cf32 := rfl
theorem znf : z1A 34 = some cf34 := rfl
theorem zne : z1A 35 = some cf35 := rfl
theorem znd : z1A 38 = some cf38 := rfl
theorem znc : z1A 39 = some cf39 := rfl
theorem znb : z1A 40 = some cf40 := rfl
theorem zna : z1A 43 = some cf43 := rfl
theorem zn9 : z1A 44 = some cf44 := rfl
theorem zn8 : z1A 45 = some cf45 := rfl
theorem zn7 : z1A 46 = some cf46 := rfl
theorem zn6 : z1A 47 = some cf47 := rfl
theorem zn5 : z1A 54 = some cf54 := rfl
theorem zn4 : z1A 55 = some cf55 := rfl
theorem zn3 : z1A 56 = some cf56 := rfl
theorem zn2 : z1A 57 = some cf57 := rfl
theorem zn1 : z1A 58 = some cf58 := rfl
theorem zn0 : z1A 59 = some cf59 := rfl
theorem zmZ : z1A 60 = some cf60 := rfl
theorem zmY : z1A 61 = some cf61 := rfl
theorem zmX : z1A 62 = some cf62 := rfl
theorem zmW : z1A 63 = some cf63 := rfl
theorem zmV : z1A 64 = some cf64 := rfl
theorem zmU : z1A 65 = some cf65 := rfl
theorem zmT : z1A 66 = some cf66 := rfl
theorem zmS : z1A 70 = some cf70 := rfl
theorem zmR : z1A 71 = some cf71 := rfl
theorem zmQ : z1A 72 = some cf72 := rfl
theorem zmP : z1A 73 = some cf73 := rfl
theorem zmO : z1A 74 = some cf74 := rfl
theorem zmN : z1A 75 = some cf75 := rfl
theorem zmM : z1A 80 = some cf80 := rfl
theorem zmL : z1A 81 = some cf81 := rfl
theorem zmK : z1A 89 = some cf89 := rfl
theorem zmJ : z1A 93 = some cf93 := rfl
theorem fn8 : Tryd.prog.funcs[8]? = some Tryd.f8 := by kernel_rfl
theorem zoG : Tryd.prog.funcs[11]? = some Tryd.f11 := by kernel_rfl
theorem zoF : Tryd.prog.funcs[12]? = some Tryd.f12 := by kernel_rfl
theorem zoE : Tryd.prog.funcs[15]? = some Tryd.f15 := by kernel_rfl
theorem zoD : Tryd.prog.funcs[16]? = some Tryd.f16 := by kernel_rfl
theorem zoC : Tryd.prog.funcs[17]? = some Tryd.f17 := by kernel_rfl
theorem zoB : Tryd.prog.funcs[19]? = some Tryd.f19 := by kernel_rfl
theorem zoA : Tryd.prog.funcs[24]? = some Tryd.f24 := by kernel_rfl
theorem zoz : Tryd.prog.funcs[28]? = some Tryd.f28 := by kernel_rfl
theorem zoy : Tryd.prog.funcs[29]? = some Tryd.f29 := by kernel_rfl
theorem zox : Tryd.prog.funcs[30]? = some Tryd.f30 := by kernel_rfl
theorem zow : Tryd.prog.funcs[31]? = some Tryd.f31 := by kernel_rfl
theorem zov : Tryd.prog.funcs[32]? = some Tryd.f32 := by kernel_rfl
theorem zou : Tryd.prog.funcs[34]? = some Tryd.f34 := by kernel_rfl
theorem zot : Tryd.prog.funcs[35]? = some Tryd.f35 := by kernel_rfl
theorem zos : Tryd.prog.funcs[38]? = some Tryd.f38 := by kernel_rfl
theorem zor : Tryd.prog.funcs[39]? = some Tryd.f39 := by kernel_rfl
theorem zoq : Tryd.prog.funcs[40]? = some Tryd.f40 := by kernel_rfl
theorem zop : Tryd.prog.funcs[43]? = some Tryd.f43 := by kernel_rfl
theorem zoo : Tryd.prog.funcs[44]? = some Tryd.f44 := by kernel_rfl
theorem zon : Tryd.prog.funcs[45]? = some Tryd.f45 := by kernel_rfl
theorem zom : Tryd.prog.funcs[46]? = some Tryd.f46 := by kernel_rfl
theorem zol : Tryd.prog.funcs[47]? = some Tryd.f47 := by kernel_rfl
theorem zok : Tryd.prog.funcs[54]? = some Tryd.f54 := by kernel_rfl
theorem zoj : Tryd.prog.funcs[55]? = some Tryd.f55 := by kernel_rfl
theorem zoi : Tryd.prog.funcs[56]? = some Tryd.f56 := by kernel_rfl
theorem zoh : Tryd.prog.funcs[57]? = some Tryd.f57 := by kernel_rfl
theorem zog : Tryd.prog.funcs[58]? = some Tryd.f58 := by kernel_rfl
theorem zof : Tryd.prog.funcs[59]? = some Tryd.f59 := by kernel_rfl
theorem zoe : Tryd.prog.funcs[60]? = some Tryd.f60 := by kernel_rfl
theorem zod : Tryd.prog.funcs[61]? = some Tryd.f61 := by kernel_rfl
theorem zoc : Tryd.prog.funcs[62]? = some Tryd.f62 := by kernel_rfl
theorem zob : Tryd.prog.funcs[63]? = some Tryd.f63 := by kernel_rfl
theorem zoa : Tryd.prog.funcs[64]? = some Tryd.f64 := by kernel_rfl
theorem zo9 : Tryd.prog.funcs[65]? = some Tryd.f65 := by kernel_rfl
theorem zo8 : Tryd.prog.funcs[66]? = some Tryd.f66 := by kernel_rfl
theorem zo7 : Tryd.prog.funcs[70]? = some Tryd.f70 := by kernel_rfl
theorem zo6 : Tryd.prog.funcs[71]? = some Tryd.f71 := by kernel_rfl
theorem zo5 : Tryd.prog.funcs[72]? = some Tryd.f72 := by kernel_rfl
theorem zo4 : Tryd.prog.funcs[73]? = some Tryd.f73 := by kernel_rfl
theorem zo3 : Tryd.prog.funcs[74]? = some Tryd.f74 := by kernel_rfl
theorem zo2 : Tryd.prog.funcs[75]? = some Tryd.f75 := by kernel_rfl
theorem zo1 : Tryd.prog.funcs[80]? = some Tryd.f80 := by kernel_rfl
theorem zo0 : Tryd.prog.funcs[81]? = some Tryd.f81 := by kernel_rfl
theorem znZ : Tryd.prog.funcs[89]? = some Tryd.f89 := by kernel_rfl
theorem znY : Tryd.prog.funcs[93]? = some Tryd.f93 := by kernel_rfl
noncomputable def cd8 : Code := match Tryd.f8.body with | some c => c | none => .skip
theorem bd8 : Tryd.f8.body = some cd8 := by kernel_rfl
noncomputable def zps : Code := match Tryd.f11.body with | some c => c | none => .skip
theorem zqe : Tryd.f11.body = some zps := by kernel_rfl
noncomputable def zpr : Code := match Tryd.f12.body with | some c => c | none => .skip
theorem zqd : Tryd.f12.body = some zpr := by kernel_rfl
noncomputable def zpq : Code := match Tryd.f15.body with | some c => c | none => .skip
theorem zqb : Tryd.f15.body = some zpq := by kernel_rfl
noncomputable def zpp : Code := match Tryd.f16.body with | some c => c | none => .skip
theorem zqa : Tryd.f16.body = some zpp := by kernel_rfl
noncomputable def zpo : Code := match Tryd.f17.body with | some c => c | none => .skip
theorem zq9 : Tryd.f17.body = some zpo := by kernel_rfl
noncomputable def zpn : Code := match Tryd.f19.body with | some c => c | none => .skip
theorem zq8 : Tryd.f19.body = some zpn := by kernel_rfl
noncomputable def zpm : Code := match Tryd.f24.body with | some c => c | none => .skip
theorem zq7 : Tryd.f24.body = some zpm := by kernel_rfl
noncomputable def zpl : Code := match Tryd.f28.body with | some c => c | none => .skip
theorem zq6 : Tryd.f28.body = some zpl := by kernel_rfl
noncomputable def zpk : Code := match Tryd.f29.body with | some c => c | none => .skip
theorem zq5 : Tryd.f29.body = some zpk := by kernel_rfl
noncomputable def zpj : Code := match Tryd.f30.body with | some c => c | none => .skip
theorem zq4 : Tryd.f30.body = some zpj := by kernel_rfl
noncomputable def zpi : Code := match Tryd.f31.body with | some c => c | none => .skip
theorem zq3 : Tryd.f31.body = some zpi := by kernel_rfl
noncomputable def zph : Code := match Tryd.f32.body with | some c => c | none => .skip
theorem zq2 : Tryd.f32.body = some zph := by kernel_rfl
noncomputable def zpg : Code := match Tryd.f34.body with | some c => c | none => .skip
theorem zq1 : Tryd.f34.body = some zpg := by kernel_rfl
noncomputable def zpf : Code := match Tryd.f35.body with | some c => c | none => .skip
theorem zq0 : Tryd.f35.body = some zpf := by kernel_rfl
noncomputable def zpe : Code := match Tryd.f38.body with | some c => c | none => .skip
theorem zpZ : Tryd.f38.body = some zpe := by kernel_rfl
noncomputable def zpd : Code := match Tryd.f39.body with | some c => c | none => .skip
theorem zpY : Tryd.f39.body = some zpd := by kernel_rfl
noncomputable def zpc : Code := match Tryd.f40.body with | some c => c | none => .skip
theorem zpX : Tryd.f40.body = some zpc := by kernel_rfl
noncomputable def zpb : Code := match Tryd.f43.body with | some c => c | none => .skip
theorem zpW : Tryd.f43.body = some zpb := by kernel_rfl
noncomputable def zpa : Code := match Tryd.f44.body with | some c => c | none => .skip
theorem zpV : Tryd.f44.body = some zpa := by kernel_rfl
noncomputable def zp9 : Code := match Tryd.f45.body with | some c => c | none => .skip
theorem zpU : Tryd.f45.body = some zp9 := by kernel_rfl
noncomputable def zp8 : Code := match Tryd.f46.body with | some c => c | none => .skip
theorem zpT : Tryd.f46.body = some zp8 := by kernel_rfl
noncomputable def zp7 : Code := match Tryd.f47.body with | some c => c | none => .skip
theorem zpS : Tryd.f47.body = some zp7 := by kernel_rfl
noncomputable def zp6 : Code := match Tryd.f54.body with | some c => c | none => .skip
theorem zpR : Tryd.f54.body = some zp6 := by kernel_rfl
noncomputable def zp5 : Code := match Tryd.f55.body with | some c => c | none => .skip
theorem zpQ : Tryd.f55.body = some zp5 := by kernel_rfl
noncomputable def zp4 : Code := match Tryd.f56.body with | some c => c | none => .skip
theorem zpP : Tryd.f56.body = some zp4 := by kernel_rfl
noncomputable def zp3 : Code := match Tryd.f57.body with | some c => c | none => .skip
theorem zpO : Tryd.f57.body = some zp3 := by kernel_rfl
noncomputable def zp2 : Code := match Tryd.f58.body with | some c => c | none => .skip
theorem zpN : Tryd.f58.body = some zp2 := by kernel_rfl
noncomputable def zp1 : Code := match Tryd.f59.body with | some c => c | none => .skip
theorem zpM : Tryd.f59.body = some zp1 := by kernel_rfl
noncomputable def zp0 : Code := match Tryd.f60.body with | some c => c | none => .skip
theorem zpL : Tryd.f60.body = some zp0 := by kernel_rfl
noncomputable def zoZ : Code := match Tryd.f61.body with | some c => c | none => .skip
theorem zpK : Tryd.f61.body = some zoZ := by kernel_rfl
noncomputable def zoY : Code := match Tryd.f62.body with | some c => c | none => .skip
theorem zpJ : Tryd.f62.body = some zoY := by kernel_rfl
noncomputable def zoX : Code := match Tryd.f63.body with | some c => c | none => .skip
theorem zpI : Tryd.f63.body = some zoX := by kernel_rfl
noncomputable def zoW : Code := match Tryd.f64.body with | some c => c | none => .skip
theorem zpH : Tryd.f64.body = some zoW := by kernel_rfl
noncomputable def zoV : Code := match Tryd.f65.body with | some c => c | none => .skip
theorem zpG : Tryd.f65.body = some zoV := by kernel_rfl
noncomputable def zoU : Code := match Tryd.f66.body with | some c => c | none => .skip
theorem zpF : Tryd.f66.body = some zoU := by kernel_rfl
noncomputable def zoT : Code := match Tryd.f70.body with | some c => c | none => .skip
theorem zpE : Tryd.f70.body = some zoT := by kernel_rfl
noncomputable def zoS : Code := match Tryd.f71.body with | some c => c | none => .skip
theorem zpD : Tryd.f71.body = some zoS := by kernel_rfl
noncomputable def zoR : Code := match Tryd.f72.body with | some c => c | none => .skip
theorem zpC : Tryd.f72.body = some zoR := by kernel_rfl
noncomputable def zoQ : Code := match Tryd.f73.body with | some c => c | none => .skip
theorem zpB : Tryd.f73.body = some zoQ := by kernel_rfl
noncomputable def zoP : Code := match Tryd.f74.body with | some c => c | none => .skip
theorem zpA : Tryd.f74.body = some zoP := by kernel_rfl
noncomputable def zoO : Code := match Tryd.f75.body with | some c => c | none => .skip
theorem zpz : Tryd.f75.body = some zoO := by kernel_rfl
noncomputable def zoN : Code := match Tryd.f80.body with | some c => c | none => .skip
theorem zpy : Tryd.f80.body = some zoN := by kernel_rfl
noncomputable def zoM : Code := match Tryd.f81.body with | some c => c | none => .skip
theorem zpx : Tryd.f81.body = some zoM := by kernel_rfl
noncomputable def zoL : Code := match Tryd.f89.body with | some c => c | none => .skip
theorem zpw : Tryd.f89.body = some zoL := by kernel_rfl
noncomputable def zoK : Code := match Tryd.f93.body with | some c => c | none => .skip
theorem zpv : Tryd.f93.body = some zoK := by kernel_rfl
noncomputable def xt : z0m -> z0m := xtF
noncomputable def L : z0m := Lim Tryd.prog xt z1A
theorem z1Q {f : FuncId} {c : Cfg} {fn : Func} {args : List T} {o : T × List T} (hc : z1A f = some c) (hfn : Tryd.prog.funcs[f]? = some fn) (h : zcr Tryd.prog L c LFm fn args = some o) : L f args = some o := zk0 hc hfn h
end
section
open Go
theorem zeS {σ ρ : Type} {b : σ -> Option (σ ⊕ ρ)} {x : Option ρ} : ∀ (n : Nat) (f : Nat -> σ) (m : Nat), n < m -> (∀ k, k < n -> b (f k) = z0y (f (k + 1))) -> b (f n) = z0t x -> z0E b m (f 0) = x
  | 0, f, m + 1, _, _, hl => by
    simp only [z0E, hl]
    cases x <;> rfl
  | n + 1, f, m + 1, hm, hs, hl => by
    simp only [z0E, hs 0 (by omega), z0y]
    exact zeS n (fun k => f (k + 1)) m (by omega) (fun k hk => hs (k + 1) (by omega)) hl
theorem z2L {σ ρ : Type} {b : σ -> Option (σ ⊕ ρ)} {x : Option ρ} (n : Nat) (f : Nat -> σ) {s : σ} (h0 : s = f 0) (hn : n < LFm) (step : ∀ k, k < n -> b (f k) = z0y (f (k + 1))) (last : b (f n) = z0t x) : z0E b LFm s = x := by
  subst h0; exact zeS n f LFm hn step last
theorem zb6 {σ ρ : Type} {b : σ -> Option (σ ⊕ ρ)} {x : Option ρ} {p : Nat -> Bool} {A : Nat -> Option ρ} : ∀ (n : Nat) (f : Nat -> σ) (m i : Nat), n < m -> (∀ k, k < n -> b (f k) = if p (i + k) = true then z0t (A (i + k)) else z0y (f (k + 1))) -> b (f n) = z0t x ->
    z0E b m (f 0) = match ((List.range n).map (i + ·)).find? p with | some k => A k | none => x
  | 0, f, m + 1, i, _, _, hl => by
    simp only [z0E, hl]
    cases x <;> rfl
  | n + 1, f, m + 1, i, hm, hs, hl => by
    have h0 := hs 0 (by omega)
    have hmap : (List.range (n + 1)).map (i + ·) = i :: (List.range n).map (i + 1 + ·) := by
      rw [List.range_succ_eq_map, List.map_cons, List.map_map]
      congr 1
      apply List.map_congr_left
      intro k _
      simp only [Function.comp]
      omega
    rw [hmap, List.find?_cons]
    simp only [Nat.add_zero] at h0
    by_cases hp : p i = true
    · rw [if_pos hp] at h0
      rw [hp]
      simp only [z0E, h0]
      generalize A i = y
      cases y <;> rfl
    · rw [if_neg hp] at h0
      have hp' : p i = false := by simpa using hp
      rw [hp']
      simp only [z0E, h0, z0y]
      exact zb6 n (fun k => f (k + 1)) m (i + 1) (by omega) (fun k hk => by rw [hs (k + 1) (by omega), show i + (k + 1) = i + 1 + k by omega]) hl
theorem z2Y {σ ρ : Type} {b : σ -> Option (σ ⊕ ρ)} {x : Option ρ} (n : Nat) (f : Nat -> σ) (p : Nat -> Bool) (A : Nat -> Option ρ) {s : σ} (h0 : s = f 0) (hn : n < LFm) (step : ∀ k, k < n -> b (f k) = if p k = true then z0t (A k) else z0y (f (k + 1))) (last : b (f n) = z0t x) :
    z0E b LFm s = match (List.range n).find? p with | some k => A k | none => x := by
  subst h0
  have := zb6 n f LFm 0 hn (p := p) (A := A) (fun k hk => by rw [step k hk]; simp) last
  simpa using this
theorem z1E {k : Nat} (h : k < 4611686018427387904) : IntKind.i64.wrap ((k : Int) + 1) = ((k + 1 : Nat) : Int) := by
  rw [IntWalk.i64_in _ (by omega)]; omega
theorem z5Q {x : Int} (h : -9223372036854775808 <= x) (h2 : x < 9223372036854775808) : IntKind.i64.wrap x = x := IntWalk.i64_in _ (by omega)
theorem zgP {x : Int} (h : 0 <= x) (h2 : x < 256) : IntKind.u8.wrap x = x := by rw [IntKind.wrap_u8]; omega
theorem z0T {α : Type} {xs : List α} {k : Nat} (h : k < xs.length) : atI xs (k : Int) = some xs[k] := by
  unfold atI; rw [if_pos (by omega), Int.toNat_natCast, List.getElem?_eq_getElem h]
theorem zap {s : ByteArray} {k : Nat} (h : k < s.size) : zbY s (k : Int) = some (s[k].toNat : Int) := by
  unfold zbY; rw [if_pos (by omega), Int.toNat_natCast, getElem?_pos s k h]; rfl
theorem z8t {α : Type} {xs : List α} {k : Nat} (h : k <= xs.length) : z6i xs 0 (k : Int) = some (xs.take k) := by
  unfold z6i; rw [if_pos (by omega)]; simp
theorem zdO {α : Type} {xs : List α} {k : Nat} (h : k <= xs.length) : z6i xs (k : Int) (xs.length : Int) = some (xs.drop k) := by
  unfold z6i; rw [if_pos (by omega)]; simp [List.take_of_length_le]
theorem z0R {α : Type} {p : Prop} [Decidable p] (x : Option α) (h : p) : chk p x = x := by unfold chk; rw [if_pos h]
theorem z8J {p : Nat -> Bool} {n : Nat} : (List.range n).find? p = none ↔ ∀ k, k < n -> p k = false := by simp
theorem z8I {p : Nat -> Bool} {n k : Nat} : (List.range n).find? p = some k ↔ k < n /\ p k = true /\ ∀ j, j < k -> p j = false := by
  rw [List.find?_range_eq_some]; simp; constructor
  · rintro ⟨a, b, c⟩; exact ⟨b, a, c⟩
  · rintro ⟨a, b, c⟩; exact ⟨b, a, c⟩
theorem z6D {ρ : Type} {p : Nat -> Bool} {n : Nat} (a b : ρ) : (match (List.range n).find? p with | some _ => a | none => b) = if (List.range n).all (fun k => !p k) then b else a := by
  cases h : (List.range n).find? p with
  | none => rw [z8J] at h; rw [if_pos (by simpa using h)]
  | some k =>
    rw [z8I] at h
    rw [if_neg]
    simp only [List.all_eq_true, List.mem_range, Bool.not_eq_true']
    intro hh
    have := hh k h.1
    rw [h.2.1] at this
    cases this
theorem zhu {α : Type} (p : α -> Bool) (l : List α) (d : α) : (List.range l.length).all (fun k => p (l.getD k d)) = l.all p := by
  rw [Bool.eq_iff_iff, List.all_eq_true, List.all_eq_true]
  constructor
  · intro h x hx
    obtain ⟨i, hi, rfl⟩ := List.getElem_of_mem hx
    have := h i (List.mem_range.2 hi)
    simpa only [List.getD, List.getElem?_eq_getElem hi, Option.getD_some] using this
  · intro h i hi
    have hi := List.mem_range.1 hi
    have := h _ (List.getElem_mem hi)
    simpa only [List.getD, List.getElem?_eq_getElem hi, Option.getD_some] using this
theorem za9 {α ρ : Type} {b : Int -> Option (Int ⊕ ρ)} {l : List α} (d : α) (p : α -> Bool) {A B : Option ρ} (h : l.length < 4611686018427387904) (step : ∀ k, k < l.length -> b (k : Int) = if p (l.getD k d) = true then z0y ((k + 1 : Nat) : Int) else z0t A) (last : b (l.length : Int) = z0t B) :
    z0E b LFm 0 = if l.all p = true then B else A := by
  rw [z2Y (s := (0 : Int)) l.length (fun k => (k : Int)) (fun k => !p (l.getD k d)) (fun _ => A) (x := B) rfl (by simp only [LFm]; omega) (fun k hk => ?_) last]
  · rw [z6D]
    simp only [Bool.not_not]
    rw [zhu]
  · rw [step k hk]
    cases p (l.getD k d) <;> simp
end
section
open Go.RowKit
def Cells (w : World) (ga : Option Addr) (n : Nat) (F : Nat -> Value) : Prop := ∀ j, j < n -> ∃ g o, ga = some ⟨g, o, none⟩ /\ w.cell? ⟨g, o + j, none⟩ = some (F j)
theorem z9c {w w' : World} (hb : Below w.heap.size w w') {a : Addr} {v : Value} (h : w.cell? a = some v) : w'.cell? a = some v := by
  rw [hb.cell (World.block_lt_of_cell? w a h)]; exact h
theorem Cells.below {w w' : World} {ga : Option Addr} {n : Nat} {F : Nat -> Value} (h : Cells w ga n F) (hb : Below w.heap.size w w') : Cells w' ga n F := fun j hj => by
  obtain ⟨g, o, e, hc⟩ := h j hj
  exact ⟨g, o, e, z9c hb hc⟩
theorem Cells.mono {w : World} {ga : Option Addr} {n m : Nat} {F : Nat -> Value} (h : Cells w ga n F) (hm : m <= n) : Cells w ga m F := fun j hj => h j (by omega)
theorem Cells.congr {w : World} {ga : Option Addr} {n : Nat} {F G : Nat -> Value} (h : Cells w ga n F) (e : ∀ j, j < n -> F j = G j) : Cells w ga n G := fun j hj => by
  obtain ⟨g, o, e1, hc⟩ := h j hj
  exact ⟨g, o, e1, by rw [hc, e j hj]⟩
def IntsAt (w : World) (v : Value) (xs : List Int) : Prop :=
  ∃ ga cap, v = .slice ga xs.length cap /\ xs.length <= cap /\ cap <= maxLen /\ Cells w ga xs.length (fun j => .int .i64 (xs.getD j 0))
theorem IntsAt.below {w w' : World} {v : Value} {xs : List Int} (h : IntsAt w v xs) (hb : Below w.heap.size w w') : IntsAt w' v xs := by
  obtain ⟨ga, cap, e, h1, h2, h3⟩ := h
  exact ⟨ga, cap, e, h1, h2, h3.below hb⟩
def RowsAt (w : World) (v : Value) (rows : List (List Int)) : Prop :=
  ∃ ga cap, ∃ F : Nat -> Value, v = .slice ga rows.length cap /\ rows.length <= cap /\ cap <= maxLen /\ Cells w ga rows.length F /\ ∀ j, j < rows.length -> IntsAt w (F j) (rows.getD j [])
theorem RowsAt.below {w w' : World} {v : Value} {rows : List (List Int)} (h : RowsAt w v rows) (hb : Below w.heap.size w w') : RowsAt w' v rows := by
  obtain ⟨ga, cap, F, e, h1, h2, h3, h4⟩ := h
  exact ⟨ga, cap, F, e, h1, h2, h3.below hb, fun j hj => (h4 j hj).below hb⟩
structure CRow where
  pre : List Int
  maps : List (List Int)
deriving Inhabited
structure Casc where
  letters : Int
  sizes : List Int
  rows : List CRow
deriving Inhabited
def CRowsAt (w : World) (v : Value) (rows : List CRow) : Prop :=
  ∃ ga cap, ∃ F G : Nat -> Value, v = .slice ga rows.length cap /\ rows.length <= cap /\ cap <= maxLen /\ ∀ j, (h : j < rows.length) -> ∃ g o, ga = some ⟨g, o, none⟩ /\ w.cell? ⟨g, o + j * 2, none⟩ = some (F j) /\ w.cell? ⟨g, o + j * 2 + 1, none⟩ = some (G j) /\ IntsAt w (F j) rows[j].pre /\ RowsAt w (G j) rows[j].maps
theorem CRowsAt.below {w w' : World} {v : Value} {rows : List CRow} (h : CRowsAt w v rows) (hb : Below w.heap.size w w') : CRowsAt w' v rows := by
  obtain ⟨ga, cap, F, G, e, h1, h2, h3⟩ := h
  refine ⟨ga, cap, F, G, e, h1, h2, fun j hj => ?_⟩
  obtain ⟨g, o, e1, c1, c2, i1, i2⟩ := h3 j hj
  exact ⟨g, o, e1, z9c hb c1, z9c hb c2, i1.below hb, i2.below hb⟩
def CascAt (w : World) (v : Value) (c : Casc) : Prop :=
  ∃ s r, v = .agg #[.int .i64 c.letters, s, r] /\ IntsAt w s c.sizes /\ CRowsAt w r c.rows
theorem CascAt.below {w w' : World} {v : Value} {c : Casc} (h : CascAt w v c) (hb : Below w.heap.size w w') : CascAt w' v c := by
  obtain ⟨s, r, e, h1, h2⟩ := h
  exact ⟨s, r, e, h1.below hb, h2.below hb⟩
end
section
open Go
noncomputable section
set_option maxRecDepth 100000
set_option maxHeartbeats 4000000
structure Tape where
  l : List Int
  at_ : Int
deriving Inhabited
def z5h (a0 : Int) (a1 : Int) : Option (Int) :=
  if a1 < 1 then
    some 0
  else
    chk (¬ a1 = 0) <|
    if (Int.tmod a0 a1) < 0 then
      some (IntKind.i64.wrap ((Int.tmod a0 a1) + a1))
    else
      some (Int.tmod a0 a1)
theorem z5y {a0 : Int} {a1 : Int} {r : Int} (h0 : z5h a0 a1 = some r) : L 15 [.sc (.int .i64 a0), .sc (.int .i64 a1)] = some (.sc (.int .i64 r), [.dead, .dead]) := by
  simp only [z5h] at h0
  refine z1Q znp zoE (z0F zqb ⟨of_decide_eq_true rfl, of_decide_eq_true rfl⟩ ?_)
  simp only [z0K, z0H, z0G, z0L, z1S]
  refine zq rfl (zr rfl rfl rfl (by simp; rfl) ?_)
  refine z0a (zq rfl (zq rfl (zr rfl rfl rfl (by simp; rfl) ?_)))
  refine z0a ?_
  by_cases c4 : a1 < 1
  ·rw [if_pos c4] at h0
   refine z0p rfl (by simp [c4]) (zq rfl (zr rfl rfl rfl (by simp; rfl) ?_))
   refine z0a (z0o rfl (z0c ?_))
   cases h0
   simp
  ·rw [if_neg c4] at h0
   refine z0s rfl (by simp [c4]) (z0n rfl (z0a (zq rfl ?_)))
   obtain ⟨f5, h1⟩ := z1a h0
   refine zr rfl rfl rfl (by simp [f5]; rfl) ?_
   refine z0a (zq rfl (zq rfl (zr rfl rfl rfl (by simp; rfl) ?_)))
   refine z0a ?_
   by_cases c6 : (Int.tmod a0 a1) < 0
   ·rw [if_pos c6] at h1
    refine z0p rfl (by simp [c6]) (zr rfl rfl rfl (by simp; rfl) ?_)
    refine z0a (zq rfl (zr rfl rfl rfl (by simp; rfl) ?_))
    refine z0a (z0o rfl ?_)
    cases h1
    simp
   ·rw [if_neg c6] at h1
    refine z0s rfl (by simp [c6]) (z0n rfl (z0a (zq rfl (zr rfl rfl rfl (by simp; rfl) ?_))))
    refine z0a (z0o rfl ?_)
    cases h1
    simp
def z0U (a0 : Tape) (a1 : Int) : Option (Int × Tape) :=
  if (a0.l.length : Int) <= a0.at_ then
    some (0, a0)
  else
    (atI a0.l (IntKind.i64.wrap ((IntKind.i64.wrap (a0.at_ + 1)) - 1))).bind fun v3 =>
    (z5h v3 a1).bind fun v4 =>
    some (v4, (⟨a0.l, IntKind.i64.wrap (a0.at_ + 1)⟩ : Tape))
theorem z1d {a0 : Tape} {a1 : Int} {r : Int × Tape} (h0 : z0U a0 a1 = some r) : L 16 [.vr [.sl a0.l.length (a0.l.map fun x0 => .sc (.int .i64 x0)), .sc (.int .i64 a0.at_)], .sc (.int .i64 a1)] = some (.sc (.int .i64 r.1), [.vr [.sl r.2.l.length (r.2.l.map fun x0 => .sc (.int .i64 x0)), .sc (.int .i64 r.2.at_)], .dead]) := by
  simp only [z0U] at h0
  refine z1Q zno zoD (z0F zqa ⟨of_decide_eq_true rfl, of_decide_eq_true rfl⟩ ?_)
  simp only [z0K, z0H, z0G, z0L, z1S]
  refine zq rfl (zr rfl rfl rfl (by simp; rfl) ?_)
  refine z0a (zq rfl (zq rfl ?_))
  refine z1o rfl rfl rfl rfl ?_; repeat' ((first | refine z0D rfl rfl fun Q' hQ => ?_ | refine z0A rfl fun Q' hQ => ?_); simp; refine hQ.out _ ?_; clear hQ; clear Q')
  refine z0a ?_
  by_cases c4 : (a0.l.length : Int) <= a0.at_
  ·rw [if_pos c4] at h0
   refine z0p rfl (by simp [c4]) (zq rfl (zr rfl rfl rfl (by simp; rfl) ?_))
   refine z0a (z0o rfl (z0c ?_))
   cases h0
   simp
  ·rw [if_neg c4] at h0
   refine z0s rfl (by simp [c4]) (z0n rfl (z0a (zq rfl (zr rfl rfl rfl (by simp; rfl) ?_))))
   refine z0a (zq rfl ?_)
   obtain ⟨v3, f5, h1⟩ := z1x h0
   obtain ⟨v4, f6, h2⟩ := z0b h1
   have f6k := z5y f6
   try simp at f6k
   refine z1o rfl rfl rfl rfl ?_; repeat' ((first | refine z0D rfl rfl fun Q' hQ => ?_ | refine z0A rfl fun Q' hQ => ?_); simp [f5, f6k]; refine hQ.out _ ?_; clear hQ; clear Q')
   refine z0a (z0o rfl ?_)
   cases h2
   simp
def z8z (a0 : List Int) : Option (Tape) :=
  if 80 < (a0.length : Int) then
    (z6i a0 0 80).bind fun v2 =>
    some (⟨v2, 0⟩ : Tape)
  else
    some (⟨a0, 0⟩ : Tape)
theorem zdY {a0 : List Int} {r : Tape} (h0 : z8z a0 = some r) : L 11 [.sl a0.length (a0.map fun x0 => .sc (.int .i64 x0))] = some (.vr [.sl r.l.length (r.l.map fun x0 => .sc (.int .i64 x0)), .sc (.int .i64 r.at_)], [.dead]) := by
  simp only [z8z] at h0
  refine z1Q znr zoG (z0F zqe ⟨of_decide_eq_true rfl, of_decide_eq_true rfl⟩ ?_)
  simp only [z0K, z0H, z0G, z0L, z1S]
  refine zq rfl (zr rfl rfl rfl (by simp; rfl) ?_)
  refine z0a (zq rfl (zq rfl (zr rfl rfl rfl (by simp; rfl) ?_)))
  refine z0a ?_
  by_cases c3 : 80 < (a0.length : Int)
  ·rw [if_pos c3] at h0
   refine z0p rfl (by simp [c3]) ?_
   obtain ⟨v2, f4, h1⟩ := z0b h0
   obtain ⟨f4a, f4b, f4c, -⟩ := z3O f4
   obtain ⟨f4d, f4g⟩ := z6x f4a f4b
   have f4e := z6h (g := fun x : Int => (.sc (.int .i64 x) : T)) f4
   try simp at f4e
   have f4f := z6g f4
   try simp only [Int.reduceToNat, Int.toNat_natCast, Nat.sub_zero] at f4f
   refine zr rfl rfl rfl (by simp [f4a, f4b, f4c, f4d, f4g, f4e, f4f]; rfl) ?_
   refine z0a (zq rfl (zr rfl rfl rfl (by simp; rfl) ?_))
   refine z0a (z0o rfl ?_)
   cases h1
   simp
  ·rw [if_neg c3] at h0
   refine z0s rfl (by simp [c3]) (z0n rfl (z0a (zq rfl (zr rfl rfl rfl (by simp; rfl) ?_))))
   refine z0a (z0o rfl ?_)
   cases h0
   simp
end
end
section
open Go
noncomputable section
set_option maxRecDepth 100000
set_option maxHeartbeats 4000000
def cmp_isNaN_int (a0 : Int) : Option (Bool) :=
  some (!decide (a0 = a0))
theorem z6J {a0 : Int} {r : Bool} (h0 : cmp_isNaN_int a0 = some r) : L 81 [.sc (.int .i64 a0)] = some (.sc (.bool r), [.dead]) := by
  simp only [cmp_isNaN_int] at h0
  refine z1Q zmL zo0 (z0F zpx ⟨of_decide_eq_true rfl, of_decide_eq_true rfl⟩ ?_)
  simp only [z0K, z0H, z0G, z0L, z1S]
  refine zq rfl (zr rfl rfl rfl (by simp; rfl) ?_)
  refine z0a (zq rfl (zr rfl rfl rfl (by simp; rfl) ?_))
  refine z0a (z0o rfl ?_)
  cases h0
  simp
def cmp_Compare_int (a0 : Int) (a1 : Int) : Option (Int) :=
  (cmp_isNaN_int a0).bind fun v3 =>
  (cmp_isNaN_int a1).bind fun v4 =>
  if v3 = true then
    if v4 = true then
      some 0
    else
      some (-1)
  else
    if v4 = true then
      some 1
    else
      if a0 < a1 then
        some (-1)
      else
        if a1 < a0 then
          some 1
        else
          some 0
theorem z5P {a0 : Int} {a1 : Int} {r : Int} (h0 : cmp_Compare_int a0 a1 = some r) : L 72 [.sc (.int .i64 a0), .sc (.int .i64 a1)] = some (.sc (.int .i64 r), [.dead, .dead]) := by
  simp only [cmp_Compare_int] at h0
  refine z1Q zmQ zo5 (z0F zpC ⟨of_decide_eq_true rfl, of_decide_eq_true rfl⟩ ?_)
  simp only [z0K, z0H, z0G, z0L, z1S]
  refine zq rfl (zr rfl rfl rfl (by simp; rfl) ?_)
  refine z0a (zq rfl ?_)
  obtain ⟨v3, f8, h1⟩ := z0b h0
  have f8k := z6J f8
  try simp at f8k
  refine zr rfl rfl rfl (by simp [f8k]; rfl) ?_
  refine z0a (zq rfl ?_)
  obtain ⟨v4, f9, h2⟩ := z0b h1
  have f9k := z6J f9
  try simp at f9k
  refine zr rfl rfl rfl (by simp [f9k]; rfl) ?_
  refine z0a (zq rfl (zq rfl (zr rfl rfl rfl (by simp; rfl) ?_)))
  refine z0a ?_
  by_cases c10 : v3 = true
  ·rw [if_pos c10] at h2
   refine z0p rfl (by simp [c10]) (zq rfl (zq rfl (zr rfl rfl rfl (by simp; rfl) ?_)))
   refine z0a ?_
   by_cases c11 : v4 = true
   ·rw [if_pos c11] at h2
    refine z0p rfl (by simp [c11]) (zq rfl (zr rfl rfl rfl (by simp; rfl) ?_))
    refine z0a (z0o rfl (z0c (z0c ?_)))
    cases h2
    simp [c10, c11]
   ·rw [if_neg c11] at h2
    refine z0s rfl (by simp [c11]) (z0n rfl (z0a (zq rfl (zr rfl rfl rfl (by simp; rfl) ?_))))
    refine z0a (z0o rfl (z0c ?_))
    cases h2
    simp [c10, c11]
  ·rw [if_neg c10] at h2
   refine z0s rfl (by simp [c10]) (z0n rfl (z0a (zq rfl (zq rfl (zr rfl rfl rfl (by simp; rfl) ?_)))))
   refine z0a ?_
   by_cases c12 : v4 = true
   ·rw [if_pos c12] at h2
    refine z0p rfl (by simp [c12]) (zq rfl (zr rfl rfl rfl (by simp; rfl) ?_))
    refine z0a (z0o rfl (z0c ?_))
    cases h2
    simp [c10, c12]
   ·rw [if_neg c12] at h2
    refine z0s rfl (by simp [c12]) (z0n rfl (z0a (zq rfl (zq rfl (zr rfl rfl rfl (by simp; rfl) ?_)))))
    refine z0a ?_
    by_cases c13 : a0 < a1
    ·rw [if_pos c13] at h2
     refine z0p rfl (by simp [c13]) (zq rfl (zr rfl rfl rfl (by simp; rfl) ?_))
     refine z0a (z0o rfl (z0c ?_))
     cases h2
     simp [c10, c12]
    ·rw [if_neg c13] at h2
     refine z0s rfl (by simp [c13]) (z0n rfl (z0a (zq rfl (zq rfl (zr rfl rfl rfl (by simp; rfl) ?_)))))
     refine z0a ?_
     by_cases c14 : a1 < a0
     ·rw [if_pos c14] at h2
      refine z0p rfl (by simp [c14]) (zq rfl (zr rfl rfl rfl (by simp; rfl) ?_))
      refine z0a (z0o rfl (z0c ?_))
      cases h2
      simp [c10, c12]
     ·rw [if_neg c14] at h2
      refine z0s rfl (by simp [c14]) (z0n rfl (z0a (zq rfl (zr rfl rfl rfl (by simp; rfl) ?_))))
      refine z0a (z0o rfl ?_)
      cases h2
      simp [c10, c12]
def z5k (a0 : List Int) : Int -> Option (Int ⊕ Int)
  | w6 =>
  if w6 < (a0.length : Int) then
    (atI a0 w6).bind fun v8 =>
    if v8 = 0 then
      z0y (IntKind.i64.wrap (w6 + 1))
    else
      z0t <|
      some v8
  else
    z0t <|
    some 0
def z5j (a0 : List Int) : Int -> Fr
  | w6 => ⟨18, [(3, .one (.t none (.sc (.int .i64 0)))), (6, .one (.t none (.sl a0.length (a0.map fun x0 => .sc (.int .i64 x0))))), (7, .one (.t none (.sc (.int .i64 (a0.length : Int))))), (8, .one (.t none (.sc (.int .i64 w6))))], []⟩
def z6o (a0 : List Int) : Option (Int) :=
  z0E (z5k a0) LFm 0
theorem zbW {a0 : List Int} {r : Int} (h0 : z6o a0 = some r) : L 71 [.sl a0.length (a0.map fun x0 => .sc (.int .i64 x0))] = some (.sc (.int .i64 r), [.dead]) := by
  simp only [z6o] at h0
  refine z1Q zmR zo6 (z0F zpD ⟨of_decide_eq_true rfl, of_decide_eq_true rfl⟩ ?_)
  simp only [z0K, z0H, z0G, z0L, z1S]
  refine zq rfl (zr rfl rfl rfl (by simp; rfl) ?_)
  refine z0a (zq rfl (zr rfl rfl rfl (by simp; rfl) ?_))
  refine z0a (zq rfl (zq rfl (zr rfl rfl rfl (by simp; rfl) ?_)))
  refine z0a (zb rfl (z0C h0 (z5j a0) rfl rfl (by simp [z5j]) fun s o1 h1 hr1 => ?_))
  obtain ⟨w6, hs1⟩ : ∃ y, y = s := ⟨_, rfl⟩
  subst hs1
  simp only [z5k] at h1
  simp only [z5j]
  refine zq rfl (zr rfl rfl rfl (by simp; rfl) ?_)
  refine z0a (zq rfl ?_)
  by_cases c16 : w6 < (a0.length : Int)
  ·rw [if_pos c16] at h1
   refine z0p rfl (by simp [c16]) (z0n rfl (z0a (zq rfl (zb rfl (zq rfl ?_)))))
   obtain ⟨v8, f17, h2⟩ := z1x h1
   refine zr rfl rfl rfl (by simp [f17]; rfl) ?_
   refine z0a (zq rfl (zr rfl rfl rfl (by simp; rfl) ?_))
   refine z0a ?_
   by_cases c18 : v8 = 0
   ·rw [if_pos c18] at h2
    have c18e := eq_true c18
    refine z0s rfl (by simp [c18e]) (z0n rfl (z0g (z0a (zr rfl rfl rfl (by simp; rfl) ?_))))
    have ho := z0f h2
    refine z0j ho ?_
    simp [z5j]
   ·rw [if_neg c18] at h2
    have c18e := eq_false c18
    refine z0p rfl (by simp [c18e]) (zq rfl (zr rfl rfl rfl (by simp; rfl) ?_))
    refine z0a (z0o rfl (z0h (z0c ?_)))
    obtain ⟨rr1, h3, ho1⟩ := z0d h2
    have hs1 := hr1 _ ho1
    subst hs1
    refine z0w ho1 (z0h (z0c ?_))
    cases h3
    simp
  ·rw [if_neg c16] at h1
   refine z0s rfl (by simp [c16]) (z0I rfl (z0B ?_))
   obtain ⟨rr1, h2, ho1⟩ := z0d h1
   have hs1 := hr1 _ ho1
   subst hs1
   refine z0v ho1 (z0l rfl (z0a (zq rfl (zr rfl rfl rfl (by simp; rfl) ?_))))
   refine z0a (z0o rfl ?_)
   cases h2
   simp
def z1q (a0 : List Int) (a1 : List Int) : Int -> Option (Int ⊕ Int)
  | w14 =>
  if w14 < (a0.length : Int) then
    (atI a0 w14).bind fun v18 =>
    if (a1.length : Int) <= w14 then
      z0t <|
      some 1
    else
      (atI a1 w14).bind fun v19 =>
      (cmp_Compare_int v18 v19).bind fun v20 =>
      if v20 = 0 then
        z0y (IntKind.i64.wrap (w14 + 1))
      else
        z0t <|
        some v20
  else
    z0t <|
    if a0.length < a1.length then
      some (-1)
    else
      some 0
def z1p (a0 : List Int) (a1 : List Int) : Int -> Fr
  | w14 => ⟨36, [(0, .one (.t none (.sl a0.length (a0.map fun x0 => .sc (.int .i64 x0))))), (1, .one (.t none (.sl a1.length (a1.map fun x0 => .sc (.int .i64 x0))))), (9, .one (.t none (.sl a0.length (a0.map fun x0 => .sc (.int .i64 x0))))), (10, .one (.t none (.sc (.int .i64 (a0.length : Int))))), (11, .one (.t none (.sc (.int .i64 w14))))], []⟩
def z1j (a0 : List Int) (a1 : List Int) : Option (Int) :=
  z0E (z1q a0 a1) LFm 0
theorem z5I {a0 : List Int} {a1 : List Int} {r : Int} (h0 : z1j a0 a1 = some r) : L 73 [.sl a0.length (a0.map fun x0 => .sc (.int .i64 x0)), .sl a1.length (a1.map fun x0 => .sc (.int .i64 x0))] = some (.sc (.int .i64 r), [.dead, .dead]) := by
  simp only [z1j] at h0
  refine z1Q zmP zo4 (z0F zpB ⟨of_decide_eq_true rfl, of_decide_eq_true rfl⟩ ?_)
  simp only [z0K, z0H, z0G, z0L, z1S]
  refine zq rfl (zr rfl rfl rfl (by simp; rfl) ?_)
  refine z0a (zq rfl (zq rfl (zr rfl rfl rfl (by simp; rfl) ?_)))
  refine z0a (zb rfl (z0C h0 (z1p a0 a1) rfl rfl (by simp [z1p]) fun s o1 h1 hr1 => ?_))
  obtain ⟨w14, hs1⟩ : ∃ y, y = s := ⟨_, rfl⟩
  subst hs1
  simp only [z1q] at h1
  simp only [z1p]
  refine zq rfl (zr rfl rfl rfl (by simp; rfl) ?_)
  refine z0a (zq rfl ?_)
  by_cases c32 : w14 < (a0.length : Int)
  ·rw [if_pos c32] at h1
   refine z0p rfl (by simp [c32]) (z0n rfl (z0a (zq rfl (zb rfl (zq rfl ?_)))))
   obtain ⟨v18, f33, h2⟩ := z1x h1
   refine zr rfl rfl rfl (by simp [f33]; rfl) ?_
   refine z0a (zq rfl (zq rfl (zr rfl rfl rfl (by simp; rfl) ?_)))
   refine z0a ?_
   by_cases c34 : (a1.length : Int) <= w14
   ·rw [if_pos c34] at h2
    refine z0p rfl (by simp [c34]) (zq rfl (zr rfl rfl rfl (by simp; rfl) ?_))
    refine z0a (z0o rfl (z0c (z0h (z0c ?_))))
    obtain ⟨rr1, h3, ho1⟩ := z0d h2
    have hs1 := hr1 _ ho1
    subst hs1
    refine z0w ho1 (z0h (z0c ?_))
    cases h3
    simp
   ·rw [if_neg c34] at h2
    refine z0s rfl (by simp [c34]) (z0n rfl (z0a (zq rfl ?_)))
    obtain ⟨v19, f35, h3⟩ := z1x h2
    refine zr rfl rfl rfl (by simp [f35]; rfl) ?_
    refine z0a (zq rfl ?_)
    obtain ⟨v20, f36, h4⟩ := z0b h3
    have f36k := z5P f36
    try simp at f36k
    refine zr rfl rfl rfl (by simp [f36k]; rfl) ?_
    refine z0a (zq rfl (zr rfl rfl rfl (by simp; rfl) ?_))
    refine z0a ?_
    by_cases c37 : v20 = 0
    ·rw [if_pos c37] at h4
     have c37e := eq_true c37
     refine z0s rfl (by simp [c37e]) (z0n rfl (z0g (z0a (zr rfl rfl rfl (by simp; rfl) ?_))))
     have ho := z0f h4
     refine z0j ho ?_
     simp [z1p]
    ·rw [if_neg c37] at h4
     have c37e := eq_false c37
     refine z0p rfl (by simp [c37e]) (zq rfl (zr rfl rfl rfl (by simp; rfl) ?_))
     refine z0a (z0o rfl (z0h (z0c ?_)))
     obtain ⟨rr1, h5, ho1⟩ := z0d h4
     have hs1 := hr1 _ ho1
     subst hs1
     refine z0w ho1 (z0h (z0c ?_))
     cases h5
     simp
  ·rw [if_neg c32] at h1
   refine z0s rfl (by simp [c32]) (z0I rfl (z0B ?_))
   obtain ⟨rr1, h2, ho1⟩ := z0d h1
   have hs1 := hr1 _ ho1
   subst hs1
   refine z0v ho1 (z0l rfl (z0a (zq rfl (zq rfl (zr rfl rfl rfl (by simp; rfl) ?_)))))
   refine z0a ?_
   by_cases c38 : a0.length < a1.length
   ·rw [if_pos c38] at h2
    refine z0p rfl (by simp [c38]) (zq rfl (zr rfl rfl rfl (by simp; rfl) ?_))
    refine z0a (z0o rfl (z0c ?_))
    cases h2
    simp
   ·rw [if_neg c38] at h2
    refine z0s rfl (by simp [c38]) (z0n rfl (z0a (zq rfl (zr rfl rfl rfl (by simp; rfl) ?_))))
    refine z0a (z0o rfl ?_)
    cases h2
    simp
def z5f (a0 : List Int) (a1 : List Int) : Int -> Option (Int ⊕ Bool)
  | w18 =>
  if w18 < (a0.length : Int) then
    if w18 < (a1.length : Int) then
      (atI a0 w18).bind fun v23 =>
      (atI a1 w18).bind fun v24 =>
      if v23 = v24 then
        z0y (IntKind.i64.wrap (w18 + 1))
      else
        z0t <|
        some (decide (v23 < v24))
    else
      z0t <|
      some (decide (a0.length < a1.length))
  else
    z0t <|
    some (decide (a0.length < a1.length))
def z5e (a0 : List Int) (a1 : List Int) : Int -> Fr
  | w18 => ⟨41, [(0, .one (.t none (.sl a0.length (a0.map fun x0 => .sc (.int .i64 x0))))), (1, .one (.t none (.sl a1.length (a1.map fun x0 => .sc (.int .i64 x0))))), (5, .one (.t none (.sc (.int .i64 w18))))], []⟩
def z6f (a0 : List Int) (a1 : List Int) : Option (Bool) :=
  z0E (z5f a0 a1) LFm 0
theorem zbt {a0 : List Int} {a1 : List Int} {r : Bool} (h0 : z6f a0 a1 = some r) : L 74 [.sl a0.length (a0.map fun x0 => .sc (.int .i64 x0)), .sl a1.length (a1.map fun x0 => .sc (.int .i64 x0))] = some (.sc (.bool r), [.dead, .dead]) := by
  simp only [z6f] at h0
  refine z1Q zmO zo3 (z0F zpA ⟨of_decide_eq_true rfl, of_decide_eq_true rfl⟩ ?_)
  simp only [z0K, z0H, z0G, z0L, z1S]
  refine zq rfl (zr rfl rfl rfl (by simp; rfl) ?_)
  refine z0a (zq rfl (zq rfl (zr rfl rfl rfl (by simp; rfl) ?_)))
  refine z0a (zb rfl (z0C h0 (z5e a0 a1) rfl rfl (by simp [z5e]) fun s o1 h1 hr1 => ?_))
  obtain ⟨w18, hs1⟩ : ∃ y, y = s := ⟨_, rfl⟩
  subst hs1
  simp only [z5f] at h1
  simp only [z5e]
  refine zq rfl (zq rfl ?_)
  by_cases c26 : w18 < (a0.length : Int)
  ·rw [if_pos c26] at h1
   refine zr rfl rfl rfl (by simp [c26]; rfl) ?_
   refine z0a ?_
   by_cases c27 : w18 < (a1.length : Int)
   ·rw [if_pos c27] at h1
    refine z0p rfl (by simp [c27]) (z0n rfl (z0a (zq rfl (zb rfl (zq rfl ?_)))))
    obtain ⟨v23, f28, h2⟩ := z1x h1
    obtain ⟨v24, f29, h3⟩ := z1x h2
    refine z1o rfl rfl rfl rfl ?_; repeat' ((first | refine z0D rfl rfl fun Q' hQ => ?_ | refine z0A rfl fun Q' hQ => ?_); simp [f28, f29]; refine hQ.out _ ?_; clear hQ; clear Q')
    refine z0a ?_
    by_cases c30 : v23 = v24
    ·rw [if_pos c30] at h3
     have c30e := eq_true c30
     refine z0s rfl (by simp [c30e]) (z0n rfl (z0g (z0a (zr rfl rfl rfl (by simp; rfl) ?_))))
     have ho := z0f h3
     refine z0j ho ?_
     simp [z5e]
    ·rw [if_neg c30] at h3
     have c30e := eq_false c30
     refine z0p rfl (by simp [c30e]) (zq rfl ?_)
     refine z1o rfl rfl rfl rfl ?_; repeat' ((first | refine z0D rfl rfl fun Q' hQ => ?_ | refine z0A rfl fun Q' hQ => ?_); simp [f28, f29]; refine hQ.out _ ?_; clear hQ; clear Q')
     refine z0a (z0o rfl (z0h (z0c ?_)))
     obtain ⟨rr1, h4, ho1⟩ := z0d h3
     have hs1 := hr1 _ ho1
     subst hs1
     refine z0w ho1 (z0h (z0c ?_))
     cases h4
     simp
   ·rw [if_neg c27] at h1
    refine z0s rfl (by simp [c27]) (z0I rfl (z0B ?_))
    obtain ⟨rr1, h2, ho1⟩ := z0d h1
    have hs1 := hr1 _ ho1
    subst hs1
    refine z0v ho1 (z0l rfl (z0a (zq rfl (zr rfl rfl rfl (by simp; rfl) ?_))))
    refine z0a (z0o rfl ?_)
    cases h2
    simp
  ·rw [if_neg c26] at h1
   refine zr rfl rfl rfl (by simp [c26]; rfl) ?_
   refine z0a (z0s rfl (by simp) (z0I rfl (z0B ?_)))
   obtain ⟨rr1, h2, ho1⟩ := z0d h1
   have hs1 := hr1 _ ho1
   subst hs1
   refine z0v ho1 (z0l rfl (z0a (zq rfl (zr rfl rfl rfl (by simp; rfl) ?_))))
   refine z0a (z0o rfl ?_)
   cases h2
   simp
def z5d (a0 : List Int) (a1 : List Int) : Int -> Option (Int ⊕ Bool)
  | w10 =>
  if w10 < (a0.length : Int) then
    (atI a0 w10).bind fun v13 =>
    (atI a1 w10).bind fun v14 =>
    if v13 = v14 then
      z0y (IntKind.i64.wrap (w10 + 1))
    else
      z0t <|
      some false
  else
    z0t <|
    some true
def z5c (a0 : List Int) (a1 : List Int) : Int -> Fr
  | w10 => ⟨26, [(0, .one (.t none (.sl a0.length (a0.map fun x0 => .sc (.int .i64 x0))))), (1, .one (.t none (.sl a1.length (a1.map fun x0 => .sc (.int .i64 x0))))), (12, .one (.t none (.sc (.int .i64 (a0.length : Int))))), (13, .one (.t none (.sc (.int .i64 w10))))], []⟩
def z3V (a0 : List Int) (a1 : List Int) : Option (Bool) :=
  if (a0.length : Int) = (a1.length : Int) then
    z0E (z5d a0 a1) LFm 0
  else
    some false
theorem z5b {a0 : List Int} {a1 : List Int} {r : Bool} (h0 : z3V a0 a1 = some r) : L 19 [.sl a0.length (a0.map fun x0 => .sc (.int .i64 x0)), .sl a1.length (a1.map fun x0 => .sc (.int .i64 x0))] = some (.sc (.bool r), [.dead, .dead]) := by
  simp only [z3V] at h0
  refine z1Q znm zoB (z0F zq8 ⟨of_decide_eq_true rfl, of_decide_eq_true rfl⟩ ?_)
  simp only [z0K, z0H, z0G, z0L, z1S]
  refine zq rfl (zr rfl rfl rfl (by simp; rfl) ?_)
  refine z0a (zq rfl (zq rfl (zr rfl rfl rfl (by simp; rfl) ?_)))
  refine z0a ?_
  by_cases c14 : (a0.length : Int) = (a1.length : Int)
  ·rw [if_pos c14] at h0
   have c14e := eq_true c14
   refine z0s rfl (by simp [c14e]) (z0n rfl (z0a (zq rfl (zq rfl (zr rfl rfl rfl (by simp; rfl) ?_)))))
   refine z0a (zb rfl (z0C h0 (z5c a0 a1) rfl rfl (by simp [z5c]) fun s o1 h1 hr1 => ?_))
   obtain ⟨w10, hs1⟩ : ∃ y, y = s := ⟨_, rfl⟩
   subst hs1
   simp only [z5d] at h1
   simp only [z5c]
   refine zq rfl (zr rfl rfl rfl (by simp; rfl) ?_)
   refine z0a (zq rfl ?_)
   by_cases c23 : w10 < (a0.length : Int)
   ·rw [if_pos c23] at h1
    refine z0p rfl (by simp [c23]) (z0n rfl (z0a (zq rfl (zb rfl (zq rfl (zr rfl rfl rfl (by simp; rfl) ?_))))))
    refine z0a (zq rfl ?_)
    obtain ⟨v13, f24, h2⟩ := z1x h1
    obtain ⟨v14, f25, h3⟩ := z1x h2
    refine z1o rfl rfl rfl rfl ?_; repeat' ((first | refine z0D rfl rfl fun Q' hQ => ?_ | refine z0A rfl fun Q' hQ => ?_); simp [f24, f25]; refine hQ.out _ ?_; clear hQ; clear Q')
    refine z0a ?_
    by_cases c26 : v13 = v14
    ·rw [if_pos c26] at h3
     have c26e := eq_true c26
     refine z0s rfl (by simp [c26e]) (z0n rfl (z0g (z0a (zr rfl rfl rfl (by simp; rfl) ?_))))
     have ho := z0f h3
     refine z0j ho ?_
     simp [z5c]
    ·rw [if_neg c26] at h3
     have c26e := eq_false c26
     refine z0p rfl (by simp [c26e]) (zq rfl (zr rfl rfl rfl (by simp; rfl) ?_))
     refine z0a (z0o rfl (z0h (z0c ?_)))
     obtain ⟨rr1, h4, ho1⟩ := z0d h3
     have hs1 := hr1 _ ho1
     subst hs1
     refine z0w ho1 (z0h (z0c ?_))
     cases h4
     simp
   ·rw [if_neg c23] at h1
    refine z0s rfl (by simp [c23]) (z0I rfl (z0B ?_))
    obtain ⟨rr1, h2, ho1⟩ := z0d h1
    have hs1 := hr1 _ ho1
    subst hs1
    refine z0v ho1 (z0l rfl (z0a (zq rfl (zr rfl rfl rfl (by simp; rfl) ?_))))
    refine z0a (z0o rfl ?_)
    cases h2
    simp
  ·rw [if_neg c14] at h0
   have c14e := eq_false c14
   refine z0p rfl (by simp [c14e]) (zq rfl (zr rfl rfl rfl (by simp; rfl) ?_))
   refine z0a (z0o rfl (z0c ?_))
   cases h0
   simp
end
end
end Go.Proofs.YthalofddjlhcjaaDoor
