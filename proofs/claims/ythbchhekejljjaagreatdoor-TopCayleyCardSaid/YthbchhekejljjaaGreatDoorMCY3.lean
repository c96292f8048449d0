/- Proved here: a part of the proof of the law at hand, in one text: no condition. -/
import Derived.Test.YthbchhekejljjaaGreatDoorMCY2
import Derived.Maps.RangeRun
import Derived.Test.YthbchhekejljjaaGreatDoorProg
import Derived.KernelRfl
set_option linter.unusedVariables false
set_option linter.unusedSimpArgs false
set_option linter.unusedSectionVars false
namespace Go.Proofs.YthbchhekejljjaaGreatDoor
section
def zjr (fr : Fr) (g : Nat) : T :=
  match z0E fr.tm g with
  | .one (.h e []) => (match z0v fr.ob e with | some t => t | none => .dead)
  | .one (.a e [] 0) => (match z0v fr.ob e with | some (.vr cs) => .vr cs | _ => .dead)
  | _ => .dead
def zjq (fr : Fr) (g : Nat) : T :=
  match z0E fr.tm g with
  | .one (.a e [] off) => (match z0v fr.ob e with | some (.vr cs) => .vo off cs | _ => .dead)
  | _ => .dead
def zkT : T -> Bool
  | .vo _ _ => true
  | _ => false
theorem TRep.vr_val {w : World} {K : Nat -> z0a} {c : z0a} {v : Value} {cs : List T} {g : Nat} (h : TRep w K c v (.vr cs)) (hb : z2n v = some g) : v = .pointer (some ⟨g, 0, none⟩) := by
  cases h with
  | vr c g' cs arr e fz F hfz hc0 hK hg hl hF hh =>
    simp only [z2n, Option.some.injEq] at hb
    rw [hb]
def zd2 (fr : Fr) (g : Nat) : Option Nat :=
  match z0E fr.tm g with
  | .one (.h e []) => some e
  | .one (.a e [] _) => some e
  | _ => none
def z9W (fr : Fr) (nt : Nat) : List T -> Nat -> List T
  | [], _ => []
  | t :: ts, i => (if zkT t then zjq fr (nt + 1000 + i) else if z2L t then zjr fr (nt + 1000 + i) else .dead) :: z9W fr nt ts (i + 1)
theorem z9V (fr : Fr) (nt : Nat) : ∀ (ts : List T) (i j : Nat) (t : T), ts[j]? = some t -> z2L t = true -> (z9W fr nt ts i)[j]? = some (if zkT t then zjq fr (nt + 1000 + (i + j)) else zjr fr (nt + 1000 + (i + j)))
  | [], i, j, t, h, _ => by simp at h
  | t0 :: ts, i, 0, t, h, hio => by simp at h; subst h; simp [z9W, hio]
  | t0 :: ts, i, j + 1, t, h, hio => by
    simp only [z9W, List.getElem?_cons_succ]
    rw [z9V fr nt ts (i + 1) j t (by simpa using h) hio]
    rw [show i + 1 + j = i + (j + 1) by omega]
def z8N : List T -> Nat -> Option Nat
  | [], _ => none
  | t :: ts, i => if z2L t then some i else z8N ts (i + 1)
theorem zc3 : ∀ (ts : List T) (i j : Nat) (t : T), (ts.filter z2L).length <= 1 -> ts[j]? = some t -> z2L t = true -> z8N ts i = some (i + j)
  | [], i, j, t, _, h, _ => by simp at h
  | t0 :: ts, i, 0, t, _, h, hio => by simp at h; subst h; simp [z8N, hio]
  | t0 :: ts, i, j + 1, t, hl, h, hio => by
    have h' : ts[j]? = some t := by simpa using h
    by_cases h0 : z2L t0 = true
    · exfalso
      have hm : t ∈ ts.filter z2L := by simp [List.mem_of_getElem? h', hio]
      have := List.length_pos_of_mem hm
      simp only [List.filter_cons, h0, if_true, List.length_cons] at hl
      omega
    · have h0' : z2L t0 = false := by simpa using h0
      simp only [z8N, h0', Bool.false_eq_true, if_false]
      rw [zc3 ts (i + 1) j t (by simpa [List.filter_cons, h0'] using hl) h' hio]
      congr 1; omega
def zek (fr : Fr) (nt : Nat) (args : List T) : Option Nat := match z8N args 0 with | some i => zd2 fr (nt + 1000 + i) | none => none
def zje (fr : Fr) (nt : Nat) (args : List T) : Fr :=
  match z8N args 0 with
  | none => fr
  | some i => match z0E fr.tm (nt + 1000 + i) with
    | .one (.a e (j :: p) 0) => (z5C fr e (j :: p) (fr.nt + 7)).getD fr
    | _ => fr
def zcg (P : Program) (fn : Func) (args : List T) (fr : Fr) : Option (T × List T) :=
  match zee P fr fn.results.toList with
  | none => none
  | some es =>
    if (z4x es).length <= 900 /\ fr.nt = fn.ntmps then
      match plugL true { fr with tm := z2k (kill fr.nt) (putR fr.tm (fr.nt + 1) (z4x es)), ob := z1Z fr.ob fr.nt (.tup (es.map z9I)) } fr.nt (z6h 0 (fr.nt + 1) es) with
      | none => none
      | some fr2 =>
        if zek fr2 fn.ntmps args = some fr.nt then none else
        match z0v fr2.ob fr.nt with
        | some (.tup ts) =>
          if es.length = 1 then (match ts with | [t] => some (t, z9W fr2 fn.ntmps args 0) | _ => none)
          else some (.tup ts, z9W fr2 fn.ntmps args 0)
        | _ => none
    else none
def z7w (P : Program) (fn : Func) (args : List T) (fr : Fr) : Option (T × List T) := zcg P fn args (zje fr fn.ntmps args)
def zhV (cf : Cfg) (o : Option (T × List T)) : Option (T × List T) := match cf.fz 999998 with | none => o | some _ => o.map fun x => (z0A x.1, x.2)
def dz : z0a -> z0a
  | 0 :: _ => []
  | c => c
theorem zeq {cf : Cfg} {o : Option (T × List T)} {r : T} {outs : List T} (h : zhV cf o = some (r, outs)) : ∃ r0, o = some (r0, outs) /\ (r = r0 ∨ r = z0A r0) := by
  unfold zhV at h
  split at h
  · exact ⟨r, h, .inl rfl⟩
  · rw [Option.map_eq_some_iff] at h
    obtain ⟨⟨r0, outs0⟩, h1, h2⟩ := h
    cases h2
    exact ⟨r0, h1, .inr rfl⟩
noncomputable def z9O (P : Program) (C : z0b) (cf : Cfg) (LF : Nat) (fn : Func) (args : List T) : Option (T × List T) :=
  if args.length <= fn.ntmps /\ (args.filter z2L).length <= 1 then
    match fn.body with
    | none => none
    | some c => match z0x P C cf LF c (z3L fn.ntmps args) with
      | some (.n, fr) => zhV cf (z7w P fn args fr)
      | some (.r, fr) => zhV cf (z7w P fn args fr)
      | _ => none
  else none
theorem ze6 {w : World} {K : Nat -> z0a} {R : Nat -> Value} {ob : List (Nat × T)} {e : E} {u : Value} (h : ERep w K R ob e u) (c : z0a) : TRep w K c u (z9I e) := by
  cases e with
  | one x => exact .dead c u
  | ag xs =>
    obtain ⟨arr, rfl, h2, h3⟩ := h
    refine .agg c arr _ (fun j => arr.getD j undef) (by simpa using h2) (fun j hj => z1x _ _ (by simp at hj; omega)) (fun j t ht => ?_)
    simp only [List.getElem?_map, Option.map_eq_some_iff] at ht
    obtain ⟨y, hy, rfl⟩ := ht
    exact .dead _ _
theorem zcR (fn : Func) (tmps : Array Value) : results fn tmps = (do let vs ← fn.results.mapM (fun r => ziI r tmps); pure (if h : vs.size = 1 then vs[0] else .tuple vs)) := by
  unfold results
  congr 1
  congr 1
  funext r
  cases r <;> rfl
def zfA (N : Nat) (e0 : Option (Nat × Nat)) (one : Bool) : z0a -> z0a
  | [] => []
  | h :: s => if h = N + 2 then (if one then (match s with | 0 :: s' => 0 :: s' | _ => [1]) else 0 :: s)
    else match e0 with | some (e, i) => if h = e + 2 then (i + 2) :: s else [1] | none => [1]
theorem zcf {P : Program} {fn : Func} {args : List T} {fr : Fr} {r : T} {outs : List T} {w : World} {K : Nat -> z0a} {R G : Nat -> Value} {a : Act} (h : FRep w K R G fr a) (hx : zcg P fn args fr = some (r, outs)) (h1 : (args.filter z2L).length <= 1) :
    ∃ v K', (results fn a.tmps).run P w = .ok v w /\ TRep w K' [0] v r /\ (∀ i t, args[i]? = some t -> z2L t = true -> ∃ t', outs[i]? = some t' /\ TRep w K' (col i) (G (fn.ntmps + 1000 + i)) t') /\ Step w K w K' := by
  unfold zcg at hx
  split at hx
  case h_1 => cases hx
  case h_2 es hes =>
  split at hx
  case isFalse => cases hx
  case isTrue hc =>
  obtain ⟨hfl, hnt⟩ := hc
  split at hx
  case h_1 => cases hx
  case h_2 fr2 hpl =>
  split at hx
  · cases hx
  rename_i hne
  obtain ⟨us, u1, u0, u2, u3⟩ := z9P h hes
  obtain ⟨vs, v1, v2, v3⟩ := z4T (j0 := 0) (base := fr.nt + 1) u1 u2
  have hp := h.putR (base := fr.nt + 1) (xs := z4x es) (us := fun j => vs.getD j undef) (by omega) v2
  have hrep : TRep w K (col fr.nt) (.tuple us.toArray) (.tup (es.map z9I)) := by
    refine .tup _ us.toArray _ (fun j => us.getD j undef) (by simp [u1]) (fun j hj => ?_) (fun j t ht => ?_)
    · have : j < us.length := by simp at hj; omega
      simp [List.getD, this]
    · simp only [List.getElem?_map, Option.map_eq_some_iff] at ht
      obtain ⟨e, he, rfl⟩ := ht
      exact ze6 (u2 j e he) _
  have hq := hp.replace (d := fr.nt) (w' := w) (K' := K) (v := .tuple us.toArray) (t := .tup (es.map z9I)) ⟨fun b hb e => ⟨e, rfl⟩, fun b hb _ => ⟨rfl, rfl⟩, Nat.le_refl _⟩ hrep
  have hregs : ∀ k, k < vs.length -> z3M a (gv G (fr.nt + 1) (fun j => vs.getD j undef) (z4x es).length) (fr.nt + 1 + k) = vs.getD k undef := fun k hk => by
    rw [z3M, if_neg (by rw [h.nt]; omega)]
    simp only [gv]
    rw [if_pos (by omega)]
    congr 1; omega
  obtain ⟨K2, R2, q1, q2, q3, q4, _⟩ := hq.plugL (l := z6h 0 (fr.nt + 1) es) (fun q r' hm => by
    obtain ⟨k, k1, rfl, j, q', rfl, k4, k5⟩ := v3 q r' hm
    refine ⟨?_, by omega⟩
    rw [hregs k k1]
    have hju : j < us.length := by omega
    simp only [z3P, if_true, Nat.zero_add, nav, z6s]
    have : us.toArray[j]? = some (us.getD j undef) := by simp [List.getD, hju]
    rw [this]
    exact k5) hpl
  have hRN : R2 fr.nt = .tuple us.toArray := by
    rw [q4 fr.nt (fun q r' hm => by obtain ⟨k, k1, rfl, _⟩ := v3 q r' hm; omega)]
    simp [z3P]
  have hres : (results fn a.tmps).run P w = .ok (if us.length = 1 then us.getD 0 undef else .tuple us.toArray) w := by
    rw [zcR]
    have : (fn.results.mapM (fun r => ziI r a.tmps)).run P w = .ok us.toArray w := by
      rw [Array.mapM_eq_mapM_toList]
      simp only [map_eq_pure_bind, Sem.run_bind, u3, Result.andThen_ok, Sem.run_pure]
    simp only [Sem.run_bind, this, Result.andThen_ok, Sem.run_pure]
    congr 1
    by_cases e : us.length = 1
    · match us, e with
      | [u], _ => simp
    · rw [dif_neg (by simpa using e), if_neg e]
  let io : Option (Nat × Nat) := match z8N args 0 with | some i => (match zd2 fr2 (fn.ntmps + 1000 + i) with | some e => some (e, i) | none => none) | none => none
  have hio : ∀ e i, io = some (e, i) -> e ≠ fr.nt := fun e i he => by
    intro heq
    apply hne
    simp only [io] at he
    split at he
    · rename_i i' hi'
      split at he
      · rename_i e' he'
        cases he
        simp only [zek, hi']
        rw [he', heq]
      · cases he
    · cases he
  let one : Bool := decide (es.length = 1)
  let K3 : Nat -> z0a := fun b => zfA fr.nt io one (K2 b)
  have hK3 : ∀ b, K2 b = [] -> K3 b = [] := fun b e => by show zfA fr.nt io one (K2 b) = []; rw [e]; rfl
  have hstep : Step w K2 w K3 := ⟨rfl, rfl, rfl, Nat.le_refl _, fun b hb hc => ⟨by
    show zfA fr.nt io one (K2 b) = K2 b
    rcases hc with e | e
    · rw [e]; rfl
    · rw [e]
      simp only [zfA]
      rw [if_neg (by omega)]
      cases io with
      | none => rfl
      | some x =>
        obtain ⟨e', i⟩ := x
        simp only
        rw [if_neg (by omega)], rfl⟩, .same rfl⟩
  have houts : outs = z9W fr2 fn.ntmps args 0 -> ∀ i t, args[i]? = some t -> z2L t = true -> ∃ t', outs[i]? = some t' /\ TRep w K3 (col i) (G (fn.ntmps + 1000 + i)) t' := fun ho i t ht hit => by
    refine ⟨if zkT t then zjq fr2 (fn.ntmps + 1000 + i) else zjr fr2 (fn.ntmps + 1000 + i), by rw [ho, z9V fr2 fn.ntmps args 0 i t ht hit, Nat.zero_add], ?_⟩
    have hidx := zc3 args 0 i t h1 ht hit
    rw [Nat.zero_add] at hidx
    have hg := q1.tm (fn.ntmps + 1000 + i)
    have hgv : z3M a (gv G (fr.nt + 1) (fun j => vs.getD j undef) (z4x es).length) (fn.ntmps + 1000 + i) = G (fn.ntmps + 1000 + i) := by
      rw [z3M, if_neg (by rw [h.nt]; omega)]
      simp only [gv]
      rw [if_neg (by omega)]
    rw [hgv] at hg
    have hmv0 : ∀ e tt, io = some (e, i) -> z0v fr2.ob e = some tt -> TRep w K3 (col i) (R2 e) tt := fun e tt he hob => by
      have hr := q1.ob e tt hob
      have hen := hio e i he
      refine hr.move (fun b s hb hcc hKb => ⟨?_, rfl⟩) (fun b hb e0 => ⟨hK3 b e0, rfl⟩) (by simp [col]) (Nat.le_refl _)
      show zfA fr.nt io one (K2 b) = _
      rw [hKb, he]
      simp [zfA, col, hen]
    have hmv : ∀ e tt, io = some (e, i) -> z0v fr2.ob e = some tt -> R2 e = G (fn.ntmps + 1000 + i) -> TRep w K3 (col i) (G (fn.ntmps + 1000 + i)) tt := fun e tt he hob hR => hR ▸ hmv0 e tt he hob
    split
    · unfold zjq
      split
      · rename_i e off hge
        have hie : io = some (e, i) := by simp only [io, hidx, zd2, hge]
        split
        · rename_i cs hob
          rw [hge] at hg
          obtain ⟨hv, g, n1, n4, n5, _⟩ := hg
          simp only [nav, Option.some.injEq] at n1
          have hr := hmv0 e _ hie hob
          rw [n1] at hr
          rw [hr.vr_val n4] at hr
          rw [n5]
          exact .vo _ g off cs hr
        · exact .dead _ _
      · exact .dead _ _
    unfold zjr
    split
    · rename_i e hge
      have hie : io = some (e, i) := by simp only [io, hidx, zd2, hge]
      split
      · rename_i tt hob
        rw [hge] at hg
        obtain ⟨n1, _⟩ := hg
        simp only [nav, Option.some.injEq] at n1
        exact hmv e tt hie hob n1
      · exact .dead _ _
    · rename_i e hge
      have hie : io = some (e, i) := by simp only [io, hidx, zd2, hge]
      split
      · rename_i cs hob
        rw [hge] at hg
        obtain ⟨hv, g, n1, n4, n5, _⟩ := hg
        simp only [nav, Option.some.injEq] at n1
        refine hmv e _ hie hob ?_
        have hr := q1.ob e _ hob
        rw [n5, n1]
        rw [n1] at hr
        cases hr with
        | vr c g' cs arr e' fz F hfz hc0 hK hg' hl hF hh =>
          simp only [z2n, Option.some.injEq] at n4
          rw [n4]
      · exact .dead _ _
    · exact .dead _ _
  refine ⟨_, K3, hres, ?_⟩
  split at hx
  case h_2 => cases hx
  case h_1 ts hob =>
  have htup := q1.ob fr.nt _ hob
  rw [hRN] at htup
  split at hx
  · rename_i hone
    split at hx
    · rename_i t
      cases hx
      refine ⟨?_, houts rfl, q2.trans hstep⟩
      rw [if_pos (by omega)]
      obtain ⟨v', k1, k2⟩ := htup.kid (j := 0) (t' := r) (z0q _) rfl
      have hv' : v' = us.getD 0 undef := by
        simp only [z6s] at k1
        have : 0 < us.length := by omega
        simp [List.getD, this] at k1 ⊢
        exact k1.symm
      rw [← hv']
      refine k2.move (fun b s hb hcc hKb => ⟨?_, rfl⟩) (fun b hb e0 => ⟨hK3 b e0, rfl⟩) (by simp [col]) (Nat.le_refl _)
      show zfA fr.nt io one (K2 b) = _
      rw [hKb]
      simp [zfA, col, one, hone]
    · cases hx
  · rename_i hone
    cases hx
    refine ⟨?_, houts rfl, q2.trans hstep⟩
    rw [if_neg (by omega)]
    refine htup.move (fun b s hb hcc hKb => ⟨?_, rfl⟩) (fun b hb e0 => ⟨hK3 b e0, rfl⟩) (by simp [col]) (Nat.le_refl _)
    show zfA fr.nt io one (K2 b) = _
    rw [hKb]
    simp [zfA, col, one, hone]
theorem zf5 {P : Program} {fn : Func} {args : List T} {fr : Fr} {r : T} {outs : List T} {w : World} {K : Nat -> z0a} {R G : Nat -> Value} {a : Act} (h : FRep w K R G fr a) (hx : z7w P fn args fr = some (r, outs)) (h1 : (args.filter z2L).length <= 1) :
    ∃ v K', (results fn a.tmps).run P w = .ok v w /\ TRep w K' [0] v r /\ (∀ i t, args[i]? = some t -> z2L t = true -> ∃ t', outs[i]? = some t' /\ TRep w K' (col i) (G (fn.ntmps + 1000 + i)) t') /\ Step w K w K' := by
  unfold z7w at hx
  have keep : zje fr fn.ntmps args = fr ∨ ∃ e p fr1, z5C fr e p (fr.nt + 7) = some fr1 /\ zje fr fn.ntmps args = fr1 := by
    unfold zje
    split
    · exact .inl rfl
    · split
      · rename_i e j p _
        cases ht : z5C fr e (j :: p) (fr.nt + 7) with
        | none => exact .inl rfl
        | some f => exact .inr ⟨_, _, f, ht, rfl⟩
      · exact .inl rfl
  rcases keep with e | ⟨e, p, fr1, e1, e2⟩
  · rw [e] at hx; exact zcf h hx h1
  · rw [e2] at hx
    obtain ⟨vp, t, -, -, h2⟩ := h.take e1
    obtain ⟨v, K', r1, r2, r3, r4⟩ := zcf h2 hx h1
    exact ⟨v, K', r1, r2, r3, (z6v e p _).trans r4⟩
theorem zj5 {P : Program} {I : World -> (Nat -> z0a) -> Prop} {C : z0b} {cf : Cfg} {LF : Nat} {f : FuncId} {fn : Func} {c : Code} {args : List T} {r : T} {outs : List T} (hI : EnvS I) (hC : z2J P I C) (hm : P.follows .mixedOrders = true) (hfn : P.funcs[f]? = some fn) (hb : fn.body = some c) (hname : fn.name ≠ "runtime.NumGoroutine")
    (hok : okC cf c = true) (hr : z9O P C cf LF fn args = some (r, outs)) : CallOk P I f args r outs := by
  unfold z9O at hr
  split at hr
  case isFalse => cases hr
  case isTrue hc =>
  rw [hb] at hr
  simp only at hr
  refine ⟨fun vals w => by simp [callFunc, program, Sem.run, hfn, hname, hb], fun w K vals hs ha hIw => ?_⟩
  have hent := zaj (nt := fn.ntmps) hs ha hc.1
  have main : ∀ x fr, (x = .n ∨ x = .r) -> z0x P C cf LF c (z3L fn.ntmps args) = some (x, fr) -> zhV cf (z7w P fn args fr) = some (r, outs) ->
      Calls P f vals w fun e w' => ∃ v K', e = .returned v /\ TRep w' K' [0] v r /\ (∀ i t, args[i]? = some t -> z2L t = true -> ∃ t', outs[i]? = some t' /\ TRep w' K' (col i) (vals.getD i undef) t') /\ Step w K w' K' := fun x fr hx hcode hexit => by
    refine calls_of_wp hfn hb (zbn hI hC hm c hok hent hIw hcode fun a' w' K' R' h' hst => ?_)
    obtain ⟨r0, hex0, hr0⟩ := zeq hexit
    obtain ⟨v, K1, e1, e20, e30, e40⟩ := zf5 h' hex0 hc.2
    obtain ⟨K2, e2, e3, e4⟩ : ∃ K2, TRep w' K2 [0] v r /\ (∀ i t, args[i]? = some t -> z2L t = true -> ∃ t', outs[i]? = some t' /\ TRep w' K2 (col i) (vals.getD (fn.ntmps + 1000 + i - (fn.ntmps + 1000)) undef) t') /\ Step w' K' w' K2 := by
      rcases hr0 with e | e
      · rw [e]; exact ⟨K1, e20, e30, e40⟩
      · rw [e]
        refine ⟨fun b => dz (K1 b), e20.freeze (fun b s hb hcc hK => ⟨by show dz (K1 b) = []; rw [hK]; rfl, rfl⟩) (fun b hb hK => ⟨by show dz (K1 b) = []; rw [hK]; rfl, rfl⟩) (Nat.le_refl _) [0], fun i t hi hio => ?_, e40.trans ⟨rfl, rfl, rfl, Nat.le_refl _, fun b hb hcc => ⟨by
          show dz (K1 b) = K1 b
          rcases hcc with q | q <;> rw [q] <;> rfl, rfl⟩, .same rfl⟩⟩
        obtain ⟨t', f1, f2⟩ := e30 i t hi hio
        exact ⟨t', f1, f2.move (fun b s hb hcc hK => ⟨by show dz (K1 b) = col i ++ s; rw [hK]; rfl, rfl⟩) (fun b hb hK => ⟨by show dz (K1 b) = []; rw [hK]; rfl, rfl⟩) Iff.rfl (Nat.le_refl _)⟩
    have hpost : a'.defers = [] /\ ∃ v, (results fn a'.tmps).run P w' = .ok v w' /\ ∃ v' K', Ending.returned v = .returned v' /\ TRep w' K' [0] v' r /\ (∀ i t, args[i]? = some t -> z2L t = true -> ∃ t', outs[i]? = some t' /\ TRep w' K' (col i) (vals.getD i undef) t') /\ Step w K w' K' :=
      ⟨h'.df, v, e1, v, K2, rfl, e2, fun i t hi hio => by
        obtain ⟨t', f1, f2⟩ := e3 i t hi hio
        rw [show fn.ntmps + 1000 + i - (fn.ntmps + 1000) = i by omega] at f2
        exact ⟨t', f1, f2⟩, hst.trans e4⟩
    rcases hx with rfl | rfl
    · exact hpost
    · exact hpost
  split at hr
  · rename_i fr hcode
    exact main .n fr (.inl rfl) hcode hr
  · rename_i fr hcode
    exact main .r fr (.inr rfl) hcode hr
  · cases hr
end
section
def wpC (P : Program) (C : z0b) (cf : Cfg) (LF : Nat) (c : Code) (fr : Fr) (Q : X -> Fr -> Prop) : Prop := ∃ x fr', z0x P C cf LF c fr = some (x, fr') /\ Q x fr'
def zkQ (P : Program) (C : z0b) (wio : FuncId -> Nat -> Bool) (ops : Array Oper) : List Oper -> Fr -> (Fr -> Prop) -> Prop
  | [], fr, Q => Q fr
  | o :: rest, fr, Q => ∃ b, z3a ops fr o = some b /\ (b = true -> ∃ fr', opF P C wio fr o = some fr' /\ zkQ P C wio ops rest fr' Q) /\ (b = false -> ∃ fr', putF fr o.dst (.one (.k undef)) = some fr' /\ zkQ P C wio ops rest fr' Q)
variable {P : Program} {C : z0b} {cf : Cfg} {LF : Nat} {fr : Fr} {Q : X -> Fr -> Prop}
theorem zfD (h : Q .n fr) : wpC P C cf LF .skip fr Q := ⟨_, _, rfl, h⟩
theorem zdM {i} (h : Q .n fr) : wpC P C cf LF (.label i) fr Q := ⟨_, _, rfl, h⟩
theorem zfE {i} (h : Q (.x i) fr) : wpC P C cf LF (.exit i) fr Q := ⟨_, _, rfl, h⟩
theorem zhf (h : Q .r fr) : wpC P C cf LF .ret fr Q := ⟨_, _, rfl, h⟩
def zaP (Q1 : Fr -> Prop) (Q : X -> Fr -> Prop) : X -> Fr -> Prop
  | .n, fr => Q1 fr
  | .x i, fr => Q (.x i) fr
  | .r, fr => Q .r fr
theorem zhe {a b : Code} (h : wpC P C cf LF a fr (zaP (fun fr' => wpC P C cf LF b fr' Q) Q)) : wpC P C cf LF (.seq a b) fr Q := by
  obtain ⟨x, fr1, e, h⟩ := h
  cases x with
  | n =>
    obtain ⟨y, fr2, e2, h⟩ := h
    exact ⟨y, fr2, by simp only [z0x, e, e2], h⟩
  | x i => exact ⟨_, _, by simp only [z0x, e], h⟩
  | r => exact ⟨_, _, by simp only [z0x, e], h⟩
def z3j (id : Nat) (Q : X -> Fr -> Prop) : X -> Fr -> Prop
  | .n, fr => Q .n fr
  | .x i, fr => if i = id then Q .n fr else Q (.x i) fr
  | .r, fr => Q .r fr
theorem zdO {id : Nat} {c : Code} (h : wpC P C cf LF c fr (z3j id Q)) : wpC P C cf LF (.block id c) fr Q := by
  obtain ⟨x, fr1, e, h⟩ := h
  cases x with
  | n => exact ⟨_, _, by simp only [z0x, e], h⟩
  | x i =>
    simp only [z3j] at h
    by_cases hi : i = id
    · rw [if_pos hi] at h
      exact ⟨.n, fr1, by simp only [z0x, e, if_pos hi], h⟩
    · rw [if_neg hi] at h
      exact ⟨.x i, fr1, by simp only [z0x, e, if_neg hi], h⟩
  | r => exact ⟨_, _, by simp only [z0x, e], h⟩
structure Hid (p : Prop) : Prop where
  out : p
def ziT (o : Option Bool) (Q1 Q2 : Prop) : Prop := match o with | some b => (b = true -> Q1) /\ (b = false -> Q2) | none => False
theorem zdR {b : Bool} {Q1 Q2 : Prop} : ziT (some b) Q1 Q2 = ((b = true -> Q1) /\ (b = false -> Q2)) := rfl
theorem zhl {o : Option Bool} {Q1 Q2 : Prop} (h : ziT o Q1 Q2) : ∃ b, o = some b /\ (b = true -> Q1) /\ (b = false -> Q2) := by
  cases o with
  | none => exact absurd h id
  | some b => exact ⟨b, rfl, h⟩
def ziC (o : Option Value) (Q1 Q2 : Prop) : Prop := match o with | some (.bool b) => (b = true -> Q1) /\ (b = false -> Q2) | _ => False
theorem z9s {b : Bool} {Q1 Q2 : Prop} : ziC (some (.bool b)) Q1 Q2 = ((b = true -> Q1) /\ (b = false -> Q2)) := rfl
theorem zhk {o : Option Value} {Q1 Q2 : Prop} (h : ziC o Q1 Q2) : ∃ b, o = some (.bool b) /\ (b = true -> Q1) /\ (b = false -> Q2) := by
  unfold ziC at h
  split at h
  · exact ⟨_, rfl, h⟩
  · exact absurd h id
def zay (o : Option Fr) (Q : Fr -> Prop) : Prop := match o with | some fr => Q fr | none => False
theorem zax {fr : Fr} {Q : Fr -> Prop} : zay (some fr) Q = Q fr := rfl
theorem z7D {o : Option Fr} {Q : Fr -> Prop} (h : zay o Q) : ∃ fr, o = some fr /\ Q fr := by
  cases o with
  | none => exact absurd h id
  | some fr => exact ⟨fr, rfl, h⟩
theorem zcG {id : Nat} {ops : Array Oper} {draw : Bool} (hd : draw = false) (hz : cf.fz id = none) (h : ∀ Q' : Fr -> Prop, Hid (∀ fr', Q .n fr' -> Q' fr') -> zay (zaX P C cf.wio ops ops.toList fr) Q') : wpC P C cf LF (.region id ops draw) fr Q := by
  obtain ⟨fr', e, h⟩ := z7D (h (Q .n) ⟨fun _ h => h⟩)
  subst hd
  exact ⟨.n, fr', by simp [z0x, hz, zgl, e], h⟩
theorem zhg {id : Nat} {ops : Array Oper} {draw : Bool} {l : List Nat} {fr1 : Fr} (hz : cf.fz id = some l) (hf : zie fr l = fr1) (h : wpC P C { cf with fz := fun _ => none } LF (.region id ops draw) fr1 Q) : wpC P C cf LF (.region id ops draw) fr Q := by
  obtain ⟨x, fr', e, h⟩ := h
  refine ⟨x, fr', ?_, h⟩
  simp only [z0x, zgl] at e
  simp only [z0x, hz, zgl, hf]
  exact e
def zm1 (P : Program) (C : z0b) (wio : FuncId -> Nat -> Bool) (M : List Nat) (ops : Array Oper) (sch : List (Nat × Nat)) (fr : Fr) : Option Fr := match z4e P C wio M.isEmpty M.contains ops (z5n ops sch) fr with | some fr1 => z2o P ops.toList fr1 | none => none
def z6V (P : Program) (C : z0b) (wio : FuncId -> Nat -> Bool) (same : Bool) (M : Nat -> Bool) (fr : Fr) (o : Oper) (m : Nat) : Option Fr :=
  if m = 0 ∨ m = 3 then (match z3W P (if m = 0 then M else zl2) fr o.op with | some e => putF fr o.dst e | none => none)
  else if m = 2 then opF P C wio fr o else if same then z4y P C wio fr o else wrF P C wio M fr o
def z3u (P : Program) (C : z0b) (wio : FuncId -> Nat -> Bool) (M : List Nat) (ops : Array Oper) : List (Nat × Nat) -> Fr -> (Fr -> Prop) -> Prop
  | [], fr, Q => Q fr
  | (k, m) :: rest, fr, Q => ∃ o, ops[k]? = some o /\ ∃ b, z3a ops fr o = some b /\ (b = true -> ∃ fr', z6V P C wio M.isEmpty M.contains fr o m = some fr' /\ z3u P C wio M ops rest fr' Q) /\ (b = false -> ∃ fr', putF fr o.dst (.one (.k undef)) = some fr' /\ z3u P C wio M ops rest fr' Q)
theorem z5P {P : Program} {C : z0b} {wio : FuncId -> Nat -> Bool} {M : List Nat} {ops : Array Oper} {Q : Fr -> Prop} : ∀ {l : List (Nat × Nat)} {fr : Fr}, z3u P C wio M ops l fr Q -> ∃ fr', z4e P C wio M.isEmpty M.contains ops (z5n ops l) fr = some fr' /\ Q fr'
  | [], fr, h => ⟨fr, rfl, h⟩
  | (k, m) :: rest, fr, ⟨o, ho, b, hb, h1, h2⟩ => by
    have hp : z5n ops ((k, m) :: rest) = (k, o, m) :: z5n ops rest := by simp [z5n, ho]
    rw [hp]
    cases b with
    | true =>
      obtain ⟨fr', e, h⟩ := h1 rfl
      obtain ⟨x, e2, h⟩ := z5P h
      refine ⟨x, ?_, h⟩
      simp only [z4e, hb]
      unfold z6V at e
      by_cases hm : m = 0 ∨ m = 3
      · rw [if_pos hm] at e ⊢
        split at e
        · rename_i e' he'
          simp only [he', e, e2]
        · cases e
      · rw [if_neg hm] at e ⊢
        simp only [e, e2]
    | false =>
      obtain ⟨fr', e, h⟩ := h2 rfl
      obtain ⟨x, e2, h⟩ := z5P h
      exact ⟨x, by simp only [z4e, hb, e, e2], h⟩
theorem zdN {id : Nat} {ops : Array Oper} {draw : Bool} {sch : List (Nat × Nat)} (hd : draw = true) (hs : cf.dr id = some sch) (hz : cf.fz id = none) (h : z3u P C cf.wio (cf.wr id) ops sch fr (fun fr1 => zay (z2o P ops.toList fr1) (Q .n))) (ht : cf.dt id = none := by rfl) : wpC P C cf LF (.region id ops draw) fr Q := by
  obtain ⟨fr1, e1, h⟩ := z5P h
  obtain ⟨fr2, e2, h⟩ := z7D h
  subst hd
  exact ⟨.n, fr2, by simp only [z0x, if_true, z3m, ht, hs, hz, zgl, e1, e2], h⟩
theorem zfc {wio : FuncId -> Nat -> Bool} {M : List Nat} {ops : Array Oper} {l : List Oper} {Q : X -> Fr -> Prop} (h : ∀ Q' : Fr -> Prop, Hid (∀ fr', Q .n fr' -> Q' fr') -> zay (z2o P l fr) Q') : z3u P C wio M ops [] fr (fun fr1 => zay (z2o P l fr1) (Q .n)) := h _ ⟨fun _ h => h⟩
theorem zgx {wio : FuncId -> Nat -> Bool} {M : List Nat} {ops : Array Oper} {k m : Nat} {o : Oper} {l : List (Nat × Nat)} {Q : Fr -> Prop} (ho : ops[k]? = some o) (hg : o.guard = none) (h : ∀ Q' : Fr -> Prop, Hid (∀ fr', z3u P C wio M ops l fr' Q -> Q' fr') -> zay (z6V P C wio M.isEmpty M.contains fr o m) Q') : z3u P C wio M ops ((k, m) :: l) fr Q := by
  obtain ⟨fr', e, h⟩ := z7D (h _ ⟨fun _ h => h⟩)
  exact ⟨o, ho, true, by simp [z3a, hg], fun _ => ⟨fr', e, h⟩, fun h => by cases h⟩
theorem zbk {wio : FuncId -> Nat -> Bool} {M : List Nat} {ops : Array Oper} {k m : Nat} {o : Oper} {l : List (Nat × Nat)} {Q : Fr -> Prop} (ho : ops[k]? = some o) (h : ∀ Q1 Q2 : Prop, Hid ((∀ Q' : Fr -> Prop, Hid (∀ fr', z3u P C wio M ops l fr' Q -> Q' fr') -> zay (z6V P C wio M.isEmpty M.contains fr o m) Q') -> Q1) -> Hid ((∀ Q' : Fr -> Prop, Hid (∀ fr', z3u P C wio M ops l fr' Q -> Q' fr') -> zay (putF fr o.dst (.one (.k undef))) Q') -> Q2) -> ziT (z3a ops fr o) Q1 Q2) : z3u P C wio M ops ((k, m) :: l) fr Q := by
  obtain ⟨b, hb, h1, h2⟩ := zhl (h _ _ ⟨id⟩ ⟨id⟩)
  refine ⟨o, ho, b, hb, fun e => ?_, fun e => ?_⟩
  · obtain ⟨fr', e, h⟩ := z7D (h1 e _ ⟨fun _ h => h⟩)
    exact ⟨fr', e, h⟩
  · obtain ⟨fr', e, h⟩ := z7D (h2 e _ ⟨fun _ h => h⟩)
    exact ⟨fr', e, h⟩
theorem ziQ {c : Operand} {x y : Code} (h : ∀ Q1 Q2 : Prop, Hid (wpC P C cf LF x fr Q -> Q1) -> Hid (wpC P C cf LF y fr Q -> Q2) -> ziC (rdV (opE fr c)) Q1 Q2) : wpC P C cf LF (.cond c x y) fr Q := by
  obtain ⟨b, h, h1, h2⟩ := zhk (h _ _ ⟨id⟩ ⟨id⟩)
  cases b with
  | true =>
    obtain ⟨x, fr1, e, h'⟩ := h1 rfl
    exact ⟨x, fr1, by simp only [z0x, h, e], h'⟩
  | false =>
    obtain ⟨x, fr1, e, h'⟩ := h2 rfl
    exact ⟨x, fr1, by simp only [z0x, h, e], h'⟩
theorem zhp {Q1 : Fr -> Prop} (h : Q1 fr) : zaP Q1 Q .n fr := h
theorem zhn {Q1 : Fr -> Prop} {i} (h : Q (.x i) fr) : zaP Q1 Q (.x i) fr := h
theorem zho {Q1 : Fr -> Prop} (h : Q .r fr) : zaP Q1 Q .r fr := h
theorem zgE {id} (h : Q .n fr) : z3j id Q .n fr := h
theorem zdB {id} (h : Q .n fr) : z3j id Q (.x id) fr := by simp [z3j, h]
theorem zbs {id i} (hi : (i == id) = false) (h : Q (.x i) fr) : z3j id Q (.x i) fr := by
  have : i ≠ id := by simpa using hi
  simp [z3j, this, h]
theorem zgD {id} (h : Q .r fr) : z3j id Q .r fr := h
theorem znP {a b : Int} (h : b <= a) : (a < b) = False := by simp; omega
theorem znR {a b : Int} (h : b < a) : (a <= b) = False := by simp; omega
theorem znO {a b : Nat} (h : b <= a) : (a < b) = False := by simp; omega
theorem znQ {a b : Nat} (h : b < a) : (a <= b) = False := by simp; omega
def zlJ (I : Nat -> Fr -> Prop) (cn : Fr -> Fr) (m : Nat) (Q : X -> Fr -> Prop) : X -> Fr -> Prop
  | .n, fr => ∃ k, k < m /\ I k (cn fr)
  | .x i, fr => Q (.x i) fr
  | .r, fr => Q .r fr
def zj9 (I : Nat -> Prop) (H : Nat -> Fr) (cn : Fr -> Fr) (n k : Nat) (Q : X -> Fr -> Prop) : X -> Fr -> Prop
  | .n, fr => k < n /\ I (k + 1) /\ cn fr = H (k + 1)
  | .x i, fr => Q (.x i) fr
  | .r, fr => Q .r fr
def zij (P : Program) (fn : Func) (args : List T) (r : T) (outs : List T) : X -> Fr -> Prop
  | .n, fr => z7w P fn args fr = some (r, outs)
  | .r, fr => z7w P fn args fr = some (r, outs)
  | .x _, _ => False
def zii (P : Program) (fn : Func) (args : List T) (r : T) (outs : List T) : X -> Fr -> Prop
  | .n, fr => (z7w P fn args fr).map (fun x => (z0A x.1, x.2)) = some (r, outs)
  | .r, fr => (z7w P fn args fr).map (fun x => (z0A x.1, x.2)) = some (r, outs)
  | .x _, _ => False
theorem zfQ {fn : Func} {c : Code} {args : List T} {r : T} {outs : List T} (hb : fn.body = some c) (ha : args.length <= fn.ntmps /\ (args.filter z2L).length <= 1) (hz : (cf.fz 999998).isSome = true) (h : wpC P C cf LF c (z3L fn.ntmps args) (zii P fn args r outs)) : z9O P C cf LF fn args = some (r, outs) := by
  obtain ⟨x, fr', e, h⟩ := h
  obtain ⟨l, hl⟩ := Option.isSome_iff_exists.1 hz
  unfold z9O zhV
  rw [if_pos ha, hb]
  simp only [e, hl]
  cases x with
  | n => exact h
  | x i => exact absurd h id
  | r => exact h
theorem zhD {fn : Func} {c : Code} {args : List T} {r : T} {outs : List T} (hb : fn.body = some c) (ha : args.length <= fn.ntmps /\ (args.filter z2L).length <= 1) (h : wpC P C cf LF c (z3L fn.ntmps args) (zij P fn args r outs)) (hz : cf.fz 999998 = none := by rfl) : z9O P C cf LF fn args = some (r, outs) := by
  obtain ⟨x, fr', e, h⟩ := h
  unfold z9O zhV
  rw [if_pos ha, hb]
  simp only [e, hz]
  cases x with
  | n => exact h
  | x i => exact absurd h id
  | r => exact h
def z6r : Code -> Nat
  | .skip => 0
  | .region _ _ _ => 1
  | .seq _ _ => 2
  | .cond _ _ _ => 3
  | .block _ _ => 4
  | .loop _ => 5
  | .exit _ => 6
  | .ret => 7
  | .label _ => 8
  | .scope _ => 10
  | _ => 9
def ziG : Code -> Code
  | .seq a _ => a
  | c => c
def zhB : Code -> Code
  | .seq _ b => b
  | c => c
def cdA : Code -> Code
  | .cond _ x _ => x
  | c => c
def cdB : Code -> Code
  | .cond _ _ y => y
  | c => c
def cdO : Code -> Option Operand
  | .cond o _ _ => some o
  | _ => none
def blC : Code -> Code
  | .block _ c => c
  | c => c
def blI : Code -> Nat
  | .block i _ => i
  | _ => 0
def lpC : Code -> Code
  | .loop c => c
  | c => c
def spC : Code -> Code
  | .scope c => c
  | c => c
def exI : Code -> Nat
  | .exit i => i
  | _ => 0
def rgI : Code -> Nat
  | .region i _ _ => i
  | _ => 0
def rgD : Code -> Bool
  | .region _ _ d => d
  | _ => false
def rgO : Code -> Array Oper
  | .region _ ops _ => ops
  | _ => #[]
def rgN : Code -> Option Nat
  | .region i _ _ => some i
  | _ => none
def rgL (c : Code) : Option (List Oper) := match c with | .region _ ops _ => some ops.toList | _ => none
section
variable {c : Code}
theorem zjb (hk : z6r c = 0) (h : Q .n fr) : wpC P C cf LF c fr Q := by
  cases c <;> first | exact zfD h | cases hk
theorem zhJ (hk : z6r c = 8) (h : Q .n fr) : wpC P C cf LF c fr Q := by
  cases c <;> first | exact zdM h | cases hk
theorem zjc (hk : z6r c = 6) (h : Q (.x (exI c)) fr) : wpC P C cf LF c fr Q := by
  cases c <;> first | exact zfE h | cases hk
theorem zln (hk : z6r c = 7) (h : Q .r fr) : wpC P C cf LF c fr Q := by
  cases c <;> first | exact zhf h | cases hk
theorem zlm (hk : z6r c = 2) (h : wpC P C cf LF (ziG c) fr (zaP (fun fr' => wpC P C cf LF (zhB c) fr' Q) Q)) : wpC P C cf LF c fr Q := by
  cases c <;> first | exact zhe h | cases hk
theorem zhL (hk : z6r c = 4) (h : wpC P C cf LF (blC c) fr (z3j (blI c) Q)) : wpC P C cf LF c fr Q := by
  cases c <;> first | exact zdO h | cases hk
theorem znn {o : Operand} (ho : cdO c = some o) (h : ∀ Q1 Q2 : Prop, Hid (wpC P C cf LF (cdA c) fr Q -> Q1) -> Hid (wpC P C cf LF (cdB c) fr Q -> Q2) -> ziC (rdV (opE fr o)) Q1 Q2) : wpC P C cf LF c fr Q := by
  cases c <;> first | (cases ho; exact ziQ h) | cases ho
theorem zfX {l : List Oper} (hl : rgL c = some l) (hd : rgD c = false) (hz : cf.fz (rgI c) = none) (h : ∀ Q' : Fr -> Prop, Hid (∀ fr', Q .n fr' -> Q' fr') -> zay (zaX P C cf.wio l.toArray l fr) Q') : wpC P C cf LF c fr Q := by
  cases c with
  | region i ops d =>
    cases hl
    exact zcG hd hz (by simpa using h)
  | _ => cases hl
theorem zlq {l : List Nat} {fr1 : Fr} (hk : z6r c = 1) (hz : cf.fz (rgI c) = some l) (hf : zie fr l = fr1) (h : wpC P C { cf with fz := fun _ => none } LF c fr1 Q) : wpC P C cf LF c fr Q := by
  cases c <;> first | exact zhg hz hf h | cases hk
theorem zhK {i : Nat} {sch : List (Nat × Nat)} (hi : rgN c = some i) (hd : rgD c = true) (hs : cf.dr i = some sch) (hz : cf.fz i = none) (h : z3u P C cf.wio (cf.wr i) (rgO c) sch fr (fun fr1 => zay (z2o P (rgO c).toList fr1) (Q .n))) (ht : cf.dt i = none := by rfl) : wpC P C cf LF c fr Q := by
  cases c with
  | region j ops d =>
    cases hi
    exact zdN hd hs hz h ht
  | _ => cases hi
def zjs : List Oper -> Nat -> Option Oper
  | [], _ => none
  | o :: _, 0 => some o
  | _ :: l, k + 1 => zjs l k
theorem zhU (l : List Oper) : ∀ (k : Nat) (o : Oper), zjs l k = some o -> l[k]? = some o := by
  induction l with
  | nil => intro k o h; cases k <;> cases h
  | cons a l ih =>
    intro k o h
    cases k with
    | zero => simpa [zjs] using h
    | succ k => simpa using ih k o (by simpa [zjs] using h)
def zen (c : Code) (k : Nat) : Option Oper := match c with | .region _ ops _ => zjs ops.toList k | _ => none
theorem z7e {c : Code} {k : Nat} {o : Oper} (h : zen c k = some o) : (rgO c)[k]? = some o := by
  cases c with
  | region i ops d => rw [← Array.getElem?_toList]; exact zhU _ _ _ h
  | _ => cases h
theorem zaZ {wio : FuncId -> Nat -> Bool} {M : List Nat} {ops : Array Oper} {l : List Oper} {Q : X -> Fr -> Prop} (hl : rgL c = some l) (h : ∀ Q' : Fr -> Prop, Hid (∀ fr', Q .n fr' -> Q' fr') -> zay (z2o P l fr) Q') : z3u P C wio M ops [] fr (fun fr1 => zay (z2o P (rgO c).toList fr1) (Q .n)) := by
  have e : (rgO c).toList = l := by
    cases c with
    | region i ops d => cases hl; rfl
    | _ => cases hl
  rw [e]
  exact zfc h
def zns : Option Oper -> Option Nat
  | some o => o.dst
  | none => none
def zi8 (c : Code) (o : Oper) : Option (Option (Option Nat × Bool)) := match o.guard with | none => some none | some (j, want) => (match zns (zen c j) with | some t => some (some (some t, want)) | none => none)
def zh1 (g : Option (Option Nat × Bool)) (fr : Fr) : Option Bool :=
  match g with
  | none => some true
  | some (none, _) => some false
  | some (some t, want) => if t < fr.nt then (match zbw (z0E fr.tm t) with | some b => some (b == some want) | none => none) else none
theorem zeR {o : Oper} {g : Option (Option Nat × Bool)} (hg : zi8 c o = some g) (fr : Fr) : z3a (rgO c) fr o = zh1 g fr := by
  unfold zi8 at hg
  unfold z3a zh1
  split at hg
  · rename_i h; cases hg; simp [h]
  · rename_i j want h
    split at hg
    · rename_i t ht
      cases hg
      have e : ((rgO c)[j]?).bind (·.dst) = some t := by
        unfold zns at ht
        split at ht
        · rename_i o' ho'
          rw [z7e ho']; exact ht
        · cases ht
      simp only [h, e]
      all_goals rfl
    · cases hg
theorem zcT {wio : FuncId -> Nat -> Bool} {M : List Nat} {k m : Nat} {o : Oper} {l : List (Nat × Nat)} {Q : Fr -> Prop} (ho : zen c k = some o) (hg : o.guard = none) (h : ∀ Q' : Fr -> Prop, Hid (∀ fr', z3u P C wio M (rgO c) l fr' Q -> Q' fr') -> zay (z6V P C wio M.isEmpty M.contains fr o m) Q') : z3u P C wio M (rgO c) ((k, m) :: l) fr Q := zgx (z7e ho) hg h
theorem z8y {wio : FuncId -> Nat -> Bool} {M : List Nat} {k m : Nat} {o : Oper} {g : Option (Option Nat × Bool)} {l : List (Nat × Nat)} {Q : Fr -> Prop} (ho : zen c k = some o) (hg : zi8 c o = some g) (h : ∀ Q1 Q2 : Prop, Hid ((∀ Q' : Fr -> Prop, Hid (∀ fr', z3u P C wio M (rgO c) l fr' Q -> Q' fr') -> zay (z6V P C wio M.isEmpty M.contains fr o m) Q') -> Q1) -> Hid ((∀ Q' : Fr -> Prop, Hid (∀ fr', z3u P C wio M (rgO c) l fr' Q -> Q' fr') -> zay (putF fr o.dst (.one (.k undef))) Q') -> Q2) -> ziT (zh1 g fr) Q1 Q2) : z3u P C wio M (rgO c) ((k, m) :: l) fr Q :=
  zbk (z7e ho) (by simpa only [zeR hg] using h)
def znG (P : Program) (C : z0b) (wio : FuncId -> Nat -> Bool) (c : Code) (k : Nat) (fr : Fr) (Q : Fr -> Prop) : Prop := zkQ P C wio (rgO c) ((rgO c).toList.drop k) fr Q
theorem zhG (hk : z6r c = 10) (h : wpC P C cf LF (spC c) fr Q) : wpC P C cf LF c fr Q := by
  cases c with
  | scope c => unfold wpC at h ⊢; simpa only [z0x, spC] using h
  | _ => cases hk
def z2E (P : Program) (C : z0b) (cf : Cfg) (c : Code) (i : Nat) (t : SchT) (fr : Fr) (Q : Fr -> Prop) : Prop := ∃ fr', z2H P C cf.wio (cf.wr i).isEmpty (cf.wr i).contains (rgO c) t fr = some fr' /\ Q fr'
theorem zja {i : Nat} {t : SchT} (hi : rgN c = some i) (hd : rgD c = true) (ht : cf.dt i = some t) (hz : cf.fz i = none) (h : z2E P C cf c i t fr (fun fr1 => ∃ fr2, z2o P (rgO c).toList fr1 = some fr2 /\ Q .n fr2)) : wpC P C cf LF c fr Q := by
  cases c with
  | region j ops d =>
    cases hi
    simp only [rgD] at hd
    subst hd
    obtain ⟨fr1, e1, fr2, e2, h⟩ := h
    simp only [rgO] at e1 e2
    exact ⟨.n, fr2, by simp only [z0x, if_true, z3m, ht, hz, zgl, e1, e2], h⟩
  | _ => cases hi
theorem ziV {i : Nat} {Q : Fr -> Prop} (h : Q fr) : z2E P C cf c i .nil fr Q := ⟨fr, by simp only [z2H], h⟩
theorem ziW {l : List Oper} {fr2 : Fr} {Q : X -> Fr -> Prop} (hl : rgL c = some l) (ha : z2o P l fr = some fr2) (h : Q .n fr2) : ∃ fr2, z2o P (rgO c).toList fr = some fr2 /\ Q .n fr2 := by
  cases c with
  | region j ops d => cases hl; exact ⟨fr2, ha, h⟩
  | _ => cases hl
def z9G (P : Program) (C : z0b) (wio : FuncId -> Nat -> Bool) (same : Bool) (M : Nat -> Bool) (fr : Fr) (o : Oper) (m : Nat) : Option Fr := match z6V P C wio same M fr o m with | some f => some (zgU f) | none => none
theorem z7Z {i k m : Nat} {rest : SchT} {o : Oper} {fr1 fr' : Fr} (ho : zen c k = some o) (hgd : z3a (rgO c) fr o = some true) (hs : z9G P C cf.wio (cf.wr i).isEmpty (cf.wr i).contains fr o m = some fr1) (e : z2H P C cf.wio (cf.wr i).isEmpty (cf.wr i).contains (rgO c) rest fr1 = some fr') : z2H P C cf.wio (cf.wr i).isEmpty (cf.wr i).contains (rgO c) (.op k m rest) fr = some fr' := by
  unfold z9G at hs
  split at hs
  case h_2 => cases hs
  case h_1 f hz =>
  cases hs
  simp only [z2H, z7e ho, hgd]
  unfold z6V at hz
  split at hz
  · rename_i hm
    rw [if_pos hm]
    split at hz
    · rename_i e1 he
      try rw [he]
      simp only [hz]
      exact e
    · cases hz
  · rename_i hm
    rw [if_neg hm]
    rw [hz]
    exact e
theorem zl8 {i k m : Nat} {rest : SchT} {o : Oper} {fr1 : Fr} {Q : Fr -> Prop} (ho : zen c k = some o) (hg : o.guard = none) (hs : z9G P C cf.wio (cf.wr i).isEmpty (cf.wr i).contains fr o m = some fr1) (h : z2E P C cf c i rest fr1 Q) : z2E P C cf c i (.op k m rest) fr Q := by
  obtain ⟨fr', e, h⟩ := h
  exact ⟨fr', z7Z ho (by unfold z3a; rw [hg]) hs e, h⟩
theorem zl9 {i k m : Nat} {rest : SchT} {o : Oper} {g : Option (Option Nat × Bool)} {fr1 : Fr} {Q : Fr -> Prop} (ho : zen c k = some o) (hg : zi8 c o = some g) (hv : zh1 g fr = some true) (hs : z9G P C cf.wio (cf.wr i).isEmpty (cf.wr i).contains fr o m = some fr1) (h : z2E P C cf c i rest fr1 Q) : z2E P C cf c i (.op k m rest) fr Q := by
  obtain ⟨fr', e, h⟩ := h
  exact ⟨fr', z7Z ho (by rw [zeR hg]; exact hv) hs e, h⟩
def nrmO? : Option Fr -> Option Fr
  | some f => some (zgU f)
  | none => none
theorem zla {i k m : Nat} {rest : SchT} {o : Oper} {g : Option (Option Nat × Bool)} {fr1 : Fr} {Q : Fr -> Prop} (ho : zen c k = some o) (hg : zi8 c o = some g) (hv : zh1 g fr = some false) (hs : nrmO? (putF fr o.dst (.one (.k undef))) = some fr1) (h : z2E P C cf c i rest fr1 Q) : z2E P C cf c i (.op k m rest) fr Q := by
  obtain ⟨fr', e, h⟩ := h
  have hgd : z3a (rgO c) fr o = some false := by rw [zeR hg]; exact hv
  unfold nrmO? at hs
  split at hs
  · rename_i f hf
    cases hs
    exact ⟨fr', by simp only [z2H, z7e ho, hgd, hf]; exact e, h⟩
  · cases hs
theorem ziX {i : Nat} {a b : SchT} {f : Fr} {Q : Fr -> Prop} (h1 : z2E P C cf c i a fr (fun x => x = f)) (h2 : z2E P C cf c i b fr (fun y => z6q f y)) (h : Q f) : z2E P C cf c i (.alt a b) fr Q := by
  obtain ⟨x, e1, rfl⟩ := h1
  obtain ⟨y, e2, hs⟩ := h2
  exact ⟨x, by simp only [z2H, e1, e2]; exact z8D hs, h⟩
theorem zhm {i : Nat} {a b : SchT} {Q : Fr -> Prop} (h : z2E P C cf c i a fr (fun x => z2E P C cf c i b fr (fun y => z6q x y) /\ Q x)) : z2E P C cf c i (.alt a b) fr Q := by
  obtain ⟨x, e1, h1, h2⟩ := h
  exact ziX ⟨x, e1, rfl⟩ h1 h2
theorem zbt {id i : Nat} (hi : i = id) (h : Q .n fr) : z3j id Q (.x i) fr := by
  subst hi; exact zdB h
end
attribute [irreducible] wpC zaP z3j zkQ znG z3u zlJ zj9 zay ziT ziC
end
section
def LFm : Nat := 18446744073709551616
noncomputable def z0U (P : Program) (X : z0b -> z0b) (cf : FuncId -> Option Cfg) : Nat -> z0b
  | 0 => fun f args => match cf f with | some _ => none | none => X (fun _ _ => none) f args
  | n + 1 => fun f args => match cf f with
    | some c => (match P.funcs[f]? with | some fn => z9O P (z0U P X cf n) c LFm fn args | none => none)
    | none => X (z0U P X cf n) f args
def z0K (P : Program) (f : FuncId) (c : Cfg) : Bool :=
  match P.funcs[f]? with
  | none => false
  | some fn => match fn.body with
    | none => false
    | some b => (fn.name != "runtime.NumGoroutine") && okC c b
theorem z4V {P : Program} {I : World -> (Nat -> z0a) -> Prop} {X : z0b -> z0b} {cf : FuncId -> Option Cfg} (hI : EnvS I) (hX : ∀ C, z2J P I C -> z2J P I (X C)) (hm : P.follows .mixedOrders = true) (hf : ∀ f c, cf f = some c -> z0K P f c = true) : ∀ n, z2J P I (z0U P X cf n)
  | 0 => fun f args r outs h => by
    simp only [z0U] at h
    split at h
    · cases h
    · exact hX _ (fun _ _ _ _ h => by cases h) f args r outs h
  | n + 1 => fun f args r outs h => by
    simp only [z0U] at h
    split at h
    · rename_i c hc
      split at h
      · rename_i fn hfn
        have hok := hf f c hc
        unfold z0K at hok
        rw [hfn] at hok
        simp only at hok
        split at hok
        · cases hok
        · rename_i b hb
          simp only [Bool.and_eq_true, bne_iff_ne, ne_eq] at hok
          exact zj5 hI (z4V hI hX hm hf n) hm hfn hb hok.1 hok.2 h
      · cases h
    · exact hX _ (z4V hI hX hm hf n) f args r outs h
theorem za3 {P : Program} {X : z0b -> z0b} {cf : FuncId -> Option Cfg} {f : FuncId} {c : Cfg} {fn : Func} {n : Nat} {args : List T} {o : T × List T} (hc : cf f = some c) (hfn : P.funcs[f]? = some fn) (h : z9O P (z0U P X cf n) c LFm fn args = some o) : z0U P X cf (n + 1) f args = some o := by
  simp only [z0U, hc, hfn, h]
def From (P : Program) (X : z0b -> z0b) (cf : FuncId -> Option Cfg) (d : Nat) (f : FuncId) (args : List T) (o : T × List T) : Prop := ∀ n, d <= n -> z0U P X cf n f args = some o
theorem From.run {P : Program} {X : z0b -> z0b} {cf : FuncId -> Option Cfg} {f : FuncId} {c : Cfg} {fn : Func} {d : Nat} {args : List T} {o : T × List T} (hc : cf f = some c) (hfn : P.funcs[f]? = some fn) (h : ∀ n, d <= n -> z9O P (z0U P X cf n) c LFm fn args = some o) : From P X cf (d + 1) f args o := fun n hn => by
  match n, hn with
  | m + 1, hm => exact za3 hc hfn (h m (by omega))
theorem From.mono {P : Program} {X : z0b -> z0b} {cf : FuncId -> Option Cfg} {f : FuncId} {d e : Nat} {args : List T} {o : T × List T} (h : From P X cf d f args o) (he : d <= e) : From P X cf e f args o := fun n hn => h n (by omega)
theorem From.ok {P : Program} {I : World -> (Nat -> z0a) -> Prop} {X : z0b -> z0b} {cf : FuncId -> Option Cfg} {f : FuncId} {d : Nat} {args : List T} {r : T} {outs : List T} (hI : EnvS I) (hX : ∀ C, z2J P I C -> z2J P I (X C)) (hm : P.follows .mixedOrders = true) (hf : ∀ f c, cf f = some c -> z0K P f c = true) (h : From P X cf d f args (r, outs)) : CallOk P I f args r outs :=
  z4V hI hX hm hf d f args r outs (h d (Nat.le_refl d))
end
section
noncomputable def Lim (P : Program) (X : z0b -> z0b) (cf : FuncId -> Option Cfg) : z0b := fun f args =>
  @dite _ (∃ o d, From P X cf d f args o) (Classical.propDecidable _) (fun h => some h.choose) (fun _ => none)
section
variable {P : Program} {Xc : z0b -> z0b} {cf : FuncId -> Option Cfg}
theorem zbW {d : Nat} {f : FuncId} {args : List T} {o : T × List T} (h : From P Xc cf d f args o) : Lim P Xc cf f args = some o := by
  have he : ∃ o d, From P Xc cf d f args o := ⟨o, d, h⟩
  unfold Lim
  rw [dif_pos he]
  obtain ⟨e, h2⟩ := he.choose_spec
  have a1 := h (d + e) (by omega)
  have a2 := h2 (d + e) (by omega)
  rw [a1] at a2
  exact a2.symm
theorem zep {f : FuncId} {args : List T} {o : T × List T} (h : Lim P Xc cf f args = some o) : ∃ d, From P Xc cf d f args o := by
  unfold Lim at h
  split at h
  · rename_i he
    cases h
    exact he.choose_spec
  · cases h
def Ev (p : Nat -> Prop) : Prop := ∃ n, ∀ m, n <= m -> p m
theorem Ev.pure {p : Nat -> Prop} (h : ∀ m, p m) : Ev p := ⟨0, fun m _ => h m⟩
theorem Ev.both {p q r : Nat -> Prop} (h1 : Ev p) (h2 : Ev q) (h : ∀ m, p m -> q m -> r m) : Ev r := by
  obtain ⟨a, h1⟩ := h1
  obtain ⟨b, h2⟩ := h2
  exact ⟨a + b, fun m hm => h m (h1 m (by omega)) (h2 m (by omega))⟩
theorem Ev.imp {p q : Nat -> Prop} (h1 : Ev p) (h : ∀ m, p m -> q m) : Ev q := by
  obtain ⟨a, h1⟩ := h1
  exact ⟨a, fun m hm => h m (h1 m hm)⟩
theorem z5y {wio : FuncId -> Nat -> Bool} {fr fr' : Fr} {f : FuncId} {args : List E} {dst : Option Nat} (h : z5z (Lim P Xc cf) wio fr f args dst = some fr') : Ev fun m => z5z (z0U P Xc cf m) wio fr f args dst = some fr' := by
  unfold z5z at h ⊢
  split at h
  · cases h
  · rename_i ts deps io ha
    split at h
    · cases h
    · rename_i r outs hc
      obtain ⟨d, hd⟩ := zep hc
      refine ⟨d, fun m hm => ?_⟩
      show (match z0U P Xc cf m f ts with | none => none | some (r, outs) => _) = _
      rw [hd m hm]
      exact h
theorem zb3 {wio : FuncId -> Nat -> Bool} {fr fr' : Fr} {o : Oper} (h : opF P (Lim P Xc cf) wio fr o = some fr') : Ev fun m => opF P (z0U P Xc cf m) wio fr o = some fr' := by
  unfold opF at h ⊢
  split at h
  · exact .pure fun _ => h
  · split at h
    · exact z5y h
    · cases h
  · exact .pure fun _ => h
  · exact .pure fun _ => h
  · exact .pure fun _ => h
theorem zat {wio : FuncId -> Nat -> Bool} {fr fr' : Fr} {o : Oper} (h : z4y P (Lim P Xc cf) wio fr o = some fr') : Ev fun m => z4y P (z0U P Xc cf m) wio fr o = some fr' := by
  unfold z4y at h ⊢
  split at h
  · split at h
    · split at h
      · exact z5y h
      · cases h
    · cases h
  · exact .pure fun _ => h
theorem zdJ {wio : FuncId -> Nat -> Bool} {M : Nat -> Bool} {fr fr' : Fr} {o : Oper} (h : wrF P (Lim P Xc cf) wio M fr o = some fr') : Ev fun m => wrF P (z0U P Xc cf m) wio M fr o = some fr' := by
  unfold wrF at h ⊢
  split at h
  · split at h
    · cases h
    · split at h
      · exact z5y h
      · split at h
        · rename_i hM
          simp only [hM, if_true]
          exact z5y h
        · cases h
      · cases h
  · exact .pure fun _ => h
  · exact .pure fun _ => h
  · exact .pure fun _ => h
  · cases h
theorem z8x {wio : FuncId -> Nat -> Bool} {ops : Array Oper} : ∀ {l : List Oper} {fr fr' : Fr}, zaX P (Lim P Xc cf) wio ops l fr = some fr' -> Ev fun m => zaX P (z0U P Xc cf m) wio ops l fr = some fr'
  | [], fr, fr', h => .pure fun _ => h
  | o :: rest, fr, fr', h => by
    simp only [zaX] at h ⊢
    split at h
    · cases h
    · split at h
      · rename_i fr1 h1
        exact (zb3 h1).both (z8x h) fun m a1 a2 => by rw [a1]; exact a2
      · cases h
    · split at h
      · rename_i fr1 h1
        exact (z8x h)
      · cases h
theorem z5w {wio : FuncId -> Nat -> Bool} {same : Bool} {M : Nat -> Bool} {ops : Array Oper} : ∀ {l : List (Nat × Oper × Nat)} {fr fr' : Fr}, z4e P (Lim P Xc cf) wio same M ops l fr = some fr' -> Ev fun m => z4e P (z0U P Xc cf m) wio same M ops l fr = some fr'
  | [], fr, fr', h => .pure fun _ => h
  | (k, o, mk) :: rest, fr, fr', h => by
    simp only [z4e] at h ⊢
    split at h
    · cases h
    · split at h
      · exact z5w h
      · cases h
    · split at h
      · rename_i hm
        simp only [if_pos hm]
        split at h
        · split at h
          · exact z5w h
          · cases h
        · cases h
      · rename_i hm
        simp only [if_neg hm]
        split at h
        · rename_i fr1 h1
          have h2 : Ev fun m => (if mk = 2 then opF P (z0U P Xc cf m) wio fr o else if same = true then z4y P (z0U P Xc cf m) wio fr o else wrF P (z0U P Xc cf m) wio M fr o) = some fr1 := by
            by_cases e : mk = 2
            · simp only [if_pos e] at h1 ⊢; exact zb3 h1
            · simp only [if_neg e] at h1 ⊢
              by_cases e2 : same = true
              · simp only [if_pos e2] at h1 ⊢; exact zat h1
              · simp only [if_neg e2] at h1 ⊢; exact zdJ h1
          exact h2.both (z5w h) fun m a1 a2 => by rw [a1]; exact a2
        · cases h
theorem z3v {wio : FuncId -> Nat -> Bool} {same : Bool} {M : Nat -> Bool} {ops : Array Oper} : ∀ {l : SchT} {fr fr' : Fr}, z2H P (Lim P Xc cf) wio same M ops l fr = some fr' -> Ev fun m => z2H P (z0U P Xc cf m) wio same M ops l fr = some fr'
  | .nil, fr, fr', h => .pure fun _ => h
  | .alt x y, fr, fr', h => by
    simp only [z2H] at h ⊢
    split at h
    · rename_i f1 f2 h1 h2
      obtain ⟨rfl, hs⟩ := z5G h
      exact (z3v h1).both (z3v h2) fun m a1 a2 => by rw [a1, a2]; exact z8D hs
    · cases h
  | .op k mk rest, fr, fr', h => by
    simp only [z2H] at h ⊢
    split at h
    · cases h
    rename_i o ho
    try simp only [ho]
    split at h
    · cases h
    · split at h
      · exact z3v h
      · cases h
    · split at h
      · rename_i hm
        simp only [if_pos hm]
        split at h
        · split at h
          · exact z3v h
          · cases h
        · cases h
      · rename_i hm
        simp only [if_neg hm]
        split at h
        · rename_i fr1 h1
          have h2 : Ev fun m => (if mk = 2 then opF P (z0U P Xc cf m) wio fr o else if same = true then z4y P (z0U P Xc cf m) wio fr o else wrF P (z0U P Xc cf m) wio M fr o) = some fr1 := by
            by_cases e : mk = 2
            · simp only [if_pos e] at h1 ⊢; exact zb3 h1
            · simp only [if_neg e] at h1 ⊢
              by_cases e2 : same = true
              · simp only [if_pos e2] at h1 ⊢; exact zat h1
              · simp only [if_neg e2] at h1 ⊢; exact zdJ h1
          exact h2.both (z3v h) fun m a1 a2 => by rw [a1]; exact a2
        · cases h
theorem zbl {c : Cfg} {id : Nat} {ops : Array Oper} {fr fr' : Fr} (h : z3m P (Lim P Xc cf) c id ops fr = some fr') : Ev fun m => z3m P (z0U P Xc cf m) c id ops fr = some fr' := by
  unfold z3m at h ⊢
  split at h
  · exact z3v h
  · split at h
    · exact z5w h
    · cases h
theorem za7 {B : z0b -> Fr -> Option (X × Fr)} {cn : Fr -> Fr} (hB : ∀ fr o, B (Lim P Xc cf) fr = some o -> Ev fun m => B (z0U P Xc cf m) fr = some o) : ∀ {n : Nat} {fr : Fr} {o : X × Fr}, z5u (B (Lim P Xc cf)) cn n fr = some o -> Ev fun m => z5u (B (z0U P Xc cf m)) cn n fr = some o
  | 0, fr, o, h => by cases h
  | n + 1, fr, o, h => by
    simp only [z5u] at h ⊢
    split at h
    · rename_i fr1 h1
      exact (hB _ _ h1).both (za7 hB h) fun m a1 a2 => by rw [a1]; exact a2
    · rename_i x fr1 hne h1
      refine (hB _ _ h1).imp fun m a1 => ?_
      rw [a1]
      cases x with
      | n => exact absurd rfl hne
      | x i => exact h
      | r => exact h
    · cases h
theorem zap {c : Cfg} {LF : Nat} : ∀ (b : Code) {fr : Fr} {o : X × Fr}, z0x P (Lim P Xc cf) c LF b fr = some o -> Ev fun m => z0x P (z0U P Xc cf m) c LF b fr = some o := by
  intro b
  induction b with
  | skip => intro fr o h; exact .pure fun _ => h
  | label l => intro fr o h; exact .pure fun _ => h
  | exit id => intro fr o h; exact .pure fun _ => h
  | ret => intro fr o h; exact .pure fun _ => h
  | goto l => intro fr o h; cases h
  | scope c ih => intro fr o h; simp only [z0x] at h ⊢; exact ih h
  | refuse s => intro fr o h; cases h
  | rangeFunc => intro fr o h; cases h
  | region id ops draw =>
    intro fr o h
    simp only [z0x] at h ⊢
    split at h
    · rename_i hd
      simp only [hd, if_true]
      split at h
      · rename_i fr1 h1
        exact (zbl h1).imp fun m a1 => by rw [a1]; exact h
      · cases h
    · rename_i hd
      simp only [hd, Bool.false_eq_true, if_false]
      split at h
      · rename_i fr1 h1
        exact (z8x h1).imp fun m a1 => by rw [a1]; exact h
      · cases h
  | seq a b ih1 ih2 =>
    intro fr o h
    simp only [z0x] at h ⊢
    split at h
    · rename_i fr1 h1
      exact (ih1 h1).both (ih2 h) fun m a1 a2 => by rw [a1]; exact a2
    · rename_i hne
      refine (ih1 h).imp fun m a1 => ?_
      rw [a1]
      obtain ⟨x, fr1⟩ := o
      cases x with
      | n => exact absurd h (hne _)
      | x i => rfl
      | r => rfl
  | cond c x y ih1 ih2 =>
    intro fr o h
    simp only [z0x] at h ⊢
    split at h
    · exact ih1 h
    · exact ih2 h
    · cases h
  | block id c ih =>
    intro fr o h
    simp only [z0x] at h ⊢
    split at h
    · rename_i i fr1 h1
      exact (ih h1).imp fun m a1 => by rw [a1]; exact h
    · rename_i hne
      refine (ih h).imp fun m a1 => ?_
      rw [a1]
      obtain ⟨x, fr1⟩ := o
      cases x with
      | n => rfl
      | x i => exact absurd h (hne _ _)
      | r => rfl
  | loop b ih =>
    intro fr o h
    simp only [z0x] at h ⊢
    exact za7 (B := fun C fr => z0x P C c LF b fr) (fun fr o h => ih h) h
theorem zfR {c : Cfg} {LF : Nat} {fn : Func} {args : List T} {o : T × List T} (h : z9O P (Lim P Xc cf) c LF fn args = some o) : Ev fun m => z9O P (z0U P Xc cf m) c LF fn args = some o := by
  unfold z9O at h ⊢
  split at h
  · rename_i hc
    simp only [if_pos hc]
    split at h
    · cases h
    · rename_i b hb
      split at h
      · rename_i fr h1
        exact (zap _ h1).imp fun m a1 => by rw [a1]; exact h
      · rename_i fr h1
        exact (zap _ h1).imp fun m a1 => by rw [a1]; exact h
      · cases h
  · cases h
theorem zi0 {f : FuncId} {c : Cfg} {fn : Func} {args : List T} {o : T × List T} (hc : cf f = some c) (hfn : P.funcs[f]? = some fn) (h : z9O P (Lim P Xc cf) c LFm fn args = some o) : Lim P Xc cf f args = some o := by
  obtain ⟨d, hd⟩ := zfR h
  exact zbW (d := d + 1) (From.run hc hfn hd)
theorem zeA {f : FuncId} {args : List T} (hc : cf f = none) {o : T × List T} (h : ∀ C, Xc C f args = some o) : Lim P Xc cf f args = some o :=
  zbW (d := 0) fun n _ => by
    cases n with
    | zero => simp only [z0U, hc, h]
    | succ n => simp only [z0U, hc, h]
theorem zbX {f : FuncId} {args : List T} (hc : cf f = none) {o : T × List T} (h : Ev fun m => Xc (z0U P Xc cf m) f args = some o) : Lim P Xc cf f args = some o := by
  obtain ⟨d, hd⟩ := h
  refine zbW (d := d + 1) fun n hn => ?_
  match n, hn with
  | n + 1, hn => simp only [z0U, hc]; exact hd n (by omega)
theorem zjA {I : World -> (Nat -> z0a) -> Prop} {f : FuncId} {args : List T} {r : T} {outs : List T} (hI : EnvS I) (hX : ∀ C, z2J P I C -> z2J P I (Xc C)) (hm : P.follows .mixedOrders = true) (hf : ∀ f c, cf f = some c -> z0K P f c = true) (h : Lim P Xc cf f args = some (r, outs)) : CallOk P I f args r outs := by
  obtain ⟨d, hd⟩ := zep h
  exact From.ok hI hX hm hf hd
end
end
section
def z0o (P : Program) (t : TypeId) (f : Nat) : Option (Nat × Nat × Bool) :=
  match z0z P t with
  | some ⟨.struct fields, _, _, _⟩ => match fields[f]? with
    | none => none
    | some fd => match z0z P fd.type with
      | none => none
      | some ti => some (fd.offset, ti.size, z1O ti.u)
  | _ => none
def z2p (P : Program) (t : TypeId) : Option (List T) :=
  match z0z P t with
  | some ⟨.struct fields, _, _, some zs⟩ => if zs.all z5S = true /\ (fields.toList.all fun f => (z0z P f.type).isSome) = true then some zs else none
  | _ => none
theorem z8Y (P : Program) (t : TypeId) (e : E) (f : Nat) : z3s P t e f = match z0o P t f with
    | some (off, size, _) => if size = 0 then none else match e with
      | .one (.a id p o) => some (.one (.a id p (o + off)))
      | .one (.ea dep cs o) => some (.one (.ea dep cs (o + off)))
      | _ => none
    | none => none := by
  unfold z3s z0o
  cases z0z P t with
  | none => rfl
  | some i =>
    obtain ⟨u, s, b, z⟩ := i
    cases u with
    | struct fields =>
      simp only
      cases fields[f]? with
      | none => rfl
      | some fd =>
        simp only
        cases z0z P fd.type with
        | none => rfl
        | some ti => rfl
    | _ => rfl
theorem zf4 (P : Program) (fr : Fr) (t : TypeId) (e : E) (f : Nat) : zah P fr t e f = match z0o P t f with
    | some (off, size, agg) => zd0 fr agg size off e
    | none => none := by
  unfold zah z0o
  cases z0z P t with
  | none => rfl
  | some i =>
    obtain ⟨u, s, b, z⟩ := i
    cases u with
    | struct fields =>
      simp only
      cases fields[f]? with
      | none => rfl
      | some fd =>
        simp only
        cases z0z P fd.type with
        | none => rfl
        | some ti => rfl
    | _ => rfl
theorem z0y {P : Program} {t : TypeId} {zs : List T} (h : z2p P t = some zs) (fr : Fr) (parts : List (Nat × Operand)) : z2M P fr t parts = match z3b fr (z0o P t) (zs.map (A.t none)) parts with
    | some xs => some (.ag xs)
    | none => none := by
  unfold z2p at h
  split at h
  · rename_i fields s b zs' ht
    split at h
    · rename_i hc
      cases h
      unfold z2M
      rw [ht]
      simp only
      rw [if_pos hc]
      have : (fun i => match fields[i]? with | some f => (match z0z P f.type with | some ti => some (f.offset, ti.size, z1O ti.u) | none => none) | none => none) = z0o P t := by
        funext i
        unfold z0o
        rw [ht]
        simp only
        cases fields[i]? with
        | none => rfl
        | some f =>
          simp only
          cases z0z P f.type with
          | none => rfl
          | some ti => rfl
      exact congrArg (fun g => match z3b fr g (zs.map (A.t none)) parts with | some xs => some (E.ag xs) | none => none) this
    · cases h
  · cases h
abbrev hE (id : Nat) : E := .one (.h id [])
theorem z8q : ∀ l : List UInt8, z4F (l.map fun b => .sc (.int .u8 b.toNat)) = some l
  | [] => rfl
  | b :: l => by simp [z4F, z8q l]
theorem zaE (b : UInt8) : IntKind.u8.wrap (b.toNat : Int) = b.toNat := by
  have := b.toNat_lt
  rw [IntKind.wrap_u8]; omega
@[simp] theorem range_1 : List.range 1 = [0] := rfl
@[simp] theorem range_2 : List.range 2 = [0, 1] := rfl
@[simp] theorem range_3 : List.range 3 = [0, 1, 2] := rfl
@[simp] theorem range_4 : List.range 4 = [0, 1, 2, 3] := rfl
@[simp] theorem range_5 : List.range 5 = [0, 1, 2, 3, 4] := rfl
@[simp] theorem range_6 : List.range 6 = [0, 1, 2, 3, 4, 5] := rfl
@[simp] theorem range_7 : List.range 7 = [0, 1, 2, 3, 4, 5, 6] := rfl
@[simp] theorem range_8 : List.range 8 = [0, 1, 2, 3, 4, 5, 6, 7] := rfl
@[simp] theorem range_9 : List.range 9 = [0, 1, 2, 3, 4, 5, 6, 7, 8] := rfl
@[simp] theorem range_10 : List.range 10 = [0, 1, 2, 3, 4, 5, 6, 7, 8, 9] := rfl
@[simp] theorem range_11 : List.range 11 = [0, 1, 2, 3, 4, 5, 6, 7, 8, 9, 10] := rfl
@[simp] theorem range_12 : List.range 12 = [0, 1, 2, 3, 4, 5, 6, 7, 8, 9, 10, 11] := rfl
@[simp] theorem zdF (t : T) : ∀ n, z4u n [t] = List.replicate n t
  | 0 => rfl
  | n + 1 => by simp [z4u, zdF t n, List.replicate_succ]
@[simp] theorem zhR {α : Type} (g : α -> Value) : ∀ l : List α, z7E (l.map fun x => T.sc (g x)) = false
  | [] => rfl
  | x :: l => by simp [z7E, opn, zhR g l]
@[simp] theorem bits_u64 : IntKind.u64.bits = 64 := rfl
@[simp] theorem bits_i64 : IntKind.i64.bits = 64 := rfl
@[simp] theorem int_beq (a b : Int) : (a == b) = decide (a = b) := rfl
@[simp] theorem int_bne (a b : Int) : (a != b) = !decide (a = b) := rfl
@[simp] theorem wrap_0 : IntKind.i64.wrap 0 = 0 := by decide
@[simp] theorem wrap_1 : IntKind.i64.wrap 1 = 1 := by decide
@[simp] theorem wrap_2 : IntKind.i64.wrap 2 = 2 := by decide
@[simp] theorem wrap_3 : IntKind.i64.wrap 3 = 3 := by decide
@[simp] theorem wrap_m1 : IntKind.i64.wrap (-1) = -1 := by decide
end
section
def z0C {σ ρ : Type} (b : σ -> Option (σ ⊕ ρ)) : Nat -> σ -> Option ρ
  | 0, _ => none
  | n + 1, s => match b s with
    | none => none
    | some (.inl s') => z0C b n s'
    | some (.inr r) => some r
def z0J {σ ρ : Type} (s : σ) : Option (σ ⊕ ρ) := some (.inl s)
def z0p {σ ρ : Type} (x : Option ρ) : Option (σ ⊕ ρ) := x.map .inr
def chk {α : Type} (p : Prop) [Decidable p] (x : Option α) : Option α := if p then x else none
def atI {α : Type} (xs : List α) (i : Int) : Option α := if 0 <= i then xs[i.toNat]? else none
def zis (s : ByteArray) (i : Int) : Option Int := if 0 <= i then (s[i.toNat]?).map fun b => (b.toNat : Int) else none
def z6i {α : Type} (xs : List α) (l h : Int) : Option (List α) := if 0 <= l /\ l <= h /\ h <= xs.length then some ((xs.drop l.toNat).take (h.toNat - l.toNat)) else none
def zeh (s : ByteArray) (l h : Int) : Option ByteArray := if 0 <= l /\ l <= h /\ h <= s.size then some (s.extract l.toNat h.toNat) else none
def z1t (bytes n : Nat) : Prop := n * bytes <= 140737488355328 /\ n <= 4611686018427387904
instance (b n : Nat) : Decidable (z1t b n) := by unfold z1t; exact inferInstance
def z1I (bytes l : Int) : Prop := 0 <= l /\ l <= 140737488355328 /\ bytes * l <= 140737488355328
instance (b n : Int) : Decidable (z1I b n) := by unfold z1I; exact inferInstance
def zaq (a b : ByteArray) : Prop := ((a.size : Int) + b.size) <= 9223372036854775807
instance (a b : ByteArray) : Decidable (zaq a b) := by unfold zaq; exact inferInstance
def z2I (l : List Int) : ByteArray := ⟨(l.map fun z => UInt8.ofNat z.toNat).toArray⟩
def zjD (s : ByteArray) : List Int := s.data.toList.map fun b => (b.toNat : Int)
def z3Q {κ ν : Type} [DecidableEq κ] (k : κ) : List (κ × ν) -> Option ν
  | [] => none
  | (a, v) :: r => if a = k then some v else z3Q k r
def z9J {κ ν : Type} [DecidableEq κ] (k : κ) (v : ν) : List (κ × ν) -> List (κ × ν)
  | [] => [(k, v)]
  | (a, u) :: r => if a = k then (k, v) :: r else (a, u) :: z9J k v r
def zpn (k : IntKind) (a b : Int) : Int := k.wrap (BitVec.ofInt k.bits a &&& BitVec.ofInt k.bits b).toNat
def orI (k : IntKind) (a b : Int) : Int := k.wrap (BitVec.ofInt k.bits a ||| BitVec.ofInt k.bits b).toNat
def znw (k : IntKind) (a b : Int) : Int := k.wrap (BitVec.ofInt k.bits a ^^^ BitVec.ofInt k.bits b).toNat
def ziw (k : IntKind) (a b : Int) : Int := k.wrap (BitVec.ofInt k.bits a &&& ~~~ BitVec.ofInt k.bits b).toNat
theorem ze5 : ∃ f : IntKind -> Int -> Int -> Int, ∀ k a b, f k a b = k.wrap (a * 2 ^ (min b.toNat k.bits)) := ⟨_, fun _ _ _ => rfl⟩
noncomputable def znm : IntKind -> Int -> Int -> Int := Classical.choose ze5
theorem zhs (k : IntKind) (a b : Int) : znm k a b = k.wrap (a * 2 ^ (min b.toNat k.bits)) := Classical.choose_spec ze5 k a b
def znl (k : IntKind) (a b : Int) : Int := a.fdiv (2 ^ (min b.toNat k.bits))
def znK (k : IntKind) (a b : Int) : Int := k.wrap (a.tdiv b)
def ziZ (a b : ByteArray) : Bool := Go.Op.bytesLess a.toList b.toList
theorem z5x {α : Type} {p : Prop} [Decidable p] {x : Option α} {r : α} (h : chk p x = some r) : p /\ x = some r := by
  unfold chk at h; split at h
  · exact ⟨by assumption, h⟩
  · cases h
theorem z3i {α β : Type} {x : Option α} {f : α -> Option β} {r : β} (h : x.bind f = some r) : ∃ v, x = some v /\ f v = some r := by
  cases x with
  | none => cases h
  | some v => exact ⟨v, rfl, h⟩
theorem zai {σ ρ : Type} {x : Option ρ} {o : σ ⊕ ρ} (h : z0p x = some o) : ∃ r, x = some r /\ o = .inr r := by
  unfold z0p at h
  cases x with
  | none => cases h
  | some v => cases h; exact ⟨v, rfl, rfl⟩
theorem zev {σ ρ : Type} {s : σ} {o : σ ⊕ ρ} (h : z0J s = some o) : o = .inl s := by cases h; rfl
theorem zcs {α : Type} {xs : List α} {i : Int} {v : α} (h : atI xs i = some v) : 0 <= i /\ i < xs.length /\ i.toNat + 1 <= xs.length /\ xs[i.toNat]? = some v /\ ∀ hh : i.toNat < xs.length, xs[i.toNat]'hh = v := by
  unfold atI at h
  split at h
  · have := (List.getElem?_eq_some_iff.1 h).1
    exact ⟨by assumption, by omega, this, h, fun _ => (List.getElem?_eq_some_iff.1 h).2⟩
  · cases h
theorem zdA {s : ByteArray} {i v : Int} (h : zis s i = some v) : 0 <= i /\ i < s.size /\ ∃ b, s[i.toNat]? = some b /\ v = (b.toNat : Int) /\ ∀ hh : i.toNat < s.size, ((s[i.toNat]'hh).toNat : Int) = v := by
  unfold zis at h
  split at h
  · simp only [Option.map_eq_some_iff] at h
    obtain ⟨b, hb, rfl⟩ := h
    have : i.toNat < s.size := by
      rcases Nat.lt_or_ge i.toNat s.size with h' | h'
      · exact h'
      · rw [getElem?_neg s i.toNat (by omega)] at hb; cases hb
    exact ⟨by assumption, by omega, b, hb, rfl, fun hh => by rw [getElem?_pos s i.toNat hh] at hb; cases hb; rfl⟩
  · cases h
theorem zgK {α β : Type} {xs : List α} {i : Int} {f : α -> Option β} {r : β} (h : (atI xs i).bind f = some r) : ∃ v, (0 <= i /\ i < xs.length /\ i.toNat + 1 <= xs.length /\ xs[i.toNat]? = some v /\ ∀ hh : i.toNat < xs.length, xs[i.toNat]'hh = v) /\ f v = some r := by
  obtain ⟨v, h1, h2⟩ := z3i h
  exact ⟨v, zcs h1, h2⟩
theorem zgJ {α β : Type} {xs : List α} {i : Nat} {f : α -> Option β} {r : β} (h : (atI xs (i : Int)).bind f = some r) : ∃ v, (i < xs.length /\ i + 1 <= xs.length /\ xs[i]? = some v /\ ∀ hh : i < xs.length, xs[i]'hh = v) /\ f v = some r := by
  obtain ⟨v, h1, h2⟩ := z3i h
  obtain ⟨a, b, c, d, e⟩ := zcs h1
  simp only [Int.toNat_natCast] at c d e
  exact ⟨v, ⟨by omega, c, d, e⟩, h2⟩
theorem z2q {α : Type} {xs ys : List α} {l h : Int} (e : z6i xs l h = some ys) : 0 <= l /\ l <= h /\ h <= xs.length /\ ys = (xs.drop l.toNat).take (h.toNat - l.toNat) /\ ys.length = h.toNat - l.toNat := by
  unfold z6i at e
  split at e
  · cases e
    refine ⟨by omega, by omega, by omega, rfl, ?_⟩
    simp; omega
  · cases e
theorem zb1 {s t : ByteArray} {l h : Int} (e : zeh s l h = some t) : 0 <= l /\ l <= h /\ h <= s.size /\ t = s.extract l.toNat h.toNat := by
  unfold zeh at e
  split at e
  · cases e; exact ⟨by omega, by omega, by omega, rfl⟩
  · cases e
theorem z2s {σ ρ : Type} {b : σ -> Option (σ ⊕ ρ)} (I : σ -> Prop) (m : σ -> Nat) (Post : ρ -> Prop) (step : ∀ s, I s -> (∃ s', b s = some (.inl s') /\ I s' /\ m s' < m s) ∨ (∃ r, b s = some (.inr r) /\ Post r)) :
    ∀ (n : Nat) (s : σ), I s -> m s < n -> ∃ r, z0C b n s = some r /\ Post r
  | 0, s, _, h => by omega
  | n + 1, s, hI, hm => by
    rcases step s hI with ⟨s', e, hI', hm'⟩ | ⟨r, e, hr⟩
    · obtain ⟨r, h1, h2⟩ := z2s I m Post step n s' hI' (by omega)
      exact ⟨r, by simp only [z0C, e]; exact h1, h2⟩
    · exact ⟨r, by simp only [z0C, e], hr⟩
theorem zlo {P : Program} {C : z0b} {cf : Cfg} {LF : Nat} {c : Code} {fr : Fr} {Q : X -> Fr -> Prop} {o : Operand} (ho : cdO c = some o) (hv : rdV (opE fr o) = some (.bool true)) (h : wpC P C cf LF (cdA c) fr Q) : wpC P C cf LF c fr Q :=
  znn ho fun Q1 Q2 h1 h2 => by rw [hv, z9s]; exact ⟨fun _ => h1.out h, fun e => by cases e⟩
theorem zlp {P : Program} {C : z0b} {cf : Cfg} {LF : Nat} {c : Code} {fr : Fr} {Q : X -> Fr -> Prop} {o : Operand} (ho : cdO c = some o) (hv : rdV (opE fr o) = some (.bool false)) (h : wpC P C cf LF (cdB c) fr Q) : wpC P C cf LF c fr Q :=
  znn ho fun Q1 Q2 h1 h2 => by rw [hv, z9s]; exact ⟨(fun e => by cases e), fun _ => h2.out h⟩
def z5j {σ ρ : Type} (H : σ -> Fr) (cn : Fr -> Fr) (o : σ ⊕ ρ) (Q : X -> Fr -> Prop) : X -> Fr -> Prop
  | .n, fr => ∃ s', o = .inl s' /\ cn fr = H s'
  | .x i, fr => (∃ r, o = .inr r) /\ Q (.x i) fr
  | .r, fr => (∃ r, o = .inr r) /\ Q .r fr
theorem zfU {σ ρ : Type} {H : σ -> Fr} {cn : Fr -> Fr} {o : σ ⊕ ρ} {Q : X -> Fr -> Prop} {fr : Fr} {s : σ} (ho : o = .inl s) (h : cn fr = H s) : z5j H cn o Q .n fr := ⟨s, ho, h⟩
theorem zfS {σ ρ : Type} {H : σ -> Fr} {cn : Fr -> Fr} {o : σ ⊕ ρ} {Q : X -> Fr -> Prop} {fr : Fr} {i : Nat} {r : ρ} (ho : o = .inr r) (h : Q (.x i) fr) : z5j H cn o Q (.x i) fr := ⟨⟨r, ho⟩, h⟩
theorem zfT {σ ρ : Type} {H : σ -> Fr} {cn : Fr -> Fr} {o : σ ⊕ ρ} {Q : X -> Fr -> Prop} {fr : Fr} {r : ρ} (ho : o = .inr r) (h : Q .r fr) : z5j H cn o Q .r fr := ⟨⟨r, ho⟩, h⟩
theorem z8j {σ ρ : Type} {B : Fr -> Option (X × Fr)} {cn : Fr -> Fr} {body : σ -> Option (σ ⊕ ρ)} {H : σ -> Fr} {r : ρ} {Q : X -> Fr -> Prop}
    (round : ∀ s o, body s = some o -> (∀ r', o = .inr r' -> r' = r) -> ∃ x fr', B (H s) = some (x, fr') /\ z5j H cn o Q x fr') :
    ∀ (n : Nat) (s : σ) (fr : Fr), z0C body n s = some r -> cn fr = H s -> ∃ x fr', z5u B cn n fr = some (x, fr') /\ Q x fr'
  | 0, s, fr, h, _ => by cases h
  | n + 1, s, fr, h, h0 => by
    simp only [z0C] at h
    split at h
    · cases h
    · rename_i s' e
      obtain ⟨x, fr', e1, e2⟩ := round s _ e (fun r' h' => by cases h')
      cases x with
      | n =>
        obtain ⟨s2, e3, e4⟩ := e2
        cases e3
        obtain ⟨x2, fr2, e5, e6⟩ := z8j round n s' fr' h e4
        exact ⟨x2, fr2, by simp only [z5u, h0, e1]; exact e5, e6⟩
      | x i => obtain ⟨⟨r', e3⟩, _⟩ := e2; cases e3
      | r => obtain ⟨⟨r', e3⟩, _⟩ := e2; cases e3
    · rename_i r0 e
      cases h
      obtain ⟨x, fr', e1, e2⟩ := round s _ e (fun r' h' => by cases h'; rfl)
      cases x with
      | n => obtain ⟨s2, e3, _⟩ := e2; cases e3
      | x i => exact ⟨_, _, by simp only [z5u, h0, e1], e2.2⟩
      | r => exact ⟨_, _, by simp only [z5u, h0, e1], e2.2⟩
theorem zhI {P : Program} {C : z0b} {cf : Cfg} {LF : Nat} {c : Code} {fr : Fr} {Q : X -> Fr -> Prop} {σ ρ : Type} {lv : List Nat} {body : σ -> Option (σ ⊕ ρ)} {s0 : σ} {r : ρ} (h : z0C body LF s0 = some r) (H : σ -> Fr) (hk : z6r c = 5) (hv : cf.live (z4D (lpC c)) = some lv)
    (h0 : z4E (some lv) fr = H s0) (round : ∀ s o, body s = some o -> (∀ r', o = .inr r' -> r' = r) -> wpC P C cf LF (lpC c) (H s) (z5j H (z4E (some lv)) o Q)) : wpC P C cf LF c fr Q := by
  cases c with
  | loop b =>
    obtain ⟨x, fr', e1, e2⟩ := z8j (B := fun fr => z0x P C cf LF b fr) (cn := z4E (some lv)) (H := H) (body := body) (r := r) (Q := Q) (fun s o h1 h2 => by have := round s o h1 h2; unfold wpC at this; exact this) LF s0 fr h h0
    unfold wpC
    refine ⟨x, fr', ?_, e2⟩
    simp only [z0x]
    simp only [lpC] at hv
    rw [hv]
    exact e1
  | _ => cases hk
theorem zdm (k : IntKind) (a b : Int) : z2l .add k a b = some (.int k (k.wrap (a + b))) := rfl
theorem zdb (k : IntKind) (a b : Int) : z2l .sub k a b = some (.int k (k.wrap (a - b))) := rfl
theorem zdf (k : IntKind) (a b : Int) : z2l .mul k a b = some (.int k (k.wrap (a * b))) := rfl
theorem zdd (k : IntKind) (a b : Int) : z2l .quo k a b = if b = 0 then none else some (.int k (znK k a b)) := rfl
theorem zdc (k : IntKind) (a b : Int) : z2l .rem k a b = if b = 0 then none else some (.int k (a.tmod b)) := rfl
theorem zdl (k : IntKind) (a b : Int) : z2l .and k a b = some (.int k (zpn k a b)) := Eq.trans rfl rfl
theorem zeL (k : IntKind) (a b : Int) : z2l .or k a b = some (.int k (orI k a b)) := Eq.trans rfl rfl
theorem zda (k : IntKind) (a b : Int) : z2l .xor k a b = some (.int k (znw k a b)) := Eq.trans rfl rfl
theorem z8O (k : IntKind) (a b : Int) : z2l .andNot k a b = some (.int k (ziw k a b)) := Eq.trans rfl rfl
theorem zdk (k : IntKind) (a b : Int) : z2l .eql k a b = some (.bool (decide (a = b))) := rfl
theorem zde (k : IntKind) (a b : Int) : z2l .neq k a b = some (.bool (!decide (a = b))) := rfl
theorem zdg (k : IntKind) (a b : Int) : z2l .lss k a b = some (.bool (decide (a < b))) := rfl
theorem zdh (k : IntKind) (a b : Int) : z2l .leq k a b = some (.bool (decide (a <= b))) := rfl
theorem zdi (k : IntKind) (a b : Int) : z2l .gtr k a b = some (.bool (decide (b < a))) := rfl
theorem zdj (k : IntKind) (a b : Int) : z2l .geq k a b = some (.bool (decide (b <= a))) := rfl
theorem z7W {a b : ByteArray} : a.toList = b.toList ↔ a = b := by
  constructor
  · intro h
    have h1 : a.data.toList = b.data.toList := by simpa [ByteArray.toList_eq] using h
    obtain ⟨⟨x⟩⟩ := a
    obtain ⟨⟨y⟩⟩ := b
    simp at h1
    rw [h1]
  · intro h; rw [h]
theorem zcN (a b : ByteArray) : z4z .eql a b = some (.bool (decide (a = b))) := by
  simp only [z4z]
  congr 2
  rw [Bool.eq_iff_iff]; simp [z7W]
theorem zcK (a b : ByteArray) : z4z .neq a b = some (.bool (!decide (a = b))) := by
  simp only [z4z]
  congr 3
  rw [Bool.eq_iff_iff]; simp [z7W]
theorem zcL (a b : ByteArray) : z4z .lss a b = some (.bool (ziZ a b)) := rfl
theorem zcM (a b : ByteArray) : z4z .geq a b = some (.bool (!ziZ a b)) := rfl
theorem zcO (a b : ByteArray) : z4z .add a b = if zaq a b then some (.string (a ++ b)) else none := by
  have hm : IntKind.i64.max = 9223372036854775807 := by decide
  show (if ((a.size + b.size : Nat) : Int) > IntKind.i64.max then none else some (Value.string (a ++ b))) = _
  rw [hm]
  by_cases h : zaq a b
  · rw [if_pos h]
    unfold zaq at h
    rw [if_neg (by omega)]
  · rw [if_neg h]
    unfold zaq at h
    rw [if_pos (by omega)]
theorem zgG (op : BinOp) (u : Option TyI) (k k' : IntKind) (a b : Int) : ziM op u (.int k a) (.int k' b) = match op with
    | .shl => if b < 0 then none else some (.int k (znm k a b))
    | .shr => if b < 0 then none else some (.int k (znl k a b))
    | _ => if k = k' then z2l op k a b else none := by
  cases op
  case shl => simp only [zhs]; rfl
  all_goals rfl
theorem zgF (op : BinOp) (u : Option TyI) (a b : ByteArray) : ziM op u (.string a) (.string b) = z4z op a b := rfl
theorem zfn (op : BinOp) (u : Option TyI) (a b : Bool) : ziM op u (.bool a) (.bool b) = match u with
    | some ⟨.bool, _, _, _⟩ => (match op with | .eql => some (.bool (a == b)) | .neq => some (.bool (!(a == b))) | _ => none)
    | _ => none := rfl
theorem zcn : ∀ l : List Int, z4F (l.map fun z => .sc (.int .u8 z)) = some (l.map fun z => UInt8.ofNat z.toNat)
  | [] => rfl
  | z :: l => by simp [z4F, zcn l]
theorem z8V {α β : Type} {g : α -> List β} {m : Nat} (hg : ∀ x, (g x).length = m) : ∀ xs : List α, (xs.flatMap g).length = xs.length * m
  | [] => by simp
  | x :: xs => by
    have := z8V hg xs
    simp only [List.flatMap_cons, List.length_append, hg, this, List.length_cons, Nat.add_mul, Nat.one_mul]
    omega
theorem z7q {α β : Type} {g : α -> List β} {m : Nat} (hg : ∀ x, (g x).length = m) : ∀ (xs : List α) (i : Nat), (xs.flatMap g).drop (i * m) = (xs.drop i).flatMap g
  | xs, 0 => by simp
  | [], i + 1 => by simp
  | x :: xs, i + 1 => by
    have := z7q hg xs i
    rw [List.flatMap_cons, List.drop_succ_cons, ← this, List.drop_append, List.drop_eq_nil_of_le (by rw [hg, Nat.add_mul]; omega), List.nil_append, hg]
    congr 1
    rw [Nat.add_mul]; omega
theorem zae {α β : Type} {g : α -> List β} {m : Nat} (hg : ∀ x, (g x).length = m) : ∀ (xs : List α) (i : Nat), (xs.flatMap g).take (i * m) = (xs.take i).flatMap g
  | xs, 0 => by simp
  | [], i + 1 => by simp
  | x :: xs, i + 1 => by
    have := zae hg xs i
    rw [List.flatMap_cons, List.take_succ_cons, List.flatMap_cons, ← this, List.take_append, List.take_of_length_le (by rw [hg, Nat.add_mul]; omega), hg]
    congr 2
    rw [Nat.add_mul]; omega
theorem z5v {α β : Type} {g : α -> List β} {m : Nat} (hg : ∀ x, (g x).length = m) {xs : List α} {i : Nat} {v : α} (h : xs[i]? = some v) :
    i * m + m <= xs.length * m /\ ((xs.flatMap g).drop (i * m)).take m = g v /\ (∀ j, j < m -> (xs.flatMap g)[i * m + j]? = (g v)[j]?) /\ ∀ j c, (g v)[j]? = some c -> ∀ hh : i * m + j < (xs.flatMap g).length, (xs.flatMap g)[i * m + j]'hh = c := by
  obtain ⟨hi, hv⟩ := List.getElem?_eq_some_iff.1 h
  have hd : xs.drop i = v :: xs.drop (i + 1) := by rw [← hv]; exact List.drop_eq_getElem_cons hi
  have h2 : ((xs.flatMap g).drop (i * m)) = g v ++ (xs.drop (i + 1)).flatMap g := by rw [z7q hg, hd, List.flatMap_cons]
  have key : ∀ j, j < m -> (xs.flatMap g)[i * m + j]? = (g v)[j]? := fun j hj => by
    rw [← List.getElem?_drop, h2, List.getElem?_append_left (by rw [hg]; exact hj)]
  refine ⟨?_, ?_, key, fun j c hc hh => ?_⟩
  · calc i * m + m = (i + 1) * m := by rw [Nat.add_mul, Nat.one_mul]
      _ <= _ := Nat.mul_le_mul_right _ hi
  · rw [h2, List.take_append_of_le_length (by rw [hg]; exact Nat.le_refl _), List.take_of_length_le (by rw [hg]; exact Nat.le_refl _)]
  · have hj : j < m := by rw [← hg v]; exact (List.getElem?_eq_some_iff.1 hc).1
    have := key j hj
    rw [hc, List.getElem?_eq_getElem hh] at this
    exact Option.some.inj this
theorem zcZ {α β : Type} {g : α -> β} {xs ys : List α} {l h : Int} (e : z6i xs l h = some ys) : ((xs.map g).drop l.toNat).take (h.toNat - l.toNat) = ys.map g := by
  obtain ⟨_, _, _, e2, _⟩ := z2q e
  rw [e2, List.map_take, List.map_drop]
theorem zb2 {α β : Type} {g : α -> List β} {m : Nat} (hg : ∀ x, (g x).length = m) {xs ys : List α} {l h : Int} (e : z6i xs l h = some ys) : ((xs.flatMap g).drop (l.toNat * m)).take ((h.toNat - l.toNat) * m) = ys.flatMap g := by
  obtain ⟨_, _, _, e2, _⟩ := z2q e
  rw [e2, z7q hg, zae hg]
theorem zcX {α : Type} {xs ys : List α} {l h : Int} (e : z6i xs l h = some ys) (f : α -> T) : T.sl (h.toNat - l.toNat) (ys.map f) = T.sl ys.length (ys.map f) := by
  obtain ⟨_, _, _, _, e2⟩ := z2q e
  rw [e2]
theorem zcY {α : Type} {xs ys : List α} {l h : Int} (e : z6i xs l h = some ys) (f : α -> List T) : T.sl (h.toNat - l.toNat) (ys.flatMap f) = T.sl ys.length (ys.flatMap f) := by
  obtain ⟨_, _, _, _, e2⟩ := z2q e
  rw [e2]
theorem z8C {l h : Int} (a : 0 <= l) (b : l <= h) : 0 <= h /\ l <= (h.toNat : Int) := by omega
theorem z7d : ∀ a b : List T, z7E (a ++ b) = (z7E a || z7E b)
  | [], b => by simp [z7E]
  | t :: a, b => by simp [z7E, z7d a b, Bool.or_assoc]
theorem zbR {α : Type} (g : α -> T) : ∀ l : List α, z7E (l.map g) = l.any fun x => opn (g x)
  | [] => rfl
  | x :: l => by simp [z7E, zbR g l]
theorem z9X {α : Type} (g : α -> List T) : ∀ l : List α, z7E (l.flatMap g) = l.any fun x => z7E (g x)
  | [] => rfl
  | x :: l => by simp [z7d, z9X g l]
theorem z4c {κ ν : Type} [DecidableEq κ] {ke : κ -> Value} {ve : ν -> Value} (h : ∀ a b, z1U (ke a) (ke b) = decide (a = b)) (k : κ) : ∀ m : List (κ × ν), z2e (ke k) (m.map fun p => (ke p.1, ve p.2)) = (z3Q k m).map ve
  | [] => rfl
  | (a, v) :: m => by
    simp only [List.map_cons, z2e, z3Q, h, z4c h k m]
    by_cases e : a = k <;> simp [e]
theorem z6g {κ ν : Type} [DecidableEq κ] {ke : κ -> Value} {ve : ν -> Value} (h : ∀ a b, z1U (ke a) (ke b) = decide (a = b)) (k : κ) (v : ν) : ∀ m : List (κ × ν), z8c (ke k) (ve v) (m.map fun p => (ke p.1, ve p.2)) = (z9J k v m).map fun p => (ke p.1, ve p.2)
  | [] => rfl
  | (a, u) :: m => by
    simp only [List.map_cons, z8c, z9J, h, z6g h k v m]
    by_cases e : a = k <;> simp [e]
theorem zeD (a b : Int × Int) : z1U (.agg #[.int .i64 a.1, .int .i64 a.2]) (.agg #[.int .i64 b.1, .int .i64 b.2]) = decide (a = b) := by
  obtain ⟨a1, a2⟩ := a
  obtain ⟨b1, b2⟩ := b
  simp [z1U, zbQ]
theorem zgp (k : ByteArray) (kd : IntKind) (m : List (ByteArray × Int)) : z2e (.string k) (m.map fun p => (Value.string p.1, Value.int kd p.2)) = (z3Q k m).map (Value.int kd) := z4c (ke := Value.string) (ve := Value.int kd) (fun _ _ => rfl) k m
theorem zgq (k : ByteArray) (m : List (ByteArray × Bool)) : z2e (.string k) (m.map fun p => (Value.string p.1, Value.bool p.2)) = (z3Q k m).map Value.bool := z4c (ke := Value.string) (ve := Value.bool) (fun _ _ => rfl) k m
theorem zgu (k : Int) (kk kd : IntKind) (m : List (Int × Int)) : z2e (.int kk k) (m.map fun p => (Value.int kk p.1, Value.int kd p.2)) = (z3Q k m).map (Value.int kd) := z4c (ke := Value.int kk) (ve := Value.int kd) (fun _ _ => rfl) k m
theorem zgv (k : Int) (kk : IntKind) (m : List (Int × Bool)) : z2e (.int kk k) (m.map fun p => (Value.int kk p.1, Value.bool p.2)) = (z3Q k m).map Value.bool := z4c (ke := Value.int kk) (ve := Value.bool) (fun _ _ => rfl) k m
theorem zht (k : ByteArray) (kd : IntKind) (v : Int) (m : List (ByteArray × Int)) : z8c (.string k) (.int kd v) (m.map fun p => (Value.string p.1, Value.int kd p.2)) = (z9J k v m).map fun p => (Value.string p.1, Value.int kd p.2) := z6g (ke := Value.string) (ve := Value.int kd) (fun _ _ => rfl) k v m
theorem zhu (k : ByteArray) (v : Bool) (m : List (ByteArray × Bool)) : z8c (.string k) (.bool v) (m.map fun p => (Value.string p.1, Value.bool p.2)) = (z9J k v m).map fun p => (Value.string p.1, Value.bool p.2) := z6g (ke := Value.string) (ve := Value.bool) (fun _ _ => rfl) k v m
theorem zhy (k : Int) (kk kd : IntKind) (v : Int) (m : List (Int × Int)) : z8c (.int kk k) (.int kd v) (m.map fun p => (Value.int kk p.1, Value.int kd p.2)) = (z9J k v m).map fun p => (Value.int kk p.1, Value.int kd p.2) := z6g (ke := Value.int kk) (ve := Value.int kd) (fun _ _ => rfl) k v m
theorem zhz (k : Int) (kk : IntKind) (v : Bool) (m : List (Int × Bool)) : z8c (.int kk k) (.bool v) (m.map fun p => (Value.int kk p.1, Value.bool p.2)) = (z9J k v m).map fun p => (Value.int kk p.1, Value.bool p.2) := z6g (ke := Value.int kk) (ve := Value.bool) (fun _ _ => rfl) k v m
theorem zgt (k : Int) (kk : IntKind) (m : List (Int × ByteArray)) : z2e (.int kk k) (m.map fun p => (Value.int kk p.1, Value.string p.2)) = (z3Q k m).map Value.string := z4c (ke := Value.int kk) (ve := Value.string) (fun _ _ => rfl) k m
theorem zhx (k : Int) (kk : IntKind) (v : ByteArray) (m : List (Int × ByteArray)) : z8c (.int kk k) (.string v) (m.map fun p => (Value.int kk p.1, Value.string p.2)) = (z9J k v m).map fun p => (Value.int kk p.1, Value.string p.2) := z6g (ke := Value.int kk) (ve := Value.string) (fun _ _ => rfl) k v m
theorem zgr (x y : Int) (kd : IntKind) (m : List ((Int × Int) × Int)) : z2e (.agg #[.int .i64 x, .int .i64 y]) (m.map fun p => (Value.agg #[.int .i64 p.1.1, .int .i64 p.1.2], Value.int kd p.2)) = (z3Q (x, y) m).map (Value.int kd) := z4c (ke := fun p : Int × Int => Value.agg #[.int .i64 p.1, .int .i64 p.2]) (ve := Value.int kd) (zeD) (x, y) m
theorem zhv (x y : Int) (kd : IntKind) (v : Int) (m : List ((Int × Int) × Int)) : z8c (.agg #[.int .i64 x, .int .i64 y]) (.int kd v) (m.map fun p => (Value.agg #[.int .i64 p.1.1, .int .i64 p.1.2], Value.int kd p.2)) = (z9J (x, y) v m).map fun p => (Value.agg #[.int .i64 p.1.1, .int .i64 p.1.2], Value.int kd p.2) := z6g (ke := fun p : Int × Int => Value.agg #[.int .i64 p.1, .int .i64 p.2]) (ve := Value.int kd) (zeD) (x, y) v m
theorem zgs (k : List Int) (kd : IntKind) (m : List (List Int × Int)) : z2e (agI k) (m.map fun p => (agI p.1, Value.int kd p.2)) = (z3Q k m).map (Value.int kd) := z4c (ke := agI) (ve := Value.int kd) z5K k m
theorem zhw (k : List Int) (kd : IntKind) (v : Int) (m : List (List Int × Int)) : z8c (agI k) (.int kd v) (m.map fun p => (agI p.1, Value.int kd p.2)) = (z9J k v m).map fun p => (agI p.1, Value.int kd p.2) := z6g (ke := agI) (ve := Value.int kd) z5K k v m
def zdo {κ ν : Type} [DecidableEq κ] (k : κ) : List (κ × ν) -> Option (κ × ν)
  | [] => none
  | (a, v) :: m => if a = k then some (a, v) else zdo k m
theorem z7n {κ ν : Type} [DecidableEq κ] (k : κ) : ∀ m : List (κ × ν), (zdo k m).map (·.2) = z3Q k m
  | [] => rfl
  | (a, v) :: m => by
    simp only [zdo, z3Q]
    split
    · rfl
    · exact z7n k m
theorem zeS {κ ν : Type} [DecidableEq κ] (k : κ) (m : List (κ × ν)) : (zdo k m).isSome = (z3Q k m).isSome := by rw [← z7n, Option.isSome_map]
theorem zf1 {α : Type} (k : ByteArray) (g : ByteArray × α -> T) : ∀ m : List (ByteArray × α), z3O (.string k) (m.map fun p => Value.string p.1) (m.map g) = (zdo k m).map g
  | [] => rfl
  | (a, v) :: m => by
    simp only [List.map_cons, z3O, zdo, z1U, zf1 k g m]
    by_cases h : a = k <;> simp [h]
theorem zf2 {α : Type} (k : Int) (kk : IntKind) (g : Int × α -> T) : ∀ m : List (Int × α), z3O (.int kk k) (m.map fun p => Value.int kk p.1) (m.map g) = (zdo k m).map g
  | [] => rfl
  | (a, v) :: m => by
    simp only [List.map_cons, z3O, zdo, z1U, zf2 k kk g m]
    by_cases h : a = k <;> simp [h]
theorem ze8 (k : Value) (t : T) : z4S k t [] [] = ([k], [t]) := rfl
theorem zfM (k v : Value) : z8c k v [] = [(k, v)] := rfl
theorem zfN {κ ν : Type} [DecidableEq κ] (k : κ) (v : ν) : z9J k v [] = [(k, v)] := rfl
theorem zgi (kd : IntKind) (z : Int) (o : Option Int) : (o.map (Value.int kd)).getD (.int kd z) = .int kd (o.getD z) := by cases o <;> rfl
theorem zeU (z : Bool) (o : Option Bool) : (o.map Value.bool).getD (.bool z) = .bool (o.getD z) := by cases o <;> rfl
@[simp] theorem oneNil : (Value.slice none 0 0).oneCell' = true := rfl
@[simp] theorem bszL (a : Array UInt8) : ByteArray.size ⟨a⟩ = a.size := rfl
@[simp] theorem bempty : (⟨#[]⟩ : ByteArray) = ByteArray.empty := rfl
@[simp] theorem voG0 (p l : List T) : (p ++ l)[p.length]? = l[0]? := by rw [List.getElem?_append_right (Nat.le_refl _), Nat.sub_self]
@[simp] theorem voG (p l : List T) (j : Nat) : (p ++ l)[p.length + j]? = l[j]? := by rw [List.getElem?_append_right (by omega), Nat.add_sub_cancel_left]
@[simp] theorem voSet0 (p l : List T) (x : T) : (p ++ l).set p.length x = p ++ l.set 0 x := by rw [List.set_append_right _ _ (Nat.le_refl _), Nat.sub_self]
@[simp] theorem voSet (p l : List T) (j : Nat) (x : T) : (p ++ l).set (p.length + j) x = p ++ l.set j x := by rw [List.set_append_right _ _ (by omega), Nat.add_sub_cancel_left]
section
variable {P : Program} {C : z0b} {cf : Cfg} {LF : Nat} {c : Code} {fr fr1 : Fr} {Q : X -> Fr -> Prop}
theorem zr {l : List Oper} (hl : rgL c = some l) (hd : rgD c = false) (hz : cf.fz (rgI c) = none) (hf : zaX P C cf.wio l.toArray l fr = some fr1) (h : Q .n fr1) : wpC P C cf LF c fr Q :=
  zfX hl hd hz fun Q' hQ => by rw [hf, zax]; exact hQ.out _ h
theorem zq (hk : z6r c = 2) (h : wpC P C cf LF (ziG c) fr (zaP (fun fr' => wpC P C cf LF (zhB c) fr' Q) Q)) : wpC P C cf LF c fr Q := zlm hk h
theorem zb (hk : z6r c = 4) (h : wpC P C cf LF (blC c) fr (z3j (blI c) Q)) : wpC P C cf LF c fr Q := zhL hk h
end
@[simp] theorem voLe (a j k n : Nat) : (a + j + k <= a + n) = (j + k <= n) := by simp only [eq_iff_iff]; omega
end
section
structure Run {ρ : Type} (x : Option ρ) (K : ρ -> Prop) : Prop where
  out : ∃ v, x = some v /\ K v
structure RK {σ ρ : Type} (o : σ ⊕ ρ) (K : ρ -> Prop) (o' : σ ⊕ ρ) : Prop where
  eq : o' = o
  k : ∀ r, o' = .inr r -> K r
class Ok {ρ : Type} (x : Option ρ) (S : outParam (ρ -> Prop)) : Prop where
  ok : ∀ r, x = some r -> S r
section
variable {G : Prop} {ρ : Type} {K : ρ -> Prop}
theorem zjl {b n : Nat} {x : Option ρ} (k : n * b <= 140737488355328 -> n <= 4611686018427387904 -> Run x K -> G) (h : Run (chk (z1t b n) x) K) : G := by
  obtain ⟨v, e, hk⟩ := h
  obtain ⟨⟨a, c⟩, e⟩ := z5x e
  exact k a c ⟨v, e, hk⟩
theorem zjk {n : Nat} {x : Option ρ} (k : n <= 140737488355328 -> n <= 4611686018427387904 -> Run x K -> G) (h : Run (chk (z1t 1 n) x) K) : G := zjl (fun a b => k (by omega) b) h
theorem zno {b l : Int} {x : Option ρ} (k : 0 <= l -> l <= 140737488355328 -> b * l <= 140737488355328 -> max l 0 = l -> Run x K -> G) (h : Run (chk (z1I b l) x) K) : G := by
  obtain ⟨v, e, hk⟩ := h
  obtain ⟨⟨a, c, d⟩, e⟩ := z5x e
  exact k a c d (by omega) ⟨v, e, hk⟩
theorem zlu {l : Int} {x : Option ρ} (k : 0 <= l -> l <= 140737488355328 -> max l 0 = l -> Run x K -> G) (h : Run (chk (z1I 1 l) x) K) : G := zno (fun a b _ d => k a b d) h
theorem zls {i : Int} {n : Nat} {x : Option ρ} (k : 0 <= i -> i < (n : Int) -> i.toNat < n -> i.toNat + 1 <= n -> Run x K -> G) (h : Run (chk (0 <= i /\ i < (n : Int)) x) K) : G := by
  obtain ⟨v, e, hk⟩ := h
  obtain ⟨⟨a, c⟩, e⟩ := z5x e
  exact k a c (by omega) (by omega) ⟨v, e, hk⟩
theorem zjg {i n : Int} {x : Option ρ} (k : 0 <= i -> i < n -> i.toNat < n.toNat -> i.toNat + 1 <= n.toNat -> Run x K -> G) (h : Run (chk (0 <= i /\ i < n) x) K) : G := by
  obtain ⟨v, e, hk⟩ := h
  obtain ⟨⟨a, c⟩, e⟩ := z5x e
  exact k a c (by omega) (by omega) ⟨v, e, hk⟩
theorem zlA {p : Prop} [Decidable p] {x : Option ρ} (k : p -> Run x K -> G) (h : Run (chk p x) K) : G := by
  obtain ⟨v, e, hk⟩ := h
  obtain ⟨a, e⟩ := z5x e
  exact k a ⟨v, e, hk⟩
theorem zlt {α : Type} {xs : List α} {i : Nat} {f : α -> Option ρ} (k : ∀ v, i < xs.length -> i + 1 <= xs.length -> xs[i]? = some v -> (∀ hh : i < xs.length, xs[i]'hh = v) -> Run (f v) K -> G) (h : Run ((atI xs (i : Int)).bind f) K) : G := by
  obtain ⟨r, e, hk⟩ := h
  obtain ⟨v, ⟨a, b, c, d⟩, e⟩ := zgJ e
  exact k v a b c d ⟨r, e, hk⟩
theorem znM {α : Type} {xs : List α} {i : Int} {f : α -> Option ρ} (k : ∀ v, 0 <= i -> i < xs.length -> i.toNat + 1 <= xs.length -> xs[i.toNat]? = some v -> (∀ hh : i.toNat < xs.length, xs[i.toNat]'hh = v) -> Run (f v) K -> G) (h : Run ((atI xs i).bind f) K) : G := by
  obtain ⟨r, e, hk⟩ := h
  obtain ⟨v, ⟨a, b, c, d, d2⟩, e⟩ := zgK e
  exact k v a b c d d2 ⟨r, e, hk⟩
theorem zjn {s : ByteArray} {i : Int} {f : Int -> Option ρ} (k : ∀ v, 0 <= i -> i < s.size -> (∃ b, s[i.toNat]? = some b /\ v = (b.toNat : Int)) -> (∀ hh : i.toNat < s.size, ((s[i.toNat]'hh).toNat : Int) = v) -> Run (f v) K -> G) (h : Run ((zis s i).bind f) K) : G := by
  obtain ⟨r, e, hk⟩ := h
  obtain ⟨v, e1, e2⟩ := z3i e
  obtain ⟨a, b, c, d1, d2, d3⟩ := zdA e1
  exact k v a b ⟨c, d1, d2⟩ d3 ⟨r, e2, hk⟩
theorem zhQ {α : Type} {xs : List α} {i : Int} {v : α} {f : α -> Option ρ} (hv : xs[i.toNat]? = some v) (hi : 0 <= i) (k : Run (f v) K -> G) (h : Run ((atI xs i).bind f) K) : G := by
  obtain ⟨r, e, hk⟩ := h
  unfold atI at e
  rw [if_pos hi, hv] at e
  exact k ⟨r, e, hk⟩
theorem zji {α : Type} {xs : List α} {i : Nat} {v : α} {f : α -> Option ρ} (hv : xs[i]? = some v) (k : Run (f v) K -> G) (h : Run ((atI xs (i : Int)).bind f) K) : G := zhQ (i := (i : Int)) hv (Int.natCast_nonneg i) k h
theorem znN {α : Type} {xs : List α} {v : α} {f : α -> Option ρ} (hv : xs[0]? = some v) (k : Run (f v) K -> G) (h : Run ((atI xs 0).bind f) K) : G := zhQ (i := 0) hv (Int.le_refl 0) k h
theorem zhO {α : Type} {e : Option α} {v : α} {f : α -> Option ρ} (hv : e = some v) (k : Run (f v) K -> G) (h : Run (e.bind f) K) : G := by subst hv; exact k h
theorem zjm {α : Type} {e : Option α} {S : α -> Prop} [Ok e S] {f : α -> Option ρ} (k : ∀ v, e = some v -> S v -> Run (f v) K -> G) (h : Run (e.bind f) K) : G := by
  obtain ⟨r, e1, hk⟩ := h
  obtain ⟨v, e2, e3⟩ := z3i e1
  exact k v e2 (Ok.ok v e2) ⟨r, e3, hk⟩
theorem znL {p : Prop} [Decidable p] {x y : Option ρ} (k : (p = True) -> Run x K -> G) (k2 : (p = False) -> Run y K -> G) (h : Run (if p then x else y) K) : G := by
  by_cases c : p
  · rw [if_pos c] at h; exact k (eq_true c) h
  · rw [if_neg c] at h; exact k2 (eq_false c) h
theorem p_0 {α : Type} {xs : List α} {f : α -> Option ρ} (k : ∀ v, 0 < xs.length -> xs ≠ [] -> xs[0]? = some v -> (∀ hh : 0 < xs.length, xs[0]'hh = v) -> Run (f v) K -> G) (h : Run ((atI xs 0).bind f) K) : G := by
  obtain ⟨r, e, hk⟩ := h
  obtain ⟨v, ⟨b, c, d, d2⟩, e⟩ := zgJ (i := 0) e
  exact k v b (List.length_pos_iff.1 b) d d2 ⟨r, e, hk⟩
theorem zlv {α : Type} {xs : List α} {i : Nat} {f : α -> Option ρ} (k : ∀ v, (OfNat.ofNat i : Nat) < xs.length -> xs ≠ [] -> xs[(OfNat.ofNat i : Nat)]? = some v -> (∀ hh : (OfNat.ofNat i : Nat) < xs.length, xs[(OfNat.ofNat i : Nat)]'hh = v) -> Run (f v) K -> G) (h : Run ((atI xs (OfNat.ofNat i : Int)).bind f) K) : G := by
  obtain ⟨r, e, hk⟩ := h
  obtain ⟨v, ⟨b, c, d, d2⟩, e⟩ := zgJ (i := i) e
  exact k v b (List.length_pos_iff.1 (Nat.lt_of_le_of_lt (Nat.zero_le _) b)) d d2 ⟨r, e, hk⟩
class IsS (α : Type) : Prop
theorem zlC {α : Type} [IsS α] {xs : List α} {i : Int} {f : α -> Option ρ} (k : ∀ v, 0 <= i -> i < xs.length -> i.toNat + 1 <= xs.length -> xs[i.toNat]? = some v -> (∀ m, i.toNat * m + m <= xs.length * m) -> (∀ (g : α -> List T) (m : Nat), (∀ x, (g x).length = m) -> ((xs.flatMap g).drop (i.toNat * m)).take m = g v) ->
    (∀ (g : α -> List T) (m j : Nat), (∀ x, (g x).length = m) -> j < m -> (xs.flatMap g)[i.toNat * m + j]? = (g v)[j]?) -> (∀ (g : α -> List T) (m : Nat), (∀ x, (g x).length = m) -> 0 < m -> (xs.flatMap g)[i.toNat * m]? = (g v)[0]?) -> Run (f v) K -> G) (h : Run ((atI xs i).bind f) K) : G := by
  obtain ⟨r, e, hk⟩ := h
  obtain ⟨v, ⟨a, b, c, d, d2⟩, e⟩ := zgK e
  refine k v a b c d (fun m => ?_) (fun g m hg => (z5v hg d).2.1) (fun g m j hg hj => (z5v hg d).2.2.1 j hj) (fun g m hg hj => (z5v hg d).2.2.1 0 hj) ⟨r, e, hk⟩
  calc i.toNat * m + m = (i.toNat + 1) * m := by rw [Nat.add_mul, Nat.one_mul]
    _ <= _ := Nat.mul_le_mul_right _ c
theorem z8l {α : Type} {xs : List α} {v : α} (h : xs[0]? = some v) (g : α -> List T) : ∃ r, xs.flatMap g = g v ++ r := by
  cases xs with
  | nil => cases h
  | cons a l =>
    simp at h; subst h
    exact ⟨l.flatMap g, List.flatMap_cons ..⟩
theorem zjo {α : Type} [IsS α] {xs : List α} {f : α -> Option ρ} (k : ∀ v, 0 < xs.length -> xs ≠ [] -> xs[0]? = some v -> (∀ (g : α -> List T) (j : Nat), j < (g v).length -> (xs.flatMap g)[j]? = (g v)[j]?) -> (∀ (g : α -> List T) (m : Nat), m = (g v).length -> (xs.flatMap g).take m = g v) -> Run (f v) K -> G) (h : Run ((atI xs 0).bind f) K) : G := by
  obtain ⟨r, e, hk⟩ := h
  obtain ⟨v, ⟨b, c, d, d2⟩, e⟩ := zgJ (i := 0) e
  refine k v b (List.length_pos_iff.1 b) d (fun g j hj => ?_) (fun g m hm => ?_) ⟨r, e, hk⟩
  · obtain ⟨q, hq⟩ := z8l d g
    rw [hq, List.getElem?_append_left hj]
  · obtain ⟨q, hq⟩ := z8l d g
    subst hm
    rw [hq, List.take_left]
theorem zlB {α : Type} {l : List α} {j : Nat} {a : α} {i : Int} {f : α -> Option ρ} (k : ∀ v, 0 <= i -> i < l.length -> i.toNat + 1 <= l.length -> (∀ (g : α -> T) hh, ((l.map g).set j (g a))[i.toNat]'hh = g v) -> (∀ (g : α -> T), ((l.map g).set j (g a))[i.toNat]? = some (g v)) -> Run (f v) K -> G) (h : Run ((atI (l.set j a) i).bind f) K) : G := by
  obtain ⟨r, e, hk⟩ := h
  obtain ⟨v, ⟨x, b, c, d, d2⟩, e⟩ := zgK e
  rw [List.length_set] at b c
  have key : ∀ (g : α -> T), ((l.map g).set j (g a))[i.toNat]? = some (g v) := fun g => by rw [← List.map_set, List.getElem?_map, d]; rfl
  exact k v x b c (fun g hh => (List.getElem?_eq_some_iff.1 (key g)).2) key ⟨r, e, hk⟩
theorem zlD {α : Type} {l : List α} {a : α} {i : Int} {f : α -> Option ρ} (k : ∀ v, 0 <= i -> i < (l.length : Int) + 1 -> i.toNat <= l.length -> (∀ (g : α -> T) hh, (l.map g ++ [g a])[i.toNat]'hh = g v) -> (∀ g : α -> T, (l.map g ++ [g a])[i.toNat]? = some (g v)) -> Run (f v) K -> G) (h : Run ((atI (l ++ [a]) i).bind f) K) : G := by
  obtain ⟨r, e, hk⟩ := h
  obtain ⟨v, ⟨x, b, c, d, d2⟩, e⟩ := zgK e
  rw [List.length_append, List.length_singleton] at b c
  have key : ∀ (g : α -> T), (l.map g ++ [g a])[i.toNat]? = some (g v) := fun g => by
    have := congrArg (Option.map g) d
    rwa [← List.getElem?_map, List.map_append] at this
  exact k v x (by omega) (by omega) (fun g hh => (List.getElem?_eq_some_iff.1 (key g)).2) key ⟨r, e, hk⟩
theorem zg0 {α : Type} {xs : List α} {l u : Int} {f : List α -> Option ρ} (k : ∀ v : List α, 0 <= l -> l <= u -> u <= xs.length -> 0 <= u -> l <= (u.toNat : Int) -> l <= max u 0 -> (∀ g : α -> T, ((xs.map g).drop l.toNat).take (u.toNat - l.toNat) = v.map g) -> (∀ g : α -> T, T.sl (u.toNat - l.toNat) (v.map g) = T.sl v.length (v.map g)) -> Run (f v) K -> G) (h : Run ((z6i xs l u).bind f) K) : G := by
  obtain ⟨r, e, hk⟩ := h
  obtain ⟨v, e1, e2⟩ := z3i e
  obtain ⟨a, b, c, -⟩ := z2q e1
  obtain ⟨d, g⟩ := z8C a b
  exact k v a b c d g (by omega) (fun g => zcZ e1) (fun g => zcX e1 g) ⟨r, e2, hk⟩
theorem zg1 {α : Type} [IsS α] {xs : List α} {l u : Int} {f : List α -> Option ρ} (k : ∀ v : List α, 0 <= l -> l <= u -> u <= xs.length -> 0 <= u -> l <= (u.toNat : Int) -> l <= max u 0 -> (∀ (g : α -> List T) (m : Nat), (∀ x, (g x).length = m) -> ((xs.flatMap g).drop (l.toNat * m)).take ((u.toNat - l.toNat) * m) = v.flatMap g) -> (∀ g : α -> List T, T.sl (u.toNat - l.toNat) (v.flatMap g) = T.sl v.length (v.flatMap g)) -> Run (f v) K -> G) (h : Run ((z6i xs l u).bind f) K) : G := by
  obtain ⟨r, e, hk⟩ := h
  obtain ⟨v, e1, e2⟩ := z3i e
  obtain ⟨a, b, c, -⟩ := z2q e1
  obtain ⟨d, g⟩ := z8C a b
  exact k v a b c d g (by omega) (fun g m hg => zb2 hg e1) (fun g => zcY e1 g) ⟨r, e2, hk⟩
theorem zfZ {s : ByteArray} {l u : Int} {f : ByteArray -> Option ρ} (k : ∀ v, 0 <= l -> l <= u -> u <= s.size -> 0 <= u -> l <= (u.toNat : Int) -> l <= max u 0 -> s.extract l.toNat u.toNat = v -> Run (f v) K -> G) (h : Run ((zeh s l u).bind f) K) : G := by
  obtain ⟨r, e, hk⟩ := h
  obtain ⟨v, e1, e2⟩ := z3i e
  obtain ⟨a, b, c, d⟩ := zb1 e1
  obtain ⟨d1, g⟩ := z8C a b
  exact k v a b c d1 g (by omega) d.symm ⟨r, e2, hk⟩
theorem zhP {α β : Type} {e : Option (α ⊕ β)} {S : α ⊕ β -> Prop} [Ok e S] {f : α ⊕ β -> Option ρ} (k : ∀ v, S (.inl v) -> Run (f (.inl v)) K -> G) (k2 : ∀ v, S (.inr v) -> Run (f (.inr v)) K -> G) (h : Run (e.bind f) K) : G := by
  obtain ⟨r, e1, hk⟩ := h
  obtain ⟨v, e2, e3⟩ := z3i e1
  cases v with
  | inl v => exact k v (Ok.ok _ e2) ⟨r, e3, hk⟩
  | inr v => exact k2 v (Ok.ok _ e2) ⟨r, e3, hk⟩
theorem zlx {α : Type} {m : Option α} {x y : Option ρ} (k : m.isSome = true -> Run x K -> G) (k2 : m = none -> Run y K -> G) (h : Run (if m.isSome = true then x else y) K) : G := by
  cases m with
  | some v => exact k rfl (by simpa using h)
  | none => exact k2 rfl (by simpa using h)
theorem zly {b : Bool} {x y : Option ρ} (k : b = true -> Run x K -> G) (k2 : b = false -> Run y K -> G) (h : Run (if b = true then x else y) K) : G := by
  cases b with
  | true => exact k rfl (by simpa using h)
  | false => exact k2 rfl (by simpa using h)
theorem zlz {α : Type} {xs : List α} {x y : Option ρ} (k : ((xs.length : Int) = 0) = True -> xs = [] -> Run x K -> G) (k2 : ((xs.length : Int) = 0) = False -> xs ≠ [] -> Run y K -> G) (h : Run (if (xs.length : Int) = 0 then x else y) K) : G := by
  by_cases c : (xs.length : Int) = 0
  · rw [if_pos c] at h; exact k (eq_true c) (List.eq_nil_of_length_eq_zero (by omega)) h
  · rw [if_neg c] at h; exact k2 (eq_false c) (fun e => c (by rw [e]; rfl)) h
theorem zlw {α : Type} {xs : List α} {x y : Option ρ} (k : ((0 : Int) < (xs.length : Int)) = True -> xs ≠ [] -> 0 < xs.length -> Run x K -> G) (k2 : ((0 : Int) < (xs.length : Int)) = False -> xs = [] -> Run y K -> G) (h : Run (if (0 : Int) < (xs.length : Int) then x else y) K) : G := by
  by_cases c : (0 : Int) < (xs.length : Int)
  · rw [if_pos c] at h; exact k (eq_true c) (fun e => by subst e; simp at c) (by omega) h
  · rw [if_neg c] at h; exact k2 (eq_false c) (List.eq_nil_of_length_eq_zero (by omega)) h
theorem zjj {κ ν : Type} [DecidableEq κ] {q : κ} {m : List (κ × ν)} {f : ν -> Option ρ} {y : Option ρ} (k : ∀ v, z3Q q m = some v -> zdo q m = some (q, v) -> Run (f v) K -> G) (k2 : z3Q q m = none -> zdo q m = none -> Run y K -> G) (h : Run ((z3Q q m).elim y f) K) : G := by
  have e := z7n q m
  have hk : ∀ l : List (κ × ν), ∀ p, zdo q l = some p -> p.1 = q := by
    intro l
    induction l with
    | nil => intro p hp; cases hp
    | cons a l ih =>
      intro p hp
      simp only [zdo] at hp
      split at hp
      · rename_i ha; cases hp; exact ha
      · exact ih p hp
  cases hp : zdo q m with
  | none =>
    rw [hp] at e
    rw [← e] at h
    exact k2 e.symm hp h
  | some p =>
    rw [hp] at e
    rw [← e] at h
    have h1 := hk m p hp
    exact k p.2 e.symm (by rw [hp, ← h1]) h
theorem zjf {v : ρ} (k : K v -> G) (h : Run (some v) K) : G := by
  obtain ⟨r, e, hk⟩ := h
  cases e; exact k hk
theorem zjh (h : Run none K) : G := by
  obtain ⟨r, e, hk⟩ := h
  cases e
theorem z5e {x : Option ρ} {r : ρ} (h : x = some r) : Run x (· = r) := ⟨r, h, rfl⟩
theorem zcU {α β : Type} {P : α × β -> Prop} (h : ∀ a, ∀ b, P (a, b)) : ∀ s : α × β, P s := fun s => h s.1 s.2
end
theorem zdW {α β : Type} {P : α ⊕ β -> Prop} (h1 : ∀ a, P (.inl a)) (h2 : ∀ b, P (.inr b)) : ∀ s : α ⊕ β, P s := fun s => by
  cases s with
  | inl a => exact h1 a
  | inr b => exact h2 b
theorem zel {α : Type} {P : Option α -> Prop} (h1 : ∀ _ : Unit, P none) (h2 : ∀ a, P (some a)) : ∀ s : Option α, P s := fun s => by
  cases s with
  | none => exact h1 ()
  | some a => exact h2 a
section
variable {P : Program} {C : z0b} {cf : Cfg} {LF : Nat} {c : Code} {fr : Fr} {Q : X -> Fr -> Prop} {σ ρ : Type} {K : ρ -> Prop} {o : σ ⊕ ρ} {H : σ -> Fr} {cn : Fr -> Fr}
theorem znJ {s : σ} (h : Run (z0J s : Option (σ ⊕ ρ)) (RK o K)) (e : cn fr = H s) : z5j H cn o Q .n fr := by
  obtain ⟨r, e1, e2⟩ := h
  have := zev e1
  exact zfU (e2.eq.symm.trans this) e
theorem znH {i : Nat} {x : Option ρ} (k : Run x K -> Q (.x i) fr) (h : Run (z0p x : Option (σ ⊕ ρ)) (RK o K)) : z5j H cn o Q (.x i) fr := by
  obtain ⟨r, e1, e2⟩ := h
  obtain ⟨v, e3, rfl⟩ := zai e1
  exact zfS (e2.eq.symm) (k ⟨v, e3, e2.k _ rfl⟩)
theorem znI {x : Option ρ} (k : Run x K -> Q .r fr) (h : Run (z0p x : Option (σ ⊕ ρ)) (RK o K)) : z5j H cn o Q .r fr := by
  obtain ⟨r, e1, e2⟩ := h
  obtain ⟨v, e3, rfl⟩ := zai e1
  exact zfT (e2.eq.symm) (k ⟨v, e3, e2.k _ rfl⟩)
end
def zj4 {α : Type} (k : Nat) (v : α) : List (Nat × α) -> List (Nat × α)
  | [] => []
  | (j, u) :: r => if j = k then (j, v) :: r else (j, u) :: zj4 k v r
def ziF {α : Type} : List (Nat × α) -> List (Nat × α) -> List (Nat × α)
  | [], l => l
  | (k, v) :: r, l => ziF r (zj4 k v l)
def zhj (x : List (Nat × E) × List (Nat × T)) (fr : Fr) : Fr := { fr with tm := ziF x.1 fr.tm, ob := ziF x.2 fr.ob }
class Hd {σ ρ : Type} (b : σ -> Option (σ ⊕ ρ)) where
  H : σ -> List (Nat × E) × List (Nat × T)
section
variable {P : Program} {C : z0b} {cf : Cfg} {LF : Nat} {c : Code} {fr fr0 : Fr} {Q : X -> Fr -> Prop} {σ ρ : Type} {K : ρ -> Prop}
theorem zhH {lv : List Nat} {body : σ -> Option (σ ⊕ ρ)} [hd : Hd body] {s0 : σ} (hk : z6r c = 5) (hv : cf.live (z4D (lpC c)) = some lv) (h : Run (z0C body LF s0) K)
    (hf : z4E (some lv) fr = fr0) (h0 : fr0 = zhj (Hd.H body s0) fr0) (round : ∀ s, ∀ o, Run (body s) (RK o K) -> wpC P C cf LF (lpC c) (zhj (Hd.H body s) fr0) (z5j (fun s => zhj (Hd.H body s) fr0) (z4E (some lv)) o Q)) : wpC P C cf LF c fr Q := by
  obtain ⟨r, e, hk2⟩ := h
  exact zhI e (fun s => zhj (Hd.H body s) fr0) hk hv (hf.trans h0) fun s o h1 h2 => round s o ⟨o, h1, rfl, fun r' e' => by rw [h2 r' e']; exact hk2⟩
end
@[simp] theorem zfI {α : Type} (c : Nat) : ∀ l : List α, (l.map fun _ => c).sum = l.length * c
  | [] => by simp
  | x :: l => by simp only [List.map_cons, List.sum_cons, zfI c l, List.length_cons, Nat.add_mul]; omega
abbrev xI (x : Int) : E := .one (.t none (.sc (.int .i64 x)))
theorem znE {a b : Fr} (h : z6q a b) : z6q a b := h
section
variable {P : Program} {C : z0b} {cf : Cfg} {LF : Nat} {c : Code} {fr : Fr}
theorem zne {Q : X -> Fr -> Prop} {id i : Nat} (h : z3j id Q (.x i) fr) : z3j id Q (.x i) fr := h
theorem zl5 {Q : X -> Fr -> Prop} (h : wpC P C cf LF c fr Q) : wpC P C cf LF c fr Q := h
theorem zm0 {wio : FuncId -> Nat -> Bool} {M : List Nat} {ops : Array Oper} {l : List (Nat × Nat)} {Q : Fr -> Prop} (h : z3u P C wio M ops l fr Q) : z3u P C wio M ops l fr Q := h
theorem zlb {l : List Oper} {Q : Fr -> Prop} (h : ∃ fr2, z2o P l fr = some fr2 /\ Q fr2) : ∃ fr2, z2o P l fr = some fr2 /\ Q fr2 := h
theorem tpN {i : Nat} {t : SchT} {Q : Fr -> Prop} (e : t = .nil) (h : Q fr) : z2E P C cf c i t fr Q := by subst e; exact ziV h
theorem tpA {i : Nat} {t a b : SchT} {Q : Fr -> Prop} (e : t = .alt a b) (h : z2E P C cf c i a fr (fun x => z2E P C cf c i b fr (fun y => z6q x y) /\ Q x)) : z2E P C cf c i t fr Q := by subst e; exact zhm h
theorem tpO {i k m : Nat} {t rest : SchT} {o : Oper} {fr1 : Fr} {Q : Fr -> Prop} (e : t = .op k m rest) (ho : zen c k = some o) (hg : o.guard = none) (hs : z9G P C cf.wio (cf.wr i).isEmpty (cf.wr i).contains fr o m = some fr1) (h : z2E P C cf c i rest fr1 Q) : z2E P C cf c i t fr Q := by subst e; exact zl8 ho hg hs h
theorem tpT {i k m : Nat} {t rest : SchT} {o : Oper} {g : Option (Option Nat × Bool)} {fr1 : Fr} {Q : Fr -> Prop} (e : t = .op k m rest) (ho : zen c k = some o) (hg : zi8 c o = some g) (hv : zh1 g fr = some true) (hs : z9G P C cf.wio (cf.wr i).isEmpty (cf.wr i).contains fr o m = some fr1) (h : z2E P C cf c i rest fr1 Q) : z2E P C cf c i t fr Q := by subst e; exact zl9 ho hg hv hs h
theorem tpF {i k m : Nat} {t rest : SchT} {o : Oper} {g : Option (Option Nat × Bool)} {fr1 : Fr} {Q : Fr -> Prop} (e : t = .op k m rest) (ho : zen c k = some o) (hg : zi8 c o = some g) (hv : zh1 g fr = some false) (hs : nrmO? (putF fr o.dst (.one (.k undef))) = some fr1) (h : z2E P C cf c i rest fr1 Q) : z2E P C cf c i t fr Q := by subst e; exact zla ho hg hv hs h
theorem zm2 {i : Nat} {t : SchT} {Q : Fr -> Prop} (h : z2E P C cf c i t fr Q) : z2E P C cf c i t fr Q := h
end
theorem zdL {G : Prop} (g : G := by
  repeat' (first
    | with_reducible refine zhp ?_
    | with_reducible refine zhn ?_
    | with_reducible refine zho ?_
    | with_reducible refine zgE ?_
    | ((with_reducible refine zne ?_); first | refine zbt rfl ?_ | refine zbs rfl ?_)
    | with_reducible refine zgD ?_
    | (revert h; with_reducible refine znH fun h => ?_)
    | (revert h; with_reducible refine znI fun h => ?_)
    | ((with_reducible refine znJ h ?_); simp [*, zhj, ziF, zj4, Hd.H]; done)
    | (revert h; first
      | with_reducible refine zjh
      | with_reducible refine zjk fun _ _ h => ?_
      | with_reducible refine zjl fun _ _ h => ?_
      | with_reducible refine zlu fun _ _ _ h => ?_
      | with_reducible refine zno fun _ _ _ _ h => ?_
      | with_reducible refine zls fun _ _ _ _ h => ?_
      | with_reducible refine zjg fun _ _ _ _ h => ?_
      | with_reducible refine zlA fun _ h => ?_
      | with_reducible refine zhQ (by assumption) (by assumption) fun h => ?_
      | with_reducible refine zji (by assumption) fun h => ?_
      | with_reducible refine znN (by assumption) fun h => ?_
      | with_reducible refine zhO (by assumption) fun h => ?_
      | with_reducible refine zjo fun _ _ _ _ k k1 h => ?_
      | with_reducible refine zlC fun _ _ _ _ _ _ k k1 k2 h => ?_
      | with_reducible refine zlB fun _ _ _ _ k k1 h => ?_
      | with_reducible refine zlD fun _ _ _ _ k k1 h => ?_
      | with_reducible refine p_0 fun _ _ _ _ _ h => ?_
      | with_reducible refine zlv fun _ _ _ _ _ h => ?_
      | with_reducible refine zlt fun _ _ _ _ _ h => ?_
      | with_reducible refine znM fun _ _ _ _ _ _ h => ?_
      | with_reducible refine zjn fun _ _ _ _ _ h => ?_
      | ((with_reducible refine zg1 fun _ _ _ _ _ _ _ k k2 h => ?_); try simp at k; try simp only [Int.reduceToNat, Int.toNat_natCast, Nat.sub_zero] at k2)
      | ((with_reducible refine zg0 fun _ _ _ _ _ _ _ k k2 h => ?_); try simp at k; try simp only [Int.reduceToNat, Int.toNat_natCast, Nat.sub_zero] at k2)
      | ((with_reducible refine zfZ fun _ _ _ _ _ _ _ k h => ?_); try simp only [Int.reduceToNat, Int.toNat_natCast] at k)
      | ((with_reducible refine zhP (fun _ k h => ?_) fun _ k h => ?_) <;> (try simp at k))
      | ((with_reducible refine zjm fun _ _ k h => ?_); try simp at k))
    | ((with_reducible refine zl5 ?_); first
      | refine zq rfl ?_
      | refine zb rfl ?_
      | refine zhG rfl ?_
      | refine zjb rfl ?_
      | refine zhJ rfl ?_
      | refine zjc rfl ?_
      | refine zln rfl ?_
      | refine zr rfl rfl rfl (by simp [*]; with_reducible rfl) ?_
      | refine zhK rfl rfl rfl rfl ?_
      | refine zja rfl rfl rfl rfl ?_
      | refine zlo rfl (by first | (simp [*]; done) | fail) ?_
      | refine zlp rfl (by first | (simp [*]; done) | fail) ?_
      | refine zlq rfl rfl (by simp [*]; rfl) ?_
      | (refine zhH rfl rfl h (by simp [*]; rfl) (by first | (simp [*, zhj, ziF, zj4, Hd.H]; done) | fail) ?_; clear h; (repeat' (first | refine zcU fun _ => ?_ | refine zdW ?_ ?_ | refine zel ?_ ?_)); all_goals (intro _ _ h; simp only [zhj, ziF, zj4, Hd.H, Nat.reduceEqDiff, if_true, if_false])))
    | ((with_reducible refine zm0 ?_); first
      | (refine zcT rfl rfl fun Q' hQ => ?_; simp [*]; refine hQ.out _ ?_; clear hQ; clear Q')
      | (refine z8y rfl rfl fun Q1 Q2 h1 h2 => ?_; simp [*, zdR]; (first | refine h1.out ?_ | refine h2.out ?_); clear h1 h2; clear Q1 Q2; intro Q' hQ; simp [*]; refine hQ.out _ ?_; clear hQ; clear Q')
      | (refine zaZ rfl fun Q' hQ => ?_; simp [*]; refine hQ.out _ ?_; clear hQ; clear Q'))
    | ((with_reducible refine zm2 ?_); first
      | refine tpN rfl ?_
      | refine tpA rfl ?_
      | refine tpO rfl rfl rfl (by simp [*, z9G, z6V]; rfl) ?_
      | refine tpT rfl rfl rfl (by first | (simp [*]; done) | fail) (by simp [*, z9G, z6V]; rfl) ?_
      | refine tpF rfl rfl rfl (by first | (simp [*]; done) | fail) (by simp [*]; rfl) ?_)
    | ((with_reducible refine zlb ?_); refine ziW rfl (by simp [*]; rfl) ?_)
    | ((with_reducible refine And.intro ?_ ?_); rotate_left)
    | ((with_reducible refine znE ?_); simp [*, z6q]; done)
    | (revert h; with_reducible refine zjj (fun _ _ _ h => ?_) fun _ _ h => ?_)
    | (revert h; first
      | with_reducible refine zlx (fun _ h => ?_) fun _ h => ?_
      | with_reducible refine zly (fun _ h => ?_) fun _ h => ?_
      | with_reducible refine zlz (fun _ _ h => ?_) fun _ _ h => ?_
      | with_reducible refine zlw (fun _ _ _ h => ?_) fun _ _ h => ?_
      | with_reducible refine znL (fun _ h => ?_) fun _ h => ?_
      | ((with_reducible refine zjf fun h => ?_); cases h; simp [*]; done)))) : G := g
end
section
open Go
structure Hol where
  set : Int
  tiles : List Int
  words : List ByteArray
  perms : List (List Int)
deriving Inhabited
instance : IsS Hol := ⟨⟩
end
section
open Go
theorem zbU {σ ρ : Type} {b : σ -> Option (σ ⊕ ρ)} {x : Option ρ} : ∀ (n : Nat) (f : Nat -> σ) (m : Nat), n < m -> (∀ k, k < n -> b (f k) = z0J (f (k + 1))) -> b (f n) = z0p x -> z0C b m (f 0) = x
  | 0, f, m + 1, _, _, hl => by
    simp only [z0C, hl]
    cases x <;> rfl
  | n + 1, f, m + 1, hm, hs, hl => by
    simp only [z0C, hs 0 (by omega), z0J]
    exact zbU n (fun k => f (k + 1)) m (by omega) (fun k hk => hs (k + 1) (by omega)) hl
theorem z1J {σ ρ : Type} {b : σ -> Option (σ ⊕ ρ)} {x : Option ρ} (n : Nat) (f : Nat -> σ) {s : σ} (h0 : s = f 0) (hn : n < LFm) (step : ∀ k, k < n -> b (f k) = z0J (f (k + 1))) (last : b (f n) = z0p x) : z0C b LFm s = x := by
  subst h0; exact zbU n f LFm hn step last
theorem z8g {σ ρ : Type} {b : σ -> Option (σ ⊕ ρ)} {x : Option ρ} {p : Nat -> Bool} {A : Nat -> Option ρ} : ∀ (n : Nat) (f : Nat -> σ) (m i : Nat), n < m -> (∀ k, k < n -> b (f k) = if p (i + k) = true then z0p (A (i + k)) else z0J (f (k + 1))) -> b (f n) = z0p x ->
    z0C b m (f 0) = match ((List.range n).map (i + ·)).find? p with | some k => A k | none => x
  | 0, f, m + 1, i, _, _, hl => by
    simp only [z0C, hl]
    cases x <;> rfl
  | n + 1, f, m + 1, i, hm, hs, hl => by
    have h0 := hs 0 (by omega)
    have hmap : (List.range (n + 1)).map (i + ·) = i :: (List.range n).map (i + 1 + ·) := by
      rw [List.range_succ_eq_map, List.map_cons, List.map_map]
      congr 1
      apply List.map_congr_left
      intro k _
      simp only [Function.comp]
      omega
    rw [hmap, List.find?_cons]
    simp only [Nat.add_zero] at h0
    by_cases hp : p i = true
    · rw [if_pos hp] at h0
      rw [hp]
      simp only [z0C, h0]
      generalize A i = y
      cases y <;> rfl
    · rw [if_neg hp] at h0
      have hp' : p i = false := by simpa using hp
      rw [hp']
      simp only [z0C, h0, z0J]
      exact z8g n (fun k => f (k + 1)) m (i + 1) (by omega) (fun k hk => by rw [hs (k + 1) (by omega), show i + (k + 1) = i + 1 + k by omega]) hl
theorem zez {σ ρ : Type} {b : σ -> Option (σ ⊕ ρ)} {x : Option ρ} (n : Nat) (f : Nat -> σ) (p : Nat -> Bool) (A : Nat -> Option ρ) {s : σ} (h0 : s = f 0) (hn : n < LFm) (step : ∀ k, k < n -> b (f k) = if p k = true then z0p (A k) else z0J (f (k + 1))) (last : b (f n) = z0p x) :
    z0C b LFm s = match (List.range n).find? p with | some k => A k | none => x := by
  subst h0
  have := z8g n f LFm 0 hn (p := p) (A := A) (fun k hk => by rw [step k hk]; simp) last
  simpa using this
theorem z2d {k : Nat} (h : k < 4611686018427387904) : IntKind.i64.wrap ((k : Int) + 1) = ((k + 1 : Nat) : Int) := by
  rw [IntWalk.i64_in _ (by omega)]; omega
theorem zl4 {x : Int} (h : 0 <= x) (h2 : x < 256) : IntKind.u8.wrap x = x := by rw [IntKind.wrap_u8]; omega
theorem ziu {α : Type} {xs : List α} {k : Nat} (h : k < xs.length) : atI xs (k : Int) = some xs[k] := by
  unfold atI; rw [if_pos (by omega), Int.toNat_natCast, List.getElem?_eq_getElem h]
theorem z0F {α : Type} {p : Prop} [Decidable p] (x : Option α) (h : p) : chk p x = x := by unfold chk; rw [if_pos h]
theorem zf0 {p : Nat -> Bool} {n : Nat} : (List.range n).find? p = none ↔ ∀ k, k < n -> p k = false := by simp
theorem zeZ {p : Nat -> Bool} {n k : Nat} : (List.range n).find? p = some k ↔ k < n /\ p k = true /\ ∀ j, j < k -> p j = false := by
  rw [List.find?_range_eq_some]; simp; constructor
  · rintro ⟨a, b, c⟩; exact ⟨b, a, c⟩
  · rintro ⟨a, b, c⟩; exact ⟨b, a, c⟩
theorem zgo {ρ : Type} {p : Nat -> Bool} {n : Nat} (a b : ρ) : (match (List.range n).find? p with | some _ => a | none => b) = if (List.range n).all (fun k => !p k) then b else a := by
  cases h : (List.range n).find? p with
  | none => rw [zf0] at h; rw [if_pos (by simpa using h)]
  | some k =>
    rw [zeZ] at h
    rw [if_neg]
    simp only [List.all_eq_true, List.mem_range, Bool.not_eq_true']
    intro hh
    have := hh k h.1
    rw [h.2.1] at this
    cases this
end
section
open Go
abbrev tI (l : List Int) : T := .sl l.length (l.map fun x => .sc (.int .i64 x))
abbrev tO (l : List Int) : T := .os 1 l.length (l.map fun x => .sc (.int .i64 x))
abbrev tR (l : List (List Int)) : T := .sl l.length (l.map fun x => .sl x.length (x.map fun y => .sc (.int .i64 y)))
abbrev tB (l : List Bool) : T := .sl l.length (l.map fun x => .sc (.bool x))
abbrev tS (l : List ByteArray) : T := .sl l.length (l.map fun x => .sc (.string x))
abbrev md (a b : Int) : Int := IntKind.i64.wrap (znl .u64 (IntKind.u64.wrap (IntKind.i64.wrap (a + b))) 1)
attribute [simp] tI tO tR tB tS
end
section
attribute [simp] undef scB ext z0A z0Q Function.comp_def z8q zaE z6s zaz nav sub upd z1s z2Y z0E z6Y z0v zao z1Z zjz z2k z4f z6m zbm onA kill z1m z8e z5C setCells z3S z5J zig z1K z5r z5m zge z4X z5S setT moveT moveR mvA znu zcW zbN plugL' zdu zb5 z2b zju zjt zgU zjF zjE nrmO? plugL putR z4g explode cellsE z1O rdV scE zgG zbS zlF zgF zfn zdm zdb zdf zdd zdc zdl zeL zda z8O zdk zde zdg zdh zdi zdj zcN zcK zcL zcM zcO zgp zgq zgu zgv zht zhu zhy zgt zhx zgr zhv zgs zhw zfY zbQ rdK zlk zeJ zkH zbd zhz zgi zeU zfM zfN List.map_flatMap zbR z9X zcn z2I zjD unS zlH zlI zcj opE ziL z9b zd7 zd0 zeg znS z4p zc6 zfC zbH z6F zkS z4F zeK zgz zir z3V z4b z4v z3l z6t zfB zhX zjw z3e freezeKids zif z8a zcw zl0 z7G zeF z4a z3b z4u z1W z1V z2T zdY z7Y z6q zfo z9g znr ziE zej zeG z7C z9i zid z4t z9j zi6 zg9 zco zkY zbq zkG opn z7E z2L zbz ziv zft zl1 z1h z7K z3N z7p clB ioF zli zkP z5z z3W putF opF zbw z3a zh1 zaX z4y z4D onE ids z7I z7H z3I zdn z4E z2o z6l z3K z3t z3L zj7 zee z9I z4x z6h zjr zd2 z9W z8N zek zkT zjq zav zjp z7w zcg zje z8N zax znP znR znO znQ zm1 z4e z6V wrF z5n noM zl2 frz1 zgk zie z4Y zj8 z8L z8H z4W z8F zeQ z6C ziU zgd za4 zgc ziJ z6D z6A z6z z5p z6B z7g z8K z8G zf1 zf2 zeS ze8 zkE zfh zkZ zfi zan z5q z5b zb9 zal z8p zij zii Option.map_some z8Y zf4
end
section
def Mo (C0 C1 : z0b) : Prop := ∀ f a o, C0 f a = some o -> C1 f a = some o
section
variable {P : Program} {C0 C1 : z0b}
theorem z6I (hMo : Mo C0 C1) {wio : FuncId -> Nat -> Bool} {fr fr' : Fr} {f : FuncId} {args : List E} {dst : Option Nat} (h : z5z C0 wio fr f args dst = some fr') : Ev fun m => z5z C1 wio fr f args dst = some fr' := by
  unfold z5z at h ⊢
  split at h
  · cases h
  · rename_i ts deps io ha
    split at h
    · cases h
    · rename_i r outs hc
      refine ⟨0, fun m _ => ?_⟩
      show (match C1 f ts with | none => none | some (r, outs) => _) = _
      rw [hMo _ _ _ hc]
      exact h
theorem zem (hMo : Mo C0 C1) {wio : FuncId -> Nat -> Bool} {fr fr' : Fr} {o : Oper} (h : opF P C0 wio fr o = some fr') : Ev fun m => opF P C1 wio fr o = some fr' := by
  unfold opF at h ⊢
  split at h
  · exact .pure fun _ => h
  · split at h
    · exact z6I hMo h
    · cases h
  · exact .pure fun _ => h
  · exact .pure fun _ => h
  · exact .pure fun _ => h
theorem zcm (hMo : Mo C0 C1) {wio : FuncId -> Nat -> Bool} {fr fr' : Fr} {o : Oper} (h : z4y P C0 wio fr o = some fr') : Ev fun m => z4y P C1 wio fr o = some fr' := by
  unfold z4y at h ⊢
  split at h
  · split at h
    · split at h
      · exact z6I hMo h
      · cases h
    · cases h
  · exact .pure fun _ => h
theorem zgP (hMo : Mo C0 C1) {wio : FuncId -> Nat -> Bool} {M : Nat -> Bool} {fr fr' : Fr} {o : Oper} (h : wrF P C0 wio M fr o = some fr') : Ev fun m => wrF P C1 wio M fr o = some fr' := by
  unfold wrF at h ⊢
  split at h
  · split at h
    · cases h
    · split at h
      · exact z6I hMo h
      · split at h
        · rename_i hM
          simp only [hM, if_true]
          exact z6I hMo h
        · cases h
      · cases h
  · exact .pure fun _ => h
  · exact .pure fun _ => h
  · exact .pure fun _ => h
  · cases h
theorem zaW (hMo : Mo C0 C1) {wio : FuncId -> Nat -> Bool} {ops : Array Oper} : ∀ {l : List Oper} {fr fr' : Fr}, zaX P C0 wio ops l fr = some fr' -> Ev fun m => zaX P C1 wio ops l fr = some fr'
  | [], fr, fr', h => .pure fun _ => h
  | o :: rest, fr, fr', h => by
    simp only [zaX] at h ⊢
    split at h
    · cases h
    · split at h
      · rename_i fr1 h1
        exact (zem hMo h1).both (zaW hMo h) fun m a1 a2 => by rw [a1]; exact a2
      · cases h
    · split at h
      · rename_i fr1 h1
        exact (zaW hMo h)
      · cases h
theorem z6H (hMo : Mo C0 C1) {wio : FuncId -> Nat -> Bool} {same : Bool} {M : Nat -> Bool} {ops : Array Oper} : ∀ {l : List (Nat × Oper × Nat)} {fr fr' : Fr}, z4e P C0 wio same M ops l fr = some fr' -> Ev fun m => z4e P C1 wio same M ops l fr = some fr'
  | [], fr, fr', h => .pure fun _ => h
  | (k, o, mk) :: rest, fr, fr', h => by
    simp only [z4e] at h ⊢
    split at h
    · cases h
    · split at h
      · exact z6H hMo h
      · cases h
    · split at h
      · rename_i hm
        simp only [if_pos hm]
        split at h
        · split at h
          · exact z6H hMo h
          · cases h
        · cases h
      · rename_i hm
        simp only [if_neg hm]
        split at h
        · rename_i fr1 h1
          have h2 : Ev fun m => (if mk = 2 then opF P C1 wio fr o else if same = true then z4y P C1 wio fr o else wrF P C1 wio M fr o) = some fr1 := by
            by_cases e : mk = 2
            · simp only [if_pos e] at h1 ⊢; exact zem hMo h1
            · simp only [if_neg e] at h1 ⊢
              by_cases e2 : same = true
              · simp only [if_pos e2] at h1 ⊢; exact zcm hMo h1
              · simp only [if_neg e2] at h1 ⊢; exact zgP hMo h1
          exact h2.both (z6H hMo h) fun m a1 a2 => by rw [a1]; exact a2
        · cases h
theorem z4s (hMo : Mo C0 C1) {wio : FuncId -> Nat -> Bool} {same : Bool} {M : Nat -> Bool} {ops : Array Oper} : ∀ {l : SchT} {fr fr' : Fr}, z2H P C0 wio same M ops l fr = some fr' -> Ev fun m => z2H P C1 wio same M ops l fr = some fr'
  | .nil, fr, fr', h => .pure fun _ => h
  | .alt x y, fr, fr', h => by
    simp only [z2H] at h ⊢
    split at h
    · rename_i f1 f2 h1 h2
      obtain ⟨rfl, hs⟩ := z5G h
      exact (z4s hMo h1).both (z4s hMo h2) fun m a1 a2 => by rw [a1, a2]; exact z8D hs
    · cases h
  | .op k mk rest, fr, fr', h => by
    simp only [z2H] at h ⊢
    split at h
    · cases h
    rename_i o ho
    try simp only [ho]
    split at h
    · cases h
    · split at h
      · exact z4s hMo h
      · cases h
    · split at h
      · rename_i hm
        simp only [if_pos hm]
        split at h
        · split at h
          · exact z4s hMo h
          · cases h
        · cases h
      · rename_i hm
        simp only [if_neg hm]
        split at h
        · rename_i fr1 h1
          have h2 : Ev fun m => (if mk = 2 then opF P C1 wio fr o else if same = true then z4y P C1 wio fr o else wrF P C1 wio M fr o) = some fr1 := by
            by_cases e : mk = 2
            · simp only [if_pos e] at h1 ⊢; exact zem hMo h1
            · simp only [if_neg e] at h1 ⊢
              by_cases e2 : same = true
              · simp only [if_pos e2] at h1 ⊢; exact zcm hMo h1
              · simp only [if_neg e2] at h1 ⊢; exact zgP hMo h1
          exact h2.both (z4s hMo h) fun m a1 a2 => by rw [a1]; exact a2
        · cases h
theorem zdw (hMo : Mo C0 C1) {c : Cfg} {id : Nat} {ops : Array Oper} {fr fr' : Fr} (h : z3m P C0 c id ops fr = some fr') : Ev fun m => z3m P C1 c id ops fr = some fr' := by
  unfold z3m at h ⊢
  split at h
  · exact z4s hMo h
  · split at h
    · exact z6H hMo h
    · cases h
theorem zc2 (hMo : Mo C0 C1) {B : z0b -> Fr -> Option (X × Fr)} {cn : Fr -> Fr} (hB : ∀ fr o, B C0 fr = some o -> Ev fun m => B C1 fr = some o) : ∀ {n : Nat} {fr : Fr} {o : X × Fr}, z5u (B C0) cn n fr = some o -> Ev fun m => z5u (B C1) cn n fr = some o
  | 0, fr, o, h => by cases h
  | n + 1, fr, o, h => by
    simp only [z5u] at h ⊢
    split at h
    · rename_i fr1 h1
      exact (hB _ _ h1).both (zc2 hMo hB h) fun m a1 a2 => by rw [a1]; exact a2
    · rename_i x fr1 hne h1
      refine (hB _ _ h1).imp fun m a1 => ?_
      rw [a1]
      cases x with
      | n => exact absurd rfl hne
      | x i => exact h
      | r => exact h
    · cases h
theorem z9d (hMo : Mo C0 C1) {c : Cfg} {LF : Nat} : ∀ (b : Code) {fr : Fr} {o : X × Fr}, z0x P C0 c LF b fr = some o -> Ev fun m => z0x P C1 c LF b fr = some o := by
  intro b
  induction b with
  | skip => intro fr o h; exact .pure fun _ => h
  | label l => intro fr o h; exact .pure fun _ => h
  | exit id => intro fr o h; exact .pure fun _ => h
  | ret => intro fr o h; exact .pure fun _ => h
  | goto l => intro fr o h; cases h
  | scope c ih => intro fr o h; simp only [z0x] at h ⊢; exact ih h
  | refuse s => intro fr o h; cases h
  | rangeFunc => intro fr o h; cases h
  | region id ops draw =>
    intro fr o h
    simp only [z0x] at h ⊢
    split at h
    · rename_i hd
      simp only [hd, if_true]
      split at h
      · rename_i fr1 h1
        exact (zdw hMo h1).imp fun m a1 => by rw [a1]; exact h
      · cases h
    · rename_i hd
      simp only [hd, Bool.false_eq_true, if_false]
      split at h
      · rename_i fr1 h1
        exact (zaW hMo h1).imp fun m a1 => by rw [a1]; exact h
      · cases h
  | seq a b ih1 ih2 =>
    intro fr o h
    simp only [z0x] at h ⊢
    split at h
    · rename_i fr1 h1
      exact (ih1 h1).both (ih2 h) fun m a1 a2 => by rw [a1]; exact a2
    · rename_i hne
      refine (ih1 h).imp fun m a1 => ?_
      rw [a1]
      obtain ⟨x, fr1⟩ := o
      cases x with
      | n => exact absurd h (hne _)
      | x i => rfl
      | r => rfl
  | cond c x y ih1 ih2 =>
    intro fr o h
    simp only [z0x] at h ⊢
    split at h
    · exact ih1 h
    · exact ih2 h
    · cases h
  | block id c ih =>
    intro fr o h
    simp only [z0x] at h ⊢
    split at h
    · rename_i i fr1 h1
      exact (ih h1).imp fun m a1 => by rw [a1]; exact h
    · rename_i hne
      refine (ih h).imp fun m a1 => ?_
      rw [a1]
      obtain ⟨x, fr1⟩ := o
      cases x with
      | n => rfl
      | x i => exact absurd h (hne _ _)
      | r => rfl
  | loop b ih =>
    intro fr o h
    simp only [z0x] at h ⊢
    exact zc2 hMo (B := fun C fr => z0x P C c LF b fr) (fun fr o h => ih h) h
theorem zhE (hMo : Mo C0 C1) {c : Cfg} {LF : Nat} {fn : Func} {args : List T} {o : T × List T} (h : z9O P C0 c LF fn args = some o) : Ev fun m => z9O P C1 c LF fn args = some o := by
  unfold z9O at h ⊢
  split at h
  · rename_i hc
    simp only [if_pos hc]
    split at h
    · cases h
    · rename_i b hb
      split at h
      · rename_i fr h1
        exact (z9d hMo _ h1).imp fun m a1 => by rw [a1]; exact h
      · rename_i fr h1
        exact (z9d hMo _ h1).imp fun m a1 => by rw [a1]; exact h
      · cases h
  · cases h
end
class XMo (X : z0b -> z0b) : Prop where
  mo : ∀ {C D : z0b}, Mo C D -> Mo (X C) (X D)
instance {x : z0b} : XMo (fun _ => x) := ⟨fun _ => fun _ _ _ h => h⟩
theorem zhW {D : z0b} : Mo (fun _ _ => none) D := fun _ _ _ h => by cases h
theorem z8M {P : Program} {X : z0b -> z0b} [hx : XMo X] {cf : FuncId -> Option Cfg} : ∀ n, Mo (z0U P X cf n) (z0U P X cf (n + 1))
  | 0 => fun f a o h => by
    simp only [z0U] at h ⊢
    split at h
    · cases h
    · rename_i hc
      exact hx.mo zhW f a o h
  | n + 1 => fun f a o h => by
    simp only [z0U] at h
    split at h
    · rename_i c hc
      split at h
      · rename_i fn hfn
        obtain ⟨k, hk⟩ := zhE (z8M n) h
        exact za3 hc hfn (hk k (Nat.le_refl _))
      · cases h
    · rename_i hc
      simp only [z0U, hc]
      exact hx.mo (z8M n) f a o h
theorem zjB {P : Program} {X : z0b -> z0b} [XMo X] {cf : FuncId -> Option Cfg} (n : Nat) {f : FuncId} {a : List T} {o : T × List T} (h : z0U P X cf n f a = some o) : Lim P X cf f a = some o := by
  refine zbW (d := n) fun m hm => ?_
  obtain ⟨k, rfl⟩ := Nat.exists_eq_add_of_le hm
  clear hm
  induction k with
  | zero => exact h
  | succ k ih => exact z8M (n + k) f a o ih
end
section
def No1 (c : z0a) : Prop := c.head? ≠ some 1
theorem Keep.frz1 {w w' : World} {K K' : Nat -> z0a} (k : Keep w w' K K' No1) (dep : Option Nat) : Keep w w' (frz K dep) (frz K' dep) No1 := by
  have hn : ∀ b id, b < w.heap.size -> (K b).head? = some (id + 2) -> K' b = K b /\ w'.heap[b]? = w.heap[b]? := fun b id hb e => k.own b hb (by unfold No1; rw [e]; simp)
  refine ⟨fun b hb e => ?_, fun b hb e => ?_, k.size⟩
  · cases dep with
    | none => exact k.fro b hb e
    | some id =>
      simp only [frz] at e ⊢
      by_cases h : (K b).head? = some (id + 2)
      · obtain ⟨e1, e2⟩ := hn b id hb h
        rw [e1, if_pos h]; exact ⟨rfl, e2⟩
      · rw [if_neg h] at e
        obtain ⟨e1, e2⟩ := k.fro b hb e
        rw [e1]; exact ⟨by simp, e2⟩
  · cases dep with
    | none => exact k.own b hb e
    | some id =>
      simp only [frz] at e ⊢
      by_cases h : (K b).head? = some (id + 2)
      · obtain ⟨e1, e2⟩ := hn b id hb h
        rw [e1]; exact ⟨rfl, e2⟩
      · rw [if_neg h] at e
        obtain ⟨e1, e2⟩ := k.own b hb e
        rw [e1]; exact ⟨rfl, e2⟩
structure ItStep (r : Nat) (w w' : World) : Prop where
  os : w'.os = w.os
  tape : w'.tape = w.tape
  output : w'.output = w.output
  size : w'.heap.size = w.heap.size
  other : ∀ b, b ≠ r -> w'.heap[b]? = w.heap[b]?
theorem ItStep.later {r : Nat} {w0 w w' : World} {K0 K : Nat -> z0a} (h : ItStep r w w') (s : Step w0 K0 w K) (hr : w0.heap.size <= r) : Step w0 K0 w' K :=
  ⟨h.os.trans s.os, h.tape.trans s.tape, h.output.trans s.output, by rw [h.size]; exact s.size, fun b hb hc => ⟨(s.old b hb hc).1, (h.other b (by omega)).trans (s.old b hb hc).2⟩,
   fun b arr e fz hb => by
    obtain ⟨a1, e1, f1, h1, h2⟩ := s.sz b arr e fz hb
    exact ⟨a1, e1, f1, by rw [h.other b (by have := z0f hb; omega)]; exact h1, h2⟩⟩
section
variable {kk : Option IntKind} {ents : Array MapEntry} {clock : Nat} {ks : List Value} {n : Nat} {F : Nat -> Value}
theorem MapTs.size (h : MapTs kk ents clock ks n F) : ents.size = n := by
  obtain ⟨h1, h2, _⟩ := h
  have := congrArg List.length h1
  simpa [h2] using this
theorem MapTs.old (h : MapTs kk ents clock ks n F) : ∀ x ∈ ents.toList, x.born < clock := fun x hx => by
  obtain ⟨j, hj, e⟩ := List.getElem_of_mem hx
  obtain ⟨_, _, _, _, h5, _⟩ := h
  exact h5 j x (by rw [← Array.getElem?_toList, List.getElem?_eq_getElem hj, e])
end
theorem ziP {P : Program} {ops : Array Oper} {Q : Exit -> Act -> World -> Prop} {l : List Oper} {o : Oper} {a : Act} {w : World} (hg : o.guard = none) (h : ∀ Kk : Act -> World -> Prop, (∀ a w, wpList P ops Q l a w -> Kk a w) -> o.wp P a w Kk Q) : wpList P ops Q (o :: l) a w := by
  refine wpList_step fun Kk hK => ?_
  simp only [Region.wanted, hg, if_true]
  exact h Kk hK
end
section
open Go
def zin : Nat -> Code -> Code
  | 0, _ => .skip
  | k + 1, c => .seq (ziG c) (zin k (zhB c))
noncomputable def z4H : Code := match Tryz.f182.body with | some c => c | none => .skip
noncomputable def znt : Cfg := { wio := fun f i => (f == 999999 && (i == 0)), live := fun r => if r = 5 then some [0, 1, 5, 6] else none, dr := fun r => none }
noncomputable def zkO (C : z0b) (args : List T) : Option (T × List T) := match args with
  | [.os 3 n0 cs0, t] =>
    if z2L t = true then none else
    (match z0x Tryz.prog C znt LFm (zin 4 z4H) (z3L 42 [.os 3 n0 cs0, t]) with
    | some (.r, fr) => (match z0E fr.tm 4 with
      | .one (.h i []) => (match z1K fr i [] with
        | some fr' => (z7w Tryz.prog Tryz.f182 [] fr').bind fun x => some (x.1, [.dead, .dead])
        | none => none)
      | _ => none)
    | some (.n, fr) => (match z0E fr.tm 0, z0E fr.tm 5 with
      | .one (.h i []), .one (.t none (.sc (.int .i64 m))) => (match z0v fr.ob i with
        | some (.os 3 n cs) => if 0 <= m /\ m < n /\ fr.nt = 42 then some (.sl m.toNat ((cs.take (m.toNat * 3)).map z0A), [.dead, .dead]) else none
        | _ => none)
      | _, _ => none)
    | _ => none)
  | _ => none
def zhb (args : List T) : Option (T × List T) := match args with
  | [.agg [.sc (.string s)], .agg [.sc (.int .i64 x), .sc (.int .i64 y), .sl 0 []], .sl n [.sc (.int .u64 z)]] => if s.data.toList = [97] /\ x = 3 /\ y = 0 /\ n = 1 /\ z = 1 then some (.sl 2 [.sl 1 [.sc (.int .u64 2)], .sl 0 []], [.dead, .dead, .dead]) else none
  | _ => none
def lvl (op : Int) : Nat := if op = 4 then 1 else if op = 6 then 2 else if op = 5 then 3 else if op = 8 then 4 else if op = 7 then 5 else 6
mutual
def zgm : Nat -> List T -> Option (List UInt8)
  | k + 1, [.sc (.int .i64 op), .sc (.int .i64 l), .sl n cs] =>
    if op = 1 then some [48] else if op = 3 then (if 0 <= l /\ l < 26 then some [UInt8.ofNat (97 + l.toNat)] else none)
    else if op = 5 then zfz k 4 n cs else if op = 7 then (zfz k 5 n cs).map (· ++ [42]) else none
  | _, _ => none
def zfz : Nat -> Nat -> Nat -> List T -> Option (List UInt8)
  | k + 1, z4w, n + 1, .sc (.int .i64 op) :: b :: c :: l => (match zgm k [.sc (.int .i64 op), b, c], zfz k z4w n l with
    | some x, some y => some ((if z4w <= lvl op then x else [40] ++ x ++ [41]) ++ y)
    | _, _ => none)
  | _, _, 0, [] => some []
  | _, _, _, _ => none
end
def zkM (C : z0b) (args : List T) : Option (T × List T) := match args with
  | [.agg cs] => (match C 71 [.agg cs], zgm 40 cs with
    | some (.sc (.bool true), _), some bs => if bs.length <= 1000 then some (.sc (.string ⟨bs.toArray⟩), [.dead]) else none
    | _, _ => none)
  | _ => none
def za9 : List T -> Option (List Int)
  | [] => some []
  | .sc (.int .i64 x) :: l => (za9 l).map (x :: ·)
  | _ => none
theorem za8 : ∀ xs : List Int, za9 (xs.map fun x => .sc (.int .i64 x)) = some xs
  | [] => rfl
  | x :: xs => by simp [za9, za8 xs]
theorem z7k : ∀ {cs : List T} {xs : List Int}, za9 cs = some xs -> cs = xs.map fun x => .sc (.int .i64 x)
  | [], xs, h => by simp [za9] at h; subst h; rfl
  | c :: cs, xs, h => by
    unfold za9 at h
    split at h
    · rename_i he; cases he
    · rename_i x l he
      cases he
      simp only [Option.map_eq_some_iff] at h
      obtain ⟨ys, hy, rfl⟩ := h
      simp [← z7k hy]
    · cases h
def zgR (xs : List Int) : Option (List Int) := if xs ≠ [] /\ xs.length < 4611686018427387904 then some (xs.mergeSort fun x y => decide (x <= y)) else none
def zdI (args : List T) : Option (T × List T) := match args with
  | [.os 1 n cs] => (match za9 cs with | some xs => if xs.length = n then (zgR xs).map fun ys => (.tup [], [.os 1 ys.length (ys.map fun x => .sc (.int .i64 x))]) else none | none => none)
  | _ => none
def z3o (xs : List Int) : Option (List Int) := if xs.length * 8 <= 140737488355328 then some xs else none
def zbx (args : List T) : Option (T × List T) := match args with
  | [.sl n cs] => (match za9 cs with | some xs => if xs.length = n then (z3o xs).map fun ys => (.os 1 ys.length (ys.map fun x => .sc (.int .i64 x)), [.dead]) else none | none => none)
  | _ => none
def z9F : List T -> Option (List ByteArray)
  | [] => some []
  | .sc (.string s) :: l => (z9F l).map (s :: ·)
  | _ => none
theorem z6U : ∀ {cs : List T} {xs : List ByteArray}, z9F cs = some xs -> cs = xs.map fun s => .sc (.string s)
  | [], xs, h => by simp [z9F] at h; subst h; rfl
  | c :: cs, xs, h => by
    unfold z9F at h
    split at h
    · rename_i he; cases he
    · rename_i s l he
      cases he
      rw [Option.map_eq_some_iff] at h
      obtain ⟨ys, hy, rfl⟩ := h
      simp [← z6U hy]
    · cases h
def zaA : List ByteArray -> List ByteArray -> Bool
  | [], [] => true
  | a :: x, b :: y => decide (a.data.toList = b.data.toList) && zaA x y
  | _, _ => false
def zkN (args : List T) : Option (T × List T) := match args with
  | [.sl n cs, .sl m ds] => (match z9F cs, z9F ds with
    | some xs, some ys => if xs.length = n * 2 /\ ys.length = m * 2 then some (.sc (.bool (zaA xs ys)), [.dead, .dead]) else none
    | _, _ => none)
  | _ => none
def zaU (r : List Int) : T := .sl r.length (r.map fun x => .sc (.int .i64 x))
structure ValC (C : z0b) (t : List (List Int)) : Prop where
  pos : 0 < t.length
  le : t.length <= 400
  row : ∀ r ∈ t, r.length = t.length /\ ∀ x ∈ r, 0 <= x /\ x < t.length
  shp : C 49 [.sl t.length (t.map zaU)] = some (.sc (.int .i64 0), [.dead])
  ass : ∀ gs : List Nat, gs.Sublist (List.range t.length) -> C 50 [.sl t.length (t.map zaU), .sl gs.length (gs.map fun g => .sc (.int .i64 ((g : Nat) : Int)))] = some (.sc (.bool true), [.dead, .dead])
open Classical in
noncomputable def ziA (C : z0b) (args : List T) : Option (T × List T) :=
  if ∃ t, args = [.sl (List.length t) (t.map zaU)] /\ ValC C t then some (.sc (.int .i64 0), [.dead]) else none
inductive Wd (t : Int -> Int -> Int) (gl : List Int) : Int -> Prop
  | base {h : Int} : h ∈ gl -> Wd t gl h
  | step {y h : Int} : Wd t gl y -> h ∈ gl -> Wd t gl (t y h)
def tbI (t : Nat -> Nat -> Int) (x y : Int) : Int := t x.toNat y.toNat
def zaQ (t : List (List Int)) (x y : Nat) : Int := (t.getD x []).getD y 0
structure GenC (C : z0b) (t : List (List Int)) (gs : List Int) : Prop where
  pos : 0 < t.length
  le : t.length <= 400
  row : ∀ r ∈ t, r.length = t.length /\ ∀ x ∈ r, 0 <= x /\ x < t.length
  rg : ∀ g ∈ gs, 0 <= g /\ g < t.length
  ass : ∀ x y z : Int, 0 <= x -> x < t.length -> 0 <= y -> y < t.length -> 0 <= z -> z < t.length -> tbI (zaQ t) (tbI (zaQ t) x y) z = tbI (zaQ t) x (tbI (zaQ t) y z)
  all : ∀ y : Int, 0 <= y -> y < t.length -> Wd (tbI (zaQ t)) gs y
  has : C 52 [.sl t.length (t.map zaU), .sl gs.length (gs.map fun g => .sc (.int .i64 g))] = some (.sc (.bool true), [.dead, .dead])
open Classical in
noncomputable def ziB (C : z0b) (args : List T) : Option (T × List T) :=
  if ∃ t gs, args = [.sl (List.length t) (t.map zaU), .sl gs.length (gs.map fun g => .sc (.int .i64 g))] /\ GenC C t gs then
    (match args with | [.sl n _, _] => some (.sl n ((List.range n).map fun i => .sc (.int .i64 ((i : Nat) : Int))), [.dead, .dead]) | _ => none) else none
noncomputable def xtF (C : z0b) : z0b := fun f args =>
  if f = 182 then zkO C args
  else if f = 74 then zhb args
  else if f = 106 then zkM C args
  else if f = 122 then zkN args
  else if f = 61 then zdI args
  else if f = 76 then zbx args
  else if f = 18 then ziA C args
  else if f = 27 then ziB C args else none
instance : XMo xtF := ⟨fun {C D} h f a o => by
  unfold xtF
  split
  · unfold zkO
    split
    case h_2 => exact id
    rename_i n0 cs0 t
    split
    · exact id
    intro h2
    split at h2
    case h_3 => cases h2
    all_goals
      rename_i hf
      obtain ⟨n, hn⟩ := z9d h _ hf
      rw [hn n (Nat.le_refl _)]
      exact h2
  · split
    · exact id
    · split
      · unfold zkM
        intro h2
        split at h2
        case h_2 => cases h2
        split at h2
        case h_2 => cases h2
        rename_i hv hb
        simp only [h _ _ _ hv, hb]
        exact h2
      · split
        · exact id
        · split
          · exact id
          · split
            · exact id
            · split
              · unfold ziA
                intro h2
                split at h2
                case isFalse => cases h2
                rename_i hc
                obtain ⟨t, e, c0, c1, c2, c3, c4⟩ := hc
                rw [if_pos ⟨t, e, c0, c1, c2, h _ _ _ c3, fun gs hg => h _ _ _ (c4 gs hg)⟩]
                exact h2
              · split
                · unfold ziB
                  intro h2
                  split at h2
                  case isFalse => cases h2
                  rename_i hc
                  obtain ⟨t, gs, e, c0, c1, c2, c3, c4, c5, c6⟩ := hc
                  rw [if_pos ⟨t, gs, e, c0, c1, c2, c3, c4, c5, h _ _ _ c6⟩]
                  exact h2
                · exact id⟩
end
section
open Go
set_option maxRecDepth 100000
@[simp] theorem ty3 : z0z Tryz.prog 3 = some ⟨.int .i64, 1, 8, (some [(.sc (.int .i64 0))])⟩ := by kernel_rfl
@[simp] theorem ty4 : z0z Tryz.prog 4 = some ⟨.bool, 1, 1, (some [(.sc (.bool false))])⟩ := by kernel_rfl
@[simp] theorem ty5 : z0z Tryz.prog 5 = some ⟨.int .u8, 1, 1, (some [(.sc (.int .u8 0))])⟩ := by kernel_rfl
@[simp] theorem ty9 : z0z Tryz.prog 9 = some ⟨.string, 1, 16, (some [(.sc (.string ByteArray.empty))])⟩ := by kernel_rfl
@[simp] theorem ty21 : z0z Tryz.prog 21 = some ⟨.int .i32, 1, 4, (some [(.sc (.int .i32 0))])⟩ := by kernel_rfl
@[simp] theorem ty22 : z0z Tryz.prog 22 = some ⟨.slice 26, 1, 24, (some [(.os 1 0 [])])⟩ := by kernel_rfl
@[simp] theorem ty26 : z0z Tryz.prog 26 = some ⟨.slice 3, 1, 24, (some [(.os 1 0 [])])⟩ := by kernel_rfl
@[simp] theorem ty27 : z0z Tryz.prog 27 = some ⟨.slice 48, 1, 24, (some [(.os 2 0 [])])⟩ := by kernel_rfl
noncomputable def znX : Array Field := match Tryz.prog.underlying 29 with | some (.struct fs) => fs | _ => #[]
@[simp] theorem ty29 : z0z Tryz.prog 29 = some ⟨.struct znX, 9, 168, (some [(.sc (.int .i64 0)), (.sc (.bool false)), (.os 1 0 []), (.os 1 0 []), (.os 1 0 []), (.os 1 0 []), (.os 1 0 []), (.os 2 0 []), (.sc (.int .i64 0))])⟩ := by kernel_rfl
@[simp] theorem fi29_0 : z0o Tryz.prog 29 0 = some (0, 1, false) := by kernel_rfl
@[simp] theorem fi29_1 : z0o Tryz.prog 29 1 = some (1, 1, false) := by kernel_rfl
@[simp] theorem fi29_2 : z0o Tryz.prog 29 2 = some (2, 1, false) := by kernel_rfl
@[simp] theorem fi29_3 : z0o Tryz.prog 29 3 = some (3, 1, false) := by kernel_rfl
@[simp] theorem fi29_4 : z0o Tryz.prog 29 4 = some (4, 1, false) := by kernel_rfl
@[simp] theorem fi29_5 : z0o Tryz.prog 29 5 = some (5, 1, false) := by kernel_rfl
@[simp] theorem fi29_6 : z0o Tryz.prog 29 6 = some (6, 1, false) := by kernel_rfl
@[simp] theorem fi29_7 : z0o Tryz.prog 29 7 = some (7, 1, false) := by kernel_rfl
@[simp] theorem fi29_8 : z0o Tryz.prog 29 8 = some (8, 1, false) := by kernel_rfl
@[simp] theorem znD : z2p Tryz.prog 29 = (some [(.sc (.int .i64 0)), (.sc (.bool false)), (.os 1 0 []), (.os 1 0 []), (.os 1 0 []), (.os 1 0 []), (.os 1 0 []), (.os 2 0 []), (.sc (.int .i64 0))]) := by kernel_rfl
@[simp] theorem bs29 (fr : Fr) (parts : List (Nat × Operand)) : z2M Tryz.prog fr 29 parts = match z3b fr (z0o Tryz.prog 29) ([(.sc (.int .i64 0)), (.sc (.bool false)), (.os 1 0 []), (.os 1 0 []), (.os 1 0 []), (.os 1 0 []), (.os 1 0 []), (.os 2 0 []), (.sc (.int .i64 0))].map (A.t none)) parts with | some xs => some (E.ag xs) | none => none := z0y znD fr parts
@[simp] theorem ty30 : z0z Tryz.prog 30 = some ⟨.int .i64, 1, 8, (some [(.sc (.int .i64 0))])⟩ := by kernel_rfl
@[simp] theorem ty41 : z0z Tryz.prog 41 = some ⟨.slice 9, 1, 24, (some [(.os 1 0 [])])⟩ := by kernel_rfl
@[simp] theorem ty45 : z0z Tryz.prog 45 = some ⟨.slice 5, 1, 24, (some [(.os 1 0 [])])⟩ := by kernel_rfl
noncomputable def znW : Array Field := match Tryz.prog.underlying 48 with | some (.struct fs) => fs | _ => #[]
@[simp] theorem ty48 : z0z Tryz.prog 48 = some ⟨.struct znW, 2, 32, (some [(.sc (.string ByteArray.empty)), (.sc (.string ByteArray.empty))])⟩ := by kernel_rfl
@[simp] theorem fi48_0 : z0o Tryz.prog 48 0 = some (0, 1, false) := by kernel_rfl
@[simp] theorem fi48_1 : z0o Tryz.prog 48 1 = some (1, 1, false) := by kernel_rfl
@[simp] theorem znC : z2p Tryz.prog 48 = (some [(.sc (.string ByteArray.empty)), (.sc (.string ByteArray.empty))]) := by kernel_rfl
@[simp] theorem bs48 (fr : Fr) (parts : List (Nat × Operand)) : z2M Tryz.prog fr 48 parts = match z3b fr (z0o Tryz.prog 48) ([(.sc (.string ByteArray.empty)), (.sc (.string ByteArray.empty))].map (A.t none)) parts with | some xs => some (E.ag xs) | none => none := z0y znC fr parts
@[simp] theorem ty65 : z0z Tryz.prog 65 = some ⟨.slice 4, 1, 24, (some [(.os 1 0 [])])⟩ := by kernel_rfl
noncomputable def znV : Array Field := match Tryz.prog.underlying 67 with | some (.struct fs) => fs | _ => #[]
@[simp] theorem ty67 : z0z Tryz.prog 67 = some ⟨.struct znV, 4, 64, (some [(.sc (.int .i64 0)), (.sc (.int .i64 0)), (.os 1 0 []), (.os 1 0 [])])⟩ := by kernel_rfl
@[simp] theorem fi67_0 : z0o Tryz.prog 67 0 = some (0, 1, false) := by kernel_rfl
@[simp] theorem fi67_1 : z0o Tryz.prog 67 1 = some (1, 1, false) := by kernel_rfl
@[simp] theorem fi67_2 : z0o Tryz.prog 67 2 = some (2, 1, false) := by kernel_rfl
@[simp] theorem fi67_3 : z0o Tryz.prog 67 3 = some (3, 1, false) := by kernel_rfl
@[simp] theorem znB : z2p Tryz.prog 67 = (some [(.sc (.int .i64 0)), (.sc (.int .i64 0)), (.os 1 0 []), (.os 1 0 [])]) := by kernel_rfl
@[simp] theorem bs67 (fr : Fr) (parts : List (Nat × Operand)) : z2M Tryz.prog fr 67 parts = match z3b fr (z0o Tryz.prog 67) ([(.sc (.int .i64 0)), (.sc (.int .i64 0)), (.os 1 0 []), (.os 1 0 [])].map (A.t none)) parts with | some xs => some (E.ag xs) | none => none := z0y znB fr parts
@[simp] theorem ty70 : z0z Tryz.prog 70 = some ⟨.slice 72, 1, 24, (some [(.os 3 0 [])])⟩ := by kernel_rfl
noncomputable def znU : Array Field := match Tryz.prog.underlying 72 with | some (.struct fs) => fs | _ => #[]
@[simp] theorem ty72 : z0z Tryz.prog 72 = some ⟨.struct znU, 3, 40, (some [(.sc (.int .i64 0)), (.sc (.int .i64 0)), (.os 3 0 [])])⟩ := by kernel_rfl
@[simp] theorem fi72_0 : z0o Tryz.prog 72 0 = some (0, 1, false) := by kernel_rfl
@[simp] theorem fi72_1 : z0o Tryz.prog 72 1 = some (1, 1, false) := by kernel_rfl
@[simp] theorem fi72_2 : z0o Tryz.prog 72 2 = some (2, 1, false) := by kernel_rfl
@[simp] theorem znA : z2p Tryz.prog 72 = (some [(.sc (.int .i64 0)), (.sc (.int .i64 0)), (.os 3 0 [])]) := by kernel_rfl
@[simp] theorem bs72 (fr : Fr) (parts : List (Nat × Operand)) : z2M Tryz.prog fr 72 parts = match z3b fr (z0o Tryz.prog 72) ([(.sc (.int .i64 0)), (.sc (.int .i64 0)), (.os 3 0 [])].map (A.t none)) parts with | some xs => some (E.ag xs) | none => none := z0y znA fr parts
@[simp] theorem ty77 : z0z Tryz.prog 77 = some ⟨.pointer 83, 1, 8, (some [(.sc (.pointer none))])⟩ := by kernel_rfl
@[simp] theorem ty81 : z0z Tryz.prog 81 = some ⟨.map 9 3, 1, 8, (some [(.sc (.map none))])⟩ := by kernel_rfl
@[simp] theorem mt81 : z5o Tryz.prog 81 = some (none, 3) := by kernel_rfl
@[simp] theorem zv81 : zaB Tryz.prog 3 = some (.int .i64 0) := by kernel_rfl
noncomputable def znT : Array Field := match Tryz.prog.underlying 83 with | some (.struct fs) => fs | _ => #[]
@[simp] theorem ty83 : z0z Tryz.prog 83 = some ⟨.struct znT, 13, 248, (some [(.sc (.int .i64 0)), (.sc (.bool false)), (.os 1 0 []), (.os 1 0 []), (.os 1 0 []), (.os 1 0 []), (.os 1 0 []), (.os 2 0 []), (.sc (.int .i64 0)), (.sc (.map none)), (.os 1 0 []), (.os 1 0 []), (.os 1 0 [])])⟩ := by kernel_rfl
@[simp] theorem fi83_0 : z0o Tryz.prog 83 0 = some (0, 9, true) := by kernel_rfl
@[simp] theorem fi83_1 : z0o Tryz.prog 83 1 = some (9, 1, false) := by kernel_rfl
@[simp] theorem fi83_2 : z0o Tryz.prog 83 2 = some (10, 1, false) := by kernel_rfl
@[simp] theorem fi83_3 : z0o Tryz.prog 83 3 = some (11, 1, false) := by kernel_rfl
@[simp] theorem fi83_4 : z0o Tryz.prog 83 4 = some (12, 1, false) := by kernel_rfl
@[simp] theorem znz : z2p Tryz.prog 83 = (some [(.sc (.int .i64 0)), (.sc (.bool false)), (.os 1 0 []), (.os 1 0 []), (.os 1 0 []), (.os 1 0 []), (.os 1 0 []), (.os 2 0 []), (.sc (.int .i64 0)), (.sc (.map none)), (.os 1 0 []), (.os 1 0 []), (.os 1 0 [])]) := by kernel_rfl
@[simp] theorem bs83 (fr : Fr) (parts : List (Nat × Operand)) : z2M Tryz.prog fr 83 parts = match z3b fr (z0o Tryz.prog 83) ([(.sc (.int .i64 0)), (.sc (.bool false)), (.os 1 0 []), (.os 1 0 []), (.os 1 0 []), (.os 1 0 []), (.os 1 0 []), (.os 2 0 []), (.sc (.int .i64 0)), (.sc (.map none)), (.os 1 0 []), (.os 1 0 []), (.os 1 0 [])].map (A.t none)) parts with | some xs => some (E.ag xs) | none => none := z0y znz fr parts
@[simp] theorem ty114 : z0z Tryz.prog 114 = some ⟨.pointer 158, 1, 8, (some [(.sc (.pointer none))])⟩ := by kernel_rfl
noncomputable def zlT : Array Field := match Tryz.prog.underlying 123 with | some (.struct fs) => fs | _ => #[]
@[simp] theorem ty123 : z0z Tryz.prog 123 = some ⟨.struct zlT, 1, 16, (some [(.sc (.string ByteArray.empty))])⟩ := by kernel_rfl
@[simp] theorem fi123_0 : z0o Tryz.prog 123 0 = some (0, 1, false) := by kernel_rfl
@[simp] theorem zlh : z2p Tryz.prog 123 = (some [(.sc (.string ByteArray.empty))]) := by kernel_rfl
@[simp] theorem bs123 (fr : Fr) (parts : List (Nat × Operand)) : z2M Tryz.prog fr 123 parts = match z3b fr (z0o Tryz.prog 123) ([(.sc (.string ByteArray.empty))].map (A.t none)) parts with | some xs => some (E.ag xs) | none => none := z0y zlh fr parts
@[simp] theorem ty125 : z0z Tryz.prog 125 = some ⟨.slice 164, 1, 24, (some [(.os 1 0 [])])⟩ := by kernel_rfl
@[simp] theorem ty127 : z0z Tryz.prog 127 = some ⟨.slice 125, 1, 24, (some [(.os 1 0 [])])⟩ := by kernel_rfl
@[simp] theorem ty153 : z0z Tryz.prog 153 = some ⟨.int .u64, 1, 8, (some [(.sc (.int .u64 0))])⟩ := by kernel_rfl
noncomputable def zlS : Array Field := match Tryz.prog.underlying 156 with | some (.struct fs) => fs | _ => #[]
@[simp] theorem ty156 : z0z Tryz.prog 156 = some ⟨.struct zlS, 4, 64, (some [(.sc (.int .i64 0)), (.os 3 0 []), (.os 1 0 []), (.sc (.int .i64 0))])⟩ := by kernel_rfl
@[simp] theorem fi156_0 : z0o Tryz.prog 156 0 = some (0, 1, false) := by kernel_rfl
@[simp] theorem fi156_1 : z0o Tryz.prog 156 1 = some (1, 1, false) := by kernel_rfl
@[simp] theorem fi156_2 : z0o Tryz.prog 156 2 = some (2, 1, false) := by kernel_rfl
@[simp] theorem fi156_3 : z0o Tryz.prog 156 3 = some (3, 1, false) := by kernel_rfl
@[simp] theorem zlg : z2p Tryz.prog 156 = (some [(.sc (.int .i64 0)), (.os 3 0 []), (.os 1 0 []), (.sc (.int .i64 0))]) := by kernel_rfl
@[simp] theorem bs156 (fr : Fr) (parts : List (Nat × Operand)) : z2M Tryz.prog fr 156 parts = match z3b fr (z0o Tryz.prog 156) ([(.sc (.int .i64 0)), (.os 3 0 []), (.os 1 0 []), (.sc (.int .i64 0))].map (A.t none)) parts with | some xs => some (E.ag xs) | none => none := z0y zlg fr parts
noncomputable def zlR : Array Field := match Tryz.prog.underlying 158 with | some (.struct fs) => fs | _ => #[]
@[simp] theorem ty158 : z0z Tryz.prog 158 = some ⟨.struct zlR, 5, 72, (some [(.sc (.int .i64 0)), (.os 3 0 []), (.os 1 0 []), (.sc (.int .i64 0)), (.sc (.map none))])⟩ := by kernel_rfl
@[simp] theorem fi158_0 : z0o Tryz.prog 158 0 = some (0, 4, true) := by kernel_rfl
@[simp] theorem fi158_1 : z0o Tryz.prog 158 1 = some (4, 1, false) := by kernel_rfl
@[simp] theorem zlf : z2p Tryz.prog 158 = (some [(.sc (.int .i64 0)), (.os 3 0 []), (.os 1 0 []), (.sc (.int .i64 0)), (.sc (.map none))]) := by kernel_rfl
@[simp] theorem bs158 (fr : Fr) (parts : List (Nat × Operand)) : z2M Tryz.prog fr 158 parts = match z3b fr (z0o Tryz.prog 158) ([(.sc (.int .i64 0)), (.os 3 0 []), (.os 1 0 []), (.sc (.int .i64 0)), (.sc (.map none))].map (A.t none)) parts with | some xs => some (E.ag xs) | none => none := z0y zlf fr parts
@[simp] theorem ty164 : z0z Tryz.prog 164 = some ⟨.int .u64, 1, 8, (some [(.sc (.int .u64 0))])⟩ := by kernel_rfl
@[simp] theorem ty171 : z0z Tryz.prog 171 = some ⟨.int .i64, 1, 8, (some [(.sc (.int .i64 0))])⟩ := by kernel_rfl
@[simp] theorem ty178 : z0z Tryz.prog 178 = some ⟨.int .u32, 1, 4, (some [(.sc (.int .u32 0))])⟩ := by kernel_rfl
@[simp] theorem ty181 : z0z Tryz.prog 181 = some ⟨.pointer 3, 1, 8, (some [(.sc (.pointer none))])⟩ := by kernel_rfl
noncomputable def zlQ : Array Field := match Tryz.prog.underlying 184 with | some (.struct fs) => fs | _ => #[]
@[simp] theorem ty184 : z0z Tryz.prog 184 = some ⟨.struct zlQ, 7, 88, (some [(.sc (.int .i64 0)), (.sc (.int .i64 0)), (.os 3 0 []), (.sc (.int .i64 0)), (.sc (.int .i64 0)), (.os 3 0 []), (.sc (.bool false))])⟩ := by kernel_rfl
@[simp] theorem fi184_0 : z0o Tryz.prog 184 0 = some (0, 3, true) := by kernel_rfl
@[simp] theorem fi184_1 : z0o Tryz.prog 184 1 = some (3, 3, true) := by kernel_rfl
@[simp] theorem fi184_2 : z0o Tryz.prog 184 2 = some (6, 1, false) := by kernel_rfl
@[simp] theorem zle : z2p Tryz.prog 184 = (some [(.sc (.int .i64 0)), (.sc (.int .i64 0)), (.os 3 0 []), (.sc (.int .i64 0)), (.sc (.int .i64 0)), (.os 3 0 []), (.sc (.bool false))]) := by kernel_rfl
@[simp] theorem bs184 (fr : Fr) (parts : List (Nat × Operand)) : z2M Tryz.prog fr 184 parts = match z3b fr (z0o Tryz.prog 184) ([(.sc (.int .i64 0)), (.sc (.int .i64 0)), (.os 3 0 []), (.sc (.int .i64 0)), (.sc (.int .i64 0)), (.os 3 0 []), (.sc (.bool false))].map (A.t none)) parts with | some xs => some (E.ag xs) | none => none := z0y zle fr parts
noncomputable def zlP : Array Field := match Tryz.prog.underlying 186 with | some (.struct fs) => fs | _ => #[]
@[simp] theorem ty186 : z0z Tryz.prog 186 = some ⟨.struct zlP, 2, 16, (some [(.sc (.int .i64 0)), (.sc (.bool false))])⟩ := by kernel_rfl
@[simp] theorem fi186_0 : z0o Tryz.prog 186 0 = some (0, 1, false) := by kernel_rfl
@[simp] theorem fi186_1 : z0o Tryz.prog 186 1 = some (1, 1, false) := by kernel_rfl
@[simp] theorem zld : z2p Tryz.prog 186 = (some [(.sc (.int .i64 0)), (.sc (.bool false))]) := by kernel_rfl
@[simp] theorem bs186 (fr : Fr) (parts : List (Nat × Operand)) : z2M Tryz.prog fr 186 parts = match z3b fr (z0o Tryz.prog 186) ([(.sc (.int .i64 0)), (.sc (.bool false))].map (A.t none)) parts with | some xs => some (E.ag xs) | none => none := z0y zld fr parts
@[simp] theorem ty196 : z0z Tryz.prog 196 = some ⟨.map 198 3, 1, 8, (some [(.sc (.map none))])⟩ := by kernel_rfl
@[simp] theorem mt196 : z5o Tryz.prog 196 = some ((some .i16), 3) := by kernel_rfl
@[simp] theorem zv196 : zaB Tryz.prog 3 = some (.int .i64 0) := by kernel_rfl
@[simp] theorem ty198 : z0z Tryz.prog 198 = some ⟨.array 7 3, 7, 56, (some [(.sc (.int .i64 0)), (.sc (.int .i64 0)), (.sc (.int .i64 0)), (.sc (.int .i64 0)), (.sc (.int .i64 0)), (.sc (.int .i64 0)), (.sc (.int .i64 0))])⟩ := by kernel_rfl
@[simp] theorem ty215 : z0z Tryz.prog 215 = some ⟨.map 3 3, 1, 8, (some [(.sc (.map none))])⟩ := by kernel_rfl
@[simp] theorem mt215 : z5o Tryz.prog 215 = some ((some .i64), 3) := by kernel_rfl
@[simp] theorem zv215 : zaB Tryz.prog 3 = some (.int .i64 0) := by kernel_rfl
noncomputable def zlO : Array Field := match Tryz.prog.underlying 217 with | some (.struct fs) => fs | _ => #[]
@[simp] theorem ty217 : z0z Tryz.prog 217 = some ⟨.struct zlO, 2, 32, (some [(.os 1 0 []), (.sc (.map none))])⟩ := by kernel_rfl
@[simp] theorem fi217_0 : z0o Tryz.prog 217 0 = some (0, 1, false) := by kernel_rfl
@[simp] theorem fi217_1 : z0o Tryz.prog 217 1 = some (1, 1, false) := by kernel_rfl
@[simp] theorem zlc : z2p Tryz.prog 217 = (some [(.os 1 0 []), (.sc (.map none))]) := by kernel_rfl
@[simp] theorem bs217 (fr : Fr) (parts : List (Nat × Operand)) : z2M Tryz.prog fr 217 parts = match z3b fr (z0o Tryz.prog 217) ([(.os 1 0 []), (.sc (.map none))].map (A.t none)) parts with | some xs => some (E.ag xs) | none => none := z0y zlc fr parts
@[simp] theorem ty230 : z0z Tryz.prog 230 = some ⟨.pointer 217, 1, 8, (some [(.sc (.pointer none))])⟩ := by kernel_rfl
def cf6 : Cfg := { wio := fun f i => (f == 999999 && (i == 0)) || (f == 777777 && (i == 27)), live := fun r => if r = 10 then some [0, 1, 5, 7, 9, 10, 50, 51, 52] else if r = 19 then some [0, 5, 7, 9, 10, 92, 93] else if r = 22 then some [0, 5, 7, 9, 10, 13, 92, 93, 97, 98] else none, dr := fun r => if r = 24 then some [(0, 0), (1, 0), (2, 0), (3, 0), (4, 0), (5, 0), (6, 0), (7, 0), (8, 0), (9, 0), (10, 0), (11, 0), (12, 0), (13, 0), (14, 0), (15, 0), (16, 0), (17, 0), (18, 0), (19, 0), (20, 0), (21, 0), (22, 0), (23, 0), (24, 0), (25, 0), (26, 0), (27, 0), (28, 0), (29, 0), (30, 0), (31, 0), (32, 0), (33, 0), (34, 0), (35, 0), (36, 0), (37, 0), (38, 0)] else none }
@[simp] theorem wio6 : cf6.wio = fun f i => (f == 999999 && (i == 0)) || (f == 777777 && (i == 27)) := rfl
@[simp] theorem live6 : cf6.live = fun r => if r = 10 then some [0, 1, 5, 7, 9, 10, 50, 51, 52] else if r = 19 then some [0, 5, 7, 9, 10, 92, 93] else if r = 22 then some [0, 5, 7, 9, 10, 13, 92, 93, 97, 98] else none := rfl
@[simp] theorem wr6 : cf6.wr = fun _ => [] := rfl
def cf7 : Cfg := { wio := fun f i => (f == 999999 && (i == 0)), live := fun r => none, dr := fun r => none }
@[simp] theorem wio7 : cf7.wio = fun f i => (f == 999999 && (i == 0)) := rfl
@[simp] theorem live7 : cf7.live = fun r => none := rfl
@[simp] theorem wr7 : cf7.wr = fun _ => [] := rfl
def cf9 : Cfg := { wio := fun f i => (f == 999999 && (i == 0)), live := fun r => none, dr := fun r => none }
@[simp] theorem wio9 : cf9.wio = fun f i => (f == 999999 && (i == 0)) := rfl
@[simp] theorem live9 : cf9.live = fun r => none := rfl
@[simp] theorem wr9 : cf9.wr = fun _ => [] := rfl
def cf10 : Cfg := { wio := fun f i => (f == 37 && (i == 0)) || (f == 36 && (i == 0)) || (f == 999999 && (i == 0)), live := fun r => if r = 4 then some [4, 6] else none, dr := fun r => none, fz := fun r => if r = 999998 then some [] else none }
@[simp] theorem wio10 : cf10.wio = fun f i => (f == 37 && (i == 0)) || (f == 36 && (i == 0)) || (f == 999999 && (i == 0)) := rfl
@[simp] theorem live10 : cf10.live = fun r => if r = 4 then some [4, 6] else none := rfl
@[simp] theorem wr10 : cf10.wr = fun _ => [] := rfl
def cf20 : Cfg := { wio := fun f i => (f == 36 && (i == 0)) || (f == 999999 && (i == 0)), live := fun r => if r = 10 then some [4, 6, 39, 40] else if r = 14 then some [4, 6, 7, 39, 40, 57, 58] else none, dr := fun r => if r = 16 then some [(0, 0), (1, 0), (2, 0), (3, 0), (4, 0), (5, 0), (6, 0), (7, 0), (8, 0), (9, 0), (10, 0), (11, 0), (12, 0), (13, 0), (14, 0), (15, 0), (16, 0), (17, 0)] else if r = 21 then some [(0, 0), (1, 0), (2, 0), (3, 0), (4, 0), (5, 0), (6, 0), (7, 0), (8, 0), (9, 0), (10, 0), (11, 0), (12, 0), (13, 0), (14, 0), (15, 0), (16, 0), (17, 2)] else if r = 17 then some [(0, 0), (1, 0), (2, 0), (3, 0), (4, 0), (5, 0), (6, 0), (7, 0), (8, 0), (9, 0), (10, 0), (11, 0), (12, 0), (13, 0), (14, 0), (15, 0), (16, 0), (17, 0), (18, 0), (19, 0), (20, 0), (21, 0), (22, 0), (23, 2)] else none, fz := fun r => if r = 999998 then some [] else none }
@[simp] theorem wio20 : cf20.wio = fun f i => (f == 36 && (i == 0)) || (f == 999999 && (i == 0)) := rfl
@[simp] theorem live20 : cf20.live = fun r => if r = 10 then some [4, 6, 39, 40] else if r = 14 then some [4, 6, 7, 39, 40, 57, 58] else none := rfl
@[simp] theorem wr20 : cf20.wr = fun _ => [] := rfl
def cf23 : Cfg := { wio := fun f i => (f == 999999 && (i == 0)), live := fun r => if r = 6 then some [3, 5, 26, 27] else if r = 10 then some [3, 5, 6, 26, 27, 43, 44, 45] else none, dr := fun r => if r = 12 then some [(0, 0), (1, 0), (2, 0), (3, 0), (4, 0), (5, 0), (6, 0), (7, 0), (8, 0), (9, 0), (10, 0), (11, 0), (12, 0), (13, 0), (14, 0), (15, 0), (16, 0), (17, 0)] else if r = 17 then some [(0, 0), (1, 0), (2, 0), (3, 0), (4, 0), (5, 0), (6, 0), (7, 0), (8, 0), (9, 0), (10, 0), (11, 0), (12, 0), (13, 0), (14, 0), (15, 0), (16, 0), (17, 2)] else if r = 13 then some [(0, 0), (1, 0), (2, 0), (3, 0), (4, 0), (5, 0), (6, 0), (7, 0), (8, 0), (9, 0), (10, 0), (11, 0), (12, 0), (13, 0), (14, 0), (15, 0), (16, 0), (17, 0), (18, 0), (19, 0), (20, 0), (21, 0), (22, 0), (23, 2)] else none, fz := fun r => if r = 999998 then some [] else none }
@[simp] theorem wio23 : cf23.wio = fun f i => (f == 999999 && (i == 0)) := rfl
@[simp] theorem live23 : cf23.live = fun r => if r = 6 then some [3, 5, 26, 27] else if r = 10 then some [3, 5, 6, 26, 27, 43, 44, 45] else none := rfl
@[simp] theorem wr23 : cf23.wr = fun _ => [] := rfl
def cf24 : Cfg := { wio := fun f i => (f == 999999 && (i == 0)), live := fun r => none, dr := fun r => if r = 4 then some [(0, 0), (1, 0), (2, 0), (3, 0), (4, 0), (5, 1), (6, 0), (7, 0), (8, 0), (9, 0), (10, 0), (11, 0)] else none }
@[simp] theorem wio24 : cf24.wio = fun f i => (f == 999999 && (i == 0)) := rfl
@[simp] theorem live24 : cf24.live = fun r => none := rfl
@[simp] theorem wr24 : cf24.wr = fun _ => [] := rfl
def cf25 : Cfg := { wio := fun f i => (f == 999999 && (i == 0)), live := fun r => if r = 2 then some [0, 7, 8, 9] else none, dr := fun r => none }
@[simp] theorem wio25 : cf25.wio = fun f i => (f == 999999 && (i == 0)) := rfl
@[simp] theorem live25 : cf25.live = fun r => if r = 2 then some [0, 7, 8, 9] else none := rfl
@[simp] theorem wr25 : cf25.wr = fun _ => [] := rfl
def cf26 : Cfg := { wio := fun f i => (f == 999999 && (i == 0)), live := fun r => none, dr := fun r => none }
@[simp] theorem wio26 : cf26.wio = fun f i => (f == 999999 && (i == 0)) := rfl
@[simp] theorem live26 : cf26.live = fun r => none := rfl
@[simp] theorem wr26 : cf26.wr = fun _ => [] := rfl
def cf28 : Cfg := { wio := fun f i => (f == 999999 && (i == 0)), live := fun r => if r = 4 then some [0, 13, 14, 15] else none, dr := fun r => none }
@[simp] theorem wio28 : cf28.wio = fun f i => (f == 999999 && (i == 0)) := rfl
@[simp] theorem live28 : cf28.live = fun r => if r = 4 then some [0, 13, 14, 15] else none := rfl
@[simp] theorem wr28 : cf28.wr = fun _ => [] := rfl
def cf30 : Cfg := { wio := fun f i => (f == 67 && (i == 0)) || (f == 66 && (i == 0)) || (f == 999999 && (i == 0)), live := fun r => if r = 5 then some [4, 7] else none, dr := fun r => none }
@[simp] theorem wio30 : cf30.wio = fun f i => (f == 67 && (i == 0)) || (f == 66 && (i == 0)) || (f == 999999 && (i == 0)) := rfl
@[simp] theorem live30 : cf30.live = fun r => if r = 5 then some [4, 7] else none := rfl
@[simp] theorem wr30 : cf30.wr = fun _ => [] := rfl
def cf31 : Cfg := { wio := fun f i => (f == 999999 && (i == 0)), live := fun r => none, dr := fun r => none, fz := fun r => if r = 999998 then some [] else none }
@[simp] theorem wio31 : cf31.wio = fun f i => (f == 999999 && (i == 0)) := rfl
@[simp] theorem live31 : cf31.live = fun r => none := rfl
@[simp] theorem wr31 : cf31.wr = fun _ => [] := rfl
def cf32 : Cfg := { wio := fun f i => (f == 999999 && (i == 0)), live := fun r => none, dr := fun r => none, fz := fun r => if r = 999998 then some [] else none }
@[simp] theorem wio32 : cf32.wio = fun f i => (f == 999999 && (i == 0)) := rfl
@[simp] theorem live32 : cf32.live = fun r => none := rfl
@[simp] theorem wr32 : cf32.wr = fun _ => [] := rfl
def cf33 : Cfg := { wio := fun f i => (f == 999999 && (i == 0)), live := fun r => none, dr := fun r => none }
@[simp] theorem wio33 : cf33.wio = fun f i => (f == 999999 && (i == 0)) := rfl
@[simp] theorem live33 : cf33.live = fun r => none := rfl
@[simp] theorem wr33 : cf33.wr = fun _ => [] := rfl
def cf34 : Cfg := { wio := fun f i => (f == 73 && (i == 0)) || (f == 999999 && (i == 0)), live := fun r => none, dr := fun r => none }
@[simp] theorem wio34 : cf34.wio = fun f i => (f == 73 && (i == 0)) || (f == 999999 && (i == 0)) := rfl
@[simp] theorem live34 : cf34.live = fun r => none := rfl
@[simp] theorem wr34 : cf34.wr = fun _ => [] := rfl
def cf35 : Cfg := { wio := fun f i => (f == 77 && (i == 0)) || (f == 999999 && (i == 0)) || (f == 777777 && (i == 77)), live := fun r => if r = 6 then some [1, 6, 39, 40, 41] else if r = 16 then some [6, 9, 85, 86, 87] else none, dr := fun r => if r = 10 then some [(0, 3), (1, 0), (2, 0), (3, 0), (4, 0), (5, 0), (6, 0), (7, 1), (8, 1), (9, 2), (10, 0), (11, 0), (12, 0), (13, 2)] else if r = 19 then some [(0, 0), (1, 0), (2, 0), (3, 0), (4, 0), (5, 1), (6, 0), (7, 0), (8, 0), (9, 0), (10, 0), (11, 0)] else if r = 21 then some [(0, 3), (1, 0), (2, 0), (3, 0), (4, 0), (5, 0), (6, 0), (7, 0), (8, 0), (9, 0), (10, 0), (11, 0), (12, 0), (13, 0), (14, 0), (15, 1), (16, 2), (17, 0), (18, 0), (19, 0), (20, 2)] else none, fz := fun r => if r = 12 then some [300006] else none }
@[simp] theorem wio35 : cf35.wio = fun f i => (f == 77 && (i == 0)) || (f == 999999 && (i == 0)) || (f == 777777 && (i == 77)) := rfl
@[simp] theorem live35 : cf35.live = fun r => if r = 6 then some [1, 6, 39, 40, 41] else if r = 16 then some [6, 9, 85, 86, 87] else none := rfl
@[simp] theorem wr35 : cf35.wr = fun _ => [] := rfl
def cf36 : Cfg := { wio := fun f i => (f == 999999 && (i == 0)), live := fun r => none, dr := fun r => if r = 1 then some [(0, 0), (1, 0), (2, 0), (3, 0), (4, 0), (5, 0), (6, 0), (7, 0), (8, 0), (9, 0), (10, 0), (11, 0), (12, 0)] else none }
@[simp] theorem wio36 : cf36.wio = fun f i => (f == 999999 && (i == 0)) := rfl
@[simp] theorem live36 : cf36.live = fun r => none := rfl
@[simp] theorem wr36 : cf36.wr = fun _ => [] := rfl
def cf37 : Cfg := { wio := fun f i => (f == 77 && (i == 0)) || (f == 80 && (i == 0)) || (f == 81 && (i == 0)) || (f == 999999 && (i == 0)) || (f == 777777 && (i == 77)), live := fun r => if r = 4 then some [0, 3, 4, 27, 28, 29] else none, dr := fun r => if r = 7 then some [(0, 0), (1, 0), (2, 0), (3, 0), (4, 0), (5, 1), (6, 0), (7, 0), (8, 0), (9, 0), (10, 0), (11, 0)] else if r = 14 then some [(0, 3), (1, 0), (2, 0), (3, 0), (4, 0), (5, 0), (6, 0), (7, 0), (8, 0), (9, 0), (10, 0), (11, 0), (12, 0), (13, 0), (14, 0), (15, 1), (16, 2), (17, 0), (18, 0), (19, 0), (20, 2)] else none, fz := fun r => if r = 17 then some [4] else none }
@[simp] theorem wio37 : cf37.wio = fun f i => (f == 77 && (i == 0)) || (f == 80 && (i == 0)) || (f == 81 && (i == 0)) || (f == 999999 && (i == 0)) || (f == 777777 && (i == 77)) := rfl
@[simp] theorem live37 : cf37.live = fun r => if r = 4 then some [0, 3, 4, 27, 28, 29] else none := rfl
@[simp] theorem wr37 : cf37.wr = fun _ => [] := rfl
def cf38 : Cfg := { wio := fun f i => (f == 999999 && (i == 0)), live := fun r => if r = 4 then some [0, 1, 18, 19] else none, dr := fun r => none }
@[simp] theorem wio38 : cf38.wio = fun f i => (f == 999999 && (i == 0)) := rfl
@[simp] theorem live38 : cf38.live = fun r => if r = 4 then some [0, 1, 18, 19] else none := rfl
@[simp] theorem wr38 : cf38.wr = fun _ => [] := rfl
def cf42 : Cfg := { wio := fun f i => (f == 37 && (i == 0)) || (f == 36 && (i == 0)) || (f == 88 && (i == 0)) || (f == 999999 && (i == 0)), live := fun r => if r = 4 then some [1, 4] else none, dr := fun r => if r = 4 then some [(0, 0), (1, 0), (2, 0), (3, 0), (4, 0), (5, 0), (6, 0), (7, 0)] else none }
@[simp] theorem wio42 : cf42.wio = fun f i => (f == 37 && (i == 0)) || (f == 36 && (i == 0)) || (f == 88 && (i == 0)) || (f == 999999 && (i == 0)) := rfl
@[simp] theorem live42 : cf42.live = fun r => if r = 4 then some [1, 4] else none := rfl
@[simp] theorem wr42 : cf42.wr = fun _ => [] := rfl
def cf43 : Cfg := { wio := fun f i => (f == 36 && (i == 0)) || (f == 999999 && (i == 0)), live := fun r => none, dr := fun r => none }
@[simp] theorem wio43 : cf43.wio = fun f i => (f == 36 && (i == 0)) || (f == 999999 && (i == 0)) := rfl
@[simp] theorem live43 : cf43.live = fun r => none := rfl
@[simp] theorem wr43 : cf43.wr = fun _ => [] := rfl
def cf49 : Cfg := { wio := fun f i => (f == 999999 && (i == 0)), live := fun r => if r = 6 then some [0, 13, 14, 15] else if r = 11 then some [0, 13, 14, 15, 24, 25, 26] else none, dr := fun r => none }
@[simp] theorem wio49 : cf49.wio = fun f i => (f == 999999 && (i == 0)) := rfl
@[simp] theorem live49 : cf49.live = fun r => if r = 6 then some [0, 13, 14, 15] else if r = 11 then some [0, 13, 14, 15, 24, 25, 26] else none := rfl
@[simp] theorem wr49 : cf49.wr = fun _ => [] := rfl
def cf50 : Cfg := { wio := fun f i => (f == 999999 && (i == 0)), live := fun r => if r = 3 then some [0, 5, 16, 17, 18] else if r = 8 then some [0, 5, 7, 16, 17, 18, 29, 30, 31] else if r = 12 then some [0, 5, 7, 9, 10, 16, 17, 18, 29, 30, 31, 45, 46, 47] else none, dr := fun r => if r = 14 then some [(0, 0), (1, 0), (2, 0), (3, 0), (4, 0), (5, 0), (6, 0), (7, 0), (8, 0)] else none }
@[simp] theorem wio50 : cf50.wio = fun f i => (f == 999999 && (i == 0)) := rfl
@[simp] theorem live50 : cf50.live = fun r => if r = 3 then some [0, 5, 16, 17, 18] else if r = 8 then some [0, 5, 7, 16, 17, 18, 29, 30, 31] else if r = 12 then some [0, 5, 7, 9, 10, 16, 17, 18, 29, 30, 31, 45, 46, 47] else none := rfl
@[simp] theorem wr50 : cf50.wr = fun _ => [] := rfl
def cf52 : Cfg := { wio := fun f i => (f == 999999 && (i == 0)), live := fun r => none, dr := fun r => none }
@[simp] theorem wio52 : cf52.wio = fun f i => (f == 999999 && (i == 0)) := rfl
@[simp] theorem live52 : cf52.live = fun r => none := rfl
@[simp] theorem wr52 : cf52.wr = fun _ => [] := rfl
def cf56 : Cfg := { wio := fun f i => (f == 999999 && (i == 0)), live := fun r => if r = 4 then some [0, 13, 14, 15] else none, dr := fun r => none }
@[simp] theorem wio56 : cf56.wio = fun f i => (f == 999999 && (i == 0)) := rfl
@[simp] theorem live56 : cf56.live = fun r => if r = 4 then some [0, 13, 14, 15] else none := rfl
@[simp] theorem wr56 : cf56.wr = fun _ => [] := rfl
def cf57 : Cfg := { wio := fun f i => (f == 999999 && (i == 0)), live := fun r => if r = 3 then some [3, 9, 10, 11] else none, dr := fun r => none }
@[simp] theorem wio57 : cf57.wio = fun f i => (f == 999999 && (i == 0)) := rfl
@[simp] theorem live57 : cf57.live = fun r => if r = 3 then some [3, 9, 10, 11] else none := rfl
@[simp] theorem wr57 : cf57.wr = fun _ => [] := rfl
def cf58 : Cfg := { wio := fun f i => (f == 999999 && (i == 0)), live := fun r => if r = 2 then some [0, 7, 8, 9] else none, dr := fun r => none }
@[simp] theorem wio58 : cf58.wio = fun f i => (f == 999999 && (i == 0)) := rfl
@[simp] theorem live58 : cf58.live = fun r => if r = 2 then some [0, 7, 8, 9] else none := rfl
@[simp] theorem wr58 : cf58.wr = fun _ => [] := rfl
def cf62 : Cfg := { wio := fun f i => (f == 999999 && (i == 0)), live := fun r => if r = 4 then some [0, 13, 14, 15] else none, dr := fun r => none }
@[simp] theorem wio62 : cf62.wio = fun f i => (f == 999999 && (i == 0)) := rfl
@[simp] theorem live62 : cf62.live = fun r => if r = 4 then some [0, 13, 14, 15] else none := rfl
@[simp] theorem wr62 : cf62.wr = fun _ => [] := rfl
def cf63 : Cfg := { wio := fun f i => (f == 999999 && (i == 0)), live := fun r => none, dr := fun r => none }
@[simp] theorem wio63 : cf63.wio = fun f i => (f == 999999 && (i == 0)) := rfl
@[simp] theorem live63 : cf63.live = fun r => none := rfl
@[simp] theorem wr63 : cf63.wr = fun _ => [] := rfl
def cf64 : Cfg := { wio := fun f i => (f == 103 && (i == 0)) || (f == 999999 && (i == 0)), live := fun r => none, dr := fun r => none }
@[simp] theorem wio64 : cf64.wio = fun f i => (f == 103 && (i == 0)) || (f == 999999 && (i == 0)) := rfl
@[simp] theorem live64 : cf64.live = fun r => none := rfl
@[simp] theorem wr64 : cf64.wr = fun _ => [] := rfl
def cf65 : Cfg := { wio := fun f i => (f == 999999 && (i == 0)), live := fun r => none, dr := fun r => none }
@[simp] theorem wio65 : cf65.wio = fun f i => (f == 999999 && (i == 0)) := rfl
@[simp] theorem live65 : cf65.live = fun r => none := rfl
@[simp] theorem wr65 : cf65.wr = fun _ => [] := rfl
def cf66 : Cfg := { wio := fun f i => (f == 999999 && (i == 0)), live := fun r => none, dr := fun r => if r = 1 then some [(0, 0), (1, 0), (2, 0), (3, 0), (4, 0), (5, 0), (6, 0), (7, 0), (8, 0), (9, 0), (10, 0), (11, 0), (12, 0)] else none }
@[simp] theorem wio66 : cf66.wio = fun f i => (f == 999999 && (i == 0)) := rfl
@[simp] theorem live66 : cf66.live = fun r => none := rfl
@[simp] theorem wr66 : cf66.wr = fun _ => [] := rfl
def cf67 : Cfg := { wio := fun f i => (f == 103 && (i == 0)) || (f == 999999 && (i == 0)), live := fun r => if r = 3 then some [0, 3, 16, 17] else none, dr := fun r => if r = 8 then some [(0, 0), (1, 0), (2, 0), (3, 0), (4, 0), (5, 1), (6, 0), (7, 0), (8, 0), (9, 0), (10, 0), (11, 0)] else none, dt := fun r => if r = 5 then some (.op 0 0 (.op 1 0 (.op 2 0 (.op 3 0 (.op 4 0 (.op 5 0 (.op 6 0 (.op 7 0 (.op 8 0 (.op 9 0 (.op 10 0 (.op 11 0 (.op 12 0 (.alt (.op 13 1 (.op 14 0 (.op 15 0 (.op 16 3 (.op 17 1 (.op 18 2 (.op 19 0 .nil))))))) (.op 17 1 (.op 13 1 (.op 14 0 (.op 15 0 (.op 16 3 (.op 18 2 (.op 19 0 .nil))))))))))))))))))))) else none }
@[simp] theorem wio67 : cf67.wio = fun f i => (f == 103 && (i == 0)) || (f == 999999 && (i == 0)) := rfl
@[simp] theorem live67 : cf67.live = fun r => if r = 3 then some [0, 3, 16, 17] else none := rfl
@[simp] theorem wr67 : cf67.wr = fun _ => [] := rfl
def cf68 : Cfg := { wio := fun f i => (f == 999999 && (i == 0)), live := fun r => if r = 3 then some [2, 3, 21, 22, 23] else none, dr := fun r => if r = 1 then some [(0, 0), (1, 0), (2, 0), (3, 0), (4, 0), (5, 0), (6, 0), (7, 0), (8, 0), (9, 0), (10, 0), (11, 1), (12, 2)] else if r = 5 then some [(0, 0), (1, 0), (2, 0), (3, 1), (4, 1), (5, 2), (6, 0), (7, 2)] else none }
@[simp] theorem wio68 : cf68.wio = fun f i => (f == 999999 && (i == 0)) := rfl
@[simp] theorem live68 : cf68.live = fun r => if r = 3 then some [2, 3, 21, 22, 23] else none := rfl
@[simp] theorem wr68 : cf68.wr = fun _ => [] := rfl
def cf69 : Cfg := { wio := fun f i => (f == 999999 && (i == 0)), live := fun r => if r = 9 then some [1, 3, 38, 39, 40] else if r = 14 then some [1, 3, 38, 39, 40, 49, 50, 51] else none, dr := fun r => none }
@[simp] theorem wio69 : cf69.wio = fun f i => (f == 999999 && (i == 0)) := rfl
@[simp] theorem live69 : cf69.live = fun r => if r = 9 then some [1, 3, 38, 39, 40] else if r = 14 then some [1, 3, 38, 39, 40, 49, 50, 51] else none := rfl
@[simp] theorem wr69 : cf69.wr = fun _ => [] := rfl
def cf70 : Cfg := { wio := fun f i => (f == 999999 && (i == 0)), live := fun r => if r = 5 then some [1, 2, 4, 5, 6, 7, 28, 29, 30] else if r = 10 then some [1, 2, 4, 5, 6, 7, 8, 10, 28, 29, 30, 47, 48, 49] else if r = 20 then some [2, 6, 13, 14, 15, 87, 88, 89] else none, dr := fun r => if r = 14 then some [(0, 0), (1, 0), (2, 0), (3, 0), (4, 0), (5, 0), (6, 0), (7, 1), (8, 2), (9, 0), (10, 2)] else none }
@[simp] theorem wio70 : cf70.wio = fun f i => (f == 999999 && (i == 0)) := rfl
@[simp] theorem live70 : cf70.live = fun r => if r = 5 then some [1, 2, 4, 5, 6, 7, 28, 29, 30] else if r = 10 then some [1, 2, 4, 5, 6, 7, 8, 10, 28, 29, 30, 47, 48, 49] else if r = 20 then some [2, 6, 13, 14, 15, 87, 88, 89] else none := rfl
@[simp] theorem wr70 : cf70.wr = fun _ => [] := rfl
def cf71 : Cfg := { wio := fun f i => (f == 999999 && (i == 0)), live := fun r => none, dr := fun r => none }
@[simp] theorem wio71 : cf71.wio = fun f i => (f == 999999 && (i == 0)) := rfl
@[simp] theorem live71 : cf71.live = fun r => none := rfl
@[simp] theorem wr71 : cf71.wr = fun _ => [] := rfl
def cf72 : Cfg := { wio := fun f i => (f == 999999 && (i == 0)), live := fun r => none, dr := fun r => none }
@[simp] theorem wio72 : cf72.wio = fun f i => (f == 999999 && (i == 0)) := rfl
@[simp] theorem live72 : cf72.live = fun r => none := rfl
@[simp] theorem wr72 : cf72.wr = fun _ => [] := rfl
def cf73 : Cfg := { wio := fun f i => (f == 999999 && (i == 0)), live := fun r => none, dr := fun r => if r = 0 then some [(0, 0), (1, 0), (2, 0), (3, 0), (4, 0), (5, 0), (6, 0), (7, 0), (8, 0), (9, 0), (10, 2)] else none }
@[simp] theorem wio73 : cf73.wio = fun f i => (f == 999999 && (i == 0)) := rfl
@[simp] theorem live73 : cf73.live = fun r => none := rfl
@[simp] theorem wr73 : cf73.wr = fun _ => [] := rfl
def cf75 : Cfg := { wio := fun f i => (f == 999999 && (i == 0)), live := fun r => none, dr := fun r => none }
@[simp] theorem wio75 : cf75.wio = fun f i => (f == 999999 && (i == 0)) := rfl
@[simp] theorem live75 : cf75.live = fun r => none := rfl
@[simp] theorem wr75 : cf75.wr = fun _ => [] := rfl
def cf77 : Cfg := { wio := fun f i => (f == 999999 && (i == 0)), live := fun r => none, dr := fun r => if r = 2 then some [(0, 0), (1, 0), (2, 0), (3, 0), (4, 0), (6, 0), (5, 1), (7, 2)] else none }
@[simp] theorem wio77 : cf77.wio = fun f i => (f == 999999 && (i == 0)) := rfl
@[simp] theorem live77 : cf77.live = fun r => none := rfl
@[simp] theorem wr77 : cf77.wr = fun _ => [] := rfl
def cf78 : Cfg := { wio := fun f i => (f == 999999 && (i == 0)), live := fun r => if r = 5 then some [3, 14, 15] else none, dr := fun r => none }
@[simp] theorem wio78 : cf78.wio = fun f i => (f == 999999 && (i == 0)) := rfl
@[simp] theorem live78 : cf78.live = fun r => if r = 5 then some [3, 14, 15] else none := rfl
@[simp] theorem wr78 : cf78.wr = fun _ => [] := rfl
def cf79 : Cfg := { wio := fun f i => (f == 999999 && (i == 0)), live := fun r => if r = 5 then some [1, 5, 26, 27, 28] else none, dr := fun r => none }
@[simp] theorem wio79 : cf79.wio = fun f i => (f == 999999 && (i == 0)) := rfl
@[simp] theorem live79 : cf79.live = fun r => if r = 5 then some [1, 5, 26, 27, 28] else none := rfl
@[simp] theorem wr79 : cf79.wr = fun _ => [] := rfl
def cf80 : Cfg := { wio := fun f i => (f == 999999 && (i == 0)), live := fun r => none, dr := fun r => none }
@[simp] theorem wio80 : cf80.wio = fun f i => (f == 999999 && (i == 0)) := rfl
@[simp] theorem live80 : cf80.live = fun r => none := rfl
@[simp] theorem wr80 : cf80.wr = fun _ => [] := rfl
def cf81 : Cfg := { wio := fun f i => (f == 80 && (i == 0)) || (f == 999999 && (i == 0)) || (f == 777777 && (i == 77)), live := fun r => none, dr := fun r => none }
@[simp] theorem wio81 : cf81.wio = fun f i => (f == 80 && (i == 0)) || (f == 999999 && (i == 0)) || (f == 777777 && (i == 77)) := rfl
@[simp] theorem live81 : cf81.live = fun r => none := rfl
@[simp] theorem wr81 : cf81.wr = fun _ => [] := rfl
def cf82 : Cfg := { wio := fun f i => (f == 999999 && (i == 0)), live := fun r => none, dr := fun r => none }
@[simp] theorem wio82 : cf82.wio = fun f i => (f == 999999 && (i == 0)) := rfl
@[simp] theorem live82 : cf82.live = fun r => none := rfl
@[simp] theorem wr82 : cf82.wr = fun _ => [] := rfl
def cf88 : Cfg := { wio := fun f i => (f == 999999 && (i == 0)), live := fun r => none, dr := fun r => if r = 1 then some [(0, 0), (1, 0), (2, 0), (3, 0), (4, 0), (5, 0), (6, 0), (7, 0), (8, 0), (9, 0), (10, 0), (11, 0), (12, 0), (13, 0), (14, 0), (15, 0), (16, 0), (17, 0), (18, 0), (19, 0), (20, 0), (21, 0), (22, 0), (23, 0), (24, 0), (25, 0), (26, 1), (27, 0), (28, 0), (29, 0), (30, 0), (31, 0), (32, 0), (33, 0), (34, 0), (35, 0), (36, 1), (37, 0), (38, 0), (39, 0), (40, 0), (41, 0), (42, 0), (43, 0), (44, 0), (45, 0), (46, 1), (47, 0), (48, 0), (49, 0), (50, 0), (51, 0), (52, 0), (53, 0), (54, 0), (55, 0), (56, 1), (57, 0), (58, 0), (59, 0), (60, 0), (61, 0), (62, 0), (63, 0), (64, 0), (65, 0), (66, 1), (67, 0), (68, 0)] else none }
@[simp] theorem wio88 : cf88.wio = fun f i => (f == 999999 && (i == 0)) := rfl
@[simp] theorem live88 : cf88.live = fun r => none := rfl
@[simp] theorem wr88 : cf88.wr = fun _ => [] := rfl
def cf91 : Cfg := { wio := fun f i => (f == 999999 && (i == 0)), live := fun r => none, dr := fun r => none }
@[simp] theorem wio91 : cf91.wio = fun f i => (f == 999999 && (i == 0)) := rfl
@[simp] theorem live91 : cf91.live = fun r => none := rfl
@[simp] theorem wr91 : cf91.wr = fun _ => [] := rfl
def cf100 : Cfg := { wio := fun f i => (f == 999999 && (i == 0)), live := fun r => none, dr := fun r => none }
@[simp] theorem wio100 : cf100.wio = fun f i => (f == 999999 && (i == 0)) := rfl
@[simp] theorem live100 : cf100.live = fun r => none := rfl
@[simp] theorem wr100 : cf100.wr = fun _ => [] := rfl
def cf101 : Cfg := { wio := fun f i => (f == 136 && (i == 2)) || (f == 999999 && (i == 0)), live := fun r => none, dr := fun r => none }
@[simp] theorem wio101 : cf101.wio = fun f i => (f == 136 && (i == 2)) || (f == 999999 && (i == 0)) := rfl
@[simp] theorem live101 : cf101.live = fun r => none := rfl
@[simp] theorem wr101 : cf101.wr = fun _ => [] := rfl
def cf102 : Cfg := { wio := fun f i => (f == 999999 && (i == 0)), live := fun r => if r = 20 then some [1, 53, 54, 55] else none, dr := fun r => none }
@[simp] theorem wio102 : cf102.wio = fun f i => (f == 999999 && (i == 0)) := rfl
@[simp] theorem live102 : cf102.live = fun r => if r = 20 then some [1, 53, 54, 55] else none := rfl
@[simp] theorem wr102 : cf102.wr = fun _ => [] := rfl
def cf103 : Cfg := { wio := fun f i => (f == 999999 && (i == 0)), live := fun r => none, dr := fun r => if r = 2 then some [(0, 0), (1, 0), (2, 0), (3, 0), (4, 0), (6, 0), (5, 1), (7, 2)] else none, dt := fun r => if r = 3 then some (.op 0 0 (.op 1 0 (.op 2 0 (.op 3 0 (.op 4 0 (.op 5 0 (.op 6 0 (.op 7 1 (.op 8 2 (.op 9 3 (.op 11 3 (.op 12 3 (.op 13 3 (.alt (.op 10 2 (.op 14 2 .nil)) (.op 14 2 (.op 10 2 .nil)))))))))))))))) else none }
@[simp] theorem wio103 : cf103.wio = fun f i => (f == 999999 && (i == 0)) := rfl
@[simp] theorem live103 : cf103.live = fun r => none := rfl
@[simp] theorem wr103 : cf103.wr = fun _ => [] := rfl
def cf104 : Cfg := { wio := fun f i => (f == 999999 && (i == 0)), live := fun r => if r = 5 then some [1, 2, 3, 20, 21, 22] else none, dr := fun r => none }
@[simp] theorem wio104 : cf104.wio = fun f i => (f == 999999 && (i == 0)) := rfl
@[simp] theorem live104 : cf104.live = fun r => if r = 5 then some [1, 2, 3, 20, 21, 22] else none := rfl
@[simp] theorem wr104 : cf104.wr = fun _ => [] := rfl
def cf105 : Cfg := { wio := fun f i => (f == 999999 && (i == 0)), live := fun r => none, dr := fun r => none }
@[simp] theorem wio105 : cf105.wio = fun f i => (f == 999999 && (i == 0)) := rfl
@[simp] theorem live105 : cf105.live = fun r => none := rfl
@[simp] theorem wr105 : cf105.wr = fun _ => [] := rfl
def cf107 : Cfg := { wio := fun f i => (f == 999999 && (i == 0)), live := fun r => if r = 10 then some [19, 20, 21] else none, dr := fun r => none }
@[simp] theorem wio107 : cf107.wio = fun f i => (f == 999999 && (i == 0)) := rfl
@[simp] theorem live107 : cf107.live = fun r => if r = 10 then some [19, 20, 21] else none := rfl
@[simp] theorem wr107 : cf107.wr = fun _ => [] := rfl
def cf108 : Cfg := { wio := fun f i => (f == 999999 && (i == 0)), live := fun r => if r = 6 then some [2, 4, 5, 7, 31, 32] else if r = 11 then some [2, 4, 7, 39, 40, 41] else none, dr := fun r => none }
@[simp] theorem wio108 : cf108.wio = fun f i => (f == 999999 && (i == 0)) := rfl
@[simp] theorem live108 : cf108.live = fun r => if r = 6 then some [2, 4, 5, 7, 31, 32] else if r = 11 then some [2, 4, 7, 39, 40, 41] else none := rfl
@[simp] theorem wr108 : cf108.wr = fun _ => [] := rfl
def cf109 : Cfg := { wio := fun f i => (f == 999999 && (i == 0)), live := fun r => if r = 5 then some [1, 3, 4, 24, 25, 26] else if r = 10 then some [1, 3, 4] else if r = 13 then some [1, 3, 4, 7, 8, 46, 47, 48] else if r = 17 then some [1, 3, 4, 7, 8, 9, 11, 46, 47, 48, 58, 59, 60] else none, dr := fun r => none }
@[simp] theorem wio109 : cf109.wio = fun f i => (f == 999999 && (i == 0)) := rfl
@[simp] theorem live109 : cf109.live = fun r => if r = 5 then some [1, 3, 4, 24, 25, 26] else if r = 10 then some [1, 3, 4] else if r = 13 then some [1, 3, 4, 7, 8, 46, 47, 48] else if r = 17 then some [1, 3, 4, 7, 8, 9, 11, 46, 47, 48, 58, 59, 60] else none := rfl
@[simp] theorem wr109 : cf109.wr = fun _ => [] := rfl
def cf116 : Cfg := { wio := fun f i => (f == 999999 && (i == 0)), live := fun r => none, dr := fun r => none }
@[simp] theorem wio116 : cf116.wio = fun f i => (f == 999999 && (i == 0)) := rfl
@[simp] theorem live116 : cf116.live = fun r => none := rfl
@[simp] theorem wr116 : cf116.wr = fun _ => [] := rfl
def cf120 : Cfg := { wio := fun f i => (f == 999999 && (i == 0)), live := fun r => if r = 4 then some [1, 2, 15, 16, 17] else none, dr := fun r => none }
@[simp] theorem wio120 : cf120.wio = fun f i => (f == 999999 && (i == 0)) := rfl
@[simp] theorem live120 : cf120.live = fun r => if r = 4 then some [1, 2, 15, 16, 17] else none := rfl
@[simp] theorem wr120 : cf120.wr = fun _ => [] := rfl
def cf121 : Cfg := { wio := fun f i => (f == 999999 && (i == 0)), live := fun r => if r = 4 then some [0, 1, 12, 13] else none, dr := fun r => if r = 6 then some [(0, 0), (1, 0), (2, 0), (3, 0), (4, 0), (5, 0), (6, 0), (7, 0), (8, 0)] else none }
@[simp] theorem wio121 : cf121.wio = fun f i => (f == 999999 && (i == 0)) := rfl
@[simp] theorem live121 : cf121.live = fun r => if r = 4 then some [0, 1, 12, 13] else none := rfl
@[simp] theorem wr121 : cf121.wr = fun _ => [] := rfl
def cf134 : Cfg := { wio := fun f i => (f == 999999 && (i == 0)), live := fun r => none, dr := fun r => none }
@[simp] theorem wio134 : cf134.wio = fun f i => (f == 999999 && (i == 0)) := rfl
@[simp] theorem live134 : cf134.live = fun r => none := rfl
@[simp] theorem wr134 : cf134.wr = fun _ => [] := rfl
def cf135 : Cfg := { wio := fun f i => (f == 999999 && (i == 0)), live := fun r => none, dr := fun r => none }
@[simp] theorem wio135 : cf135.wio = fun f i => (f == 999999 && (i == 0)) := rfl
@[simp] theorem live135 : cf135.live = fun r => none := rfl
@[simp] theorem wr135 : cf135.wr = fun _ => [] := rfl
def cf136 : Cfg := { wio := fun f i => (f == 136 && (i == 2)) || (f == 999999 && (i == 0)), live := fun r => if r = 5 then some [1, 2, 23, 24, 25] else none, dr := fun r => none }
@[simp] theorem wio136 : cf136.wio = fun f i => (f == 136 && (i == 2)) || (f == 999999 && (i == 0)) := rfl
@[simp] theorem live136 : cf136.live = fun r => if r = 5 then some [1, 2, 23, 24, 25] else none := rfl
@[simp] theorem wr136 : cf136.wr = fun _ => [] := rfl
def cf137 : Cfg := { wio := fun f i => (f == 999999 && (i == 0)), live := fun r => none, dr := fun r => none }
@[simp] theorem wio137 : cf137.wio = fun f i => (f == 999999 && (i == 0)) := rfl
@[simp] theorem live137 : cf137.live = fun r => none := rfl
@[simp] theorem wr137 : cf137.wr = fun _ => [] := rfl
def cf138 : Cfg := { wio := fun f i => (f == 999999 && (i == 0)), live := fun r => none, dr := fun r => none }
@[simp] theorem wio138 : cf138.wio = fun f i => (f == 999999 && (i == 0)) := rfl
@[simp] theorem live138 : cf138.live = fun r => none := rfl
@[simp] theorem wr138 : cf138.wr = fun _ => [] := rfl
def cf139 : Cfg := { wio := fun f i => (f == 999999 && (i == 0)), live := fun r => none, dr := fun r => if r = 16 then some [(0, 0), (1, 0), (2, 0), (5, 0), (3, 1), (4, 1), (6, 0), (7, 2)] else none, fz := fun r => if r = 19 then some [5] else none, dt := fun r => if r = 14 then some (.op 0 0 (.op 1 0 (.op 2 0 (.op 3 0 (.op 4 0 (.alt (.op 5 1 (.op 6 1 (.op 7 2 .nil))) (.op 6 1 (.op 5 1 (.op 7 2 .nil))))))))) else none }
@[simp] theorem wio139 : cf139.wio = fun f i => (f == 999999 && (i == 0)) := rfl
@[simp] theorem live139 : cf139.live = fun r => none := rfl
@[simp] theorem wr139 : cf139.wr = fun _ => [] := rfl
def cf142 : Cfg := { wio := fun f i => (f == 999999 && (i == 0)), live := fun r => none, dr := fun r => none }
@[simp] theorem wio142 : cf142.wio = fun f i => (f == 999999 && (i == 0)) := rfl
@[simp] theorem live142 : cf142.live = fun r => none := rfl
@[simp] theorem wr142 : cf142.wr = fun _ => [] := rfl
def cf143 : Cfg := { wio := fun f i => (f == 176 && (i == 0)) || (f == 999999 && (i == 0)), live := fun r => if r = 5 then some [0, 2, 3, 8, 11, 12, 13] else if r = 10 then some [0, 2, 3, 8, 11, 12, 13, 14, 15, 36, 37] else none, dr := fun r => if r = 17 then some [(0, 0), (1, 0), (2, 0), (3, 0), (4, 1), (5, 1), (6, 2), (7, 0), (8, 2)] else none, dt := fun r => if r = 18 then some (.op 1 3 (.alt (.op 0 2 (.alt (.op 2 2 (.op 3 2 (.op 4 0 (.op 5 0 .nil)))) (.op 3 2 (.op 2 2 (.op 4 0 (.op 5 0 .nil)))))) (.op 2 2 (.op 0 2 (.op 3 2 (.op 4 0 (.op 5 0 .nil))))))) else none }
@[simp] theorem wio143 : cf143.wio = fun f i => (f == 176 && (i == 0)) || (f == 999999 && (i == 0)) := rfl
@[simp] theorem live143 : cf143.live = fun r => if r = 5 then some [0, 2, 3, 8, 11, 12, 13] else if r = 10 then some [0, 2, 3, 8, 11, 12, 13, 14, 15, 36, 37] else none := rfl
@[simp] theorem wr143 : cf143.wr = fun _ => [] := rfl
def cf144 : Cfg := { wio := fun f i => (f == 999999 && (i == 0)), live := fun r => none, dr := fun r => none }
@[simp] theorem wio144 : cf144.wio = fun f i => (f == 999999 && (i == 0)) := rfl
@[simp] theorem live144 : cf144.live = fun r => none := rfl
@[simp] theorem wr144 : cf144.wr = fun _ => [] := rfl
def cf145 : Cfg := { wio := fun f i => (f == 999999 && (i == 0)), live := fun r => none, dr := fun r => none }
@[simp] theorem wio145 : cf145.wio = fun f i => (f == 999999 && (i == 0)) := rfl
@[simp] theorem live145 : cf145.live = fun r => none := rfl
@[simp] theorem wr145 : cf145.wr = fun _ => [] := rfl
def cf148 : Cfg := { wio := fun f i => (f == 999999 && (i == 0)), live := fun r => none, dr := fun r => none }
@[simp] theorem wio148 : cf148.wio = fun f i => (f == 999999 && (i == 0)) := rfl
@[simp] theorem live148 : cf148.live = fun r => none := rfl
@[simp] theorem wr148 : cf148.wr = fun _ => [] := rfl
def cf167 : Cfg := { wio := fun f i => (f == 182 && (i == 0)) || (f == 999999 && (i == 0)), live := fun r => none, dr := fun r => none }
@[simp] theorem wio167 : cf167.wio = fun f i => (f == 182 && (i == 0)) || (f == 999999 && (i == 0)) := rfl
@[simp] theorem live167 : cf167.live = fun r => none := rfl
@[simp] theorem wr167 : cf167.wr = fun _ => [] := rfl
def cf168 : Cfg := { wio := fun f i => (f == 182 && (i == 0)) || (f == 999999 && (i == 0)), live := fun r => none, dr := fun r => none }
@[simp] theorem wio168 : cf168.wio = fun f i => (f == 182 && (i == 0)) || (f == 999999 && (i == 0)) := rfl
@[simp] theorem live168 : cf168.live = fun r => none := rfl
@[simp] theorem wr168 : cf168.wr = fun _ => [] := rfl
def cf169 : Cfg := { wio := fun f i => (f == 182 && (i == 0)) || (f == 999999 && (i == 0)), live := fun r => none, dr := fun r => none }
@[simp] theorem wio169 : cf169.wio = fun f i => (f == 182 && (i == 0)) || (f == 999999 && (i == 0)) := rfl
@[simp] theorem live169 : cf169.live = fun r => none := rfl
@[simp] theorem wr169 : cf169.wr = fun _ => [] := rfl
def cf170 : Cfg := { wio := fun f i => (f == 999999 && (i == 0)), live := fun r => none, dr := fun r => none }
@[simp] theorem wio170 : cf170.wio = fun f i => (f == 999999 && (i == 0)) := rfl
@[simp] theorem live170 : cf170.live = fun r => none := rfl
@[simp] theorem wr170 : cf170.wr = fun _ => [] := rfl
def cf171 : Cfg := { wio := fun f i => (f == 999999 && (i == 0)), live := fun r => if r = 4 then some [2, 3, 4, 5, 6, 7, 21, 22, 23] else none, dr := fun r => if r = 7 then some [(0, 0), (1, 0), (2, 3), (3, 3), (4, 0), (5, 0), (6, 3), (7, 3), (8, 0), (9, 2), (10, 0), (11, 2)] else none, dt := fun r => if r = 1 then some (.op 0 0 (.op 1 0 (.op 2 0 (.op 4 0 (.op 5 0 (.op 6 0 (.alt (.op 3 1 (.op 8 0 (.op 7 1 (.op 9 0 .nil)))) (.op 7 1 (.op 3 1 (.op 8 0 (.op 9 0 .nil))))))))))) else if r = 11 then some (.op 0 0 (.op 1 0 (.op 2 0 (.op 4 0 (.op 5 0 (.op 6 0 (.alt (.op 3 1 (.alt (.op 7 1 (.op 8 0 (.op 9 1 (.op 10 2 .nil)))) (.op 9 1 (.op 7 1 (.op 8 0 (.op 10 2 .nil)))))) (.op 9 1 (.op 3 1 (.op 7 1 (.op 8 0 (.op 10 2 .nil)))))))))))) else none }
@[simp] theorem wio171 : cf171.wio = fun f i => (f == 999999 && (i == 0)) := rfl
@[simp] theorem live171 : cf171.live = fun r => if r = 4 then some [2, 3, 4, 5, 6, 7, 21, 22, 23] else none := rfl
@[simp] theorem wr171 : cf171.wr = fun _ => [] := rfl
def z6L : SchT := .nil
def z4I : SchT := .op 14 0 z6L
def z6M : SchT := .op 10 1 z4I
def z4J : SchT := .op 13 2 z4I
def z6N : SchT := .alt (.op 10 1 z4J) (.op 13 2 z6M)
def z4K : SchT := .op 12 0 z4J
def z4L : SchT := .op 8 1 z4K
def z4M : SchT := .op 12 0 z6N
def z6O : SchT := .op 11 0 z4K
def z3y : SchT := .op 6 2 z6O
def z6P : SchT := .alt (.op 8 1 z4M) (.op 10 1 z4L)
def z6Q : SchT := .op 11 0 z4L
def z6R : SchT := .op 11 0 z4M
def z4N : SchT := .op 5 1 z3y
def z4O : SchT := .alt (.op 6 2 z6Q) (.op 8 1 z3y)
def z4P : SchT := .alt (.op 6 2 z6R) (.op 10 1 z3y)
def z6S : SchT := .op 11 0 z6P
def z6T : SchT := .alt (.op 5 1 z4O) (.op 8 1 z4N)
def z7M : SchT := .alt (.op 5 1 z4P) (.op 10 1 z4N)
def z7N : SchT := .alt (.op 6 2 z6S) (.alt (.op 8 1 z4P) (.op 10 1 z4O))
def z7O : SchT := .alt (.op 5 1 z7N) (.alt (.op 8 1 z7M) (.op 10 1 z6T))
def z7P : SchT := .op 9 3 z7O
def z7Q : SchT := .op 7 3 z7P
def z7R : SchT := .op 4 0 z7Q
def z7S : SchT := .op 3 0 z7R
def z7T : SchT := .op 2 0 z7S
def z7U : SchT := .op 1 3 z7T
def z7V : SchT := .op 0 3 z7U
def cf172 : Cfg := { wio := fun f i => (f == 999999 && (i == 0)), live := fun r => if r = 5 then some [2, 4, 5, 6, 7, 20, 21, 22] else if r = 14 then some [4, 6, 7, 11, 54, 55, 56] else none, dr := fun r => if r = 18 then some [(0, 0), (2, 0), (3, 0), (4, 0), (5, 0), (1, 1), (6, 2), (7, 0)] else none, fz := fun r => if r = 13 then some [6] else none, dt := fun r => if r = 10 then some (z7V) else none }
@[simp] theorem wio172 : cf172.wio = fun f i => (f == 999999 && (i == 0)) := rfl
@[simp] theorem live172 : cf172.live = fun r => if r = 5 then some [2, 4, 5, 6, 7, 20, 21, 22] else if r = 14 then some [4, 6, 7, 11, 54, 55, 56] else none := rfl
@[simp] theorem wr172 : cf172.wr = fun _ => [] := rfl
def cf175 : Cfg := { wio := fun f i => (f == 999999 && (i == 0)), live := fun r => if r = 2 then some [0, 1, 7, 8] else none, dr := fun r => none }
@[simp] theorem wio175 : cf175.wio = fun f i => (f == 999999 && (i == 0)) := rfl
@[simp] theorem live175 : cf175.live = fun r => if r = 2 then some [0, 1, 7, 8] else none := rfl
@[simp] theorem wr175 : cf175.wr = fun _ => [] := rfl
def cf176 : Cfg := { wio := fun f i => (f == 999999 && (i == 0)), live := fun r => none, dr := fun r => none }
@[simp] theorem wio176 : cf176.wio = fun f i => (f == 999999 && (i == 0)) := rfl
@[simp] theorem live176 : cf176.live = fun r => none := rfl
@[simp] theorem wr176 : cf176.wr = fun _ => [] := rfl
def cf177 : Cfg := { wio := fun f i => (f == 999999 && (i == 0)), live := fun r => none, dr := fun r => none }
@[simp] theorem wio177 : cf177.wio = fun f i => (f == 999999 && (i == 0)) := rfl
@[simp] theorem live177 : cf177.live = fun r => none := rfl
@[simp] theorem wr177 : cf177.wr = fun _ => [] := rfl
def cf181 : Cfg := { wio := fun f i => (f == 999999 && (i == 0)), live := fun r => none, dr := fun r => none }
@[simp] theorem wio181 : cf181.wio = fun f i => (f == 999999 && (i == 0)) := rfl
@[simp] theorem live181 : cf181.live = fun r => none := rfl
@[simp] theorem wr181 : cf181.wr = fun _ => [] := rfl
def cf183 : Cfg := { wio := fun f i => (f == 999999 && (i == 0)), live := fun r => if r = 3 then some [0, 5, 8, 9, 10] else none, dr := fun r => none }
@[simp] theorem wio183 : cf183.wio = fun f i => (f == 999999 && (i == 0)) := rfl
@[simp] theorem live183 : cf183.live = fun r => if r = 3 then some [0, 5, 8, 9, 10] else none := rfl
@[simp] theorem wr183 : cf183.wr = fun _ => [] := rfl
def cf184 : Cfg := { wio := fun f i => (f == 999999 && (i == 0)), live := fun r => none, dr := fun r => none }
@[simp] theorem wio184 : cf184.wio = fun f i => (f == 999999 && (i == 0)) := rfl
@[simp] theorem live184 : cf184.live = fun r => none := rfl
@[simp] theorem wr184 : cf184.wr = fun _ => [] := rfl
def cf185 : Cfg := { wio := fun f i => (f == 192 && (i == 0)) || (f == 999999 && (i == 0)), live := fun r => none, dr := fun r => none }
@[simp] theorem wio185 : cf185.wio = fun f i => (f == 192 && (i == 0)) || (f == 999999 && (i == 0)) := rfl
@[simp] theorem live185 : cf185.live = fun r => none := rfl
@[simp] theorem wr185 : cf185.wr = fun _ => [] := rfl
def cf186 : Cfg := { wio := fun f i => (f == 999999 && (i == 0)), live := fun r => none, dr := fun r => none }
@[simp] theorem wio186 : cf186.wio = fun f i => (f == 999999 && (i == 0)) := rfl
@[simp] theorem live186 : cf186.live = fun r => none := rfl
@[simp] theorem wr186 : cf186.wr = fun _ => [] := rfl
def cf187 : Cfg := { wio := fun f i => (f == 999999 && (i == 0)), live := fun r => none, dr := fun r => none }
@[simp] theorem wio187 : cf187.wio = fun f i => (f == 999999 && (i == 0)) := rfl
@[simp] theorem live187 : cf187.live = fun r => none := rfl
@[simp] theorem wr187 : cf187.wr = fun _ => [] := rfl
def cf188 : Cfg := { wio := fun f i => (f == 999999 && (i == 0)), live := fun r => none, dr := fun r => none }
@[simp] theorem wio188 : cf188.wio = fun f i => (f == 999999 && (i == 0)) := rfl
@[simp] theorem live188 : cf188.live = fun r => none := rfl
@[simp] theorem wr188 : cf188.wr = fun _ => [] := rfl
def cf192 : Cfg := { wio := fun f i => (f == 197 && (i == 0)) || (f == 999999 && (i == 0)), live := fun r => none, dr := fun r => none }
@[simp] theorem wio192 : cf192.wio = fun f i => (f == 197 && (i == 0)) || (f == 999999 && (i == 0)) := rfl
@[simp] theorem live192 : cf192.live = fun r => none := rfl
@[simp] theorem wr192 : cf192.wr = fun _ => [] := rfl
def cf193 : Cfg := { wio := fun f i => (f == 999999 && (i == 0)), live := fun r => none, dr := fun r => none }
@[simp] theorem wio193 : cf193.wio = fun f i => (f == 999999 && (i == 0)) := rfl
@[simp] theorem live193 : cf193.live = fun r => none := rfl
@[simp] theorem wr193 : cf193.wr = fun _ => [] := rfl
def cf194 : Cfg := { wio := fun f i => (f == 999999 && (i == 0)), live := fun r => if r = 4 then some [0, 1, 5] else if r = 9 then some [0, 1, 5, 6, 7] else none, dr := fun r => if r = 6 then some [(0, 0), (1, 0), (2, 0), (3, 0), (4, 0), (5, 0), (6, 0), (7, 0), (8, 0), (9, 0), (10, 1)] else if r = 11 then some [(0, 0), (1, 0), (2, 0), (3, 0), (4, 0), (5, 0), (6, 0), (7, 0), (8, 0), (9, 0), (10, 1), (11, 0)] else none }
@[simp] theorem wio194 : cf194.wio = fun f i => (f == 999999 && (i == 0)) := rfl
@[simp] theorem live194 : cf194.live = fun r => if r = 4 then some [0, 1, 5] else if r = 9 then some [0, 1, 5, 6, 7] else none := rfl
@[simp] theorem wr194 : cf194.wr = fun _ => [] := rfl
def cf195 : Cfg := { wio := fun f i => (f == 999999 && (i == 0)), live := fun r => none, dr := fun r => none }
@[simp] theorem wio195 : cf195.wio = fun f i => (f == 999999 && (i == 0)) := rfl
@[simp] theorem live195 : cf195.live = fun r => none := rfl
@[simp] theorem wr195 : cf195.wr = fun _ => [] := rfl
def cf197 : Cfg := { wio := fun f i => (f == 199 && (i == 0)) || (f == 999999 && (i == 0)), live := fun r => if r = 2 then some [0, 1, 2, 3, 4, 10, 11] else none, dr := fun r => if r = 17 then some [(0, 0), (1, 0), (2, 0), (3, 0), (4, 0), (5, 0), (6, 0), (7, 0), (8, 0), (9, 0), (10, 0), (11, 0), (12, 0), (13, 1), (14, 0), (15, 0), (16, 0)] else none }
@[simp] theorem wio197 : cf197.wio = fun f i => (f == 199 && (i == 0)) || (f == 999999 && (i == 0)) := rfl
@[simp] theorem live197 : cf197.live = fun r => if r = 2 then some [0, 1, 2, 3, 4, 10, 11] else none := rfl
@[simp] theorem wr197 : cf197.wr = fun _ => [] := rfl
def cf198 : Cfg := { wio := fun f i => (f == 999999 && (i == 0)), live := fun r => if r = 2 then some [0, 1, 2, 11, 12, 13] else none, dr := fun r => none }
@[simp] theorem wio198 : cf198.wio = fun f i => (f == 999999 && (i == 0)) := rfl
@[simp] theorem live198 : cf198.live = fun r => if r = 2 then some [0, 1, 2, 11, 12, 13] else none := rfl
@[simp] theorem wr198 : cf198.wr = fun _ => [] := rfl
def cf199 : Cfg := { wio := fun f i => (f == 999999 && (i == 0)), live := fun r => if r = 1 then some [0, 1, 2, 3, 8] else if r = 4 then some [0, 1, 2, 3, 8, 9] else none, dr := fun r => if r = 4 then some [(0, 0), (1, 0), (2, 0), (3, 0), (4, 0), (5, 0), (6, 0), (7, 0), (8, 0), (9, 0), (10, 0), (11, 0), (12, 0), (13, 0), (14, 1), (15, 0), (16, 0)] else if r = 6 then some [(0, 0), (1, 0), (2, 3), (3, 3), (4, 3), (5, 0), (6, 0), (7, 0), (8, 0), (9, 0), (10, 0), (11, 0), (12, 0), (13, 0), (14, 0), (15, 2), (16, 0), (17, 2)] else none }
@[simp] theorem wio199 : cf199.wio = fun f i => (f == 999999 && (i == 0)) := rfl
@[simp] theorem live199 : cf199.live = fun r => if r = 1 then some [0, 1, 2, 3, 8] else if r = 4 then some [0, 1, 2, 3, 8, 9] else none := rfl
@[simp] theorem wr199 : cf199.wr = fun _ => [] := rfl
def z1g (f : FuncId) : Option Cfg :=
  if f = 6 then some cf6 else
  if f = 7 then some cf7 else
  if f = 9 then some cf9 else
  if f = 10 then some cf10 else
  if f = 20 then some cf20 else
  if f = 23 then some cf23 else
  if f = 24 then some cf24 else
  if f = 25 then some cf25 else
  if f = 26 then some cf26 else
  if f = 28 then some cf28 else
  if f = 30 then some cf30 else
  if f = 31 then some cf31 else
  if f = 32 then some cf32 else
  if f = 33 then some cf33 else
  if f = 34 then some cf34 else
  if f = 35 then some cf35 else
  if f = 36 then some cf36 else
  if f = 37 then some cf37 else
  if f = 38 then some cf38 else
  if f = 42 then some cf42 else
  if f = 43 then some cf43 else
  if f = 49 then some cf49 else
  if f = 50 then some cf50 else
  if f = 52 then some cf52 else
  if f = 56 then some cf56 else
  if f = 57 then some cf57 else
  if f = 58 then some cf58 else
  if f = 62 then some cf62 else
  if f = 63 then some cf63 else
  if f = 64 then some cf64 else
  if f = 65 then some cf65 else
  if f = 66 then some cf66 else
  if f = 67 then some cf67 else
  if f = 68 then some cf68 else
  if f = 69 then some cf69 else
  if f = 70 then some cf70 else
  if f = 71 then some cf71 else
  if f = 72 then some cf72 else
  if f = 73 then some cf73 else
  if f = 75 then some cf75 else
  if f = 77 then some cf77 else
  if f = 78 then some cf78 else
  if f = 79 then some cf79 else
  if f = 80 then some cf80 else
  if f = 81 then some cf81 else
  if f = 82 then some cf82 else
  if f = 88 then some cf88 else
  if f = 91 then some cf91 else
  if f = 100 then some cf100 else
  if f = 101 then some cf101 else
  if f = 102 then some cf102 else
  if f = 103 then some cf103 else
  if f = 104 then some cf104 else
  if f = 105 then some cf105 else
  if f = 107 then some cf107 else
  if f = 108 then some cf108 else
  if f = 109 then some cf109 else
  if f = 116 then some cf116 else
  if f = 120 then some cf120 else
  if f = 121 then some cf121 else
  if f = 134 then some cf134 else
  if f = 135 then some cf135 else
  if f = 136 then some cf136 else
  if f = 137 then some cf137 else
  if f = 138 then some cf138 else
  if f = 139 then some cf139 else
  if f = 142 then some cf142 else
  if f = 143 then some cf143 else
  if f = 144 then some cf144 else
  if f = 145 then some cf145 else
  if f = 148 then some cf148 else
  if f = 167 then some cf167 else
  if f = 168 then some cf168 else
  if f = 169 then some cf169 else
  if f = 170 then some cf170 else
  if f = 171 then some cf171 else
  if f = 172 then some cf172 else
  if f = 175 then some cf175 else
  if f = 176 then some cf176 else
  if f = 177 then some cf177 else
  if f = 181 then some cf181 else
  if f = 183 then some cf183 else
  if f = 184 then some cf184 else
  if f = 185 then some cf185 else
  if f = 186 then some cf186 else
  if f = 187 then some cf187 else
  if f = 188 then some cf188 else
  if f = 192 then some cf192 else
  if f = 193 then some cf193 else
  if f = 194 then some cf194 else
  if f = 195 then some cf195 else
  if f = 197 then some cf197 else
  if f = 198 then some cf198 else
  if f = 199 then some cf199 else none
theorem zou : z1g 6 = some cf6 := rfl
theorem zot : z1g 7 = some cf7 := rfl
theorem znb : z1g 10 = some cf10 := rfl
theorem zna : z1g 20 = some cf20 := rfl
theorem zn9 : z1g 23 = some cf23 := rfl
theorem zn8 : z1g 24 = some cf24 := rfl
theorem zn7 : z1g 25 = some cf25 := rfl
theorem zn6 : z1g 26 = some cf26 := rfl
theorem zn5 : z1g 28 = some cf28 := rfl
theorem zn4 : z1g 35 = some cf35 := rfl
theorem zn3 : z1g 36 = some cf36 := rfl
theorem zn2 : z1g 37 = some cf37 := rfl
theorem zn1 : z1g 42 = some cf42 := rfl
theorem zn0 : z1g 43 = some cf43 := rfl
theorem zmZ : z1g 49 = some cf49 := rfl
theorem zmY : z1g 50 = some cf50 := rfl
theorem zmX : z1g 52 = some cf52 := rfl
theorem zmW : z1g 56 = some cf56 := rfl
theorem zmV : z1g 57 = some cf57 := rfl
theorem zmU : z1g 58 = some cf58 := rfl
theorem zmT : z1g 62 = some cf62 := rfl
theorem zmS : z1g 77 = some cf77 := rfl
theorem zmR : z1g 78 = some cf78 := rfl
theorem zmQ : z1g 79 = some cf79 := rfl
theorem zmP : z1g 80 = some cf80 := rfl
theorem zmO : z1g 81 = some cf81 := rfl
theorem zmN : z1g 88 = some cf88 := rfl
theorem zmM : z1g 91 = some cf91 := rfl
theorem zkC : z1g 120 = some cf120 := rfl
theorem zkB : z1g 121 = some cf121 := rfl
theorem fn6 : Tryz.prog.funcs[6]? = some Tryz.f6 := by kernel_rfl
theorem fn7 : Tryz.prog.funcs[7]? = some Tryz.f7 := by kernel_rfl
theorem zoo : Tryz.prog.funcs[10]? = some Tryz.f10 := by kernel_rfl
theorem zon : Tryz.prog.funcs[20]? = some Tryz.f20 := by kernel_rfl
theorem zom : Tryz.prog.funcs[23]? = some Tryz.f23 := by kernel_rfl
theorem zol : Tryz.prog.funcs[24]? = some Tryz.f24 := by kernel_rfl
theorem zok : Tryz.prog.funcs[25]? = some Tryz.f25 := by kernel_rfl
theorem zoj : Tryz.prog.funcs[26]? = some Tryz.f26 := by kernel_rfl
theorem zoi : Tryz.prog.funcs[28]? = some Tryz.f28 := by kernel_rfl
theorem zoh : Tryz.prog.funcs[35]? = some Tryz.f35 := by kernel_rfl
theorem zog : Tryz.prog.funcs[36]? = some Tryz.f36 := by kernel_rfl
theorem zof : Tryz.prog.funcs[37]? = some Tryz.f37 := by kernel_rfl
theorem zoe : Tryz.prog.funcs[42]? = some Tryz.f42 := by kernel_rfl
theorem zod : Tryz.prog.funcs[43]? = some Tryz.f43 := by kernel_rfl
theorem zoc : Tryz.prog.funcs[49]? = some Tryz.f49 := by kernel_rfl
theorem zob : Tryz.prog.funcs[50]? = some Tryz.f50 := by kernel_rfl
theorem zoa : Tryz.prog.funcs[52]? = some Tryz.f52 := by kernel_rfl
theorem zo9 : Tryz.prog.funcs[56]? = some Tryz.f56 := by kernel_rfl
theorem zo8 : Tryz.prog.funcs[57]? = some Tryz.f57 := by kernel_rfl
theorem zo7 : Tryz.prog.funcs[58]? = some Tryz.f58 := by kernel_rfl
theorem zo6 : Tryz.prog.funcs[62]? = some Tryz.f62 := by kernel_rfl
theorem zo5 : Tryz.prog.funcs[77]? = some Tryz.f77 := by kernel_rfl
theorem zo4 : Tryz.prog.funcs[78]? = some Tryz.f78 := by kernel_rfl
theorem zo3 : Tryz.prog.funcs[79]? = some Tryz.f79 := by kernel_rfl
theorem zo2 : Tryz.prog.funcs[80]? = some Tryz.f80 := by kernel_rfl
theorem zo1 : Tryz.prog.funcs[81]? = some Tryz.f81 := by kernel_rfl
theorem zo0 : Tryz.prog.funcs[88]? = some Tryz.f88 := by kernel_rfl
theorem znZ : Tryz.prog.funcs[91]? = some Tryz.f91 := by kernel_rfl
theorem zlW : Tryz.prog.funcs[120]? = some Tryz.f120 := by kernel_rfl
theorem zlV : Tryz.prog.funcs[121]? = some Tryz.f121 := by kernel_rfl
theorem zlU : Tryz.prog.funcs[172]? = some Tryz.f172 := by kernel_rfl
noncomputable def cd6 : Code := match Tryz.f6.body with | some c => c | none => .skip
theorem bd6 : Tryz.f6.body = some cd6 := by kernel_rfl
noncomputable def cd7 : Code := match Tryz.f7.body with | some c => c | none => .skip
theorem bd7 : Tryz.f7.body = some cd7 := by kernel_rfl
noncomputable def zoV : Code := match Tryz.f10.body with | some c => c | none => .skip
theorem zpm : Tryz.f10.body = some zoV := by kernel_rfl
noncomputable def zoU : Code := match Tryz.f20.body with | some c => c | none => .skip
theorem zpl : Tryz.f20.body = some zoU := by kernel_rfl
noncomputable def zoT : Code := match Tryz.f23.body with | some c => c | none => .skip
theorem zpk : Tryz.f23.body = some zoT := by kernel_rfl
noncomputable def zoS : Code := match Tryz.f24.body with | some c => c | none => .skip
theorem zpj : Tryz.f24.body = some zoS := by kernel_rfl
noncomputable def zoR : Code := match Tryz.f25.body with | some c => c | none => .skip
theorem zpi : Tryz.f25.body = some zoR := by kernel_rfl
noncomputable def zoQ : Code := match Tryz.f26.body with | some c => c | none => .skip
theorem zph : Tryz.f26.body = some zoQ := by kernel_rfl
noncomputable def zoP : Code := match Tryz.f28.body with | some c => c | none => .skip
theorem zpg : Tryz.f28.body = some zoP := by kernel_rfl
noncomputable def zoO : Code := match Tryz.f35.body with | some c => c | none => .skip
theorem zpf : Tryz.f35.body = some zoO := by kernel_rfl
noncomputable def zoN : Code := match Tryz.f36.body with | some c => c | none => .skip
theorem zpe : Tryz.f36.body = some zoN := by kernel_rfl
noncomputable def zoM : Code := match Tryz.f37.body with | some c => c | none => .skip
theorem zpd : Tryz.f37.body = some zoM := by kernel_rfl
noncomputable def zoL : Code := match Tryz.f42.body with | some c => c | none => .skip
theorem zpc : Tryz.f42.body = some zoL := by kernel_rfl
noncomputable def zoK : Code := match Tryz.f43.body with | some c => c | none => .skip
theorem zpb : Tryz.f43.body = some zoK := by kernel_rfl
noncomputable def zoJ : Code := match Tryz.f49.body with | some c => c | none => .skip
theorem zpa : Tryz.f49.body = some zoJ := by kernel_rfl
noncomputable def zoI : Code := match Tryz.f50.body with | some c => c | none => .skip
theorem zp9 : Tryz.f50.body = some zoI := by kernel_rfl
noncomputable def zoH : Code := match Tryz.f52.body with | some c => c | none => .skip
theorem zp8 : Tryz.f52.body = some zoH := by kernel_rfl
noncomputable def zoG : Code := match Tryz.f56.body with | some c => c | none => .skip
theorem zp7 : Tryz.f56.body = some zoG := by kernel_rfl
noncomputable def zoF : Code := match Tryz.f57.body with | some c => c | none => .skip
theorem zp6 : Tryz.f57.body = some zoF := by kernel_rfl
noncomputable def zoE : Code := match Tryz.f58.body with | some c => c | none => .skip
theorem zp5 : Tryz.f58.body = some zoE := by kernel_rfl
noncomputable def zoD : Code := match Tryz.f62.body with | some c => c | none => .skip
theorem zp4 : Tryz.f62.body = some zoD := by kernel_rfl
noncomputable def zoC : Code := match Tryz.f77.body with | some c => c | none => .skip
theorem zp3 : Tryz.f77.body = some zoC := by kernel_rfl
noncomputable def zoB : Code := match Tryz.f78.body with | some c => c | none => .skip
theorem zp2 : Tryz.f78.body = some zoB := by kernel_rfl
noncomputable def zoA : Code := match Tryz.f79.body with | some c => c | none => .skip
theorem zp1 : Tryz.f79.body = some zoA := by kernel_rfl
noncomputable def zoz : Code := match Tryz.f80.body with | some c => c | none => .skip
theorem zp0 : Tryz.f80.body = some zoz := by kernel_rfl
noncomputable def zoy : Code := match Tryz.f81.body with | some c => c | none => .skip
theorem zoZ : Tryz.f81.body = some zoy := by kernel_rfl
noncomputable def zox : Code := match Tryz.f88.body with | some c => c | none => .skip
theorem zoY : Tryz.f88.body = some zox := by kernel_rfl
noncomputable def zow : Code := match Tryz.f91.body with | some c => c | none => .skip
theorem zoX : Tryz.f91.body = some zow := by kernel_rfl
noncomputable def znd : Code := match Tryz.f120.body with | some c => c | none => .skip
theorem znh : Tryz.f120.body = some znd := by kernel_rfl
noncomputable def znc : Code := match Tryz.f121.body with | some c => c | none => .skip
theorem zng : Tryz.f121.body = some znc := by kernel_rfl
noncomputable def zkD : Code := match Tryz.f172.body with | some c => c | none => .skip
theorem znf : Tryz.f172.body = some zkD := by kernel_rfl
noncomputable def xt : z0b -> z0b := xtF
noncomputable def L : z0b := Lim Tryz.prog xt z1g
theorem zkL {f : FuncId} {c : Cfg} {fn : Func} {args : List T} {o : T × List T} (hc : z1g f = some c) (hfn : Tryz.prog.funcs[f]? = some fn) (h : z9O Tryz.prog L c LFm fn args = some o) : L f args = some o := zi0 hc hfn h
end
section
open Go
theorem z5W {f : FuncId} {cf : Cfg} {fn : Func} {c : Code} {args : List T} {r : T} {outs : List T} (hc : z1g f = some cf) (hfn : Tryz.prog.funcs[f]? = some fn) (hb : fn.body = some c) (ha : args.length <= fn.ntmps /\ (args.filter z2L).length <= 1 := by exact ⟨of_decide_eq_true rfl, of_decide_eq_true rfl⟩) (hz : cf.fz 999998 = none := by rfl) (g : wpC Tryz.prog L cf LFm c (z3L fn.ntmps args) (zij Tryz.prog fn args r outs) := by simp only [z3L, z3K, z3t, z6l, z2L]; exact zdL) : L f args = some (r, outs) := zkL hc hfn (zhD hb ha g hz)
theorem ziz {f : FuncId} {cf : Cfg} {fn : Func} {c : Code} {args : List T} {r : T} {outs : List T} (hc : z1g f = some cf) (hfn : Tryz.prog.funcs[f]? = some fn) (hb : fn.body = some c) (ha : args.length <= fn.ntmps /\ (args.filter z2L).length <= 1 := by exact ⟨of_decide_eq_true rfl, of_decide_eq_true rfl⟩) (hz : (cf.fz 999998).isSome = true := by rfl) (g : wpC Tryz.prog L cf LFm c (z3L fn.ntmps args) (zii Tryz.prog fn args r outs) := by simp only [z3L, z3K, z3t, z6l, z2L]; exact zdL) : L f args = some (r, outs) := zkL hc hfn (zfQ hb ha hz g)
end
section
open Go
structure Rul where
  left : ByteArray
  right : ByteArray
deriving Inhabited, DecidableEq
structure Enm where
  points : Int
  monoid : Bool
  gens : List (List Int)
  elems : List (List Int)
  pre : List Int
  last : List Int
  right : List (List Int)
  rules : List Rul
  done : Int
deriving Inhabited
structure Eru where
  e : Enm
  number : List (ByteArray × Int)
  words : List ByteArray
  behind : List Int
  single : List Int
deriving Inhabited
end
section
open Go
set_option maxRecDepth 100000
theorem z0h {α : Type} {xs : List α} {k : Nat} (d : α) (h : k < xs.length) : atI xs (k : Int) = some (xs.getD k d) := by
  rw [ziu h, List.getD, List.getElem?_eq_getElem h, Option.getD_some]
theorem zh7 {α : Type} {xs : List α} {i : Int} (d : α) (h0 : 0 <= i) (h : i < xs.length) : atI xs i = some (xs.getD i.toNat d) := by
  have := z0h d (xs := xs) (k := i.toNat) (by omega)
  rwa [Int.toNat_of_nonneg h0] at this
theorem z2G {α : Type} {l : List α} {x z : α} {j : Nat} : (l ++ [x]).getD j z = if j < l.length then l.getD j z else if j = l.length then x else z := by
  rw [List.getD, List.getD]
  by_cases h : j < l.length
  · rw [if_pos h, List.getElem?_append_left h]
  · rw [if_neg h, List.getElem?_append_right (by omega)]
    by_cases e : j = l.length
    · rw [if_pos e, e]; simp
    · rw [if_neg e, List.getElem?_eq_none (by simp; omega)]; rfl
theorem z4B {α : Type} {l : List α} {i : Nat} (d : α) (h : i < l.length) : l.getD i d ∈ l := by
  rw [List.getD, List.getElem?_eq_getElem h, Option.getD_some]; exact List.getElem_mem h
theorem zac {α : Type} {l : List α} {x : α} (d : α) (h : x ∈ l) : ∃ i, i < l.length /\ l.getD i d = x := by
  obtain ⟨i, hi, e⟩ := List.getElem_of_mem h
  exact ⟨i, hi, by rw [List.getD, List.getElem?_eq_getElem hi, Option.getD_some, e]⟩
theorem zdq {α : Type} {a b : List α} (d : α) (hl : a.length = b.length) (h : ∀ i, i < a.length -> a.getD i d = b.getD i d) : a = b := by
  apply List.ext_getElem hl
  intro i h1 h2
  have := h i h1
  rw [List.getD, List.getD, List.getElem?_eq_getElem h1, List.getElem?_eq_getElem h2] at this
  simpa using this
theorem z3J {α β : Type} {l : List α} {f : α -> β} {i : Nat} (d : β) (e : α) (h : i < l.length) : (l.map f).getD i d = f (l.getD i e) := by
  rw [List.getD, List.getD, List.getElem?_map, List.getElem?_eq_getElem h]; rfl
theorem zet {α : Type} [DecidableEq α] : ∀ {l p : List α}, l.Nodup -> (∀ a ∈ l, a ∈ p) -> l.length <= p.length
  | [], _, _, _ => Nat.zero_le _
  | a :: l, p, h, hs => by
    rw [List.nodup_cons] at h
    have ha := hs a (by simp)
    have := zet (p := p.erase a) h.2 fun b hb => (List.mem_erase_of_ne (by rintro rfl; exact h.1 hb)).2 (hs b (List.mem_cons_of_mem _ hb))
    rw [List.length_erase_of_mem ha] at this
    have := List.length_pos_of_mem ha
    simp only [List.length_cons]
    omega
theorem zib {κ ν : Type} [DecidableEq κ] (k q : κ) (v : ν) : ∀ m : List (κ × ν), z3Q q (z9J k v m) = if k = q then some v else z3Q q m
  | [] => rfl
  | (a, u) :: r => by
    simp only [z9J]
    by_cases h : a = k
    · subst h
      rw [if_pos rfl]
      simp only [z3Q]
      by_cases h2 : a = q
      · rw [if_pos h2, if_pos h2]
      · rw [if_neg h2, if_neg h2, if_neg h2]
    · rw [if_neg h]
      simp only [z3Q, zib k q v r]
      by_cases h2 : a = q
      · rw [if_pos h2, if_pos h2, if_neg (fun e => h (h2.trans e.symm))]
      · rw [if_neg h2, if_neg h2]
structure Tr (n : Nat) (f : List Int) : Prop where
  len : f.length = n
  rg : ∀ x ∈ f, 0 <= x /\ x < n
def z5f (f g : List Int) : List Int := f.map fun i => g.getD i.toNat 0
def idR (n : Nat) : List Int := (List.range n).map fun i => ((i : Nat) : Int)
theorem Tr.get {n : Nat} {f : List Int} (h : Tr n f) {k : Nat} (hk : k < n) : 0 <= f.getD k 0 /\ f.getD k 0 < n := h.rg _ (z4B 0 (by rw [h.len]; exact hk))
theorem z3Y {f g : List Int} {k : Nat} (hk : k < f.length) : (z5f f g).getD k 0 = g.getD (f.getD k 0).toNat 0 := by
  unfold z5f; rw [z3J 0 0 hk]
theorem z2F (f g : List Int) : (z5f f g).length = f.length := by simp [z5f]
theorem zjx {n : Nat} {f g : List Int} (hf : Tr n f) (hg : Tr n g) : Tr n (z5f f g) := ⟨by rw [z2F, hf.len], fun x hx => by
  obtain ⟨i, hi, rfl⟩ := zac 0 hx
  rw [z2F] at hi
  rw [z3Y hi]
  have := hf.get (k := i) (by rw [← hf.len]; exact hi)
  exact hg.get (by omega)⟩
theorem zew {n : Nat} {f g h : List Int} (hf : Tr n f) (hg : Tr n g) : z5f (z5f f g) h = z5f f (z5f g h) := by
  apply zdq 0 (by simp [z2F])
  intro i hi
  rw [z2F, z2F] at hi
  have := hf.get (k := i) (by rw [← hf.len]; exact hi)
  rw [z3Y (by rw [z2F]; exact hi), z3Y hi, z3Y hi, z3Y (by rw [hg.len]; omega)]
theorem zaa (n : Nat) : (idR n).length = n := by simp [idR]
theorem zeP {n k : Nat} (h : k < n) : (idR n).getD k 0 = k := by
  unfold idR; rw [z3J 0 0 (by simpa using h)]; simp [List.getD, h]
theorem zi7 (n : Nat) : Tr n (idR n) := ⟨zaa n, fun x hx => by
  obtain ⟨i, hi, rfl⟩ := zac 0 hx
  rw [zaa] at hi
  rw [zeP hi]; omega⟩
theorem zgZ {n : Nat} {f : List Int} (h : Tr n f) : z5f (idR n) f = f := by
  apply zdq 0 (by rw [z2F, zaa, h.len])
  intro i hi
  rw [z2F, zaa] at hi
  rw [z3Y (by rw [zaa]; exact hi), zeP hi, Int.toNat_natCast]
theorem zgW {n : Nat} {f : List Int} (h : Tr n f) : z5f f (idR n) = f := by
  apply zdq 0 (by rw [z2F])
  intro i hi
  rw [z2F] at hi
  have := h.get (k := i) (by rw [← h.len]; exact hi)
  rw [z3Y hi, zeP (by omega)]; omega
def ziN (n : Nat) : Nat -> List (List Int)
  | 0 => [[]]
  | k + 1 => (List.range n).flatMap fun x => (ziN n k).map (((x : Nat) : Int) :: ·)
theorem zcx {n : Nat} : ∀ {f : List Int}, (∀ x ∈ f, 0 <= x /\ x < n) -> f ∈ ziN n f.length
  | [], _ => by simp [ziN]
  | a :: f, h => by
    have ha := h a (by simp)
    have := zcx (f := f) fun x hx => h x (by simp [hx])
    simp only [List.length_cons, ziN, List.mem_flatMap, List.mem_range, List.mem_map]
    exact ⟨a.toNat, by omega, f, this, by congr 1; omega⟩
theorem zgL : ∀ n : Fin 4, (ziN n.val n.val).length <= 27 := by decide +kernel
theorem zjK {n : Nat} (hn : n <= 3) {l : List (List Int)} (h : l.Nodup) (ht : ∀ f ∈ l, Tr n f) : l.length <= 27 := by
  have h1 := zet (p := ziN n n) h fun f hf => by
    have := zcx (ht f hf).rg
    rwa [(ht f hf).len] at this
  have := zgL ⟨n, by omega⟩
  simp only at this
  omega
theorem z6k {α : Type} [BEq α] [LawfulBEq α] {l : List α} {x : α} (d : α) (h : x ∈ l) : l.idxOf x < l.length /\ l.getD (l.idxOf x) d = x := by
  have h1 := List.idxOf_lt_length_of_mem h
  exact ⟨h1, by rw [List.getD, List.getElem?_eq_getElem h1, Option.getD_some, List.getElem_idxOf h1]⟩
theorem zgg {α : Type} [BEq α] [LawfulBEq α] {l : List α} (d : α) (h : l.Nodup) {i : Nat} (hi : i < l.length) : l.idxOf (l.getD i d) = i := by
  obtain ⟨h1, h2⟩ := z6k d (z4B d hi)
  have e1 : l.getD (l.idxOf (l.getD i d)) d = l[l.idxOf (l.getD i d)] := by rw [List.getD, List.getElem?_eq_getElem h1, Option.getD_some]
  have e2 : l.getD i d = l[i] := by rw [List.getD, List.getElem?_eq_getElem hi, Option.getD_some]
  rw [e1] at h2
  exact (List.getElem_inj h).1 (h2.trans e2)
theorem zc1 {α : Type} [BEq α] [LawfulBEq α] {l z : List α} {x : α} (h : x ∈ l) : (l ++ z).idxOf x = l.idxOf x := by rw [List.idxOf_append, if_pos h]
theorem zc0 {α : Type} [BEq α] [LawfulBEq α] {l : List α} {x : α} (h : x ∉ l) : (l ++ [x]).idxOf x = l.length := by rw [List.idxOf_append, if_neg h]; simp
end
section
open Go
theorem zdP {a0 : List Int} {r : List Int} (h : z3o a0 = some r) : L 76 [.sl a0.length (a0.map fun x0 => .sc (.int .i64 x0))] = some (.os 1 r.length (r.map fun x0 => .sc (.int .i64 x0)), [.dead]) := by
  refine zeA rfl fun C => ?_
  simp only [xt, xtF, Nat.reduceEqDiff, if_true, if_false, zbx, za8, h, Option.map_some]
instance {a0 : List Int} : Ok (z3o a0) (fun r => L 76 [.sl a0.length (a0.map fun x0 => .sc (.int .i64 x0))] = some (.os 1 r.length (r.map fun x0 => .sc (.int .i64 x0)), [.dead])) := ⟨fun _ h => zdP h⟩
def zfy (r : Rul) : List ByteArray := [r.left, r.right]
theorem z9E : ∀ l : List Rul, z9F (l.flatMap fun x0 => [.sc (.string x0.left), .sc (.string x0.right)]) = some (l.flatMap zfy)
  | [] => rfl
  | r :: l => by simp [z9F, zfy, z9E l]
theorem zci : ∀ a b : List Rul, zaA (a.flatMap zfy) (b.flatMap zfy) = decide (a = b)
  | [], [] => by simp [zaA]
  | [], _ :: _ => by simp [zaA, zfy]
  | _ :: _, [] => by simp [zaA, zfy]
  | ⟨x, y⟩ :: a, ⟨u, v⟩ :: b => by
    have e : ∀ p q : ByteArray, decide (p.data.toList = q.data.toList) = decide (p = q) := fun ⟨⟨p⟩⟩ ⟨⟨q⟩⟩ => by simp
    show (decide (x.data.toList = u.data.toList) && (decide (y.data.toList = v.data.toList) && zaA (a.flatMap zfy) (b.flatMap zfy))) = _
    rw [zci a b, e, e]
    simp [Bool.and_assoc]
def zl6 (a b : List Rul) : Option Bool := some (decide (a = b))
theorem zbJ : ∀ a : List Rul, (a.flatMap zfy).length = a.length * 2
  | [] => rfl
  | r :: l => by simp [zfy, zbJ l]; omega
instance {a0 a1 : List Rul} : Ok (zl6 a0 a1) (fun r => L 122 [.sl a0.length (a0.flatMap fun x0 => [.sc (.string x0.left), .sc (.string x0.right)]), .sl a1.length (a1.flatMap fun x0 => [.sc (.string x0.left), .sc (.string x0.right)])] = some (.sc (.bool r), [.dead, .dead])) := ⟨fun r h => by
  cases h
  refine zeA rfl fun C => ?_
  simp only [xt, xtF, Nat.reduceEqDiff, if_true, if_false, zkN, z9E, zbJ, and_self, zci]⟩
end
section
open Go
noncomputable section
set_option maxRecDepth 100000
set_option maxHeartbeats 6000000
abbrev z2x (a0 : List Int) : Int -> Option (Int ⊕ Bool)
  | w6 =>
  if w6 < (a0.length : Int) then
    (atI a0 w6).bind fun v8 =>
    if v8 < 0 then
      z0p <|
      some false
    else
      if (a0.length : Int) <= v8 then
        z0p <|
        some false
      else
        z0J (IntKind.i64.wrap (w6 + 1))
  else
    z0p <|
    some true
instance {a0 : List Int} : Hd (z2x a0) := ⟨fun w6 => ([(15, xI w6)], [])⟩
def z2Z (a0 : List Int) : Option (Bool) :=
  if (a0.length : Int) < 1 then
    some false
  else
    if 32 < (a0.length : Int) then
      some false
    else
      z0C (z2x a0) LFm 0
instance ref11_Valid_ok {a0 : List Int} : Ok (z2Z a0) (fun r => L 62 [.sl a0.length (a0.map fun x0 => .sc (.int .i64 x0))] = some (.sc (.bool r), [.dead])) := ⟨fun r h => by have h := z5e h; unfold z2Z at h; exact z5W zmT zo6 zp4⟩
abbrev z1S (a0 : List (List Int)) : Int -> Option (Int ⊕ Bool)
  | w14 =>
  if w14 < (a0.length : Int) then
    (atI a0 w14).bind fun v18 =>
    (z2Z v18).bind fun v19 =>
    if v19 = true then
      (atI a0 0).bind fun v20 =>
      if (v18.length : Int) = (v20.length : Int) then
        z0J (IntKind.i64.wrap (w14 + 1))
      else
        z0p <|
        some false
    else
      z0p <|
      some false
  else
    z0p <|
    some true
instance {a0 : List (List Int)} : Hd (z1S a0) := ⟨fun w14 => ([(15, xI w14)], [])⟩
def z2i (a0 : List (List Int)) : Option (Bool) :=
  if (a0.length : Int) < 1 then
    some false
  else
    if 6 < (a0.length : Int) then
      some false
    else
      z0C (z1S a0) LFm 0
instance ref11_MayGens_ok {a0 : List (List Int)} : Ok (z2i a0) (fun r => L 28 [.sl a0.length (a0.map fun x0 => .sl x0.length (x0.map fun x1 => .sc (.int .i64 x1)))] = some (.sc (.bool r), [.dead])) := ⟨fun r h => by have h := z5e h; unfold z2i at h; exact z5W zn5 zoi zpg⟩
def z2A (a0 : List (List Int)) (a1 : Int) : Option (Bool) :=
  (z2i a0).bind fun v3 =>
  if v3 = true then
    if (a0.length : Int) <= 2 then
      (atI a0 0).bind fun v4 =>
      some (decide ((v4.length : Int) <= a1))
    else
      some false
  else
    some false
theorem z9C {a0 : List (List Int)} {a1 : Int} {r : Bool} (h : z2A a0 a1 = some r) : L 7 [.sl a0.length (a0.map fun x0 => .sl x0.length (x0.map fun x1 => .sc (.int .i64 x1))), .sc (.int .i64 a1)] = some (.sc (.bool r), [.dead, .dead]) := by
  have h := z5e h; unfold z2A at h; exact z5W zot fn7 bd7
abbrev z2v (a0 : List Int) : Int -> Option (Int ⊕ Bool)
  | w6 =>
  if w6 < (a0.length : Int) then
    (atI a0 w6).bind fun v8 =>
    if v8 < 0 then
      z0p <|
      some false
    else
      if (a0.length : Int) <= v8 then
        z0p <|
        some false
      else
        z0J (IntKind.i64.wrap (w6 + 1))
  else
    z0p <|
    some true
instance {a0 : List Int} : Hd (z2v a0) := ⟨fun w6 => ([(15, xI w6)], [])⟩
def z0S (a0 : List Int) : Option (Bool) :=
  if (a0.length : Int) < 1 then
    some false
  else
    if 32 < (a0.length : Int) then
      some false
    else
      z0C (z2v a0) LFm 0
instance trans_Valid_ok {a0 : List Int} : Ok (z0S a0) (fun r => L 56 [.sl a0.length (a0.map fun x0 => .sc (.int .i64 x0))] = some (.sc (.bool r), [.dead])) := ⟨fun r h => by have h := z5e h; unfold z0S at h; exact z5W zmW zo9 zp7⟩
abbrev z1y (a0 : Int) : Int × List Int -> Option ((Int × List Int) ⊕ List Int)
  | (w5, w6) =>
  if w5 < a0 then
    (atI w6 w5).bind fun v8 =>
    z0J (IntKind.i64.wrap (w5 + 1), (w6.set w5.toNat w5))
  else
    z0p <|
    some w6
instance {a0 : Int} : Hd (z1y a0) := ⟨fun (w5, w6) => ([(15, xI w5)], [(3, .os 1 w6.length (w6.map fun x0 => .sc (.int .i64 x0)))])⟩
def z1M (a0 : Int) : Option (List Int) :=
  if a0 < 1 then
    some []
  else
    if 32 < a0 then
      some []
    else
      chk (z1I 8 a0) <|
      z0C (z1y a0) LFm (0, List.replicate a0.toNat (0 : Int))
instance trans_Identity_ok {a0 : Int} : Ok (z1M a0) (fun r => L 78 [.sc (.int .i64 a0)] = some (.os 1 r.length (r.map fun x0 => .sc (.int .i64 x0)), [.dead])) := ⟨fun r h => by have h := z5e h; unfold z1M at h; exact z5W zmR zo4 zp2⟩
abbrev z1R (a0 : List Int) (a1 : List Int) : Int × List Int -> Option ((Int × List Int) ⊕ List Int)
  | (w17, w18) =>
  if w17 < (a0.length : Int) then
    (atI a0 w17).bind fun v22 =>
    (atI a1 v22).bind fun v23 =>
    (atI w18 w17).bind fun v24 =>
    z0J (IntKind.i64.wrap (w17 + 1), (w18.set w17.toNat v23))
  else
    z0p <|
    some w18
instance {a0 : List Int} {a1 : List Int} : Hd (z1R a0 a1) := ⟨fun (w17, w18) => ([(28, xI w17)], [(5, .os 1 w18.length (w18.map fun x0 => .sc (.int .i64 x0)))])⟩
def z2f (a0 : List Int) (a1 : List Int) : Option (List Int) :=
  if (a0.length : Int) = (a1.length : Int) then
    (z0S a0).bind fun v13 =>
    if v13 = true then
      (z0S a1).bind fun v14 =>
      if v14 = true then
        chk (z1I 8 (a0.length : Int)) <|
        z0C (z1R a0 a1) LFm (0, List.replicate (a0.length : Int).toNat (0 : Int))
      else
        some []
    else
      some []
  else
    some []
instance trans_Compose_ok {a0 : List Int} {a1 : List Int} : Ok (z2f a0 a1) (fun r => L 79 [.sl a0.length (a0.map fun x0 => .sc (.int .i64 x0)), .sl a1.length (a1.map fun x0 => .sc (.int .i64 x0))] = some (.os 1 r.length (r.map fun x0 => .sc (.int .i64 x0)), [.dead, .dead])) := ⟨fun r h => by have h := z5e h; unfold z2f at h; exact z5W zmQ zo3 zp1⟩
abbrev z1G (a0 : List Int) : Int × List Int -> Option ((Int × List Int) ⊕ ByteArray)
  | (w9, w10) =>
  if w9 < (a0.length : Int) then
    (atI a0 w9).bind fun v13 =>
    (atI w10 w9).bind fun v14 =>
    z0J (IntKind.i64.wrap (w9 + 1), (w10.set w9.toNat (IntKind.u8.wrap v13)))
  else
    z0p <|
    some (z2I w10)
instance {a0 : List Int} : Hd (z1G a0) := ⟨fun (w9, w10) => ([(11, xI w9)], [(3, .os 1 w10.length (w10.map fun x0 => .sc (.int .u8 x0)))])⟩
def z0D (a0 : List Int) : Option (ByteArray) :=
  chk (z1I 1 (a0.length : Int)) <|
  z0C (z1G a0) LFm (0, List.replicate (a0.length : Int).toNat (0 : Int))
instance enumerate_text_ok {a0 : List Int} : Ok (z0D a0) (fun r => L 57 [.sl a0.length (a0.map fun x0 => .sc (.int .i64 x0))] = some (.sc (.string r), [.dead])) := ⟨fun r h => by have h := z5e h; unfold z0D at h; exact z5W zmV zo8 zp6⟩
abbrev z0G (a0 : List Int) (a1 : List Int) : Int -> Option (Int ⊕ Bool)
  | w10 =>
  if w10 < (a0.length : Int) then
    (atI a0 w10).bind fun v13 =>
    (atI a1 w10).bind fun v14 =>
    if v13 = v14 then
      z0J (IntKind.i64.wrap (w10 + 1))
    else
      z0p <|
      some false
  else
    z0p <|
    some true
instance {a0 : List Int} {a1 : List Int} : Hd (z0G a0 a1) := ⟨fun w10 => ([(13, xI w10)], [])⟩
def z0t (a0 : List Int) (a1 : List Int) : Option (Bool) :=
  if (a0.length : Int) = (a1.length : Int) then
    z0C (z0G a0 a1) LFm 0
  else
    some false
instance slices_Equal_Lint_int_ok {a0 : List Int} {a1 : List Int} : Ok (z0t a0 a1) (fun r => L 121 [.sl a0.length (a0.map fun x0 => .sc (.int .i64 x0)), .sl a1.length (a1.map fun x0 => .sc (.int .i64 x0))] = some (.sc (.bool r), [.dead, .dead])) := ⟨fun r h => by have h := z5e h; unfold z0t at h; exact z5W zkB zlV zng⟩
end
end
section
open Go
set_option maxRecDepth 100000
theorem z6J {b : Int -> Option (Int ⊕ Bool)} (n : Nat) (hn : n < 4611686018427387904) (p : Nat -> Bool) (step : ∀ k : Nat, k < n -> b (k : Int) = if p k = true then z0J ((k + 1 : Nat) : Int) else z0p (some false)) (last : b (n : Int) = z0p (some true)) : z0C b LFm 0 = some (decide (∀ k, k < n -> p k = true)) := by
  rw [zez (s := (0 : Int)) n (fun k => (k : Int)) (fun k => !p k) (fun _ => some false) (x := some true) rfl (by simp only [LFm]; omega) (fun k hk => by
    rw [step k hk]
    cases p k <;> rfl) last]
  rw [zgo]
  by_cases h : ∀ k, k < n -> p k = true
  · rw [if_pos (by simpa using h), decide_eq_true h]
  · rw [if_neg (by simpa using h), decide_eq_false h]
theorem z8w {α : Type} (F : Nat -> α) (z : α) {k n : Nat} (h : k < n) : ((List.range k).map F ++ List.replicate (n - k) z).set k (F k) = (List.range (k + 1)).map F ++ List.replicate (n - (k + 1)) z := by
  obtain ⟨d, rfl⟩ : ∃ d, n = k + 1 + d := ⟨n - (k + 1), by omega⟩
  rw [show k + 1 + d - k = d + 1 by omega, show k + 1 + d - (k + 1) = d by omega, List.replicate_succ, List.set_append_right _ _ (by simp), List.length_map, List.length_range, Nat.sub_self, List.set_cons_zero, List.range_succ, List.map_append, List.append_assoc]
  rfl
theorem zce {α : Type} (F : Nat -> α) (z d : α) {k n j : Nat} (hj : j < k) : ((List.range k).map F ++ List.replicate (n - k) z).getD j d = F j := by
  rw [List.getD, List.getElem?_append_left (by simpa using hj)]
  simp [hj]
theorem z3G {α : Type} (F : Nat -> α) (z : α) {k n : Nat} (h : k <= n) : ((List.range k).map F ++ List.replicate (n - k) z).length = n := by simp; omega
theorem z4d {α ρ : Type} {b : Int × List α -> Option ((Int × List α) ⊕ ρ)} {x : Option ρ} (n : Nat) (hn : n < 4611686018427387904) (F : Nat -> α) (z : α) (step : ∀ k : Nat, k < n -> b ((k : Int), (List.range k).map F ++ List.replicate (n - k) z) = z0J (((k + 1 : Nat) : Int), ((List.range k).map F ++ List.replicate (n - k) z).set k (F k))) (last : b ((n : Int), (List.range n).map F) = z0p x) : z0C b LFm (0, List.replicate n z) = x := by
  refine z1J n (fun k => ((k : Int), (List.range k).map F ++ List.replicate (n - k) z)) (by simp) (by simp only [LFm]; omega) (fun k hk => ?_) (by simpa using last)
  rw [step k hk, z8w F z hk]
def inR (f : List Int) (k : Nat) : Bool := decide (0 <= f.getD k 0 /\ f.getD k 0 < f.length)
theorem z5M {f : List Int} {k : Nat} : inR f k = true ↔ 0 <= f.getD k 0 /\ f.getD k 0 < f.length := by simp [inR]
theorem zgX {f : List Int} : (∀ k, k < f.length -> inR f k = true) ↔ Tr f.length f := by
  constructor
  · intro h
    refine ⟨rfl, fun x hx => ?_⟩
    obtain ⟨i, hi, rfl⟩ := zac 0 hx
    simpa [inR] using h i hi
  · intro h k hk
    simpa [inR] using h.get hk
theorem zfF {f : List Int} (h1 : 1 <= f.length) (h2 : f.length <= 32) : z0S f = some (decide (∀ k, k < f.length -> inR f k = true)) := by
  unfold z0S
  rw [if_neg (by omega), if_neg (by omega)]
  refine z6J f.length (by omega) (inR f) (fun k hk => ?_) (by simp only [z2v]; rw [if_neg (by omega)])
  simp only [z2v]
  rw [if_pos (by omega), z0h 0 hk, Option.bind_some, z2d (by omega)]
  by_cases c1 : f.getD k 0 < 0
  · rw [if_pos c1, if_neg (by rw [z5M]; omega)]
  · rw [if_neg c1]
    by_cases c2 : (f.length : Int) <= f.getD k 0
    · rw [if_pos c2, if_neg (by rw [z5M]; omega)]
    · rw [if_neg c2, if_pos (by rw [z5M]; omega)]
theorem z6u {n : Nat} {f : List Int} (h : Tr n f) (h1 : 1 <= n) (h2 : n <= 32) : z0S f = some true := by
  have hl := h.len
  rw [zfF (by omega) (by omega), decide_eq_true (zgX.2 (by rw [hl]; exact h))]
theorem zec (f : List Int) : ∃ b, z2Z f = some b /\ (b = true -> 1 <= f.length /\ f.length <= 32 /\ Tr f.length f) := by
  unfold z2Z
  by_cases h1 : (f.length : Int) < 1
  · rw [if_pos h1]; exact ⟨_, rfl, by simp⟩
  rw [if_neg h1]
  by_cases h2 : 32 < (f.length : Int)
  · rw [if_pos h2]; exact ⟨_, rfl, by simp⟩
  rw [if_neg h2]
  refine ⟨decide (∀ k, k < f.length -> inR f k = true), z6J f.length (by omega) (inR f) (fun k hk => ?_) (by simp only [z2x]; rw [if_neg (by omega)]), fun h => ⟨by omega, by omega, zgX.1 (of_decide_eq_true h)⟩⟩
  simp only [z2x]
  rw [if_pos (by omega), z0h 0 hk, Option.bind_some, z2d (by omega)]
  by_cases c1 : f.getD k 0 < 0
  · rw [if_pos c1, if_neg (by rw [z5M]; omega)]
  · rw [if_neg c1]
    by_cases c2 : (f.length : Int) <= f.getD k 0
    · rw [if_pos c2, if_neg (by rw [z5M]; omega)]
    · rw [if_neg c2, if_pos (by rw [z5M]; omega)]
structure GenP (n m : Nat) (G : List (List Int)) : Prop where
  n1 : 1 <= n
  n3 : n <= 32
  m1 : 1 <= m
  m2 : m <= 6
  len : G.length = m
  tr : ∀ g ∈ G, Tr n g
theorem GenP.get {n m : Nat} {G : List (List Int)} (h : GenP n m G) {x : Nat} (hx : x < m) : Tr n (G.getD x []) := h.tr _ (z4B [] (by rw [h.len]; exact hx))
theorem zi9 (G : List (List Int)) : ∃ b, z2i G = some b /\ (b = true -> ∃ n m, GenP n m G) := by
  unfold z2i
  by_cases h1 : (G.length : Int) < 1
  · rw [if_pos h1]; exact ⟨_, rfl, by simp⟩
  rw [if_neg h1]
  by_cases h2 : 6 < (G.length : Int)
  · rw [if_pos h2]; exact ⟨_, rfl, by simp⟩
  rw [if_neg h2]
  obtain ⟨r, h3, h4⟩ := z2s (b := z1S G) (fun s => ∃ k : Nat, s = (k : Int) /\ k <= G.length /\ ∀ j, j < k -> 1 <= (G.getD j []).length /\ (G.getD j []).length <= 32 /\ (G.getD j []).length = (G.getD 0 []).length /\ Tr (G.getD j []).length (G.getD j [])) (fun s => G.length - s.toNat) (fun r => r = true -> ∃ n m, GenP n m G) (fun s hs => by
    obtain ⟨k, rfl, hk, hI⟩ := hs
    simp only [z1S]
    by_cases hlt : k < G.length
    · rw [if_pos (by omega), z0h [] hlt, Option.bind_some]
      obtain ⟨b, e1, e2⟩ := zec (G.getD k [])
      rw [e1, Option.bind_some]
      cases b with
      | false => right; exact ⟨false, by simp [z0p], by simp⟩
      | true =>
        obtain ⟨v1, v2, v3⟩ := e2 rfl
        rw [if_pos rfl, show atI G 0 = some (G.getD 0 []) from z0h [] (k := 0) (by omega), Option.bind_some]
        by_cases hl : ((G.getD k []).length : Int) = ((G.getD 0 []).length : Int)
        · left
          rw [if_pos hl, z2d (by omega)]
          refine ⟨_, rfl, ⟨k + 1, rfl, by omega, fun j hj => ?_⟩, by simp only [Int.toNat_natCast]; omega⟩
          by_cases e : j = k
          · subst e; exact ⟨v1, v2, by omega, v3⟩
          · exact hI j (by omega)
        · right; rw [if_neg hl]; exact ⟨false, rfl, by simp⟩
    · right
      rw [if_neg (by omega)]
      refine ⟨true, rfl, fun _ => ⟨(G.getD 0 []).length, G.length, ?_⟩⟩
      obtain ⟨a1, a2, _, _⟩ := hI 0 (by omega)
      refine ⟨a1, a2, by omega, by omega, rfl, fun g hg => ?_⟩
      obtain ⟨i, hi, rfl⟩ := zac [] hg
      obtain ⟨_, _, b3, b4⟩ := hI i (by omega)
      rw [b3] at b4
      exact b4) LFm 0 ⟨0, rfl, Nat.zero_le _, fun j hj => by omega⟩ (by simp only [LFm]; omega)
  exact ⟨r, h3, h4⟩
theorem zfV (G : List (List Int)) (p : Nat) : ∃ b, z2A G p = some b /\ (b = true -> ∃ n m, GenP n m G /\ n <= p /\ m <= 2) := by
  unfold z2A
  obtain ⟨b, e1, e2⟩ := zi9 G
  rw [e1, Option.bind_some]
  cases b with
  | false => exact ⟨false, by simp, by simp⟩
  | true =>
    obtain ⟨n, m, hG⟩ := e2 rfl
    rw [if_pos rfl]
    have hl := hG.len
    have h1 := hG.m1
    by_cases h2 : (G.length : Int) <= 2
    · rw [if_pos h2, show atI G 0 = some (G.getD 0 []) from z0h [] (k := 0) (by omega), Option.bind_some]
      refine ⟨_, rfl, fun h => ⟨n, m, hG, ?_, by omega⟩⟩
      have := of_decide_eq_true h
      have := (hG.get (x := 0) (by omega)).len
      omega
    · rw [if_neg h2]; exact ⟨false, rfl, by simp⟩
theorem zgh {n : Nat} (h1 : 1 <= n) (h2 : n <= 32) : z1M (n : Int) = some (idR n) := by
  unfold z1M
  rw [if_neg (by omega), if_neg (by omega), z0F _ (by unfold z1I; omega), Int.toNat_natCast]
  refine z4d n (by omega) (fun i => ((i : Nat) : Int)) 0 (fun k hk => ?_) ?_
  · simp only [z1y]
    rw [if_pos (by omega), z0h 0 (by rw [z3G _ _ (by omega)]; exact hk), Option.bind_some, z2d (by omega), Int.toNat_natCast]
  · simp only [z1y]
    rw [if_neg (by omega)]; rfl
theorem zio {n : Nat} {f g : List Int} (hf : Tr n f) (hg : Tr n g) (h1 : 1 <= n) (h2 : n <= 32) : z2f f g = some (z5f f g) := by
  unfold z2f
  have l1 := hf.len
  have l2 := hg.len
  rw [if_pos (by omega), z6u hf h1 h2, Option.bind_some, if_pos rfl, z6u hg h1 h2, Option.bind_some, if_pos rfl, z0F _ (by unfold z1I; omega), Int.toNat_natCast]
  have e : z5f f g = (List.range f.length).map fun k => g.getD (f.getD k 0).toNat 0 := by
    apply zdq 0 (by simp [z2F])
    intro i hi
    rw [z2F] at hi
    rw [z3Y hi, z3J 0 0 (by simpa using hi)]
    simp [List.getD, hi]
  rw [e]
  refine z4d f.length (by omega) (fun k => g.getD (f.getD k 0).toNat 0) 0 (fun k hk => ?_) ?_
  · have := hf.get (k := k) (by omega)
    simp only [z1R]
    rw [if_pos (by omega), z0h 0 hk, Option.bind_some, zh7 0 (by omega) (by omega), Option.bind_some, z0h 0 (by rw [z3G _ _ (by omega)]; exact hk), Option.bind_some, z2d (by omega), Int.toNat_natCast]
  · simp only [z1R]
    rw [if_neg (by omega)]
theorem z5B {n : Nat} {f : List Int} (hf : Tr n f) (h2 : n <= 32) : z0D f = some (z2I f) := by
  unfold z0D
  have l1 := hf.len
  rw [z0F _ (by unfold z1I; omega), Int.toNat_natCast]
  have e : f = (List.range f.length).map fun k => f.getD k 0 := by
    apply zdq 0 (by simp)
    intro i hi
    rw [z3J 0 0 (by simpa using hi)]
    simp [List.getD, hi]
  refine z4d f.length (by omega) (fun k => f.getD k 0) 0 (fun k hk => ?_) ?_
  · have := hf.get (k := k) (by omega)
    simp only [z1G]
    rw [if_pos (by omega), z0h 0 hk, Option.bind_some, z0h 0 (by rw [z3G _ _ (by omega)]; exact hk), Option.bind_some, z2d (by omega), Int.toNat_natCast, zl4 (by omega) (by omega)]
  · simp only [z1G]
    rw [if_neg (by omega), ← e]
theorem zbB {n : Nat} {f g : List Int} (hf : Tr n f) (hg : Tr n g) (h2 : n <= 32) (h : z2I f = z2I g) : f = g := by
  unfold z2I at h
  have h : f.map (fun z => UInt8.ofNat z.toNat) = g.map (fun z => UInt8.ofNat z.toNat) := congrArg (fun b => b.data.toList) h
  apply zdq 0 (by rw [hf.len, hg.len])
  intro i hi
  have hi' : i < g.length := by rw [hg.len, ← hf.len]; exact hi
  have h3 := congrArg (fun l : List UInt8 => l.getD i 0) h
  have a := hf.get (k := i) (by rw [← hf.len]; exact hi)
  have b := hg.get (k := i) (by rw [← hf.len]; exact hi)
  have h4 := congrArg UInt8.toNat h3
  rw [z3J (0 : UInt8) 0 hi, z3J (0 : UInt8) 0 hi', UInt8.toNat_ofNat', UInt8.toNat_ofNat', Nat.mod_eq_of_lt (by omega), Nat.mod_eq_of_lt (by omega)] at h4
  omega
theorem zaS (a : List Int) (h : a.length < 4611686018427387904) : z0t a a = some true := by
  unfold z0t
  rw [if_pos rfl, z6J a.length h (fun _ => true) (fun k hk => ?_) (by simp only [z0G]; rw [if_neg (by omega)])]
  · simp
  · simp only [z0G]
    rw [if_pos (by omega), z0h 0 hk, Option.bind_some, Option.bind_some, if_pos rfl, z2d (by omega)]
    simp
end
section
open Go
noncomputable section
set_option maxRecDepth 100000
set_option maxHeartbeats 6000000
instance : IsS Rul := ⟨⟩
instance : IsS Enm := ⟨⟩
instance : IsS Eru := ⟨⟩
def z0r (a0 : Eru) (a1 : List Int) (a2 : Int) (a3 : Int) (a4 : ByteArray) (a5 : Int) : Option (Int × Eru) :=
  (z0D a1).bind fun v2 =>
  chk (z1t 24 (a0.e.elems.length + 1)) <|
  chk (z1t 8 (a0.e.pre.length + 1)) <|
  chk (z1t 8 (a0.e.last.length + 1)) <|
  chk (z1t 16 (a0.words.length + 1)) <|
  chk (z1t 8 (a0.behind.length + 1)) <|
  some ((a0.e.elems.length : Int), (⟨⟨a0.e.points, a0.e.monoid, a0.e.gens, a0.e.elems ++ [a1], a0.e.pre ++ [a2], a0.e.last ++ [a3], a0.e.right, a0.e.rules, a0.e.done⟩, z9J v2 (a0.e.elems.length : Int) a0.number, a0.words ++ [a4], a0.behind ++ [a5], a0.single⟩ : Eru))
instance enumerate_run_add_ok {a0 : Eru} {a1 : List Int} {a2 : Int} {a3 : Int} {a4 : ByteArray} {a5 : Int} : Ok (z0r a0 a1 a2 a3 a4 a5) (fun r => L 77 [.vr [.sc (.int .i64 a0.e.points), .sc (.bool a0.e.monoid), .sl a0.e.gens.length (a0.e.gens.map fun x0 => .sl x0.length (x0.map fun x1 => .sc (.int .i64 x1))), .os 1 a0.e.elems.length (a0.e.elems.map fun x0 => .sl x0.length (x0.map fun x1 => .sc (.int .i64 x1))), .os 1 a0.e.pre.length (a0.e.pre.map fun x0 => .sc (.int .i64 x0)), .os 1 a0.e.last.length (a0.e.last.map fun x0 => .sc (.int .i64 x0)), .os 1 a0.e.right.length (a0.e.right.map fun x0 => .sl x0.length (x0.map fun x1 => .sc (.int .i64 x1))), .os 2 a0.e.rules.length (a0.e.rules.flatMap fun x0 => [.sc (.string x0.left), .sc (.string x0.right)]), .sc (.int .i64 a0.e.done), .mp none (a0.number.map fun x0 => (.string x0.1, .int .i64 x0.2)), .os 1 a0.words.length (a0.words.map fun x0 => .sc (.string x0)), .os 1 a0.behind.length (a0.behind.map fun x0 => .sc (.int .i64 x0)), .os 1 a0.single.length (a0.single.map fun x0 => .sc (.int .i64 x0))], .sl a1.length (a1.map fun x0 => .sc (.int .i64 x0)), .sc (.int .i64 a2), .sc (.int .i64 a3), .sc (.string a4), .sc (.int .i64 a5)] = some (.sc (.int .i64 r.1), [.vr [.sc (.int .i64 r.2.e.points), .sc (.bool r.2.e.monoid), .sl r.2.e.gens.length (r.2.e.gens.map fun x0 => .sl x0.length (x0.map fun x1 => .sc (.int .i64 x1))), .os 1 r.2.e.elems.length (r.2.e.elems.map fun x0 => .sl x0.length (x0.map fun x1 => .sc (.int .i64 x1))), .os 1 r.2.e.pre.length (r.2.e.pre.map fun x0 => .sc (.int .i64 x0)), .os 1 r.2.e.last.length (r.2.e.last.map fun x0 => .sc (.int .i64 x0)), .os 1 r.2.e.right.length (r.2.e.right.map fun x0 => .sl x0.length (x0.map fun x1 => .sc (.int .i64 x1))), .os 2 r.2.e.rules.length (r.2.e.rules.flatMap fun x0 => [.sc (.string x0.left), .sc (.string x0.right)]), .sc (.int .i64 r.2.e.done), .mp none (r.2.number.map fun x0 => (.string x0.1, .int .i64 x0.2)), .os 1 r.2.words.length (r.2.words.map fun x0 => .sc (.string x0)), .os 1 r.2.behind.length (r.2.behind.map fun x0 => .sc (.int .i64 x0)), .os 1 r.2.single.length (r.2.single.map fun x0 => .sc (.int .i64 x0))], .dead, .dead, .dead, .dead, .dead])) := ⟨fun r h => by have h := z5e h; unfold z0r at h; exact z5W zmS zo5 zp3⟩
abbrev z0O (v86 : Int × Eru) : Int × Int × Bool × List (List Int) × List (List Int) × List Int × List Int × List (List Int) × List Rul × Int × (List (ByteArray × Int)) × List ByteArray × List Int × List Int -> Option ((Int × Int × Bool × List (List Int) × List (List Int) × List Int × List Int × List (List Int) × List Rul × Int × (List (ByteArray × Int)) × List ByteArray × List Int × List Int) ⊕ ((Unit × Int) ⊕ (Eru × Int)))
  | (w92, w95, w96, w97, w98, w99, w100, w101, w93, w102, w103, w104, w105, w94) =>
  if w92 < (v86.2.e.gens.length : Int) then
    (atI v86.2.e.gens w92).bind fun v111 =>
    (z0D v111).bind fun v112 =>
    if ((z3Q v112 w103).isSome) = true then
      (atI w104 ((z3Q v112 w103).getD 0)).bind fun v113 =>
      chk (z1t 32 (w93.length + 1)) <|
      chk (z1t 8 (w94.length + 1)) <|
      z0J (IntKind.i64.wrap (w92 + 1), w95, w96, w97, w98, w99, w100, w101, w93 ++ [(⟨Utf8.encode (IntKind.i32.wrap (IntKind.i64.wrap (97 + w92))), v113⟩ : Rul)], w102, w103, w104, w105, w94 ++ [((z3Q v112 w103).getD 0)])
    else
      (z3o v111).bind fun v114 =>
      (z0r (⟨⟨w95, w96, w97, w98, w99, w100, w101, w93, w102⟩, w103, w104, w105, w94⟩ : Eru) v114 v86.1 w92 (Utf8.encode (IntKind.i32.wrap (IntKind.i64.wrap (97 + w92)))) v86.1).bind fun v115 =>
      chk (z1t 8 (v115.2.single.length + 1)) <|
      z0J (IntKind.i64.wrap (w92 + 1), v115.2.e.points, v115.2.e.monoid, v115.2.e.gens, v115.2.e.elems, v115.2.e.pre, v115.2.e.last, v115.2.e.right, v115.2.e.rules, v115.2.e.done, v115.2.number, v115.2.words, v115.2.behind, v115.2.single ++ [v115.1])
  else
    z0p <|
    some (.inr ((⟨⟨w95, w96, w97, w98, w99, w100, w101, w93, w102⟩, w103, w104, w105, w94⟩ : Eru), 0))
instance {v86 : Int × Eru} : Hd (z0O v86) := ⟨fun (w92, w95, w96, w97, w98, w99, w100, w101, w93, w102, w103, w104, w105, w94) => ([(87, xI w92)], [(25, .vr [.sc (.int .i64 w95), .sc (.bool w96), .sl w97.length (w97.map fun x0 => .sl x0.length (x0.map fun x1 => .sc (.int .i64 x1))), .os 1 w98.length (w98.map fun x0 => .sl x0.length (x0.map fun x1 => .sc (.int .i64 x1))), .os 1 w99.length (w99.map fun x0 => .sc (.int .i64 x0)), .os 1 w100.length (w100.map fun x0 => .sc (.int .i64 x0)), .os 1 w101.length (w101.map fun x0 => .sl x0.length (x0.map fun x1 => .sc (.int .i64 x1))), .os 2 w93.length (w93.flatMap fun x0 => [.sc (.string x0.left), .sc (.string x0.right)]), .sc (.int .i64 w102), .mp none (w103.map fun x0 => (.string x0.1, .int .i64 x0.2)), .os 1 w104.length (w104.map fun x0 => .sc (.string x0)), .os 1 w105.length (w105.map fun x0 => .sc (.int .i64 x0)), .os 1 w94.length (w94.map fun x0 => .sc (.int .i64 x0))])])⟩
abbrev z0M (w78 : List (List Int)) : Int × Int × Bool × List (List Int) × List (List Int) × List Int × List Int × List (List Int) × List Rul × Int × (List (ByteArray × Int)) × List ByteArray × List Int × List Int -> Option ((Int × Int × Bool × List (List Int) × List (List Int) × List Int × List Int × List (List Int) × List Rul × Int × (List (ByteArray × Int)) × List ByteArray × List Int × List Int) ⊕ ((Unit × Int) ⊕ (Eru × Int)))
  | (w121, w125, w126, w127, w128, w129, w130, w131, w122, w132, w133, w123, w134, w124) =>
  if w121 < (w78.length : Int) then
    (atI w78 w121).bind fun v140 =>
    (z0D v140).bind fun v141 =>
    if ((z3Q v141 w133).isSome) = true then
      (atI w123 ((z3Q v141 w133).getD 0)).bind fun v142 =>
      chk (z1t 32 (w122.length + 1)) <|
      chk (z1t 8 (w124.length + 1)) <|
      z0J (IntKind.i64.wrap (w121 + 1), w125, w126, w127, w128, w129, w130, w131, w122 ++ [(⟨Utf8.encode (IntKind.i32.wrap (IntKind.i64.wrap (97 + w121))), v142⟩ : Rul)], w132, w133, w123, w134, w124 ++ [((z3Q v141 w133).getD 0)])
    else
      (z3o v140).bind fun v143 =>
      (z0r (⟨⟨w125, w126, w127, w128, w129, w130, w131, w122, w132⟩, w133, w123, w134, w124⟩ : Eru) v143 (-1) w121 (Utf8.encode (IntKind.i32.wrap (IntKind.i64.wrap (97 + w121)))) (-1)).bind fun v144 =>
      chk (z1t 8 (v144.2.single.length + 1)) <|
      z0J (IntKind.i64.wrap (w121 + 1), v144.2.e.points, v144.2.e.monoid, v144.2.e.gens, v144.2.e.elems, v144.2.e.pre, v144.2.e.last, v144.2.e.right, v144.2.e.rules, v144.2.e.done, v144.2.number, v144.2.words, v144.2.behind, v144.2.single ++ [v144.1])
  else
    z0p <|
    some (.inr ((⟨⟨w125, w126, w127, w128, w129, w130, w131, w122, w132⟩, w133, w123, w134, w124⟩ : Eru), 0))
instance {w78 : List (List Int)} : Hd (z0M w78) := ⟨fun (w121, w125, w126, w127, w128, w129, w130, w131, w122, w132, w133, w123, w134, w124) => ([(87, xI w121)], [(25, .vr [.sc (.int .i64 w125), .sc (.bool w126), .sl w127.length (w127.map fun x0 => .sl x0.length (x0.map fun x1 => .sc (.int .i64 x1))), .os 1 w128.length (w128.map fun x0 => .sl x0.length (x0.map fun x1 => .sc (.int .i64 x1))), .os 1 w129.length (w129.map fun x0 => .sc (.int .i64 x0)), .os 1 w130.length (w130.map fun x0 => .sc (.int .i64 x0)), .os 1 w131.length (w131.map fun x0 => .sl x0.length (x0.map fun x1 => .sc (.int .i64 x1))), .os 2 w122.length (w122.flatMap fun x0 => [.sc (.string x0.left), .sc (.string x0.right)]), .sc (.int .i64 w132), .mp none (w133.map fun x0 => (.string x0.1, .int .i64 x0.2)), .os 1 w123.length (w123.map fun x0 => .sc (.string x0)), .os 1 w134.length (w134.map fun x0 => .sc (.int .i64 x0)), .os 1 w124.length (w124.map fun x0 => .sc (.int .i64 x0))])])⟩
abbrev z1q (a0 : List (List Int)) (a1 : Bool) (v73 : List Int) : Int × List (List Int) -> Option ((Int × List (List Int)) ⊕ ((Unit × Int) ⊕ (Eru × Int)))
  | (w77, w78) =>
  if w77 < (a0.length : Int) then
    (atI a0 w77).bind fun v82 =>
    if (v82.length : Int) = (v73.length : Int) then
      (z0S v82).bind fun v83 =>
      if v83 = true then
        (z3o v82).bind fun v84 =>
        chk (z1t 24 (w78.length + 1)) <|
        z0J (IntKind.i64.wrap (w77 + 1), w78 ++ [v84])
      else
        z0p <|
        some (.inl ((), 4))
    else
      z0p <|
      some (.inl ((), 4))
  else
    z0p <|
    if a1 = true then
      (z1M (v73.length : Int)).bind fun v85 =>
      (z0r (⟨⟨(v73.length : Int), true, w78, [], [], [], [], [], 0⟩, ([] : List (ByteArray × Int)), [], [], []⟩ : Eru) v85 (-1) (-1) ByteArray.empty (-1)).bind fun v86 =>
      z0C (z0O v86) LFm (0, v86.2.e.points, v86.2.e.monoid, v86.2.e.gens, v86.2.e.elems, v86.2.e.pre, v86.2.e.last, v86.2.e.right, v86.2.e.rules, v86.2.e.done, v86.2.number, v86.2.words, v86.2.behind, v86.2.single)
    else
      z0C (z0M w78) LFm (0, (v73.length : Int), a1, w78, [], [], [], [], [], 0, ([] : List (ByteArray × Int)), [], [], [])
instance {a0 : List (List Int)} {a1 : Bool} {v73 : List Int} : Hd (z1q a0 a1 v73) := ⟨fun (w77, w78) => ([(41, xI w77)], [(25, .vr [.sc (.int .i64 (v73.length : Int)), .sc (.bool a1), .os 1 w78.length (w78.map fun x0 => .os 1 x0.length (x0.map fun x1 => .sc (.int .i64 x1))), .os 1 0 [], .os 1 0 [], .os 1 0 [], .os 1 0 [], .os 2 0 [], .sc (.int .i64 0), .mp none (([] : List (ByteArray × Int)).map fun x0 => (.string x0.1, .int .i64 x0.2)), .os 1 0 [], .os 1 0 [], .os 1 0 []])])⟩
def z0Y (a0 : List (List Int)) (a1 : Bool) : Option ((Unit × Int) ⊕ (Eru × Int)) :=
  if (a0.length : Int) = 0 then
    some (.inl ((), 1))
  else
    if 6 < (a0.length : Int) then
      some (.inl ((), 1))
    else
      (atI a0 0).bind fun v73 =>
      z0C (z1q a0 a1 v73) LFm (0, [])
instance enumerate_begin_ok {a0 : List (List Int)} {a1 : Bool} : Ok (z0Y a0 a1) (fun r => L 35 [.sl a0.length (a0.map fun x0 => .sl x0.length (x0.map fun x1 => .sc (.int .i64 x1))), .sc (.bool a1)] = some (match r with | (.inl r) => (.tup [.sc (.pointer none), .sc (.int .i64 r.2)], [.dead, .dead]) | (.inr r) => (.tup [.vr [.sc (.int .i64 r.1.e.points), .sc (.bool r.1.e.monoid), .sl r.1.e.gens.length (r.1.e.gens.map fun x0 => .sl x0.length (x0.map fun x1 => .sc (.int .i64 x1))), .os 1 r.1.e.elems.length (r.1.e.elems.map fun x0 => .sl x0.length (x0.map fun x1 => .sc (.int .i64 x1))), .os 1 r.1.e.pre.length (r.1.e.pre.map fun x0 => .sc (.int .i64 x0)), .os 1 r.1.e.last.length (r.1.e.last.map fun x0 => .sc (.int .i64 x0)), .os 1 r.1.e.right.length (r.1.e.right.map fun x0 => .sl x0.length (x0.map fun x1 => .sc (.int .i64 x1))), .os 2 r.1.e.rules.length (r.1.e.rules.flatMap fun x0 => [.sc (.string x0.left), .sc (.string x0.right)]), .sc (.int .i64 r.1.e.done), .mp none (r.1.number.map fun x0 => (.string x0.1, .int .i64 x0.2)), .os 1 r.1.words.length (r.1.words.map fun x0 => .sc (.string x0)), .os 1 r.1.behind.length (r.1.behind.map fun x0 => .sc (.int .i64 x0)), .os 1 r.1.single.length (r.1.single.map fun x0 => .sc (.int .i64 x0))], .sc (.int .i64 r.2)], [.dead, .dead]))) := ⟨fun r h => by have h := z5e h; unfold z0Y at h; exact z5W zn4 zoh zpf⟩
end
end
section
open Go
noncomputable section
set_option maxRecDepth 100000
set_option maxHeartbeats 6000000
instance : IsS Rul := ⟨⟩
instance : IsS Enm := ⟨⟩
instance : IsS Eru := ⟨⟩
def z0B (a0 : Eru) (a1 : Int) (a2 : Int) : Option (Int × Eru) :=
  if a1 = (-1) then
    (atI a0.single a2).bind fun v4 =>
    some (v4, a0)
  else
    (atI a0.e.right a1).bind fun v5 =>
    (atI v5 a2).bind fun v6 =>
    some (v6, a0)
instance enumerate_run_after_ok {a0 : Eru} {a1 : Int} {a2 : Int} : Ok (z0B a0 a1 a2) (fun r => L 80 [.vr [.sc (.int .i64 a0.e.points), .sc (.bool a0.e.monoid), .sl a0.e.gens.length (a0.e.gens.map fun x0 => .sl x0.length (x0.map fun x1 => .sc (.int .i64 x1))), .os 1 a0.e.elems.length (a0.e.elems.map fun x0 => .sl x0.length (x0.map fun x1 => .sc (.int .i64 x1))), .os 1 a0.e.pre.length (a0.e.pre.map fun x0 => .sc (.int .i64 x0)), .os 1 a0.e.last.length (a0.e.last.map fun x0 => .sc (.int .i64 x0)), .os 1 a0.e.right.length (a0.e.right.map fun x0 => .sl x0.length (x0.map fun x1 => .sc (.int .i64 x1))), .os 2 a0.e.rules.length (a0.e.rules.flatMap fun x0 => [.sc (.string x0.left), .sc (.string x0.right)]), .sc (.int .i64 a0.e.done), .mp none (a0.number.map fun x0 => (.string x0.1, .int .i64 x0.2)), .os 1 a0.words.length (a0.words.map fun x0 => .sc (.string x0)), .os 1 a0.behind.length (a0.behind.map fun x0 => .sc (.int .i64 x0)), .os 1 a0.single.length (a0.single.map fun x0 => .sc (.int .i64 x0))], .sc (.int .i64 a1), .sc (.int .i64 a2)] = some (.sc (.int .i64 r.1), [.vr [.sc (.int .i64 r.2.e.points), .sc (.bool r.2.e.monoid), .sl r.2.e.gens.length (r.2.e.gens.map fun x0 => .sl x0.length (x0.map fun x1 => .sc (.int .i64 x1))), .os 1 r.2.e.elems.length (r.2.e.elems.map fun x0 => .sl x0.length (x0.map fun x1 => .sc (.int .i64 x1))), .os 1 r.2.e.pre.length (r.2.e.pre.map fun x0 => .sc (.int .i64 x0)), .os 1 r.2.e.last.length (r.2.e.last.map fun x0 => .sc (.int .i64 x0)), .os 1 r.2.e.right.length (r.2.e.right.map fun x0 => .sl x0.length (x0.map fun x1 => .sc (.int .i64 x1))), .os 2 r.2.e.rules.length (r.2.e.rules.flatMap fun x0 => [.sc (.string x0.left), .sc (.string x0.right)]), .sc (.int .i64 r.2.e.done), .mp none (r.2.number.map fun x0 => (.string x0.1, .int .i64 x0.2)), .os 1 r.2.words.length (r.2.words.map fun x0 => .sc (.string x0)), .os 1 r.2.behind.length (r.2.behind.map fun x0 => .sc (.int .i64 x0)), .os 1 r.2.single.length (r.2.single.map fun x0 => .sc (.int .i64 x0))], .dead, .dead])) := ⟨fun r h => by have h := z5e h; unfold z0B at h; exact z5W zmP zo2 zp0⟩
def z0w (a0 : Eru) (a1 : Int) (a2 : Int) : Option (Bool × Eru) :=
  (z0B a0 a1 a2).bind fun v4 =>
  (atI v4.2.e.pre v4.1).bind fun v5 =>
  if v5 = a1 then
    (atI v4.2.e.last v4.1).bind fun v6 =>
    some (decide (v6 = a2), v4.2)
  else
    some (false, v4.2)
instance enumerate_run_reducedAfter_ok {a0 : Eru} {a1 : Int} {a2 : Int} : Ok (z0w a0 a1 a2) (fun r => L 81 [.vr [.sc (.int .i64 a0.e.points), .sc (.bool a0.e.monoid), .sl a0.e.gens.length (a0.e.gens.map fun x0 => .sl x0.length (x0.map fun x1 => .sc (.int .i64 x1))), .os 1 a0.e.elems.length (a0.e.elems.map fun x0 => .sl x0.length (x0.map fun x1 => .sc (.int .i64 x1))), .os 1 a0.e.pre.length (a0.e.pre.map fun x0 => .sc (.int .i64 x0)), .os 1 a0.e.last.length (a0.e.last.map fun x0 => .sc (.int .i64 x0)), .os 1 a0.e.right.length (a0.e.right.map fun x0 => .sl x0.length (x0.map fun x1 => .sc (.int .i64 x1))), .os 2 a0.e.rules.length (a0.e.rules.flatMap fun x0 => [.sc (.string x0.left), .sc (.string x0.right)]), .sc (.int .i64 a0.e.done), .mp none (a0.number.map fun x0 => (.string x0.1, .int .i64 x0.2)), .os 1 a0.words.length (a0.words.map fun x0 => .sc (.string x0)), .os 1 a0.behind.length (a0.behind.map fun x0 => .sc (.int .i64 x0)), .os 1 a0.single.length (a0.single.map fun x0 => .sc (.int .i64 x0))], .sc (.int .i64 a1), .sc (.int .i64 a2)] = some (.sc (.bool r.1), [.vr [.sc (.int .i64 r.2.e.points), .sc (.bool r.2.e.monoid), .sl r.2.e.gens.length (r.2.e.gens.map fun x0 => .sl x0.length (x0.map fun x1 => .sc (.int .i64 x1))), .os 1 r.2.e.elems.length (r.2.e.elems.map fun x0 => .sl x0.length (x0.map fun x1 => .sc (.int .i64 x1))), .os 1 r.2.e.pre.length (r.2.e.pre.map fun x0 => .sc (.int .i64 x0)), .os 1 r.2.e.last.length (r.2.e.last.map fun x0 => .sc (.int .i64 x0)), .os 1 r.2.e.right.length (r.2.e.right.map fun x0 => .sl x0.length (x0.map fun x1 => .sc (.int .i64 x1))), .os 2 r.2.e.rules.length (r.2.e.rules.flatMap fun x0 => [.sc (.string x0.left), .sc (.string x0.right)]), .sc (.int .i64 r.2.e.done), .mp none (r.2.number.map fun x0 => (.string x0.1, .int .i64 x0.2)), .os 1 r.2.words.length (r.2.words.map fun x0 => .sc (.string x0)), .os 1 r.2.behind.length (r.2.behind.map fun x0 => .sc (.int .i64 x0)), .os 1 r.2.single.length (r.2.single.map fun x0 => .sc (.int .i64 x0))], .dead, .dead])) := ⟨fun r h => by have h := z5e h; unfold z0w at h; exact z5W zmO zo1 zoZ⟩
def z0g (a0 : Eru) : Option (Bool × Eru) :=
  some (decide (a0.e.done = (a0.e.elems.length : Int)), a0)
instance enumerate_run_finished_ok {a0 : Eru} : Ok (z0g a0) (fun r => L 36 [.vr [.sc (.int .i64 a0.e.points), .sc (.bool a0.e.monoid), .sl a0.e.gens.length (a0.e.gens.map fun x0 => .sl x0.length (x0.map fun x1 => .sc (.int .i64 x1))), .os 1 a0.e.elems.length (a0.e.elems.map fun x0 => .sl x0.length (x0.map fun x1 => .sc (.int .i64 x1))), .os 1 a0.e.pre.length (a0.e.pre.map fun x0 => .sc (.int .i64 x0)), .os 1 a0.e.last.length (a0.e.last.map fun x0 => .sc (.int .i64 x0)), .os 1 a0.e.right.length (a0.e.right.map fun x0 => .sl x0.length (x0.map fun x1 => .sc (.int .i64 x1))), .os 2 a0.e.rules.length (a0.e.rules.flatMap fun x0 => [.sc (.string x0.left), .sc (.string x0.right)]), .sc (.int .i64 a0.e.done), .mp none (a0.number.map fun x0 => (.string x0.1, .int .i64 x0.2)), .os 1 a0.words.length (a0.words.map fun x0 => .sc (.string x0)), .os 1 a0.behind.length (a0.behind.map fun x0 => .sc (.int .i64 x0)), .os 1 a0.single.length (a0.single.map fun x0 => .sc (.int .i64 x0))]] = some (.sc (.bool r.1), [.vr [.sc (.int .i64 r.2.e.points), .sc (.bool r.2.e.monoid), .sl r.2.e.gens.length (r.2.e.gens.map fun x0 => .sl x0.length (x0.map fun x1 => .sc (.int .i64 x1))), .os 1 r.2.e.elems.length (r.2.e.elems.map fun x0 => .sl x0.length (x0.map fun x1 => .sc (.int .i64 x1))), .os 1 r.2.e.pre.length (r.2.e.pre.map fun x0 => .sc (.int .i64 x0)), .os 1 r.2.e.last.length (r.2.e.last.map fun x0 => .sc (.int .i64 x0)), .os 1 r.2.e.right.length (r.2.e.right.map fun x0 => .sl x0.length (x0.map fun x1 => .sc (.int .i64 x1))), .os 2 r.2.e.rules.length (r.2.e.rules.flatMap fun x0 => [.sc (.string x0.left), .sc (.string x0.right)]), .sc (.int .i64 r.2.e.done), .mp none (r.2.number.map fun x0 => (.string x0.1, .int .i64 x0.2)), .os 1 r.2.words.length (r.2.words.map fun x0 => .sc (.string x0)), .os 1 r.2.behind.length (r.2.behind.map fun x0 => .sc (.int .i64 x0)), .os 1 r.2.single.length (r.2.single.map fun x0 => .sc (.int .i64 x0))]])) := ⟨fun r h => by have h := z5e h; unfold z0g at h; exact z5W zn3 zog zpe⟩
abbrev z0H (a0 : Eru) : Int × Int × Bool × List (List Int) × List (List Int) × List Int × List Int × List (List Int) × List Rul × Int × (List (ByteArray × Int)) × List ByteArray × List Int × List Int × List Int -> Option ((Int × Int × Bool × List (List Int) × List (List Int) × List Int × List Int × List (List Int) × List Rul × Int × (List (ByteArray × Int)) × List ByteArray × List Int × List Int × List Int) ⊕ (Int × Eru))
  | (w72, w74, w75, w76, w77, w78, w79, w80, w81, w82, w83, w84, w85, w86, w73) =>
  if w72 < (a0.e.gens.length : Int) then
    (atI a0.e.gens w72).bind fun v103 =>
    (atI w77 a0.e.done).bind fun v104 =>
    (z2f v104 v103).bind fun v105 =>
    (z0D v105).bind fun v106 =>
    (atI w84 a0.e.done).bind fun v107 =>
    chk (zaq v107 (Utf8.encode (IntKind.i32.wrap (IntKind.i64.wrap (97 + w72))))) <|
    if ((z3Q v106 w83).isSome) = true then
      if v107 = ByteArray.empty then
        (atI w73 w72).bind fun v109 =>
        z0J (IntKind.i64.wrap (w72 + 1), w74, w75, w76, w77, w78, w79, w80, w81, w82, w83, w84, w85, w86, (w73.set w72.toNat ((z3Q v106 w83).getD 0)))
      else
        (atI w85 a0.e.done).bind fun v110 =>
        (z0w (⟨⟨w74, w75, w76, w77, w78, w79, w80, w81, w82⟩, w83, w84, w85, w86⟩ : Eru) v110 w72).bind fun v111 =>
        if v111.1 = true then
          (atI v111.2.words ((z3Q v106 w83).getD 0)).bind fun v112 =>
          chk (z1t 32 (v111.2.e.rules.length + 1)) <|
          (atI w73 w72).bind fun v113 =>
          z0J (IntKind.i64.wrap (w72 + 1), v111.2.e.points, v111.2.e.monoid, v111.2.e.gens, v111.2.e.elems, v111.2.e.pre, v111.2.e.last, v111.2.e.right, v111.2.e.rules ++ [(⟨v107 ++ (Utf8.encode (IntKind.i32.wrap (IntKind.i64.wrap (97 + w72)))), v112⟩ : Rul)], v111.2.e.done, v111.2.number, v111.2.words, v111.2.behind, v111.2.single, (w73.set w72.toNat ((z3Q v106 w83).getD 0)))
        else
          (atI w73 w72).bind fun v114 =>
          z0J (IntKind.i64.wrap (w72 + 1), v111.2.e.points, v111.2.e.monoid, v111.2.e.gens, v111.2.e.elems, v111.2.e.pre, v111.2.e.last, v111.2.e.right, v111.2.e.rules, v111.2.e.done, v111.2.number, v111.2.words, v111.2.behind, v111.2.single, (w73.set w72.toNat ((z3Q v106 w83).getD 0)))
    else
      if (w77.length : Int) = 2000 then
        z0p <|
        some (3, (⟨⟨w74, w75, w76, w77, w78, w79, w80, w81, w82⟩, w83, w84, w85, w86⟩ : Eru))
      else
        (atI w85 a0.e.done).bind fun v115 =>
        (z0B (⟨⟨w74, w75, w76, w77, w78, w79, w80, w81, w82⟩, w83, w84, w85, w86⟩ : Eru) v115 w72).bind fun v116 =>
        (z0r v116.2 v105 a0.e.done w72 (v107 ++ (Utf8.encode (IntKind.i32.wrap (IntKind.i64.wrap (97 + w72))))) v116.1).bind fun v117 =>
        (atI w73 w72).bind fun v118 =>
        z0J (IntKind.i64.wrap (w72 + 1), v117.2.e.points, v117.2.e.monoid, v117.2.e.gens, v117.2.e.elems, v117.2.e.pre, v117.2.e.last, v117.2.e.right, v117.2.e.rules, v117.2.e.done, v117.2.number, v117.2.words, v117.2.behind, v117.2.single, (w73.set w72.toNat v117.1))
  else
    z0p <|
    chk (z1t 24 (w80.length + 1)) <|
    some (0, (⟨⟨w74, w75, w76, w77, w78, w79, w80 ++ [w73], w81, IntKind.i64.wrap (w82 + 1)⟩, w83, w84, w85, w86⟩ : Eru))
instance {a0 : Eru} : Hd (z0H a0) := ⟨fun (w72, w74, w75, w76, w77, w78, w79, w80, w81, w82, w83, w84, w85, w86, w73) => ([(29, xI w72)], [(0, .vr [.sc (.int .i64 w74), .sc (.bool w75), .sl w76.length (w76.map fun x0 => .sl x0.length (x0.map fun x1 => .sc (.int .i64 x1))), .os 1 w77.length (w77.map fun x0 => .sl x0.length (x0.map fun x1 => .sc (.int .i64 x1))), .os 1 w78.length (w78.map fun x0 => .sc (.int .i64 x0)), .os 1 w79.length (w79.map fun x0 => .sc (.int .i64 x0)), .os 1 w80.length (w80.map fun x0 => .sl x0.length (x0.map fun x1 => .sc (.int .i64 x1))), .os 2 w81.length (w81.flatMap fun x0 => [.sc (.string x0.left), .sc (.string x0.right)]), .sc (.int .i64 w82), .mp none (w83.map fun x0 => (.string x0.1, .int .i64 x0.2)), .os 1 w84.length (w84.map fun x0 => .sc (.string x0)), .os 1 w85.length (w85.map fun x0 => .sc (.int .i64 x0)), .os 1 w86.length (w86.map fun x0 => .sc (.int .i64 x0))]), (4, .os 1 w73.length (w73.map fun x0 => .sc (.int .i64 x0)))])⟩
def z0k (a0 : Eru) : Option (Int × Eru) :=
  chk (z1I 8 (a0.e.gens.length : Int)) <|
  z0C (z0H a0) LFm (0, a0.e.points, a0.e.monoid, a0.e.gens, a0.e.elems, a0.e.pre, a0.e.last, a0.e.right, a0.e.rules, a0.e.done, a0.number, a0.words, a0.behind, a0.single, List.replicate (a0.e.gens.length : Int).toNat (0 : Int))
instance enumerate_run_process_ok {a0 : Eru} : Ok (z0k a0) (fun r => L 37 [.vr [.sc (.int .i64 a0.e.points), .sc (.bool a0.e.monoid), .sl a0.e.gens.length (a0.e.gens.map fun x0 => .sl x0.length (x0.map fun x1 => .sc (.int .i64 x1))), .os 1 a0.e.elems.length (a0.e.elems.map fun x0 => .sl x0.length (x0.map fun x1 => .sc (.int .i64 x1))), .os 1 a0.e.pre.length (a0.e.pre.map fun x0 => .sc (.int .i64 x0)), .os 1 a0.e.last.length (a0.e.last.map fun x0 => .sc (.int .i64 x0)), .os 1 a0.e.right.length (a0.e.right.map fun x0 => .sl x0.length (x0.map fun x1 => .sc (.int .i64 x1))), .os 2 a0.e.rules.length (a0.e.rules.flatMap fun x0 => [.sc (.string x0.left), .sc (.string x0.right)]), .sc (.int .i64 a0.e.done), .mp none (a0.number.map fun x0 => (.string x0.1, .int .i64 x0.2)), .os 1 a0.words.length (a0.words.map fun x0 => .sc (.string x0)), .os 1 a0.behind.length (a0.behind.map fun x0 => .sc (.int .i64 x0)), .os 1 a0.single.length (a0.single.map fun x0 => .sc (.int .i64 x0))]] = some (.sc (.int .i64 r.1), [.vr [.sc (.int .i64 r.2.e.points), .sc (.bool r.2.e.monoid), .sl r.2.e.gens.length (r.2.e.gens.map fun x0 => .sl x0.length (x0.map fun x1 => .sc (.int .i64 x1))), .os 1 r.2.e.elems.length (r.2.e.elems.map fun x0 => .sl x0.length (x0.map fun x1 => .sc (.int .i64 x1))), .os 1 r.2.e.pre.length (r.2.e.pre.map fun x0 => .sc (.int .i64 x0)), .os 1 r.2.e.last.length (r.2.e.last.map fun x0 => .sc (.int .i64 x0)), .os 1 r.2.e.right.length (r.2.e.right.map fun x0 => .sl x0.length (x0.map fun x1 => .sc (.int .i64 x1))), .os 2 r.2.e.rules.length (r.2.e.rules.flatMap fun x0 => [.sc (.string x0.left), .sc (.string x0.right)]), .sc (.int .i64 r.2.e.done), .mp none (r.2.number.map fun x0 => (.string x0.1, .int .i64 x0.2)), .os 1 r.2.words.length (r.2.words.map fun x0 => .sc (.string x0)), .os 1 r.2.behind.length (r.2.behind.map fun x0 => .sc (.int .i64 x0)), .os 1 r.2.single.length (r.2.single.map fun x0 => .sc (.int .i64 x0))]])) := ⟨fun r h => by have h := z5e h; unfold z0k at h; exact z5W zn2 zof zpd⟩
end
end
section
open Go
set_option maxRecDepth 100000
set_option linter.unusedSectionVars false
structure EnI (n m : Nat) (G : List (List Int)) (mono : Bool) (c : Nat) (r : Eru) : Prop where
  pts : r.e.points = n
  mon : r.e.monoid = mono
  gens : r.e.gens = G
  nd : r.e.elems.Nodup
  tr : ∀ f ∈ r.e.elems, Tr n f
  num : ∀ f, Tr n f -> z3Q (z2I f) r.number = if f ∈ r.e.elems then some ((r.e.elems.idxOf f : Nat) : Int) else none
  lp : r.e.pre.length = r.e.elems.length
  ll : r.e.last.length = r.e.elems.length
  lw : r.words.length = r.e.elems.length
  lb : r.behind.length = r.e.elems.length
  sl : r.single.length = c
  sg : ∀ x, x < c -> G.getD x [] ∈ r.e.elems /\ r.single.getD x 0 = ((r.e.elems.idxOf (G.getD x []) : Nat) : Int)
  dn : r.e.done = r.e.right.length
  dl : r.e.right.length <= r.e.elems.length
  rt : ∀ u, u < r.e.right.length -> (r.e.right.getD u []).length = m /\ ∀ x, x < m -> z5f (r.e.elems.getD u []) (G.getD x []) ∈ r.e.elems /\ (r.e.right.getD u []).getD x 0 = ((r.e.elems.idxOf (z5f (r.e.elems.getD u []) (G.getD x [])) : Nat) : Int)
  nod : ∀ j, j < r.e.elems.length -> (r.e.last.getD j 0 = -1 /\ r.e.elems.getD j [] = idR n /\ mono = true) ∨ ∃ x, x < m /\ r.e.last.getD j 0 = ((x : Nat) : Int) /\ ((r.e.pre.getD j 0 = -1 /\ r.e.elems.getD j [] = G.getD x []) ∨ ∃ p, p < j /\ r.e.pre.getD j 0 = ((p : Nat) : Int) /\ r.e.elems.getD j [] = z5f (r.e.elems.getD p []) (G.getD x []))
  bh : ∀ j, j < r.e.elems.length -> -1 <= r.behind.getD j 0 /\ r.behind.getD j 0 < j
  wd : ∀ j, j < r.e.elems.length -> (r.words.getD j ByteArray.empty).size <= j + 1
  mz : mono = true -> 0 < r.e.elems.length /\ r.e.elems.getD 0 [] = idR n
def z3n (r : Eru) (f : List Int) (p x : Int) (w : ByteArray) (b : Int) : Eru := ⟨⟨r.e.points, r.e.monoid, r.e.gens, r.e.elems ++ [f], r.e.pre ++ [p], r.e.last ++ [x], r.e.right, r.e.rules, r.e.done⟩, z9J (z2I f) (r.e.elems.length : Int) r.number, r.words ++ [w], r.behind ++ [b], r.single⟩
def zaT (r : Eru) (q : List Rul) : Eru := ⟨⟨r.e.points, r.e.monoid, r.e.gens, r.e.elems, r.e.pre, r.e.last, r.e.right, q, r.e.done⟩, r.number, r.words, r.behind, r.single⟩
theorem z5a (r : Eru) : (⟨⟨r.e.points, r.e.monoid, r.e.gens, r.e.elems, r.e.pre, r.e.last, r.e.right, r.e.rules, r.e.done⟩, r.number, r.words, r.behind, r.single⟩ : Eru) = r := rfl
def ltr (x : Nat) : ByteArray := Utf8.encode (IntKind.i32.wrap (IntKind.i64.wrap (97 + (x : Int))))
theorem zhZ : ∀ x : Fin 6, (ltr x.val).size = 1 := by decide +kernel
theorem z8J {x : Nat} (h : x < 6) : (ltr x).size = 1 := zhZ ⟨x, h⟩
section
variable {n m : Nat} {G : List (List Int)} {mono : Bool} (hG : GenP n m G) (h3 : n <= 3)
include hG h3
theorem EnI.le {c : Nat} {r : Eru} (hI : EnI n m G mono c r) : r.e.elems.length <= 27 := zjK h3 hI.nd hI.tr
theorem zfv {c : Nat} {r : Eru} (hI : EnI n m G mono c r) {f : List Int} (hf : Tr n f) (p x : Int) (w : ByteArray) (b : Int) : z0r r f p x w b = some ((r.e.elems.length : Int), z3n r f p x w b) := by
  have hl := hI.le hG h3
  have h1 := hI.lp
  have h2 := hI.ll
  have h4 := hI.lw
  have h5 := hI.lb
  unfold z0r
  rw [z5B hf (by omega), Option.bind_some, z0F _ (by unfold z1t; omega), z0F _ (by unfold z1t; omega), z0F _ (by unfold z1t; omega), z0F _ (by unfold z1t; omega), z0F _ (by unfold z1t; omega)]
  rfl
theorem EnI.add {c : Nat} {r : Eru} (hI : EnI n m G mono c r) {f : List Int} (hf : Tr n f) (hn : f ∉ r.e.elems) {p : Int} {x : Nat} (hx : x < m) {w : ByteArray} {b : Int} (hp : (p = -1 /\ f = G.getD x []) ∨ ∃ q : Nat, q < r.e.elems.length /\ p = q /\ f = z5f (r.e.elems.getD q []) (G.getD x [])) (hw : w.size <= r.e.elems.length + 1) (hb : -1 <= b /\ b < r.e.elems.length) : EnI n m G mono c (z3n r f p x w b) := by
  have h1 := hI.lp
  have h2 := hI.ll
  have h4 := hI.lw
  have h5 := hI.lb
  have hd := hI.dl
  refine ⟨hI.pts, hI.mon, hI.gens, ?_, ?_, ?_, by simp [z3n, h1], by simp [z3n, h2], by simp [z3n, h4], by simp [z3n, h5], hI.sl, ?_, hI.dn, by simp [z3n]; omega, ?_, ?_, ?_, ?_, ?_⟩
  · simp only [z3n]
    rw [List.nodup_append]
    exact ⟨hI.nd, by simp, fun a ha b hb e => by simp at hb; subst hb; subst e; exact hn ha⟩
  · intro g hg
    rcases List.mem_append.1 hg with h | h
    · exact hI.tr g h
    · simp at h; subst h; exact hf
  · intro g hg
    show z3Q (z2I g) (z9J (z2I f) (r.e.elems.length : Int) r.number) = if g ∈ r.e.elems ++ [f] then some (((r.e.elems ++ [f]).idxOf g : Nat) : Int) else none
    rw [zib]
    by_cases e : g = f
    · subst e
      rw [if_pos rfl, if_pos (by simp), zc0 hn]
    · rw [if_neg (fun h => e (zbB hg hf (by omega) h.symm)), hI.num g hg]
      by_cases hm : g ∈ r.e.elems
      · rw [if_pos hm, if_pos (by simp [hm]), zc1 hm]
      · rw [if_neg hm, if_neg (by simp [hm, e])]
  · intro y hy
    obtain ⟨a, b⟩ := hI.sg y hy
    exact ⟨List.mem_append_left _ a, by simp only [z3n]; rw [zc1 a]; exact b⟩
  · intro u hu
    obtain ⟨a, b⟩ := hI.rt u hu
    refine ⟨a, fun y hy => ?_⟩
    obtain ⟨b1, b2⟩ := b y hy
    have e : (r.e.elems ++ [f]).getD u [] = r.e.elems.getD u [] := by rw [z2G, if_pos (by simp only [z3n] at hu; omega)]
    simp only [z3n]
    rw [e]
    exact ⟨List.mem_append_left _ b1, by rw [zc1 b1]; exact b2⟩
  · intro j hj
    simp only [z3n, List.length_append, List.length_singleton] at hj
    simp only [z3n]
    rw [z2G, z2G, z2G, h1, h2]
    by_cases e : j < r.e.elems.length
    · rw [if_pos e, if_pos e, if_pos e]
      rcases hI.nod j e with h | ⟨y, y1, y2, y3⟩
      · exact .inl h
      · refine .inr ⟨y, y1, y2, ?_⟩
        rcases y3 with h | ⟨q, q1, q2, q3⟩
        · exact .inl h
        · exact .inr ⟨q, q1, q2, by rw [z2G, if_pos (by omega)]; exact q3⟩
    · obtain rfl : j = r.e.elems.length := by omega
      simp only [Nat.lt_irrefl, if_false, if_true]
      refine .inr ⟨x, hx, rfl, ?_⟩
      rcases hp with h | ⟨q, q1, q2, q3⟩
      · exact .inl h
      · exact .inr ⟨q, q1, q2, by rw [z2G, if_pos q1]; exact q3⟩
  · intro j hj
    simp only [z3n, List.length_append, List.length_singleton] at hj
    simp only [z3n]
    rw [z2G, h5]
    by_cases e : j < r.e.elems.length
    · rw [if_pos e]; exact hI.bh j e
    · obtain rfl : j = r.e.elems.length := by omega
      simpa using hb
  · intro j hj
    simp only [z3n, List.length_append, List.length_singleton] at hj
    simp only [z3n]
    rw [z2G, h4]
    by_cases e : j < r.e.elems.length
    · rw [if_pos e]; exact hI.wd j e
    · obtain rfl : j = r.e.elems.length := by omega
      simpa using hw
  · intro hm
    obtain ⟨a, b⟩ := hI.mz hm
    simp only [z3n]
    exact ⟨by simp, by rw [z2G, if_pos a]; exact b⟩
omit hG h3 in
theorem EnI.rules {c : Nat} {r : Eru} (hI : EnI n m G mono c r) (q : List Rul) : EnI n m G mono c (zaT r q) :=
  ⟨hI.pts, hI.mon, hI.gens, hI.nd, hI.tr, hI.num, hI.lp, hI.ll, hI.lw, hI.lb, hI.sl, hI.sg, hI.dn, hI.dl, hI.rt, hI.nod, hI.bh, hI.wd, hI.mz⟩
theorem zh8 {r : Eru} (hI : EnI n m G mono m r) {b : Int} (h0 : -1 <= b) (h1 : b < r.e.right.length) {x : Nat} (hx : x < m) : ∃ q : Nat, z0B r b x = some ((q : Int), r) /\ q < r.e.elems.length := by
  unfold z0B
  by_cases e : b = -1
  · rw [if_pos e, z0h 0 (by rw [hI.sl]; exact hx), Option.bind_some]
    obtain ⟨a1, a2⟩ := hI.sg x hx
    rw [a2]
    exact ⟨_, rfl, (z6k [] a1).1⟩
  · rw [if_neg e, zh7 [] (by omega) h1, Option.bind_some]
    obtain ⟨a1, a2⟩ := hI.rt b.toNat (by omega)
    obtain ⟨b1, b2⟩ := a2 x hx
    rw [z0h 0 (by rw [a1]; exact hx), Option.bind_some, b2]
    exact ⟨_, rfl, (z6k [] b1).1⟩
theorem zaY {r : Eru} (hI : EnI n m G mono m r) {b : Int} (h0 : -1 <= b) (h1 : b < r.e.right.length) {x : Nat} (hx : x < m) : ∃ q, z0w r b x = some (q, r) := by
  unfold z0w
  obtain ⟨q, e1, e2⟩ := zh8 hG h3 hI h0 h1 hx
  rw [e1, Option.bind_some]
  simp only
  rw [z0h 0 (by rw [hI.lp]; exact e2), Option.bind_some]
  split
  · rw [z0h 0 (by rw [hI.ll]; exact e2), Option.bind_some]; exact ⟨_, rfl⟩
  · exact ⟨_, rfl⟩
end
end
section
open Go
set_option linter.unusedSectionVars false
set_option maxRecDepth 100000
abbrev FrE := Int × Int × Bool × List (List Int) × List (List Int) × List Int × List Int × List (List Int) × List Rul × Int × (List (ByteArray × Int)) × List ByteArray × List Int × List Int
def frP (x : Nat) (q : Eru) (row : List Int) : Int × Int × Bool × List (List Int) × List (List Int) × List Int × List Int × List (List Int) × List Rul × Int × (List (ByteArray × Int)) × List ByteArray × List Int × List Int × List Int := ((x : Int), q.e.points, q.e.monoid, q.e.gens, q.e.elems, q.e.pre, q.e.last, q.e.right, q.e.rules, q.e.done, q.number, q.words, q.behind, q.single, row)
section
variable {n m : Nat} {G : List (List Int)} {mono : Bool} (hG : GenP n m G) (h3 : n <= 3)
include hG h3
omit hG h3 in
theorem EnI.push {q : Eru} (hI : EnI n m G mono m q) {row : List Int} (hl : row.length = m) (hu : q.e.right.length < q.e.elems.length) (hr : ∀ x, x < m -> z5f (q.e.elems.getD q.e.right.length []) (G.getD x []) ∈ q.e.elems /\ row.getD x 0 = ((q.e.elems.idxOf (z5f (q.e.elems.getD q.e.right.length []) (G.getD x [])) : Nat) : Int)) : EnI n m G mono m ⟨⟨q.e.points, q.e.monoid, q.e.gens, q.e.elems, q.e.pre, q.e.last, q.e.right ++ [row], q.e.rules, ((q.e.right.length + 1 : Nat) : Int)⟩, q.number, q.words, q.behind, q.single⟩ := by
  refine ⟨hI.pts, hI.mon, hI.gens, hI.nd, hI.tr, hI.num, hI.lp, hI.ll, hI.lw, hI.lb, hI.sl, hI.sg, by simp, by simp; omega, fun u h => ?_, hI.nod, hI.bh, hI.wd, hI.mz⟩
  simp only [List.length_append, List.length_singleton] at h
  simp only
  rw [z2G]
  by_cases e : u < q.e.right.length
  · rw [if_pos e]; exact hI.rt u e
  · obtain rfl : u = q.e.right.length := by omega
    simp only [Nat.lt_irrefl, if_false, if_true]
    exact ⟨hl, hr⟩
theorem zcV {r : Eru} (hI : EnI n m G mono m r) (hu : r.e.right.length < r.e.elems.length) (hr : r.e.rules.length <= m + m * r.e.right.length) : ∃ r', z0k r = some (0, r') /\ EnI n m G mono m r' /\ r'.e.right.length = r.e.right.length + 1 /\ r'.e.rules.length <= m + m * r'.e.right.length := by
  have hm2 := hG.m2
  have hmn := hG.n1
  have hu27 := hI.le hG h3
  have hmu : m * r.e.right.length <= 6 * 27 := Nat.mul_le_mul hm2 (by omega)
  unfold z0k
  have hgl : r.e.gens.length = m := by rw [hI.gens, hG.len]
  rw [hgl, z0F _ (by unfold z1I; omega), Int.toNat_natCast]
  obtain ⟨u, hue⟩ : ∃ u, r.e.right.length = u := ⟨_, rfl⟩
  rw [hue] at hmu
  obtain ⟨U, hUe⟩ : ∃ U, r.e.elems.getD u [] = U := ⟨_, rfl⟩
  have hUt : Tr n U := by rw [← hUe]; exact hI.tr _ (z4B [] (by omega))
  refine Exists.elim (z2s (b := z0H r)
    (fun s => ∃ (x : Nat) (q : Eru) (row : List Int), s = frP x q row /\ x <= m /\ EnI n m G mono m q /\ q.e.right = r.e.right /\ (∃ z, q.e.elems = r.e.elems ++ z) /\ row.length = m /\ (∀ y, y < x -> z5f U (G.getD y []) ∈ q.e.elems /\ row.getD y 0 = ((q.e.elems.idxOf (z5f U (G.getD y [])) : Nat) : Int)) /\ q.e.rules.length <= m + m * u + x)
    (fun s => m - s.1.toNat)
    (fun a => a.1 = 0 /\ EnI n m G mono m a.2 /\ a.2.e.right.length = u + 1 /\ a.2.e.rules.length <= m + m * (u + 1)) ?_ LFm (frP 0 r (List.replicate m 0))
    ⟨0, r, List.replicate m 0, rfl, Nat.zero_le _, hI, rfl, ⟨[], by simp⟩, by simp, fun y hy => by omega, by rw [← hue]; omega⟩ (by simp only [LFm, frP]; omega)) fun a h => ?_
  · rintro _ ⟨x, q, row, rfl, hx, hq, hqr, ⟨z, hz⟩, hrl, hrow, hru⟩
    have hq27 := hq.le hG h3
    have huq : u < q.e.elems.length := by rw [hz, List.length_append]; omega
    have hUq : q.e.elems.getD u [] = U := by rw [hz, List.getD, List.getElem?_append_left (by omega), ← hUe]; rfl
    simp only [frP]
    simp only [z0H]
    rw [hI.gens, hG.len, hI.dn, hue]
    by_cases hlt : x < m
    · left
      have hgx := hG.get hlt
      have hft := zjx hUt hgx
      have hls := z8J (x := x) (by omega)
      have hwd := hq.wd u huq
      rw [if_pos (by omega), z0h [] (by rw [hG.len]; exact hlt), Option.bind_some, z0h [] huq, Option.bind_some, hUq, zio hUt hgx hmn (by omega), Option.bind_some, z5B hft (by omega), Option.bind_some, z0h ByteArray.empty (by rw [hq.lw]; exact huq), Option.bind_some, show Utf8.encode (IntKind.i32.wrap (IntKind.i64.wrap (97 + (x : Int)))) = ltr x from rfl, z0F _ (by unfold zaq; omega), hq.num _ hft, Int.toNat_natCast, z2d (by omega)]
      generalize hf : z5f U (G.getD x []) = f at hft
      have hset : ∀ v : Int, ∀ E : List (List Int), (∃ z, E = q.e.elems ++ z) -> f ∈ E -> v = ((E.idxOf f : Nat) : Int) -> ∀ y, y < x + 1 -> z5f U (G.getD y []) ∈ E /\ (row.set x v).getD y 0 = ((E.idxOf (z5f U (G.getD y [])) : Nat) : Int) := by
        rintro v E ⟨z, rfl⟩ hE rfl y hy
        by_cases e : y = x
        · subst e
          rw [hf]
          exact ⟨hE, by rw [List.getD, List.getElem?_set, if_pos rfl, if_pos (by omega), Option.getD_some]⟩
        · obtain ⟨a1, a2⟩ := hrow y (by omega)
          refine ⟨List.mem_append_left _ a1, ?_⟩
          rw [zc1 a1, List.getD, List.getElem?_set_ne (by omega)]
          exact a2
      by_cases hmem : f ∈ q.e.elems
      · obtain ⟨i1, i2⟩ := z6k [] hmem
        rw [if_pos hmem, if_pos (by rfl), Option.getD_some]
        have hs := hset _ q.e.elems ⟨[], by simp⟩ hmem rfl
        by_cases hw : q.words.getD u ByteArray.empty = ByteArray.empty
        · rw [if_pos hw, z0h 0 (by omega), Option.bind_some]
          exact ⟨_, rfl, ⟨x + 1, q, row.set x _, rfl, by omega, hq, hqr, ⟨z, hz⟩, by simpa using hrl, hs, by omega⟩, by simp only; omega⟩
        · obtain ⟨b0, b1⟩ := hq.bh u huq
          rw [if_neg hw, z0h 0 (by rw [hq.lb]; exact huq), Option.bind_some]
          obtain ⟨d, e1⟩ := zaY hG h3 hq b0 (by rw [hqr]; omega) hlt
          rw [z5a, e1, Option.bind_some]
          simp only
          by_cases hd : d = true
          · rw [if_pos hd, z0h ByteArray.empty (by rw [hq.lw]; exact i1), Option.bind_some, z0F _ (by unfold z1t; omega), z0h 0 (by omega), Option.bind_some]
            exact ⟨_, rfl, ⟨x + 1, zaT q (q.e.rules ++ [⟨_, _⟩]), row.set x _, rfl, by omega, hq.rules _, hqr, ⟨z, hz⟩, by simpa using hrl, hs, by simp [zaT]; omega⟩, by simp only; omega⟩
          · rw [if_neg hd, z0h 0 (by omega), Option.bind_some]
            exact ⟨_, rfl, ⟨x + 1, q, row.set x _, rfl, by omega, hq, hqr, ⟨z, hz⟩, by simpa using hrl, hs, by omega⟩, by simp only; omega⟩
      · obtain ⟨b0, b1⟩ := hq.bh u huq
        rw [if_neg hmem, if_neg (by simp), if_neg (by omega), z0h 0 (by rw [hq.lb]; exact huq), Option.bind_some]
        obtain ⟨d, e1, e2⟩ := zh8 hG h3 hq b0 (by rw [hqr]; omega) hlt
        rw [z5a, e1, Option.bind_some]
        simp only
        rw [zfv hG h3 hq hft, Option.bind_some]
        simp only
        rw [z0h 0 (by omega), Option.bind_some]
        have hA := hq.add hG h3 hft hmem (p := (u : Int)) (b := (d : Int)) (w := q.words.getD u ByteArray.empty ++ ltr x) hlt (.inr ⟨u, huq, rfl, by rw [hUq, hf]⟩) (by rw [ByteArray.size_append]; omega) (by omega)
        exact ⟨_, rfl, ⟨x + 1, _, row.set x _, rfl, by omega, hA, hqr, ⟨z ++ [f], by simp [z3n, hz]⟩, by simpa using hrl, hset _ (q.e.elems ++ [f]) ⟨[f], rfl⟩ (by simp) (by rw [zc0 hmem]), by simp only [z3n]; omega⟩, by simp only; omega⟩
    · right
      obtain rfl : x = m := by omega
      rw [if_neg (by omega), z0F _ (by unfold z1t; rw [hqr]; omega), hq.dn, hqr, hue, z2d (by omega)]
      refine ⟨_, rfl, rfl, ?_, by simp [hqr, hue], by simp only [Nat.mul_add, Nat.mul_one]; omega⟩
      have := hq.push (row := row) hrl (by rw [hqr, hue]; exact huq) (by rw [hqr, hue, hUq]; exact hrow)
      rw [hqr, hue] at this
      exact this
  · obtain ⟨h1, h2, h4, h5, h6⟩ := h
    obtain ⟨v, r'⟩ := a
    simp only at h2 h4 h5 h6
    subst h2
    exact ⟨r', h1, h4, by omega, by rw [h5]; exact h6⟩
end
end
end Go.Proofs.YthbchhekejljjaaGreatDoor
