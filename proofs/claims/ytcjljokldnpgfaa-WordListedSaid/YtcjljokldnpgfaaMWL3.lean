/- Proved here: a part of the proof of the law at hand, in one text: no condition. -/
import Derived.Test.YtcjljokldnpgfaaMWL2
import Derived.Lib.Bytealg
import Derived.Lib.Small
import Derived.WalkKit
import Derived.Test.YtcjljokldnpgfaaProg
import Derived.Shelf.Small.Bits
import Derived.Shelf.Small.Strs
import Derived.Shelf.Small.Wraps
import Derived.Shelf.Strconv.Itoa0
import Derived.Shelf.Sort.Plain
import Derived.Ground.Names2Prog
import Derived.Shelf.Slices.SearchI
import Derived.Shelf.Slices.In.SortNone
import Derived.Ground.SlsfProg
import Derived.Shelf.SlSortCmp.Insertion
import Derived.Shelf.SlSortCmp.SiftDown1
import Derived.Shelf.SlSortCmp.HeapSort1
import Derived.Shelf.SlSortCmp.Insertion1
import Derived.Shelf.SlSortCmp.Median1
import Derived.Shelf.SlSortCmp.Pivot1
import Derived.Shelf.SlSortCmp.ReverseRange1
import Derived.Shelf.SlSortCmp.PartialInsertion1
import Derived.Shelf.SlSortCmp.PartitionEqual1
import Derived.Shelf.SlSortCmp.Partition1
import Derived.Shelf.SlSortCmp.Pdq1
import Derived.Shelf.SlSortCmp.Whole1
import Derived.Shelf.SlSortCmp.NoneTotal
import Derived.Shelf.SlIter.Sorted
import Derived.Ground.GgzProg
import Derived.KernelRfl
set_option linter.unusedVariables false
set_option linter.unusedSimpArgs false
namespace Go.Proofs.Ytcjljokldnpgfaa
section
def zfv (fr : Fr) (g : Nat) : T :=
  match z0n fr.tm g with
  | .one (.h e []) => (match z0i fr.ob e with | some t => t | none => .dead)
  | .one (.a e [] 0) => (match z0i fr.ob e with | some (.vr cs) => .vr cs | _ => .dead)
  | _ => .dead
def zfu (fr : Fr) (g : Nat) : T :=
  match z0n fr.tm g with
  | .one (.a e [] off) => (match z0i fr.ob e with | some (.vr cs) => .vo off cs | _ => .dead)
  | _ => .dead
def zg1 : T -> Bool
  | .vo _ _ => true
  | _ => false
theorem TRep.vr_val {w : World} {K : Nat -> z0a} {c : z0a} {v : Value} {cs : List T} {g : Nat} (h : TRep w K c v (.vr cs)) (hb : z1j v = some g) : v = .pointer (some ⟨g, 0, none⟩) := by
  cases h with
  | vr c g' cs arr e fz F hfz hc0 hK hg hl hF hh =>
    simp only [z1j, Option.some.injEq] at hb
    rw [hb]
def zad (fr : Fr) (g : Nat) : Option Nat :=
  match z0n fr.tm g with
  | .one (.h e []) => some e
  | .one (.a e [] _) => some e
  | _ => none
def z7a (fr : Fr) (nt : Nat) : List T -> Nat -> List T
  | [], _ => []
  | t :: ts, i => (if zg1 t then zfu fr (nt + 1000 + i) else if z1v t then zfv fr (nt + 1000 + i) else .dead) :: z7a fr nt ts (i + 1)
theorem z6Z (fr : Fr) (nt : Nat) : ∀ (ts : List T) (i j : Nat) (t : T), ts[j]? = some t -> z1v t = true -> (z7a fr nt ts i)[j]? = some (if zg1 t then zfu fr (nt + 1000 + (i + j)) else zfv fr (nt + 1000 + (i + j)))
  | [], i, j, t, h, _ => by simp at h
  | t0 :: ts, i, 0, t, h, hio => by simp at h; subst h; simp [z7a, hio]
  | t0 :: ts, i, j + 1, t, h, hio => by
    simp only [z7a, List.getElem?_cons_succ]
    rw [z6Z fr nt ts (i + 1) j t (by simpa using h) hio]
    rw [show i + 1 + j = i + (j + 1) by omega]
def z6i : List T -> Nat -> Option Nat
  | [], _ => none
  | t :: ts, i => if z1v t then some i else z6i ts (i + 1)
theorem z9j : ∀ (ts : List T) (i j : Nat) (t : T), (ts.filter z1v).length <= 1 -> ts[j]? = some t -> z1v t = true -> z6i ts i = some (i + j)
  | [], i, j, t, _, h, _ => by simp at h
  | t0 :: ts, i, 0, t, _, h, hio => by simp at h; subst h; simp [z6i, hio]
  | t0 :: ts, i, j + 1, t, hl, h, hio => by
    have h' : ts[j]? = some t := by simpa using h
    by_cases h0 : z1v t0 = true
    · exfalso
      have hm : t ∈ ts.filter z1v := by simp [List.mem_of_getElem? h', hio]
      have := List.length_pos_of_mem hm
      simp only [List.filter_cons, h0, if_true, List.length_cons] at hl
      omega
    · have h0' : z1v t0 = false := by simpa using h0
      simp only [z6i, h0', Bool.false_eq_true, if_false]
      rw [z9j ts (i + 1) j t (by simpa [List.filter_cons, h0'] using hl) h' hio]
      congr 1; omega
def zbq (fr : Fr) (nt : Nat) (args : List T) : Option Nat := match z6i args 0 with | some i => zad fr (nt + 1000 + i) | none => none
def zfi (fr : Fr) (nt : Nat) (args : List T) : Fr :=
  match z6i args 0 with
  | none => fr
  | some i => match z0n fr.tm (nt + 1000 + i) with
    | .one (.a e (j :: p) 0) => (z3I fr e (j :: p) (fr.nt + 7)).getD fr
    | _ => fr
def z9y (P : Program) (fn : Func) (args : List T) (fr : Fr) : Option (T × List T) :=
  match zbg P fr fn.results.toList with
  | none => none
  | some es =>
    if (z2W es).length <= 900 /\ fr.nt = fn.ntmps then
      match plugL true { fr with tm := z1o (kill fr.nt) (putR fr.tm (fr.nt + 1) (z2W es)), ob := z0Z fr.ob fr.nt (.tup (es.map z6K)) } fr.nt (z3Z 0 (fr.nt + 1) es) with
      | none => none
      | some fr2 =>
        if zbq fr2 fn.ntmps args = some fr.nt then none else
        match z0i fr2.ob fr.nt with
        | some (.tup ts) =>
          if es.length = 1 then (match ts with | [t] => some (t, z7a fr2 fn.ntmps args 0) | _ => none)
          else some (.tup ts, z7a fr2 fn.ntmps args 0)
        | _ => none
    else none
def z4l (P : Program) (fn : Func) (args : List T) (fr : Fr) : Option (T × List T) := z9y P fn args (zfi fr fn.ntmps args)
def zer (cf : Cfg) (o : Option (T × List T)) : Option (T × List T) := match cf.fz 999998 with | none => o | some _ => o.map fun x => (z0m x.1, x.2)
def dz : z0a -> z0a
  | 0 :: _ => []
  | c => c
theorem zbx {cf : Cfg} {o : Option (T × List T)} {r : T} {outs : List T} (h : zer cf o = some (r, outs)) : ∃ r0, o = some (r0, outs) /\ (r = r0 ∨ r = z0m r0) := by
  unfold zer at h
  split at h
  · exact ⟨r, h, .inl rfl⟩
  · rw [Option.map_eq_some_iff] at h
    obtain ⟨⟨r0, outs0⟩, h1, h2⟩ := h
    cases h2
    exact ⟨r0, h1, .inr rfl⟩
noncomputable def z6E (P : Program) (C : z0b) (cf : Cfg) (LF : Nat) (fn : Func) (args : List T) : Option (T × List T) :=
  if args.length <= fn.ntmps /\ (args.filter z1v).length <= 1 then
    match fn.body with
    | none => none
    | some c => match z0k P C cf LF c (z1H fn.ntmps args) with
      | some (.n, fr) => zer cf (z4l P fn args fr)
      | some (.r, fr) => zer cf (z4l P fn args fr)
      | _ => none
  else none
theorem zb8 {w : World} {K : Nat -> z0a} {R : Nat -> Value} {ob : List (Nat × T)} {e : E} {u : Value} (h : ERep w K R ob e u) (c : z0a) : TRep w K c u (z6K e) := by
  cases e with
  | one x => exact .dead c u
  | ag xs =>
    obtain ⟨arr, rfl, h2, h3⟩ := h
    refine .agg c arr _ (fun j => arr.getD j undef) (by simpa using h2) (fun j hj => z0G _ _ (by simp at hj; omega)) (fun j t ht => ?_)
    simp only [List.getElem?_map, Option.map_eq_some_iff] at ht
    obtain ⟨y, hy, rfl⟩ := ht
    exact .dead _ _
theorem za5 (fn : Func) (tmps : Array Value) : results fn tmps = (do let vs ← fn.results.mapM (fun r => zeT r tmps); pure (if h : vs.size = 1 then vs[0] else .tuple vs)) := by
  unfold results
  congr 1
  congr 1
  funext r
  cases r <;> rfl
def zcu (N : Nat) (e0 : Option (Nat × Nat)) (one : Bool) : z0a -> z0a
  | [] => []
  | h :: s => if h = N + 2 then (if one then (match s with | 0 :: s' => 0 :: s' | _ => [1]) else 0 :: s)
    else match e0 with | some (e, i) => if h = e + 2 then (i + 2) :: s else [1] | none => [1]
theorem z9x {P : Program} {fn : Func} {args : List T} {fr : Fr} {r : T} {outs : List T} {w : World} {K : Nat -> z0a} {R G : Nat -> Value} {a : Act} (h : FRep w K R G fr a) (hx : z9y P fn args fr = some (r, outs)) (h1 : (args.filter z1v).length <= 1) :
    ∃ v K', (results fn a.tmps).run P w = .ok v w /\ TRep w K' [0] v r /\ (∀ i t, args[i]? = some t -> z1v t = true -> ∃ t', outs[i]? = some t' /\ TRep w K' (col i) (G (fn.ntmps + 1000 + i)) t') /\ Step w K w K' := by
  unfold z9y at hx
  split at hx
  case h_1 => cases hx
  case h_2 es hes =>
  split at hx
  case isFalse => cases hx
  case isTrue hc =>
  obtain ⟨hfl, hnt⟩ := hc
  split at hx
  case h_1 => cases hx
  case h_2 fr2 hpl =>
  split at hx
  · cases hx
  rename_i hne
  obtain ⟨us, u1, u0, u2, u3⟩ := z6R h hes
  obtain ⟨vs, v1, v2, v3⟩ := z3g (j0 := 0) (base := fr.nt + 1) u1 u2
  have hp := h.putR (base := fr.nt + 1) (xs := z2W es) (us := fun j => vs.getD j undef) (by omega) v2
  have hrep : TRep w K (col fr.nt) (.tuple us.toArray) (.tup (es.map z6K)) := by
    refine .tup _ us.toArray _ (fun j => us.getD j undef) (by simp [u1]) (fun j hj => ?_) (fun j t ht => ?_)
    · have : j < us.length := by simp at hj; omega
      simp [List.getD, this]
    · simp only [List.getElem?_map, Option.map_eq_some_iff] at ht
      obtain ⟨e, he, rfl⟩ := ht
      exact zb8 (u2 j e he) _
  have hq := hp.replace (d := fr.nt) (w' := w) (K' := K) (v := .tuple us.toArray) (t := .tup (es.map z6K)) ⟨fun b hb e => ⟨e, rfl⟩, fun b hb _ => ⟨rfl, rfl⟩, Nat.le_refl _⟩ hrep
  have hregs : ∀ k, k < vs.length -> z2u a (gv G (fr.nt + 1) (fun j => vs.getD j undef) (z2W es).length) (fr.nt + 1 + k) = vs.getD k undef := fun k hk => by
    rw [z2u, if_neg (by rw [h.nt]; omega)]
    simp only [gv]
    rw [if_pos (by omega)]
    congr 1; omega
  obtain ⟨K2, R2, q1, q2, q3, q4, _⟩ := hq.plugL (l := z3Z 0 (fr.nt + 1) es) (fun q r' hm => by
    obtain ⟨k, k1, rfl, j, q', rfl, k4, k5⟩ := v3 q r' hm
    refine ⟨?_, by omega⟩
    rw [hregs k k1]
    have hju : j < us.length := by omega
    simp only [z2y, if_true, Nat.zero_add, nav, z4k]
    have : us.toArray[j]? = some (us.getD j undef) := by simp [List.getD, hju]
    rw [this]
    exact k5) hpl
  have hRN : R2 fr.nt = .tuple us.toArray := by
    rw [q4 fr.nt (fun q r' hm => by obtain ⟨k, k1, rfl, _⟩ := v3 q r' hm; omega)]
    simp [z2y]
  have hres : (results fn a.tmps).run P w = .ok (if us.length = 1 then us.getD 0 undef else .tuple us.toArray) w := by
    rw [za5]
    have : (fn.results.mapM (fun r => zeT r a.tmps)).run P w = .ok us.toArray w := by
      rw [Array.mapM_eq_mapM_toList]
      simp only [map_eq_pure_bind, Sem.run_bind, u3, Result.andThen_ok, Sem.run_pure]
    simp only [Sem.run_bind, this, Result.andThen_ok, Sem.run_pure]
    congr 1
    by_cases e : us.length = 1
    · match us, e with
      | [u], _ => simp
    · rw [dif_neg (by simpa using e), if_neg e]
  let io : Option (Nat × Nat) := match z6i args 0 with | some i => (match zad fr2 (fn.ntmps + 1000 + i) with | some e => some (e, i) | none => none) | none => none
  have hio : ∀ e i, io = some (e, i) -> e ≠ fr.nt := fun e i he => by
    intro heq
    apply hne
    simp only [io] at he
    split at he
    · rename_i i' hi'
      split at he
      · rename_i e' he'
        cases he
        simp only [zbq, hi']
        rw [he', heq]
      · cases he
    · cases he
  let one : Bool := decide (es.length = 1)
  let K3 : Nat -> z0a := fun b => zcu fr.nt io one (K2 b)
  have hK3 : ∀ b, K2 b = [] -> K3 b = [] := fun b e => by show zcu fr.nt io one (K2 b) = []; rw [e]; rfl
  have hstep : Step w K2 w K3 := ⟨rfl, rfl, rfl, Nat.le_refl _, fun b hb hc => ⟨by
    show zcu fr.nt io one (K2 b) = K2 b
    rcases hc with e | e
    · rw [e]; rfl
    · rw [e]
      simp only [zcu]
      rw [if_neg (by omega)]
      cases io with
      | none => rfl
      | some x =>
        obtain ⟨e', i⟩ := x
        simp only
        rw [if_neg (by omega)], rfl⟩, .same rfl⟩
  have houts : outs = z7a fr2 fn.ntmps args 0 -> ∀ i t, args[i]? = some t -> z1v t = true -> ∃ t', outs[i]? = some t' /\ TRep w K3 (col i) (G (fn.ntmps + 1000 + i)) t' := fun ho i t ht hit => by
    refine ⟨if zg1 t then zfu fr2 (fn.ntmps + 1000 + i) else zfv fr2 (fn.ntmps + 1000 + i), by rw [ho, z6Z fr2 fn.ntmps args 0 i t ht hit, Nat.zero_add], ?_⟩
    have hidx := z9j args 0 i t h1 ht hit
    rw [Nat.zero_add] at hidx
    have hg := q1.tm (fn.ntmps + 1000 + i)
    have hgv : z2u a (gv G (fr.nt + 1) (fun j => vs.getD j undef) (z2W es).length) (fn.ntmps + 1000 + i) = G (fn.ntmps + 1000 + i) := by
      rw [z2u, if_neg (by rw [h.nt]; omega)]
      simp only [gv]
      rw [if_neg (by omega)]
    rw [hgv] at hg
    have hmv0 : ∀ e tt, io = some (e, i) -> z0i fr2.ob e = some tt -> TRep w K3 (col i) (R2 e) tt := fun e tt he hob => by
      have hr := q1.ob e tt hob
      have hen := hio e i he
      refine hr.move (fun b s hb hcc hKb => ⟨?_, rfl⟩) (fun b hb e0 => ⟨hK3 b e0, rfl⟩) (by simp [col]) (Nat.le_refl _)
      show zcu fr.nt io one (K2 b) = _
      rw [hKb, he]
      simp [zcu, col, hen]
    have hmv : ∀ e tt, io = some (e, i) -> z0i fr2.ob e = some tt -> R2 e = G (fn.ntmps + 1000 + i) -> TRep w K3 (col i) (G (fn.ntmps + 1000 + i)) tt := fun e tt he hob hR => hR ▸ hmv0 e tt he hob
    split
    · unfold zfu
      split
      · rename_i e off hge
        have hie : io = some (e, i) := by simp only [io, hidx, zad, hge]
        split
        · rename_i cs hob
          rw [hge] at hg
          obtain ⟨hv, g, n1, n4, n5, _⟩ := hg
          simp only [nav, Option.some.injEq] at n1
          have hr := hmv0 e _ hie hob
          rw [n1] at hr
          rw [hr.vr_val n4] at hr
          rw [n5]
          exact .vo _ g off cs hr
        · exact .dead _ _
      · exact .dead _ _
    unfold zfv
    split
    · rename_i e hge
      have hie : io = some (e, i) := by simp only [io, hidx, zad, hge]
      split
      · rename_i tt hob
        rw [hge] at hg
        obtain ⟨n1, _⟩ := hg
        simp only [nav, Option.some.injEq] at n1
        exact hmv e tt hie hob n1
      · exact .dead _ _
    · rename_i e hge
      have hie : io = some (e, i) := by simp only [io, hidx, zad, hge]
      split
      · rename_i cs hob
        rw [hge] at hg
        obtain ⟨hv, g, n1, n4, n5, _⟩ := hg
        simp only [nav, Option.some.injEq] at n1
        refine hmv e _ hie hob ?_
        have hr := q1.ob e _ hob
        rw [n5, n1]
        rw [n1] at hr
        cases hr with
        | vr c g' cs arr e' fz F hfz hc0 hK hg' hl hF hh =>
          simp only [z1j, Option.some.injEq] at n4
          rw [n4]
      · exact .dead _ _
    · exact .dead _ _
  refine ⟨_, K3, hres, ?_⟩
  split at hx
  case h_2 => cases hx
  case h_1 ts hob =>
  have htup := q1.ob fr.nt _ hob
  rw [hRN] at htup
  split at hx
  · rename_i hone
    split at hx
    · rename_i t
      cases hx
      refine ⟨?_, houts rfl, q2.trans hstep⟩
      rw [if_pos (by omega)]
      obtain ⟨v', k1, k2⟩ := htup.kid (j := 0) (t' := r) (z0g _) rfl
      have hv' : v' = us.getD 0 undef := by
        simp only [z4k] at k1
        have : 0 < us.length := by omega
        simp [List.getD, this] at k1 ⊢
        exact k1.symm
      rw [← hv']
      refine k2.move (fun b s hb hcc hKb => ⟨?_, rfl⟩) (fun b hb e0 => ⟨hK3 b e0, rfl⟩) (by simp [col]) (Nat.le_refl _)
      show zcu fr.nt io one (K2 b) = _
      rw [hKb]
      simp [zcu, col, one, hone]
    · cases hx
  · rename_i hone
    cases hx
    refine ⟨?_, houts rfl, q2.trans hstep⟩
    rw [if_neg (by omega)]
    refine htup.move (fun b s hb hcc hKb => ⟨?_, rfl⟩) (fun b hb e0 => ⟨hK3 b e0, rfl⟩) (by simp [col]) (Nat.le_refl _)
    show zcu fr.nt io one (K2 b) = _
    rw [hKb]
    simp [zcu, col, one, hone]
theorem zbY {P : Program} {fn : Func} {args : List T} {fr : Fr} {r : T} {outs : List T} {w : World} {K : Nat -> z0a} {R G : Nat -> Value} {a : Act} (h : FRep w K R G fr a) (hx : z4l P fn args fr = some (r, outs)) (h1 : (args.filter z1v).length <= 1) :
    ∃ v K', (results fn a.tmps).run P w = .ok v w /\ TRep w K' [0] v r /\ (∀ i t, args[i]? = some t -> z1v t = true -> ∃ t', outs[i]? = some t' /\ TRep w K' (col i) (G (fn.ntmps + 1000 + i)) t') /\ Step w K w K' := by
  unfold z4l at hx
  have keep : zfi fr fn.ntmps args = fr ∨ ∃ e p fr1, z3I fr e p (fr.nt + 7) = some fr1 /\ zfi fr fn.ntmps args = fr1 := by
    unfold zfi
    split
    · exact .inl rfl
    · split
      · rename_i e j p _
        cases ht : z3I fr e (j :: p) (fr.nt + 7) with
        | none => exact .inl rfl
        | some f => exact .inr ⟨_, _, f, ht, rfl⟩
      · exact .inl rfl
  rcases keep with e | ⟨e, p, fr1, e1, e2⟩
  · rw [e] at hx; exact z9x h hx h1
  · rw [e2] at hx
    obtain ⟨vp, t, -, -, h2⟩ := h.take e1
    obtain ⟨v, K', r1, r2, r3, r4⟩ := z9x h2 hx h1
    exact ⟨v, K', r1, r2, r3, (z4p e p _).trans r4⟩
theorem zfa {P : Program} {I : World -> (Nat -> z0a) -> Prop} {C : z0b} {cf : Cfg} {LF : Nat} {f : FuncId} {fn : Func} {c : Code} {args : List T} {r : T} {outs : List T} (hI : EnvS I) (hC : z1M P I C) (hm : P.follows .mixedOrders = true) (hfn : P.funcs[f]? = some fn) (hb : fn.body = some c) (hname : fn.name ≠ "runtime.NumGoroutine")
    (hok : okC cf c = true) (hr : z6E P C cf LF fn args = some (r, outs)) : CallOk P I f args r outs := by
  unfold z6E at hr
  split at hr
  case isFalse => cases hr
  case isTrue hc =>
  rw [hb] at hr
  simp only at hr
  refine ⟨fun vals w => by simp [callFunc, program, Sem.run, hfn, hname, hb], fun w K vals hs ha hIw => ?_⟩
  have hent := z7w (nt := fn.ntmps) hs ha hc.1
  have main : ∀ x fr, (x = .n ∨ x = .r) -> z0k P C cf LF c (z1H fn.ntmps args) = some (x, fr) -> zer cf (z4l P fn args fr) = some (r, outs) ->
      Calls P f vals w fun e w' => ∃ v K', e = .returned v /\ TRep w' K' [0] v r /\ (∀ i t, args[i]? = some t -> z1v t = true -> ∃ t', outs[i]? = some t' /\ TRep w' K' (col i) (vals.getD i undef) t') /\ Step w K w' K' := fun x fr hx hcode hexit => by
    refine calls_of_wp hfn hb (z8y hI hC hm c hok hent hIw hcode fun a' w' K' R' h' hst => ?_)
    obtain ⟨r0, hex0, hr0⟩ := zbx hexit
    obtain ⟨v, K1, e1, e20, e30, e40⟩ := zbY h' hex0 hc.2
    obtain ⟨K2, e2, e3, e4⟩ : ∃ K2, TRep w' K2 [0] v r /\ (∀ i t, args[i]? = some t -> z1v t = true -> ∃ t', outs[i]? = some t' /\ TRep w' K2 (col i) (vals.getD (fn.ntmps + 1000 + i - (fn.ntmps + 1000)) undef) t') /\ Step w' K' w' K2 := by
      rcases hr0 with e | e
      · rw [e]; exact ⟨K1, e20, e30, e40⟩
      · rw [e]
        refine ⟨fun b => dz (K1 b), e20.freeze (fun b s hb hcc hK => ⟨by show dz (K1 b) = []; rw [hK]; rfl, rfl⟩) (fun b hb hK => ⟨by show dz (K1 b) = []; rw [hK]; rfl, rfl⟩) (Nat.le_refl _) [0], fun i t hi hio => ?_, e40.trans ⟨rfl, rfl, rfl, Nat.le_refl _, fun b hb hcc => ⟨by
          show dz (K1 b) = K1 b
          rcases hcc with q | q <;> rw [q] <;> rfl, rfl⟩, .same rfl⟩⟩
        obtain ⟨t', f1, f2⟩ := e30 i t hi hio
        exact ⟨t', f1, f2.move (fun b s hb hcc hK => ⟨by show dz (K1 b) = col i ++ s; rw [hK]; rfl, rfl⟩) (fun b hb hK => ⟨by show dz (K1 b) = []; rw [hK]; rfl, rfl⟩) Iff.rfl (Nat.le_refl _)⟩
    have hpost : a'.defers = [] /\ ∃ v, (results fn a'.tmps).run P w' = .ok v w' /\ ∃ v' K', Ending.returned v = .returned v' /\ TRep w' K' [0] v' r /\ (∀ i t, args[i]? = some t -> z1v t = true -> ∃ t', outs[i]? = some t' /\ TRep w' K' (col i) (vals.getD i undef) t') /\ Step w K w' K' :=
      ⟨h'.df, v, e1, v, K2, rfl, e2, fun i t hi hio => by
        obtain ⟨t', f1, f2⟩ := e3 i t hi hio
        rw [show fn.ntmps + 1000 + i - (fn.ntmps + 1000) = i by omega] at f2
        exact ⟨t', f1, f2⟩, hst.trans e4⟩
    rcases hx with rfl | rfl
    · exact hpost
    · exact hpost
  split at hr
  · rename_i fr hcode
    exact main .n fr (.inl rfl) hcode hr
  · rename_i fr hcode
    exact main .r fr (.inr rfl) hcode hr
  · cases hr
end
section
def wpC (P : Program) (C : z0b) (cf : Cfg) (LF : Nat) (c : Code) (fr : Fr) (Q : X -> Fr -> Prop) : Prop := ∃ x fr', z0k P C cf LF c fr = some (x, fr') /\ Q x fr'
def zfZ (P : Program) (C : z0b) (wio : FuncId -> Nat -> Bool) (ops : Array Oper) : List Oper -> Fr -> (Fr -> Prop) -> Prop
  | [], fr, Q => Q fr
  | o :: rest, fr, Q => ∃ b, z1V ops fr o = some b /\ (b = true -> ∃ fr', opF P C wio fr o = some fr' /\ zfZ P C wio ops rest fr' Q) /\ (b = false -> ∃ fr', putF fr o.dst (.one (.k undef)) = some fr' /\ zfZ P C wio ops rest fr' Q)
variable {P : Program} {C : z0b} {cf : Cfg} {LF : Nat} {fr : Fr} {Q : X -> Fr -> Prop}
theorem zcy (h : Q .n fr) : wpC P C cf LF .skip fr Q := ⟨_, _, rfl, h⟩
theorem zaQ {i} (h : Q .n fr) : wpC P C cf LF (.label i) fr Q := ⟨_, _, rfl, h⟩
theorem zcz {i} (h : Q (.x i) fr) : wpC P C cf LF (.exit i) fr Q := ⟨_, _, rfl, h⟩
theorem zdJ (h : Q .r fr) : wpC P C cf LF .ret fr Q := ⟨_, _, rfl, h⟩
def z7U (Q1 : Fr -> Prop) (Q : X -> Fr -> Prop) : X -> Fr -> Prop
  | .n, fr => Q1 fr
  | .x i, fr => Q (.x i) fr
  | .r, fr => Q .r fr
theorem zdI {a b : Code} (h : wpC P C cf LF a fr (z7U (fun fr' => wpC P C cf LF b fr' Q) Q)) : wpC P C cf LF (.seq a b) fr Q := by
  obtain ⟨x, fr1, e, h⟩ := h
  cases x with
  | n =>
    obtain ⟨y, fr2, e2, h⟩ := h
    exact ⟨y, fr2, by simp only [z0k, e, e2], h⟩
  | x i => exact ⟨_, _, by simp only [z0k, e], h⟩
  | r => exact ⟨_, _, by simp only [z0k, e], h⟩
def z2e (id : Nat) (Q : X -> Fr -> Prop) : X -> Fr -> Prop
  | .n, fr => Q .n fr
  | .x i, fr => if i = id then Q .n fr else Q (.x i) fr
  | .r, fr => Q .r fr
theorem zaS {id : Nat} {c : Code} (h : wpC P C cf LF c fr (z2e id Q)) : wpC P C cf LF (.block id c) fr Q := by
  obtain ⟨x, fr1, e, h⟩ := h
  cases x with
  | n => exact ⟨_, _, by simp only [z0k, e], h⟩
  | x i =>
    simp only [z2e] at h
    by_cases hi : i = id
    · rw [if_pos hi] at h
      exact ⟨.n, fr1, by simp only [z0k, e, if_pos hi], h⟩
    · rw [if_neg hi] at h
      exact ⟨.x i, fr1, by simp only [z0k, e, if_neg hi], h⟩
  | r => exact ⟨_, _, by simp only [z0k, e], h⟩
structure Hid (p : Prop) : Prop where
  out : p
def zf2 (o : Option Bool) (Q1 Q2 : Prop) : Prop := match o with | some b => (b = true -> Q1) /\ (b = false -> Q2) | none => False
theorem zaU {b : Bool} {Q1 Q2 : Prop} : zf2 (some b) Q1 Q2 = ((b = true -> Q1) /\ (b = false -> Q2)) := rfl
theorem zdR {o : Option Bool} {Q1 Q2 : Prop} (h : zf2 o Q1 Q2) : ∃ b, o = some b /\ (b = true -> Q1) /\ (b = false -> Q2) := by
  cases o with
  | none => exact absurd h id
  | some b => exact ⟨b, rfl, h⟩
def zeN (o : Option Value) (Q1 Q2 : Prop) : Prop := match o with | some (.bool b) => (b = true -> Q1) /\ (b = false -> Q2) | _ => False
theorem z6G {b : Bool} {Q1 Q2 : Prop} : zeN (some (.bool b)) Q1 Q2 = ((b = true -> Q1) /\ (b = false -> Q2)) := rfl
theorem zdQ {o : Option Value} {Q1 Q2 : Prop} (h : zeN o Q1 Q2) : ∃ b, o = some (.bool b) /\ (b = true -> Q1) /\ (b = false -> Q2) := by
  unfold zeN at h
  split at h
  · exact ⟨_, rfl, h⟩
  · exact absurd h id
def z7M (o : Option Fr) (Q : Fr -> Prop) : Prop := match o with | some fr => Q fr | none => False
theorem z7L {fr : Fr} {Q : Fr -> Prop} : z7M (some fr) Q = Q fr := rfl
theorem z5k {o : Option Fr} {Q : Fr -> Prop} (h : z7M o Q) : ∃ fr, o = some fr /\ Q fr := by
  cases o with
  | none => exact absurd h id
  | some fr => exact ⟨fr, rfl, h⟩
theorem z9V {id : Nat} {ops : Array Oper} {draw : Bool} (hd : draw = false) (hz : cf.fz id = none) (h : ∀ Q' : Fr -> Prop, Hid (∀ fr', Q .n fr' -> Q' fr') -> z7M (z7X P C cf.wio ops ops.toList fr) Q') : wpC P C cf LF (.region id ops draw) fr Q := by
  obtain ⟨fr', e, h⟩ := z5k (h (Q .n) ⟨fun _ h => h⟩)
  subst hd
  exact ⟨.n, fr', by simp [z0k, hz, zd9, e], h⟩
theorem zdK {id : Nat} {ops : Array Oper} {draw : Bool} {l : List Nat} {fr1 : Fr} (hz : cf.fz id = some l) (hf : zeW fr l = fr1) (h : wpC P C { cf with fz := fun _ => none } LF (.region id ops draw) fr1 Q) : wpC P C cf LF (.region id ops draw) fr Q := by
  obtain ⟨x, fr', e, h⟩ := h
  refine ⟨x, fr', ?_, h⟩
  simp only [z0k, zd9] at e
  simp only [z0k, hz, zd9, hf]
  exact e
def zgH (P : Program) (C : z0b) (wio : FuncId -> Nat -> Bool) (M : List Nat) (ops : Array Oper) (sch : List (Nat × Nat)) (fr : Fr) : Option Fr := match z2G P C wio M.isEmpty M.contains ops (z3w ops sch) fr with | some fr1 => z1k P ops.toList fr1 | none => none
def z4H (P : Program) (C : z0b) (wio : FuncId -> Nat -> Bool) (same : Bool) (M : Nat -> Bool) (fr : Fr) (o : Oper) (m : Nat) : Option Fr :=
  if m = 0 ∨ m = 3 then (match z2B P (if m = 0 then M else zga) fr o.op with | some e => putF fr o.dst e | none => none)
  else if m = 2 then opF P C wio fr o else if same then z2Y P C wio fr o else wrF P C wio M fr o
def z2l (P : Program) (C : z0b) (wio : FuncId -> Nat -> Bool) (M : List Nat) (ops : Array Oper) : List (Nat × Nat) -> Fr -> (Fr -> Prop) -> Prop
  | [], fr, Q => Q fr
  | (k, m) :: rest, fr, Q => ∃ o, ops[k]? = some o /\ ∃ b, z1V ops fr o = some b /\ (b = true -> ∃ fr', z4H P C wio M.isEmpty M.contains fr o m = some fr' /\ z2l P C wio M ops rest fr' Q) /\ (b = false -> ∃ fr', putF fr o.dst (.one (.k undef)) = some fr' /\ z2l P C wio M ops rest fr' Q)
theorem z3S {P : Program} {C : z0b} {wio : FuncId -> Nat -> Bool} {M : List Nat} {ops : Array Oper} {Q : Fr -> Prop} : ∀ {l : List (Nat × Nat)} {fr : Fr}, z2l P C wio M ops l fr Q -> ∃ fr', z2G P C wio M.isEmpty M.contains ops (z3w ops l) fr = some fr' /\ Q fr'
  | [], fr, h => ⟨fr, rfl, h⟩
  | (k, m) :: rest, fr, ⟨o, ho, b, hb, h1, h2⟩ => by
    have hp : z3w ops ((k, m) :: rest) = (k, o, m) :: z3w ops rest := by simp [z3w, ho]
    rw [hp]
    cases b with
    | true =>
      obtain ⟨fr', e, h⟩ := h1 rfl
      obtain ⟨x, e2, h⟩ := z3S h
      refine ⟨x, ?_, h⟩
      simp only [z2G, hb]
      unfold z4H at e
      by_cases hm : m = 0 ∨ m = 3
      · rw [if_pos hm] at e ⊢
        split at e
        · rename_i e' he'
          simp only [he', e, e2]
        · cases e
      · rw [if_neg hm] at e ⊢
        simp only [e, e2]
    | false =>
      obtain ⟨fr', e, h⟩ := h2 rfl
      obtain ⟨x, e2, h⟩ := z3S h
      exact ⟨x, by simp only [z2G, hb, e, e2], h⟩
theorem zaR {id : Nat} {ops : Array Oper} {draw : Bool} {sch : List (Nat × Nat)} (hd : draw = true) (hs : cf.dr id = some sch) (hz : cf.fz id = none) (h : z2l P C cf.wio (cf.wr id) ops sch fr (fun fr1 => z7M (z1k P ops.toList fr1) (Q .n))) (ht : cf.dt id = none := by rfl) : wpC P C cf LF (.region id ops draw) fr Q := by
  obtain ⟨fr1, e1, h⟩ := z3S h
  obtain ⟨fr2, e2, h⟩ := z5k h
  subst hd
  exact ⟨.n, fr2, by simp only [z0k, if_true, z2g, ht, hs, hz, zd9, e1, e2], h⟩
theorem zc3 {wio : FuncId -> Nat -> Bool} {M : List Nat} {ops : Array Oper} {l : List Oper} {Q : X -> Fr -> Prop} (h : ∀ Q' : Fr -> Prop, Hid (∀ fr', Q .n fr' -> Q' fr') -> z7M (z1k P l fr) Q') : z2l P C wio M ops [] fr (fun fr1 => z7M (z1k P l fr1) (Q .n)) := h _ ⟨fun _ h => h⟩
theorem zdc {wio : FuncId -> Nat -> Bool} {M : List Nat} {ops : Array Oper} {k m : Nat} {o : Oper} {l : List (Nat × Nat)} {Q : Fr -> Prop} (ho : ops[k]? = some o) (hg : o.guard = none) (h : ∀ Q' : Fr -> Prop, Hid (∀ fr', z2l P C wio M ops l fr' Q -> Q' fr') -> z7M (z4H P C wio M.isEmpty M.contains fr o m) Q') : z2l P C wio M ops ((k, m) :: l) fr Q := by
  obtain ⟨fr', e, h⟩ := z5k (h _ ⟨fun _ h => h⟩)
  exact ⟨o, ho, true, by simp [z1V, hg], fun _ => ⟨fr', e, h⟩, fun h => by cases h⟩
theorem z8u {wio : FuncId -> Nat -> Bool} {M : List Nat} {ops : Array Oper} {k m : Nat} {o : Oper} {l : List (Nat × Nat)} {Q : Fr -> Prop} (ho : ops[k]? = some o) (h : ∀ Q1 Q2 : Prop, Hid ((∀ Q' : Fr -> Prop, Hid (∀ fr', z2l P C wio M ops l fr' Q -> Q' fr') -> z7M (z4H P C wio M.isEmpty M.contains fr o m) Q') -> Q1) -> Hid ((∀ Q' : Fr -> Prop, Hid (∀ fr', z2l P C wio M ops l fr' Q -> Q' fr') -> z7M (putF fr o.dst (.one (.k undef))) Q') -> Q2) -> zf2 (z1V ops fr o) Q1 Q2) : z2l P C wio M ops ((k, m) :: l) fr Q := by
  obtain ⟨b, hb, h1, h2⟩ := zdR (h _ _ ⟨id⟩ ⟨id⟩)
  refine ⟨o, ho, b, hb, fun e => ?_, fun e => ?_⟩
  · obtain ⟨fr', e, h⟩ := z5k (h1 e _ ⟨fun _ h => h⟩)
    exact ⟨fr', e, h⟩
  · obtain ⟨fr', e, h⟩ := z5k (h2 e _ ⟨fun _ h => h⟩)
    exact ⟨fr', e, h⟩
theorem zf1 {c : Operand} {x y : Code} (h : ∀ Q1 Q2 : Prop, Hid (wpC P C cf LF x fr Q -> Q1) -> Hid (wpC P C cf LF y fr Q -> Q2) -> zeN (rdV (opE fr c)) Q1 Q2) : wpC P C cf LF (.cond c x y) fr Q := by
  obtain ⟨b, h, h1, h2⟩ := zdQ (h _ _ ⟨id⟩ ⟨id⟩)
  cases b with
  | true =>
    obtain ⟨x, fr1, e, h'⟩ := h1 rfl
    exact ⟨x, fr1, by simp only [z0k, h, e], h'⟩
  | false =>
    obtain ⟨x, fr1, e, h'⟩ := h2 rfl
    exact ⟨x, fr1, by simp only [z0k, h, e], h'⟩
theorem zdV {Q1 : Fr -> Prop} (h : Q1 fr) : z7U Q1 Q .n fr := h
theorem zdT {Q1 : Fr -> Prop} {i} (h : Q (.x i) fr) : z7U Q1 Q (.x i) fr := h
theorem zdU {Q1 : Fr -> Prop} (h : Q .r fr) : z7U Q1 Q .r fr := h
theorem zdk {id} (h : Q .n fr) : z2e id Q .n fr := h
theorem zaK {id} (h : Q .n fr) : z2e id Q (.x id) fr := by simp [z2e, h]
theorem z8H {id i} (hi : (i == id) = false) (h : Q (.x i) fr) : z2e id Q (.x i) fr := by
  have : i ≠ id := by simpa using hi
  simp [z2e, this, h]
theorem zdj {id} (h : Q .r fr) : z2e id Q .r fr := h
theorem zho {a b : Int} (h : b <= a) : (a < b) = False := by simp; omega
theorem zhq {a b : Int} (h : b < a) : (a <= b) = False := by simp; omega
theorem zhn {a b : Nat} (h : b <= a) : (a < b) = False := by simp; omega
theorem zhp {a b : Nat} (h : b < a) : (a <= b) = False := by simp; omega
def zgD (I : Nat -> Fr -> Prop) (cn : Fr -> Fr) (m : Nat) (Q : X -> Fr -> Prop) : X -> Fr -> Prop
  | .n, fr => ∃ k, k < m /\ I k (cn fr)
  | .x i, fr => Q (.x i) fr
  | .r, fr => Q .r fr
def zfd (I : Nat -> Prop) (H : Nat -> Fr) (cn : Fr -> Fr) (n k : Nat) (Q : X -> Fr -> Prop) : X -> Fr -> Prop
  | .n, fr => k < n /\ I (k + 1) /\ cn fr = H (k + 1)
  | .x i, fr => Q (.x i) fr
  | .r, fr => Q .r fr
def zeE (P : Program) (fn : Func) (args : List T) (r : T) (outs : List T) : X -> Fr -> Prop
  | .n, fr => z4l P fn args fr = some (r, outs)
  | .r, fr => z4l P fn args fr = some (r, outs)
  | .x _, _ => False
def zeD (P : Program) (fn : Func) (args : List T) (r : T) (outs : List T) : X -> Fr -> Prop
  | .n, fr => (z4l P fn args fr).map (fun x => (z0m x.1, x.2)) = some (r, outs)
  | .r, fr => (z4l P fn args fr).map (fun x => (z0m x.1, x.2)) = some (r, outs)
  | .x _, _ => False
theorem zcH {fn : Func} {c : Code} {args : List T} {r : T} {outs : List T} (hb : fn.body = some c) (ha : args.length <= fn.ntmps /\ (args.filter z1v).length <= 1) (hz : (cf.fz 999998).isSome = true) (h : wpC P C cf LF c (z1H fn.ntmps args) (zeD P fn args r outs)) : z6E P C cf LF fn args = some (r, outs) := by
  obtain ⟨x, fr', e, h⟩ := h
  obtain ⟨l, hl⟩ := Option.isSome_iff_exists.1 hz
  unfold z6E zer
  rw [if_pos ha, hb]
  simp only [e, hl]
  cases x with
  | n => exact h
  | x i => exact absurd h id
  | r => exact h
theorem ze7 {fn : Func} {c : Code} {args : List T} {r : T} {outs : List T} (hb : fn.body = some c) (ha : args.length <= fn.ntmps /\ (args.filter z1v).length <= 1) (h : wpC P C cf LF c (z1H fn.ntmps args) (zeE P fn args r outs)) (hz : cf.fz 999998 = none := by rfl) : z6E P C cf LF fn args = some (r, outs) := by
  obtain ⟨x, fr', e, h⟩ := h
  unfold z6E zer
  rw [if_pos ha, hb]
  simp only [e, hz]
  cases x with
  | n => exact h
  | x i => exact absurd h id
  | r => exact h
def z4j : Code -> Nat
  | .skip => 0
  | .region _ _ _ => 1
  | .seq _ _ => 2
  | .cond _ _ _ => 3
  | .block _ _ => 4
  | .loop _ => 5
  | .exit _ => 6
  | .ret => 7
  | .label _ => 8
  | .scope _ => 10
  | _ => 9
def zf9 : Code -> Code
  | .seq a _ => a
  | c => c
def zeR : Code -> Code
  | .seq _ b => b
  | c => c
def cdA : Code -> Code
  | .cond _ x _ => x
  | c => c
def cdB : Code -> Code
  | .cond _ _ y => y
  | c => c
def cdO : Code -> Option Operand
  | .cond o _ _ => some o
  | _ => none
def blC : Code -> Code
  | .block _ c => c
  | c => c
def blI : Code -> Nat
  | .block i _ => i
  | _ => 0
def lpC : Code -> Code
  | .loop c => c
  | c => c
def spC : Code -> Code
  | .scope c => c
  | c => c
def exI : Code -> Nat
  | .exit i => i
  | _ => 0
def rgI : Code -> Nat
  | .region i _ _ => i
  | _ => 0
def rgD : Code -> Bool
  | .region _ _ d => d
  | _ => false
def rgO : Code -> Array Oper
  | .region _ ops _ => ops
  | _ => #[]
def rgN : Code -> Option Nat
  | .region i _ _ => some i
  | _ => none
def rgL (c : Code) : Option (List Oper) := match c with | .region _ ops _ => some ops.toList | _ => none
section
variable {c : Code}
theorem zff (hk : z4j c = 0) (h : Q .n fr) : wpC P C cf LF c fr Q := by
  cases c <;> first | exact zcy h | cases hk
theorem zee (hk : z4j c = 8) (h : Q .n fr) : wpC P C cf LF c fr Q := by
  cases c <;> first | exact zaQ h | cases hk
theorem zfg (hk : z4j c = 6) (h : Q (.x (exI c)) fr) : wpC P C cf LF c fr Q := by
  cases c <;> first | exact zcz h | cases hk
theorem zgk (hk : z4j c = 7) (h : Q .r fr) : wpC P C cf LF c fr Q := by
  cases c <;> first | exact zdJ h | cases hk
theorem zgj (hk : z4j c = 2) (h : wpC P C cf LF (zf9 c) fr (z7U (fun fr' => wpC P C cf LF (zeR c) fr' Q) Q)) : wpC P C cf LF c fr Q := by
  cases c <;> first | exact zdI h | cases hk
theorem zeg (hk : z4j c = 4) (h : wpC P C cf LF (blC c) fr (z2e (blI c) Q)) : wpC P C cf LF c fr Q := by
  cases c <;> first | exact zaS h | cases hk
theorem zh4 {o : Operand} (ho : cdO c = some o) (h : ∀ Q1 Q2 : Prop, Hid (wpC P C cf LF (cdA c) fr Q -> Q1) -> Hid (wpC P C cf LF (cdB c) fr Q -> Q2) -> zeN (rdV (opE fr o)) Q1 Q2) : wpC P C cf LF c fr Q := by
  cases c <;> first | (cases ho; exact zf1 h) | cases ho
theorem zcN {l : List Oper} (hl : rgL c = some l) (hd : rgD c = false) (hz : cf.fz (rgI c) = none) (h : ∀ Q' : Fr -> Prop, Hid (∀ fr', Q .n fr' -> Q' fr') -> z7M (z7X P C cf.wio l.toArray l fr) Q') : wpC P C cf LF c fr Q := by
  cases c with
  | region i ops d =>
    cases hl
    exact z9V hd hz (by simpa using h)
  | _ => cases hl
theorem zgn {l : List Nat} {fr1 : Fr} (hk : z4j c = 1) (hz : cf.fz (rgI c) = some l) (hf : zeW fr l = fr1) (h : wpC P C { cf with fz := fun _ => none } LF c fr1 Q) : wpC P C cf LF c fr Q := by
  cases c <;> first | exact zdK hz hf h | cases hk
theorem zef {i : Nat} {sch : List (Nat × Nat)} (hi : rgN c = some i) (hd : rgD c = true) (hs : cf.dr i = some sch) (hz : cf.fz i = none) (h : z2l P C cf.wio (cf.wr i) (rgO c) sch fr (fun fr1 => z7M (z1k P (rgO c).toList fr1) (Q .n))) (ht : cf.dt i = none := by rfl) : wpC P C cf LF c fr Q := by
  cases c with
  | region j ops d =>
    cases hi
    exact zaR hd hs hz h ht
  | _ => cases hi
def zfx : List Oper -> Nat -> Option Oper
  | [], _ => none
  | o :: _, 0 => some o
  | _ :: l, k + 1 => zfx l k
theorem zeq (l : List Oper) : ∀ (k : Nat) (o : Oper), zfx l k = some o -> l[k]? = some o := by
  induction l with
  | nil => intro k o h; cases k <;> cases h
  | cons a l ih =>
    intro k o h
    cases k with
    | zero => simpa [zfx] using h
    | succ k => simpa using ih k o (by simpa [zfx] using h)
def zbt (c : Code) (k : Nat) : Option Oper := match c with | .region _ ops _ => zfx ops.toList k | _ => none
theorem z4Q {c : Code} {k : Nat} {o : Oper} (h : zbt c k = some o) : (rgO c)[k]? = some o := by
  cases c with
  | region i ops d => rw [← Array.getElem?_toList]; exact zeq _ _ _ h
  | _ => cases h
theorem z7Y {wio : FuncId -> Nat -> Bool} {M : List Nat} {ops : Array Oper} {l : List Oper} {Q : X -> Fr -> Prop} (hl : rgL c = some l) (h : ∀ Q' : Fr -> Prop, Hid (∀ fr', Q .n fr' -> Q' fr') -> z7M (z1k P l fr) Q') : z2l P C wio M ops [] fr (fun fr1 => z7M (z1k P (rgO c).toList fr1) (Q .n)) := by
  have e : (rgO c).toList = l := by
    cases c with
    | region i ops d => cases hl; rfl
    | _ => cases hl
  rw [e]
  exact zc3 h
def zh7 : Option Oper -> Option Nat
  | some o => o.dst
  | none => none
def zez (c : Code) (o : Oper) : Option (Option (Option Nat × Bool)) := match o.guard with | none => some none | some (j, want) => (match zh7 (zbt c j) with | some t => some (some (some t, want)) | none => none)
def zdE (g : Option (Option Nat × Bool)) (fr : Fr) : Option Bool :=
  match g with
  | none => some true
  | some (none, _) => some false
  | some (some t, want) => if t < fr.nt then (match z8K (z0n fr.tm t) with | some b => some (b == some want) | none => none) else none
theorem zbN {o : Oper} {g : Option (Option Nat × Bool)} (hg : zez c o = some g) (fr : Fr) : z1V (rgO c) fr o = zdE g fr := by
  unfold zez at hg
  unfold z1V zdE
  split at hg
  · rename_i h; cases hg; simp [h]
  · rename_i j want h
    split at hg
    · rename_i t ht
      cases hg
      have e : ((rgO c)[j]?).bind (·.dst) = some t := by
        unfold zh7 at ht
        split at ht
        · rename_i o' ho'
          rw [z4Q ho']; exact ht
        · cases ht
      simp only [h, e]
      all_goals rfl
    · cases hg
theorem za6 {wio : FuncId -> Nat -> Bool} {M : List Nat} {k m : Nat} {o : Oper} {l : List (Nat × Nat)} {Q : Fr -> Prop} (ho : zbt c k = some o) (hg : o.guard = none) (h : ∀ Q' : Fr -> Prop, Hid (∀ fr', z2l P C wio M (rgO c) l fr' Q -> Q' fr') -> z7M (z4H P C wio M.isEmpty M.contains fr o m) Q') : z2l P C wio M (rgO c) ((k, m) :: l) fr Q := zdc (z4Q ho) hg h
theorem z5T {wio : FuncId -> Nat -> Bool} {M : List Nat} {k m : Nat} {o : Oper} {g : Option (Option Nat × Bool)} {l : List (Nat × Nat)} {Q : Fr -> Prop} (ho : zbt c k = some o) (hg : zez c o = some g) (h : ∀ Q1 Q2 : Prop, Hid ((∀ Q' : Fr -> Prop, Hid (∀ fr', z2l P C wio M (rgO c) l fr' Q -> Q' fr') -> z7M (z4H P C wio M.isEmpty M.contains fr o m) Q') -> Q1) -> Hid ((∀ Q' : Fr -> Prop, Hid (∀ fr', z2l P C wio M (rgO c) l fr' Q -> Q' fr') -> z7M (putF fr o.dst (.one (.k undef))) Q') -> Q2) -> zf2 (zdE g fr) Q1 Q2) : z2l P C wio M (rgO c) ((k, m) :: l) fr Q :=
  z8u (z4Q ho) (by simpa only [zbN hg] using h)
def zhe (P : Program) (C : z0b) (wio : FuncId -> Nat -> Bool) (c : Code) (k : Nat) (fr : Fr) (Q : Fr -> Prop) : Prop := zfZ P C wio (rgO c) ((rgO c).toList.drop k) fr Q
theorem zeb (hk : z4j c = 10) (h : wpC P C cf LF (spC c) fr Q) : wpC P C cf LF c fr Q := by
  cases c with
  | scope c => unfold wpC at h ⊢; simpa only [z0k, spC] using h
  | _ => cases hk
def z1C (P : Program) (C : z0b) (cf : Cfg) (c : Code) (i : Nat) (t : SchT) (fr : Fr) (Q : Fr -> Prop) : Prop := ∃ fr', z1F P C cf.wio (cf.wr i).isEmpty (cf.wr i).contains (rgO c) t fr = some fr' /\ Q fr'
theorem zfe {i : Nat} {t : SchT} (hi : rgN c = some i) (hd : rgD c = true) (ht : cf.dt i = some t) (hz : cf.fz i = none) (h : z1C P C cf c i t fr (fun fr1 => ∃ fr2, z1k P (rgO c).toList fr1 = some fr2 /\ Q .n fr2)) : wpC P C cf LF c fr Q := by
  cases c with
  | region j ops d =>
    cases hi
    simp only [rgD] at hd
    subst hd
    obtain ⟨fr1, e1, fr2, e2, h⟩ := h
    simp only [rgO] at e1 e2
    exact ⟨.n, fr2, by simp only [z0k, if_true, z2g, ht, hz, zd9, e1, e2], h⟩
  | _ => cases hi
theorem zf4 {i : Nat} {Q : Fr -> Prop} (h : Q fr) : z1C P C cf c i .nil fr Q := ⟨fr, by simp only [z1F], h⟩
theorem zf5 {l : List Oper} {fr2 : Fr} {Q : X -> Fr -> Prop} (hl : rgL c = some l) (ha : z1k P l fr = some fr2) (h : Q .n fr2) : ∃ fr2, z1k P (rgO c).toList fr = some fr2 /\ Q .n fr2 := by
  cases c with
  | region j ops d => cases hl; exact ⟨fr2, ha, h⟩
  | _ => cases hl
def z6I (P : Program) (C : z0b) (wio : FuncId -> Nat -> Bool) (same : Bool) (M : Nat -> Bool) (fr : Fr) (o : Oper) (m : Nat) : Option Fr := match z4H P C wio same M fr o m with | some f => some (zdB f) | none => none
theorem z5A {i k m : Nat} {rest : SchT} {o : Oper} {fr1 fr' : Fr} (ho : zbt c k = some o) (hgd : z1V (rgO c) fr o = some true) (hs : z6I P C cf.wio (cf.wr i).isEmpty (cf.wr i).contains fr o m = some fr1) (e : z1F P C cf.wio (cf.wr i).isEmpty (cf.wr i).contains (rgO c) rest fr1 = some fr') : z1F P C cf.wio (cf.wr i).isEmpty (cf.wr i).contains (rgO c) (.op k m rest) fr = some fr' := by
  unfold z6I at hs
  split at hs
  case h_2 => cases hs
  case h_1 f hz =>
  cases hs
  simp only [z1F, z4Q ho, hgd]
  unfold z4H at hz
  split at hz
  · rename_i hm
    rw [if_pos hm]
    split at hz
    · rename_i e1 he
      try rw [he]
      simp only [hz]
      exact e
    · cases hz
  · rename_i hm
    rw [if_neg hm]
    rw [hz]
    exact e
theorem zgd {i k m : Nat} {rest : SchT} {o : Oper} {fr1 : Fr} {Q : Fr -> Prop} (ho : zbt c k = some o) (hg : o.guard = none) (hs : z6I P C cf.wio (cf.wr i).isEmpty (cf.wr i).contains fr o m = some fr1) (h : z1C P C cf c i rest fr1 Q) : z1C P C cf c i (.op k m rest) fr Q := by
  obtain ⟨fr', e, h⟩ := h
  exact ⟨fr', z5A ho (by unfold z1V; rw [hg]) hs e, h⟩
theorem zge {i k m : Nat} {rest : SchT} {o : Oper} {g : Option (Option Nat × Bool)} {fr1 : Fr} {Q : Fr -> Prop} (ho : zbt c k = some o) (hg : zez c o = some g) (hv : zdE g fr = some true) (hs : z6I P C cf.wio (cf.wr i).isEmpty (cf.wr i).contains fr o m = some fr1) (h : z1C P C cf c i rest fr1 Q) : z1C P C cf c i (.op k m rest) fr Q := by
  obtain ⟨fr', e, h⟩ := h
  exact ⟨fr', z5A ho (by rw [zbN hg]; exact hv) hs e, h⟩
def nrmO? : Option Fr -> Option Fr
  | some f => some (zdB f)
  | none => none
theorem zgf {i k m : Nat} {rest : SchT} {o : Oper} {g : Option (Option Nat × Bool)} {fr1 : Fr} {Q : Fr -> Prop} (ho : zbt c k = some o) (hg : zez c o = some g) (hv : zdE g fr = some false) (hs : nrmO? (putF fr o.dst (.one (.k undef))) = some fr1) (h : z1C P C cf c i rest fr1 Q) : z1C P C cf c i (.op k m rest) fr Q := by
  obtain ⟨fr', e, h⟩ := h
  have hgd : z1V (rgO c) fr o = some false := by rw [zbN hg]; exact hv
  unfold nrmO? at hs
  split at hs
  · rename_i f hf
    cases hs
    exact ⟨fr', by simp only [z1F, z4Q ho, hgd, hf]; exact e, h⟩
  · cases hs
theorem zf6 {i : Nat} {a b : SchT} {f : Fr} {Q : Fr -> Prop} (h1 : z1C P C cf c i a fr (fun x => x = f)) (h2 : z1C P C cf c i b fr (fun y => z4h f y)) (h : Q f) : z1C P C cf c i (.alt a b) fr Q := by
  obtain ⟨x, e1, rfl⟩ := h1
  obtain ⟨y, e2, hs⟩ := h2
  exact ⟨x, by simp only [z1F, e1, e2]; exact z5Y hs, h⟩
theorem zdS {i : Nat} {a b : SchT} {Q : Fr -> Prop} (h : z1C P C cf c i a fr (fun x => z1C P C cf c i b fr (fun y => z4h x y) /\ Q x)) : z1C P C cf c i (.alt a b) fr Q := by
  obtain ⟨x, e1, h1, h2⟩ := h
  exact zf6 ⟨x, e1, rfl⟩ h1 h2
theorem z8I {id i : Nat} (hi : i = id) (h : Q .n fr) : z2e id Q (.x i) fr := by
  subst hi; exact zaK h
end
attribute [irreducible] wpC z7U z2e zfZ zhe z2l zgD zfd z7M zf2 zeN
end
section
def LFm : Nat := 18446744073709551616
noncomputable def z0D (P : Program) (X : z0b -> z0b) (cf : FuncId -> Option Cfg) : Nat -> z0b
  | 0 => fun f args => match cf f with | some _ => none | none => X (fun _ _ => none) f args
  | n + 1 => fun f args => match cf f with
    | some c => (match P.funcs[f]? with | some fn => z6E P (z0D P X cf n) c LFm fn args | none => none)
    | none => X (z0D P X cf n) f args
def z5o (P : Program) (f : FuncId) (c : Cfg) : Bool :=
  match P.funcs[f]? with
  | none => false
  | some fn => match fn.body with
    | none => false
    | some b => (fn.name != "runtime.NumGoroutine") && okC c b
theorem z3h {P : Program} {I : World -> (Nat -> z0a) -> Prop} {X : z0b -> z0b} {cf : FuncId -> Option Cfg} (hI : EnvS I) (hX : ∀ C, z1M P I C -> z1M P I (X C)) (hm : P.follows .mixedOrders = true) (hf : ∀ f c, cf f = some c -> z5o P f c = true) : ∀ n, z1M P I (z0D P X cf n)
  | 0 => fun f args r outs h => by
    simp only [z0D] at h
    split at h
    · cases h
    · exact hX _ (fun _ _ _ _ h => by cases h) f args r outs h
  | n + 1 => fun f args r outs h => by
    simp only [z0D] at h
    split at h
    · rename_i c hc
      split at h
      · rename_i fn hfn
        have hok := hf f c hc
        unfold z5o at hok
        rw [hfn] at hok
        simp only at hok
        split at hok
        · cases hok
        · rename_i b hb
          simp only [Bool.and_eq_true, bne_iff_ne, ne_eq] at hok
          exact zfa hI (z3h hI hX hm hf n) hm hfn hb hok.1 hok.2 h
      · cases h
    · exact hX _ (z3h hI hX hm hf n) f args r outs h
theorem zbC {P : Program} {X : z0b -> z0b} {cf : FuncId -> Option Cfg} {f : FuncId} {c : Cfg} {fn : Func} {n : Nat} {args : List T} {o : T × List T} (hc : cf f = some c) (hfn : P.funcs[f]? = some fn) (h : z6E P (z0D P X cf n) c LFm fn args = some o) : z0D P X cf (n + 1) f args = some o := by
  simp only [z0D, hc, hfn, h]
def From (P : Program) (X : z0b -> z0b) (cf : FuncId -> Option Cfg) (d : Nat) (f : FuncId) (args : List T) (o : T × List T) : Prop := ∀ n, d <= n -> z0D P X cf n f args = some o
theorem From.run {P : Program} {X : z0b -> z0b} {cf : FuncId -> Option Cfg} {f : FuncId} {c : Cfg} {fn : Func} {d : Nat} {args : List T} {o : T × List T} (hc : cf f = some c) (hfn : P.funcs[f]? = some fn) (h : ∀ n, d <= n -> z6E P (z0D P X cf n) c LFm fn args = some o) : From P X cf (d + 1) f args o := fun n hn => by
  match n, hn with
  | m + 1, hm => exact zbC hc hfn (h m (by omega))
theorem From.mono {P : Program} {X : z0b -> z0b} {cf : FuncId -> Option Cfg} {f : FuncId} {d e : Nat} {args : List T} {o : T × List T} (h : From P X cf d f args o) (he : d <= e) : From P X cf e f args o := fun n hn => h n (by omega)
theorem From.ok {P : Program} {I : World -> (Nat -> z0a) -> Prop} {X : z0b -> z0b} {cf : FuncId -> Option Cfg} {f : FuncId} {d : Nat} {args : List T} {r : T} {outs : List T} (hI : EnvS I) (hX : ∀ C, z1M P I C -> z1M P I (X C)) (hm : P.follows .mixedOrders = true) (hf : ∀ f c, cf f = some c -> z5o P f c = true) (h : From P X cf d f args (r, outs)) : CallOk P I f args r outs :=
  z3h hI hX hm hf d f args r outs (h d (Nat.le_refl d))
end
section
noncomputable def Lim (P : Program) (X : z0b -> z0b) (cf : FuncId -> Option Cfg) : z0b := fun f args =>
  @dite _ (∃ o d, From P X cf d f args o) (Classical.propDecidable _) (fun h => some h.choose) (fun _ => none)
section
variable {P : Program} {Xc : z0b -> z0b} {cf : FuncId -> Option Cfg}
theorem zbA {d : Nat} {f : FuncId} {args : List T} {o : T × List T} (h : From P Xc cf d f args o) : Lim P Xc cf f args = some o := by
  have he : ∃ o d, From P Xc cf d f args o := ⟨o, d, h⟩
  unfold Lim
  rw [dif_pos he]
  obtain ⟨e, h2⟩ := he.choose_spec
  have a1 := h (d + e) (by omega)
  have a2 := h2 (d + e) (by omega)
  rw [a1] at a2
  exact a2.symm
theorem zdA {f : FuncId} {args : List T} {o : T × List T} (h : Lim P Xc cf f args = some o) : ∃ d, From P Xc cf d f args o := by
  unfold Lim at h
  split at h
  · rename_i he
    cases h
    exact he.choose_spec
  · cases h
def Ev (p : Nat -> Prop) : Prop := ∃ n, ∀ m, n <= m -> p m
theorem Ev.pure {p : Nat -> Prop} (h : ∀ m, p m) : Ev p := ⟨0, fun m _ => h m⟩
theorem Ev.both {p q r : Nat -> Prop} (h1 : Ev p) (h2 : Ev q) (h : ∀ m, p m -> q m -> r m) : Ev r := by
  obtain ⟨a, h1⟩ := h1
  obtain ⟨b, h2⟩ := h2
  exact ⟨a + b, fun m hm => h m (h1 m (by omega)) (h2 m (by omega))⟩
theorem Ev.imp {p q : Nat -> Prop} (h1 : Ev p) (h : ∀ m, p m -> q m) : Ev q := by
  obtain ⟨a, h1⟩ := h1
  exact ⟨a, fun m hm => h m (h1 m hm)⟩
theorem z3F {wio : FuncId -> Nat -> Bool} {fr fr' : Fr} {f : FuncId} {args : List E} {dst : Option Nat} (h : z3G (Lim P Xc cf) wio fr f args dst = some fr') : Ev fun m => z3G (z0D P Xc cf m) wio fr f args dst = some fr' := by
  unfold z3G at h ⊢
  split at h
  · cases h
  · rename_i ts deps io ha
    split at h
    · cases h
    · rename_i r outs hc
      obtain ⟨d, hd⟩ := zdA hc
      refine ⟨d, fun m hm => ?_⟩
      show (match z0D P Xc cf m f ts with | none => none | some (r, outs) => _) = _
      rw [hd m hm]
      exact h
theorem z8e {wio : FuncId -> Nat -> Bool} {fr fr' : Fr} {o : Oper} (h : opF P (Lim P Xc cf) wio fr o = some fr') : Ev fun m => opF P (z0D P Xc cf m) wio fr o = some fr' := by
  unfold opF at h ⊢
  split at h
  · exact .pure fun _ => h
  · split at h
    · exact z3F h
    · cases h
  · exact .pure fun _ => h
  · exact .pure fun _ => h
  · exact .pure fun _ => h
theorem z7G {wio : FuncId -> Nat -> Bool} {fr fr' : Fr} {o : Oper} (h : z2Y P (Lim P Xc cf) wio fr o = some fr') : Ev fun m => z2Y P (z0D P Xc cf m) wio fr o = some fr' := by
  unfold z2Y at h ⊢
  split at h
  · split at h
    · split at h
      · exact z3F h
      · cases h
    · cases h
  · exact .pure fun _ => h
theorem zaO {wio : FuncId -> Nat -> Bool} {M : Nat -> Bool} {fr fr' : Fr} {o : Oper} (h : wrF P (Lim P Xc cf) wio M fr o = some fr') : Ev fun m => wrF P (z0D P Xc cf m) wio M fr o = some fr' := by
  unfold wrF at h ⊢
  split at h
  · split at h
    · cases h
    · split at h
      · exact z3F h
      · split at h
        · rename_i hM
          simp only [hM, if_true]
          exact z3F h
        · cases h
      · cases h
  · exact .pure fun _ => h
  · exact .pure fun _ => h
  · exact .pure fun _ => h
  · cases h
theorem z5S {wio : FuncId -> Nat -> Bool} {ops : Array Oper} : ∀ {l : List Oper} {fr fr' : Fr}, z7X P (Lim P Xc cf) wio ops l fr = some fr' -> Ev fun m => z7X P (z0D P Xc cf m) wio ops l fr = some fr'
  | [], fr, fr', h => .pure fun _ => h
  | o :: rest, fr, fr', h => by
    simp only [z7X] at h ⊢
    split at h
    · cases h
    · split at h
      · rename_i fr1 h1
        exact (z8e h1).both (z5S h) fun m a1 a2 => by rw [a1]; exact a2
      · cases h
    · split at h
      · rename_i fr1 h1
        exact (z5S h)
      · cases h
theorem z3C {wio : FuncId -> Nat -> Bool} {same : Bool} {M : Nat -> Bool} {ops : Array Oper} : ∀ {l : List (Nat × Oper × Nat)} {fr fr' : Fr}, z2G P (Lim P Xc cf) wio same M ops l fr = some fr' -> Ev fun m => z2G P (z0D P Xc cf m) wio same M ops l fr = some fr'
  | [], fr, fr', h => .pure fun _ => h
  | (k, o, mk) :: rest, fr, fr', h => by
    simp only [z2G] at h ⊢
    split at h
    · cases h
    · split at h
      · exact z3C h
      · cases h
    · split at h
      · rename_i hm
        simp only [if_pos hm]
        split at h
        · split at h
          · exact z3C h
          · cases h
        · cases h
      · rename_i hm
        simp only [if_neg hm]
        split at h
        · rename_i fr1 h1
          have h2 : Ev fun m => (if mk = 2 then opF P (z0D P Xc cf m) wio fr o else if same = true then z2Y P (z0D P Xc cf m) wio fr o else wrF P (z0D P Xc cf m) wio M fr o) = some fr1 := by
            by_cases e : mk = 2
            · simp only [if_pos e] at h1 ⊢; exact z8e h1
            · simp only [if_neg e] at h1 ⊢
              by_cases e2 : same = true
              · simp only [if_pos e2] at h1 ⊢; exact z7G h1
              · simp only [if_neg e2] at h1 ⊢; exact zaO h1
          exact h2.both (z3C h) fun m a1 a2 => by rw [a1]; exact a2
        · cases h
theorem z2m {wio : FuncId -> Nat -> Bool} {same : Bool} {M : Nat -> Bool} {ops : Array Oper} : ∀ {l : SchT} {fr fr' : Fr}, z1F P (Lim P Xc cf) wio same M ops l fr = some fr' -> Ev fun m => z1F P (z0D P Xc cf m) wio same M ops l fr = some fr'
  | .nil, fr, fr', h => .pure fun _ => h
  | .alt x y, fr, fr', h => by
    simp only [z1F] at h ⊢
    split at h
    · rename_i f1 f2 h1 h2
      obtain ⟨rfl, hs⟩ := z3L h
      exact (z2m h1).both (z2m h2) fun m a1 a2 => by rw [a1, a2]; exact z5Y hs
    · cases h
  | .op k mk rest, fr, fr', h => by
    simp only [z1F] at h ⊢
    split at h
    · cases h
    rename_i o ho
    try simp only [ho]
    split at h
    · cases h
    · split at h
      · exact z2m h
      · cases h
    · split at h
      · rename_i hm
        simp only [if_pos hm]
        split at h
        · split at h
          · exact z2m h
          · cases h
        · cases h
      · rename_i hm
        simp only [if_neg hm]
        split at h
        · rename_i fr1 h1
          have h2 : Ev fun m => (if mk = 2 then opF P (z0D P Xc cf m) wio fr o else if same = true then z2Y P (z0D P Xc cf m) wio fr o else wrF P (z0D P Xc cf m) wio M fr o) = some fr1 := by
            by_cases e : mk = 2
            · simp only [if_pos e] at h1 ⊢; exact z8e h1
            · simp only [if_neg e] at h1 ⊢
              by_cases e2 : same = true
              · simp only [if_pos e2] at h1 ⊢; exact z7G h1
              · simp only [if_neg e2] at h1 ⊢; exact zaO h1
          exact h2.both (z2m h) fun m a1 a2 => by rw [a1]; exact a2
        · cases h
theorem z8v {c : Cfg} {id : Nat} {ops : Array Oper} {fr fr' : Fr} (h : z2g P (Lim P Xc cf) c id ops fr = some fr') : Ev fun m => z2g P (z0D P Xc cf m) c id ops fr = some fr' := by
  unfold z2g at h ⊢
  split at h
  · exact z2m h
  · split at h
    · exact z3C h
    · cases h
theorem z7p {B : z0b -> Fr -> Option (X × Fr)} {cn : Fr -> Fr} (hB : ∀ fr o, B (Lim P Xc cf) fr = some o -> Ev fun m => B (z0D P Xc cf m) fr = some o) : ∀ {n : Nat} {fr : Fr} {o : X × Fr}, z3B (B (Lim P Xc cf)) cn n fr = some o -> Ev fun m => z3B (B (z0D P Xc cf m)) cn n fr = some o
  | 0, fr, o, h => by cases h
  | n + 1, fr, o, h => by
    simp only [z3B] at h ⊢
    split at h
    · rename_i fr1 h1
      exact (hB _ _ h1).both (z7p hB h) fun m a1 a2 => by rw [a1]; exact a2
    · rename_i x fr1 hne h1
      refine (hB _ _ h1).imp fun m a1 => ?_
      rw [a1]
      cases x with
      | n => exact absurd rfl hne
      | x i => exact h
      | r => exact h
    · cases h
theorem z3D {c : Cfg} {LF : Nat} : ∀ (b : Code) {fr : Fr} {o : X × Fr}, z0k P (Lim P Xc cf) c LF b fr = some o -> Ev fun m => z0k P (z0D P Xc cf m) c LF b fr = some o := by
  intro b
  induction b with
  | skip => intro fr o h; exact .pure fun _ => h
  | label l => intro fr o h; exact .pure fun _ => h
  | exit id => intro fr o h; exact .pure fun _ => h
  | ret => intro fr o h; exact .pure fun _ => h
  | goto l => intro fr o h; cases h
  | scope c ih => intro fr o h; simp only [z0k] at h ⊢; exact ih h
  | refuse s => intro fr o h; cases h
  | rangeFunc => intro fr o h; cases h
  | region id ops draw =>
    intro fr o h
    simp only [z0k] at h ⊢
    split at h
    · rename_i hd
      simp only [hd, if_true]
      split at h
      · rename_i fr1 h1
        exact (z8v h1).imp fun m a1 => by rw [a1]; exact h
      · cases h
    · rename_i hd
      simp only [hd, Bool.false_eq_true, if_false]
      split at h
      · rename_i fr1 h1
        exact (z5S h1).imp fun m a1 => by rw [a1]; exact h
      · cases h
  | seq a b ih1 ih2 =>
    intro fr o h
    simp only [z0k] at h ⊢
    split at h
    · rename_i fr1 h1
      exact (ih1 h1).both (ih2 h) fun m a1 a2 => by rw [a1]; exact a2
    · rename_i hne
      refine (ih1 h).imp fun m a1 => ?_
      rw [a1]
      obtain ⟨x, fr1⟩ := o
      cases x with
      | n => exact absurd h (hne _)
      | x i => rfl
      | r => rfl
  | cond c x y ih1 ih2 =>
    intro fr o h
    simp only [z0k] at h ⊢
    split at h
    · exact ih1 h
    · exact ih2 h
    · cases h
  | block id c ih =>
    intro fr o h
    simp only [z0k] at h ⊢
    split at h
    · rename_i i fr1 h1
      exact (ih h1).imp fun m a1 => by rw [a1]; exact h
    · rename_i hne
      refine (ih h).imp fun m a1 => ?_
      rw [a1]
      obtain ⟨x, fr1⟩ := o
      cases x with
      | n => rfl
      | x i => exact absurd h (hne _ _)
      | r => rfl
  | loop b ih =>
    intro fr o h
    simp only [z0k] at h ⊢
    exact z7p (B := fun C fr => z0k P C c LF b fr) (fun fr o h => ih h) h
theorem zcI {c : Cfg} {LF : Nat} {fn : Func} {args : List T} {o : T × List T} (h : z6E P (Lim P Xc cf) c LF fn args = some o) : Ev fun m => z6E P (z0D P Xc cf m) c LF fn args = some o := by
  unfold z6E at h ⊢
  split at h
  · rename_i hc
    simp only [if_pos hc]
    split at h
    · cases h
    · rename_i b hb
      split at h
      · rename_i fr h1
        exact (z3D _ h1).imp fun m a1 => by rw [a1]; exact h
      · rename_i fr h1
        exact (z3D _ h1).imp fun m a1 => by rw [a1]; exact h
      · cases h
  · cases h
theorem zbz {f : FuncId} {c : Cfg} {fn : Func} {args : List T} {o : T × List T} (hc : cf f = some c) (hfn : P.funcs[f]? = some fn) (h : z6E P (Lim P Xc cf) c LFm fn args = some o) : Lim P Xc cf f args = some o := by
  obtain ⟨d, hd⟩ := zcI h
  exact zbA (d := d + 1) (From.run hc hfn hd)
theorem z8n {f : FuncId} {args : List T} (hc : cf f = none) {o : T × List T} (h : ∀ C, Xc C f args = some o) : Lim P Xc cf f args = some o :=
  zbA (d := 0) fun n _ => by
    cases n with
    | zero => simp only [z0D, hc, h]
    | succ n => simp only [z0D, hc, h]
theorem z6h {f : FuncId} {args : List T} (hc : cf f = none) {o : T × List T} (h : Ev fun m => Xc (z0D P Xc cf m) f args = some o) : Lim P Xc cf f args = some o := by
  obtain ⟨d, hd⟩ := h
  refine zbA (d := d + 1) fun n hn => ?_
  match n, hn with
  | n + 1, hn => simp only [z0D, hc]; exact hd n (by omega)
theorem zfC {I : World -> (Nat -> z0a) -> Prop} {f : FuncId} {args : List T} {r : T} {outs : List T} (hI : EnvS I) (hX : ∀ C, z1M P I C -> z1M P I (Xc C)) (hm : P.follows .mixedOrders = true) (hf : ∀ f c, cf f = some c -> z5o P f c = true) (h : Lim P Xc cf f args = some (r, outs)) : CallOk P I f args r outs := by
  obtain ⟨d, hd⟩ := zdA h
  exact From.ok hI hX hm hf hd
end
end
section
def z9w (P : Program) (t : TypeId) (f : Nat) : Option (Nat × Nat × Bool) :=
  match z0u P t with
  | some ⟨.struct fields, _, _, _⟩ => match fields[f]? with
    | none => none
    | some fd => match z0u P fd.type with
      | none => none
      | some ti => some (fd.offset, ti.size, z0X ti.u)
  | _ => none
theorem z6s (P : Program) (t : TypeId) (e : E) (f : Nat) : z2k P t e f = match z9w P t f with
    | some (off, size, _) => if size = 0 then none else match e with
      | .one (.a id p o) => some (.one (.a id p (o + off)))
      | .one (.ea dep cs o) => some (.one (.ea dep cs (o + off)))
      | _ => none
    | none => none := by
  unfold z2k z9w
  cases z0u P t with
  | none => rfl
  | some i =>
    obtain ⟨u, s, b, z⟩ := i
    cases u with
    | struct fields =>
      simp only
      cases fields[f]? with
      | none => rfl
      | some fd =>
        simp only
        cases z0u P fd.type with
        | none => rfl
        | some ti => rfl
    | _ => rfl
theorem zbX (P : Program) (fr : Fr) (t : TypeId) (e : E) (f : Nat) : z7u P fr t e f = match z9w P t f with
    | some (off, size, agg) => zac fr agg size off e
    | none => none := by
  unfold z7u z9w
  cases z0u P t with
  | none => rfl
  | some i =>
    obtain ⟨u, s, b, z⟩ := i
    cases u with
    | struct fields =>
      simp only
      cases fields[f]? with
      | none => rfl
      | some fd =>
        simp only
        cases z0u P fd.type with
        | none => rfl
        | some ti => rfl
    | _ => rfl
abbrev hE (id : Nat) : E := .one (.h id [])
theorem z5M : ∀ l : List UInt8, z3e (l.map fun b => .sc (.int .u8 b.toNat)) = some l
  | [] => rfl
  | b :: l => by simp [z3e, z5M l]
theorem z7S (b : UInt8) : IntKind.u8.wrap (b.toNat : Int) = b.toNat := by
  have := b.toNat_lt
  rw [IntKind.wrap_u8]; omega
@[simp] theorem range_1 : List.range 1 = [0] := rfl
@[simp] theorem range_2 : List.range 2 = [0, 1] := rfl
@[simp] theorem range_3 : List.range 3 = [0, 1, 2] := rfl
@[simp] theorem range_4 : List.range 4 = [0, 1, 2, 3] := rfl
@[simp] theorem range_5 : List.range 5 = [0, 1, 2, 3, 4] := rfl
@[simp] theorem range_6 : List.range 6 = [0, 1, 2, 3, 4, 5] := rfl
@[simp] theorem range_7 : List.range 7 = [0, 1, 2, 3, 4, 5, 6] := rfl
@[simp] theorem range_8 : List.range 8 = [0, 1, 2, 3, 4, 5, 6, 7] := rfl
@[simp] theorem range_9 : List.range 9 = [0, 1, 2, 3, 4, 5, 6, 7, 8] := rfl
@[simp] theorem range_10 : List.range 10 = [0, 1, 2, 3, 4, 5, 6, 7, 8, 9] := rfl
@[simp] theorem range_11 : List.range 11 = [0, 1, 2, 3, 4, 5, 6, 7, 8, 9, 10] := rfl
@[simp] theorem range_12 : List.range 12 = [0, 1, 2, 3, 4, 5, 6, 7, 8, 9, 10, 11] := rfl
@[simp] theorem zaL (t : T) : ∀ n, z2T n [t] = List.replicate n t
  | 0 => rfl
  | n + 1 => by simp [z2T, zaL t n, List.replicate_succ]
@[simp] theorem zel {α : Type} (g : α -> Value) : ∀ l : List α, z5n (l.map fun x => T.sc (g x)) = false
  | [] => rfl
  | x :: l => by simp [z5n, opn, zel g l]
@[simp] theorem bits_u64 : IntKind.u64.bits = 64 := rfl
@[simp] theorem bits_i64 : IntKind.i64.bits = 64 := rfl
@[simp] theorem int_beq (a b : Int) : (a == b) = decide (a = b) := rfl
@[simp] theorem int_bne (a b : Int) : (a != b) = !decide (a = b) := rfl
@[simp] theorem wrap_0 : IntKind.i64.wrap 0 = 0 := by decide
@[simp] theorem wrap_1 : IntKind.i64.wrap 1 = 1 := by decide
@[simp] theorem wrap_2 : IntKind.i64.wrap 2 = 2 := by decide
@[simp] theorem wrap_3 : IntKind.i64.wrap 3 = 3 := by decide
@[simp] theorem wrap_m1 : IntKind.i64.wrap (-1) = -1 := by decide
end
section
def z1Y {σ ρ : Type} (b : σ -> Option (σ ⊕ ρ)) : Nat -> σ -> Option ρ
  | 0, _ => none
  | n + 1, s => match b s with
    | none => none
    | some (.inl s') => z1Y b n s'
    | some (.inr r) => some r
def z1E {σ ρ : Type} (s : σ) : Option (σ ⊕ ρ) := some (.inl s)
def z1K {σ ρ : Type} (x : Option ρ) : Option (σ ⊕ ρ) := x.map .inr
def chk {α : Type} (p : Prop) [Decidable p] (x : Option α) : Option α := if p then x else none
def atI {α : Type} (xs : List α) (i : Int) : Option α := if 0 <= i then xs[i.toNat]? else none
def z7I (s : ByteArray) (i : Int) : Option Int := if 0 <= i then (s[i.toNat]?).map fun b => (b.toNat : Int) else none
def z1g {α : Type} (xs : List α) (l h : Int) : Option (List α) := if 0 <= l /\ l <= h /\ h <= xs.length then some ((xs.drop l.toNat).take (h.toNat - l.toNat)) else none
def z4N (s : ByteArray) (l h : Int) : Option ByteArray := if 0 <= l /\ l <= h /\ h <= s.size then some (s.extract l.toNat h.toNat) else none
def z2x (bytes n : Nat) : Prop := n * bytes <= 140737488355328 /\ n <= 4611686018427387904
instance (b n : Nat) : Decidable (z2x b n) := by unfold z2x; exact inferInstance
def z9a (bytes l : Int) : Prop := 0 <= l /\ l <= 140737488355328 /\ bytes * l <= 140737488355328
instance (b n : Int) : Decidable (z9a b n) := by unfold z9a; exact inferInstance
def z7D (a b : ByteArray) : Prop := ((a.size : Int) + b.size) <= 9223372036854775807
instance (a b : ByteArray) : Decidable (z7D a b) := by unfold z7D; exact inferInstance
def z6x (l : List Int) : ByteArray := ⟨(l.map fun z => UInt8.ofNat z.toNat).toArray⟩
def zfE (s : ByteArray) : List Int := s.data.toList.map fun b => (b.toNat : Int)
def z8o {κ ν : Type} [DecidableEq κ] (k : κ) : List (κ × ν) -> Option ν
  | [] => none
  | (a, v) :: r => if a = k then some v else z8o k r
def z7O {κ ν : Type} [DecidableEq κ] (k : κ) (v : ν) : List (κ × ν) -> List (κ × ν)
  | [] => [(k, v)]
  | (a, u) :: r => if a = k then (k, v) :: r else (a, u) :: z7O k v r
def z0l (k : IntKind) (a b : Int) : Int := k.wrap (BitVec.ofInt k.bits a &&& BitVec.ofInt k.bits b).toNat
def orI (k : IntKind) (a b : Int) : Int := k.wrap (BitVec.ofInt k.bits a ||| BitVec.ofInt k.bits b).toNat
def zh9 (k : IntKind) (a b : Int) : Int := k.wrap (BitVec.ofInt k.bits a ^^^ BitVec.ofInt k.bits b).toNat
def zeJ (k : IntKind) (a b : Int) : Int := k.wrap (BitVec.ofInt k.bits a &&& ~~~ BitVec.ofInt k.bits b).toNat
theorem zb6 : ∃ f : IntKind -> Int -> Int -> Int, ∀ k a b, f k a b = k.wrap (a * 2 ^ (min b.toNat k.bits)) := ⟨_, fun _ _ _ => rfl⟩
noncomputable def zfX : IntKind -> Int -> Int -> Int := Classical.choose zb6
theorem zb7 (k : IntKind) (a b : Int) : zfX k a b = k.wrap (a * 2 ^ (min b.toNat k.bits)) := Classical.choose_spec zb6 k a b
def z0M (k : IntKind) (a b : Int) : Int := a.fdiv (2 ^ (min b.toNat k.bits))
def zhi (k : IntKind) (a b : Int) : Int := k.wrap (a.tdiv b)
def zb0 (a b : ByteArray) : Bool := Go.Op.bytesLess a.toList b.toList
theorem z3E {α : Type} {p : Prop} [Decidable p] {x : Option α} {r : α} (h : chk p x = some r) : p /\ x = some r := by
  unfold chk at h; split at h
  · exact ⟨by assumption, h⟩
  · cases h
theorem z1L {α β : Type} {x : Option α} {f : α -> Option β} {r : β} (h : x.bind f = some r) : ∃ v, x = some v /\ f v = some r := by
  cases x with
  | none => cases h
  | some v => exact ⟨v, rfl, h⟩
theorem z7v {σ ρ : Type} {x : Option ρ} {o : σ ⊕ ρ} (h : z1K x = some o) : ∃ r, x = some r /\ o = .inr r := by
  unfold z1K at h
  cases x with
  | none => cases h
  | some v => cases h; exact ⟨v, rfl, rfl⟩
theorem zby {σ ρ : Type} {s : σ} {o : σ ⊕ ρ} (h : z1E s = some o) : o = .inl s := by cases h; rfl
theorem z9K {α : Type} {xs : List α} {i : Int} {v : α} (h : atI xs i = some v) : 0 <= i /\ i < xs.length /\ i.toNat + 1 <= xs.length /\ xs[i.toNat]? = some v /\ ∀ hh : i.toNat < xs.length, xs[i.toNat]'hh = v := by
  unfold atI at h
  split at h
  · have := (List.getElem?_eq_some_iff.1 h).1
    exact ⟨by assumption, by omega, this, h, fun _ => (List.getElem?_eq_some_iff.1 h).2⟩
  · cases h
theorem zaJ {s : ByteArray} {i v : Int} (h : z7I s i = some v) : 0 <= i /\ i < s.size /\ ∃ b, s[i.toNat]? = some b /\ v = (b.toNat : Int) /\ ∀ hh : i.toNat < s.size, ((s[i.toNat]'hh).toNat : Int) = v := by
  unfold z7I at h
  split at h
  · simp only [Option.map_eq_some_iff] at h
    obtain ⟨b, hb, rfl⟩ := h
    have : i.toNat < s.size := by
      rcases Nat.lt_or_ge i.toNat s.size with h' | h'
      · exact h'
      · rw [getElem?_neg s i.toNat (by omega)] at hb; cases hb
    exact ⟨by assumption, by omega, b, hb, rfl, fun hh => by rw [getElem?_pos s i.toNat hh] at hb; cases hb; rfl⟩
  · cases h
theorem zdp {α β : Type} {xs : List α} {i : Int} {f : α -> Option β} {r : β} (h : (atI xs i).bind f = some r) : ∃ v, (0 <= i /\ i < xs.length /\ i.toNat + 1 <= xs.length /\ xs[i.toNat]? = some v /\ ∀ hh : i.toNat < xs.length, xs[i.toNat]'hh = v) /\ f v = some r := by
  obtain ⟨v, h1, h2⟩ := z1L h
  exact ⟨v, z9K h1, h2⟩
theorem zdo {α β : Type} {xs : List α} {i : Nat} {f : α -> Option β} {r : β} (h : (atI xs (i : Int)).bind f = some r) : ∃ v, (i < xs.length /\ i + 1 <= xs.length /\ xs[i]? = some v /\ ∀ hh : i < xs.length, xs[i]'hh = v) /\ f v = some r := by
  obtain ⟨v, h1, h2⟩ := z1L h
  obtain ⟨a, b, c, d, e⟩ := z9K h1
  simp only [Int.toNat_natCast] at c d e
  exact ⟨v, ⟨by omega, c, d, e⟩, h2⟩
theorem z1n {α : Type} {xs ys : List α} {l h : Int} (e : z1g xs l h = some ys) : 0 <= l /\ l <= h /\ h <= xs.length /\ ys = (xs.drop l.toNat).take (h.toNat - l.toNat) /\ ys.length = h.toNat - l.toNat := by
  unfold z1g at e
  split at e
  · cases e
    refine ⟨by omega, by omega, by omega, rfl, ?_⟩
    simp; omega
  · cases e
theorem z8b {s t : ByteArray} {l h : Int} (e : z4N s l h = some t) : 0 <= l /\ l <= h /\ h <= s.size /\ t = s.extract l.toNat h.toNat := by
  unfold z4N at e
  split at e
  · cases e; exact ⟨by omega, by omega, by omega, rfl⟩
  · cases e
theorem z1O {σ ρ : Type} {b : σ -> Option (σ ⊕ ρ)} (I : σ -> Prop) (m : σ -> Nat) (Post : ρ -> Prop) (step : ∀ s, I s -> (∃ s', b s = some (.inl s') /\ I s' /\ m s' < m s) ∨ (∃ r, b s = some (.inr r) /\ Post r)) :
    ∀ (n : Nat) (s : σ), I s -> m s < n -> ∃ r, z1Y b n s = some r /\ Post r
  | 0, s, _, h => by omega
  | n + 1, s, hI, hm => by
    rcases step s hI with ⟨s', e, hI', hm'⟩ | ⟨r, e, hr⟩
    · obtain ⟨r, h1, h2⟩ := z1O I m Post step n s' hI' (by omega)
      exact ⟨r, by simp only [z1Y, e]; exact h1, h2⟩
    · exact ⟨r, by simp only [z1Y, e], hr⟩
theorem zd1 {σ ρ : Type} {b : σ -> Option (σ ⊕ ρ)} {r : ρ} (I : σ -> Prop) (m : σ -> Nat) {n : Nat} {s : σ} (hI : I s) (hm : m s < n) (step : ∀ s, I s -> (∃ s', b s = z1E s' /\ I s' /\ m s' < m s) ∨ b s = z1K (some r)) : z1Y b n s = some r := by
  obtain ⟨r', h1, h2⟩ := z1O I m (· = r) (fun s hs => (step s hs).imp id fun h => ⟨r, h, rfl⟩) n s hI hm
  rw [h1, h2]
theorem zgl {P : Program} {C : z0b} {cf : Cfg} {LF : Nat} {c : Code} {fr : Fr} {Q : X -> Fr -> Prop} {o : Operand} (ho : cdO c = some o) (hv : rdV (opE fr o) = some (.bool true)) (h : wpC P C cf LF (cdA c) fr Q) : wpC P C cf LF c fr Q :=
  zh4 ho fun Q1 Q2 h1 h2 => by rw [hv, z6G]; exact ⟨fun _ => h1.out h, fun e => by cases e⟩
theorem zgm {P : Program} {C : z0b} {cf : Cfg} {LF : Nat} {c : Code} {fr : Fr} {Q : X -> Fr -> Prop} {o : Operand} (ho : cdO c = some o) (hv : rdV (opE fr o) = some (.bool false)) (h : wpC P C cf LF (cdB c) fr Q) : wpC P C cf LF c fr Q :=
  zh4 ho fun Q1 Q2 h1 h2 => by rw [hv, z6G]; exact ⟨(fun e => by cases e), fun _ => h2.out h⟩
def z3t {σ ρ : Type} (H : σ -> Fr) (cn : Fr -> Fr) (o : σ ⊕ ρ) (Q : X -> Fr -> Prop) : X -> Fr -> Prop
  | .n, fr => ∃ s', o = .inl s' /\ cn fr = H s'
  | .x i, fr => (∃ r, o = .inr r) /\ Q (.x i) fr
  | .r, fr => (∃ r, o = .inr r) /\ Q .r fr
theorem zcL {σ ρ : Type} {H : σ -> Fr} {cn : Fr -> Fr} {o : σ ⊕ ρ} {Q : X -> Fr -> Prop} {fr : Fr} {s : σ} (ho : o = .inl s) (h : cn fr = H s) : z3t H cn o Q .n fr := ⟨s, ho, h⟩
theorem zcJ {σ ρ : Type} {H : σ -> Fr} {cn : Fr -> Fr} {o : σ ⊕ ρ} {Q : X -> Fr -> Prop} {fr : Fr} {i : Nat} {r : ρ} (ho : o = .inr r) (h : Q (.x i) fr) : z3t H cn o Q (.x i) fr := ⟨⟨r, ho⟩, h⟩
theorem zcK {σ ρ : Type} {H : σ -> Fr} {cn : Fr -> Fr} {o : σ ⊕ ρ} {Q : X -> Fr -> Prop} {fr : Fr} {r : ρ} (ho : o = .inr r) (h : Q .r fr) : z3t H cn o Q .r fr := ⟨⟨r, ho⟩, h⟩
theorem z5H {σ ρ : Type} {B : Fr -> Option (X × Fr)} {cn : Fr -> Fr} {body : σ -> Option (σ ⊕ ρ)} {H : σ -> Fr} {r : ρ} {Q : X -> Fr -> Prop}
    (round : ∀ s o, body s = some o -> (∀ r', o = .inr r' -> r' = r) -> ∃ x fr', B (H s) = some (x, fr') /\ z3t H cn o Q x fr') :
    ∀ (n : Nat) (s : σ) (fr : Fr), z1Y body n s = some r -> cn fr = H s -> ∃ x fr', z3B B cn n fr = some (x, fr') /\ Q x fr'
  | 0, s, fr, h, _ => by cases h
  | n + 1, s, fr, h, h0 => by
    simp only [z1Y] at h
    split at h
    · cases h
    · rename_i s' e
      obtain ⟨x, fr', e1, e2⟩ := round s _ e (fun r' h' => by cases h')
      cases x with
      | n =>
        obtain ⟨s2, e3, e4⟩ := e2
        cases e3
        obtain ⟨x2, fr2, e5, e6⟩ := z5H round n s' fr' h e4
        exact ⟨x2, fr2, by simp only [z3B, h0, e1]; exact e5, e6⟩
      | x i => obtain ⟨⟨r', e3⟩, _⟩ := e2; cases e3
      | r => obtain ⟨⟨r', e3⟩, _⟩ := e2; cases e3
    · rename_i r0 e
      cases h
      obtain ⟨x, fr', e1, e2⟩ := round s _ e (fun r' h' => by cases h'; rfl)
      cases x with
      | n => obtain ⟨s2, e3, _⟩ := e2; cases e3
      | x i => exact ⟨_, _, by simp only [z3B, h0, e1], e2.2⟩
      | r => exact ⟨_, _, by simp only [z3B, h0, e1], e2.2⟩
theorem zed {P : Program} {C : z0b} {cf : Cfg} {LF : Nat} {c : Code} {fr : Fr} {Q : X -> Fr -> Prop} {σ ρ : Type} {lv : List Nat} {body : σ -> Option (σ ⊕ ρ)} {s0 : σ} {r : ρ} (h : z1Y body LF s0 = some r) (H : σ -> Fr) (hk : z4j c = 5) (hv : cf.live (z3b (lpC c)) = some lv)
    (h0 : z3d (some lv) fr = H s0) (round : ∀ s o, body s = some o -> (∀ r', o = .inr r' -> r' = r) -> wpC P C cf LF (lpC c) (H s) (z3t H (z3d (some lv)) o Q)) : wpC P C cf LF c fr Q := by
  cases c with
  | loop b =>
    obtain ⟨x, fr', e1, e2⟩ := z5H (B := fun fr => z0k P C cf LF b fr) (cn := z3d (some lv)) (H := H) (body := body) (r := r) (Q := Q) (fun s o h1 h2 => by have := round s o h1 h2; unfold wpC at this; exact this) LF s0 fr h h0
    unfold wpC
    refine ⟨x, fr', ?_, e2⟩
    simp only [z0k]
    simp only [lpC] at hv
    rw [hv]
    exact e1
  | _ => cases hk
theorem zaw (k : IntKind) (a b : Int) : z1h .add k a b = some (.int k (k.wrap (a + b))) := rfl
theorem zal (k : IntKind) (a b : Int) : z1h .sub k a b = some (.int k (k.wrap (a - b))) := rfl
theorem zap (k : IntKind) (a b : Int) : z1h .mul k a b = some (.int k (k.wrap (a * b))) := rfl
theorem zan (k : IntKind) (a b : Int) : z1h .quo k a b = if b = 0 then none else some (.int k (zhi k a b)) := rfl
theorem zam (k : IntKind) (a b : Int) : z1h .rem k a b = if b = 0 then none else some (.int k (a.tmod b)) := rfl
theorem zav (k : IntKind) (a b : Int) : z1h .and k a b = some (.int k (z0l k a b)) := Eq.trans rfl rfl
theorem zbJ (k : IntKind) (a b : Int) : z1h .or k a b = some (.int k (orI k a b)) := Eq.trans rfl rfl
theorem zak (k : IntKind) (a b : Int) : z1h .xor k a b = some (.int k (zh9 k a b)) := Eq.trans rfl rfl
theorem z6j (k : IntKind) (a b : Int) : z1h .andNot k a b = some (.int k (zeJ k a b)) := Eq.trans rfl rfl
theorem zau (k : IntKind) (a b : Int) : z1h .eql k a b = some (.bool (decide (a = b))) := rfl
theorem zao (k : IntKind) (a b : Int) : z1h .neq k a b = some (.bool (!decide (a = b))) := rfl
theorem zaq (k : IntKind) (a b : Int) : z1h .lss k a b = some (.bool (decide (a < b))) := rfl
theorem zar (k : IntKind) (a b : Int) : z1h .leq k a b = some (.bool (decide (a <= b))) := rfl
theorem zas (k : IntKind) (a b : Int) : z1h .gtr k a b = some (.bool (decide (b < a))) := rfl
theorem zat (k : IntKind) (a b : Int) : z1h .geq k a b = some (.bool (decide (b <= a))) := rfl
theorem toList_inj {a b : ByteArray} : a.toList = b.toList ↔ a = b := by
  constructor
  · intro h
    have h1 : a.data.toList = b.data.toList := by simpa [ByteArray.toList_eq] using h
    obtain ⟨⟨x⟩⟩ := a
    obtain ⟨⟨y⟩⟩ := b
    simp at h1
    rw [h1]
  · intro h; rw [h]
theorem za1 (a b : ByteArray) : z2Z .eql a b = some (.bool (decide (a = b))) := by
  simp only [z2Z]
  congr 2
  rw [Bool.eq_iff_iff]; simp [toList_inj]
theorem z9Y (a b : ByteArray) : z2Z .neq a b = some (.bool (!decide (a = b))) := by
  simp only [z2Z]
  congr 3
  rw [Bool.eq_iff_iff]; simp [toList_inj]
theorem z9Z (a b : ByteArray) : z2Z .lss a b = some (.bool (zb0 a b)) := rfl
theorem za0 (a b : ByteArray) : z2Z .geq a b = some (.bool (!zb0 a b)) := rfl
theorem za2 (a b : ByteArray) : z2Z .add a b = if z7D a b then some (.string (a ++ b)) else none := by
  have hm : IntKind.i64.max = 9223372036854775807 := by decide
  show (if ((a.size + b.size : Nat) : Int) > IntKind.i64.max then none else some (Value.string (a ++ b))) = _
  rw [hm]
  by_cases h : z7D a b
  · rw [if_pos h]
    unfold z7D at h
    rw [if_neg (by omega)]
  · rw [if_neg h]
    unfold z7D at h
    rw [if_pos (by omega)]
theorem zdm (op : BinOp) (u : Option TyI) (k k' : IntKind) (a b : Int) : zeY op u (.int k a) (.int k' b) = match op with
    | .shl => if b < 0 then none else some (.int k (zfX k a b))
    | .shr => if b < 0 then none else some (.int k (z0M k a b))
    | _ => if k = k' then z1h op k a b else none := by
  cases op
  case shl => simp only [zb7]; rfl
  all_goals rfl
theorem zdl (op : BinOp) (u : Option TyI) (a b : ByteArray) : zeY op u (.string a) (.string b) = z2Z op a b := rfl
theorem zcl (op : BinOp) (u : Option TyI) (a b : Bool) : zeY op u (.bool a) (.bool b) = match u with
    | some ⟨.bool, _, _, _⟩ => (match op with | .eql => some (.bool (a == b)) | .neq => some (.bool (!(a == b))) | _ => none)
    | _ => none := rfl
theorem z9G : ∀ l : List Int, z3e (l.map fun z => .sc (.int .u8 z)) = some (l.map fun z => UInt8.ofNat z.toNat)
  | [] => rfl
  | z :: l => by simp [z3e, z9G l]
theorem z4Y {α β : Type} {g : α -> List β} {m : Nat} (hg : ∀ x, (g x).length = m) : ∀ (xs : List α) (i : Nat), (xs.flatMap g).drop (i * m) = (xs.drop i).flatMap g
  | xs, 0 => by simp
  | [], i + 1 => by simp
  | x :: xs, i + 1 => by
    have := z4Y hg xs i
    rw [List.flatMap_cons, List.drop_succ_cons, ← this, List.drop_append, List.drop_eq_nil_of_le (by rw [hg, Nat.add_mul]; omega), List.nil_append, hg]
    congr 1
    rw [Nat.add_mul]; omega
theorem z7s {α β : Type} {g : α -> List β} {m : Nat} (hg : ∀ x, (g x).length = m) : ∀ (xs : List α) (i : Nat), (xs.flatMap g).take (i * m) = (xs.take i).flatMap g
  | xs, 0 => by simp
  | [], i + 1 => by simp
  | x :: xs, i + 1 => by
    have := z7s hg xs i
    rw [List.flatMap_cons, List.take_succ_cons, List.flatMap_cons, ← this, List.take_append, List.take_of_length_le (by rw [hg, Nat.add_mul]; omega), hg]
    congr 2
    rw [Nat.add_mul]; omega
theorem z4X {α β : Type} {g : α -> List β} {m : Nat} (hg : ∀ x, (g x).length = m) {xs : List α} {i : Nat} {v : α} (h : xs[i]? = some v) :
    i * m + m <= xs.length * m /\ ((xs.flatMap g).drop (i * m)).take m = g v /\ (∀ j, j < m -> (xs.flatMap g)[i * m + j]? = (g v)[j]?) /\ ∀ j c, (g v)[j]? = some c -> ∀ hh : i * m + j < (xs.flatMap g).length, (xs.flatMap g)[i * m + j]'hh = c := by
  obtain ⟨hi, hv⟩ := List.getElem?_eq_some_iff.1 h
  have hd : xs.drop i = v :: xs.drop (i + 1) := by rw [← hv]; exact List.drop_eq_getElem_cons hi
  have h2 : ((xs.flatMap g).drop (i * m)) = g v ++ (xs.drop (i + 1)).flatMap g := by rw [z4Y hg, hd, List.flatMap_cons]
  have key : ∀ j, j < m -> (xs.flatMap g)[i * m + j]? = (g v)[j]? := fun j hj => by
    rw [← List.getElem?_drop, h2, List.getElem?_append_left (by rw [hg]; exact hj)]
  refine ⟨?_, ?_, key, fun j c hc hh => ?_⟩
  · calc i * m + m = (i + 1) * m := by rw [Nat.add_mul, Nat.one_mul]
      _ <= _ := Nat.mul_le_mul_right _ hi
  · rw [h2, List.take_append_of_le_length (by rw [hg]; exact Nat.le_refl _), List.take_of_length_le (by rw [hg]; exact Nat.le_refl _)]
  · have hj : j < m := by rw [← hg v]; exact (List.getElem?_eq_some_iff.1 hc).1
    have := key j hj
    rw [hc, List.getElem?_eq_getElem hh] at this
    exact Option.some.inj this
theorem zab {α β : Type} {g : α -> β} {xs ys : List α} {l h : Int} (e : z1g xs l h = some ys) : ((xs.map g).drop l.toNat).take (h.toNat - l.toNat) = ys.map g := by
  obtain ⟨_, _, _, e2, _⟩ := z1n e
  rw [e2, List.map_take, List.map_drop]
theorem z8d {α β : Type} {g : α -> List β} {m : Nat} (hg : ∀ x, (g x).length = m) {xs ys : List α} {l h : Int} (e : z1g xs l h = some ys) : ((xs.flatMap g).drop (l.toNat * m)).take ((h.toNat - l.toNat) * m) = ys.flatMap g := by
  obtain ⟨_, _, _, e2, _⟩ := z1n e
  rw [e2, z4Y hg, z7s hg]
theorem za9 {α : Type} {xs ys : List α} {l h : Int} (e : z1g xs l h = some ys) (f : α -> T) : T.sl (h.toNat - l.toNat) (ys.map f) = T.sl ys.length (ys.map f) := by
  obtain ⟨_, _, _, _, e2⟩ := z1n e
  rw [e2]
theorem zaa {α : Type} {xs ys : List α} {l h : Int} (e : z1g xs l h = some ys) (f : α -> List T) : T.sl (h.toNat - l.toNat) (ys.flatMap f) = T.sl ys.length (ys.flatMap f) := by
  obtain ⟨_, _, _, _, e2⟩ := z1n e
  rw [e2]
theorem z5W {l h : Int} (a : 0 <= l) (b : l <= h) : 0 <= h /\ l <= (h.toNat : Int) := by omega
theorem z4P : ∀ a b : List T, z5n (a ++ b) = (z5n a || z5n b)
  | [], b => by simp [z5n]
  | t :: a, b => by simp [z5n, z4P a b, Bool.or_assoc]
theorem z8X {α : Type} (g : α -> T) : ∀ l : List α, z5n (l.map g) = l.any fun x => opn (g x)
  | [] => rfl
  | x :: l => by simp [z5n, z8X g l]
theorem z7b {α : Type} (g : α -> List T) : ∀ l : List α, z5n (l.flatMap g) = l.any fun x => z5n (g x)
  | [] => rfl
  | x :: l => by simp [z4P, z7b g l]
theorem z9s (k : ByteArray) (kd : IntKind) : ∀ m : List (ByteArray × Int), z1q (.string k) (m.map fun p => (Value.string p.1, Value.int kd p.2)) = (z8o k m).map (Value.int kd)
  | [] => rfl
  | (a, v) :: m => by
    simp only [List.map_cons, z1q, z8o, z2h, z9s k kd m]
    by_cases h : a = k <;> simp [h]
theorem z9t (k : ByteArray) : ∀ m : List (ByteArray × Bool), z1q (.string k) (m.map fun p => (Value.string p.1, Value.bool p.2)) = (z8o k m).map Value.bool
  | [] => rfl
  | (a, v) :: m => by
    simp only [List.map_cons, z1q, z8o, z2h, z9t k m]
    by_cases h : a = k <;> simp [h]
theorem z9u (k : Int) (kk kd : IntKind) : ∀ m : List (Int × Int), z1q (.int kk k) (m.map fun p => (Value.int kk p.1, Value.int kd p.2)) = (z8o k m).map (Value.int kd)
  | [] => rfl
  | (a, v) :: m => by
    simp only [List.map_cons, z1q, z8o, z2h, z9u k kk kd m]
    by_cases h : a = k <;> simp [h]
theorem z9v (k : Int) (kk : IntKind) : ∀ m : List (Int × Bool), z1q (.int kk k) (m.map fun p => (Value.int kk p.1, Value.bool p.2)) = (z8o k m).map Value.bool
  | [] => rfl
  | (a, v) :: m => by
    simp only [List.map_cons, z1q, z8o, z2h, z9v k kk m]
    by_cases h : a = k <;> simp [h]
theorem zb9 (k : ByteArray) (kd : IntKind) (v : Int) : ∀ m : List (ByteArray × Int), z6L (.string k) (.int kd v) (m.map fun p => (Value.string p.1, Value.int kd p.2)) = (z7O k v m).map fun p => (Value.string p.1, Value.int kd p.2)
  | [] => rfl
  | (a, u) :: m => by
    simp only [List.map_cons, z6L, z7O, z2h, zb9 k kd v m]
    by_cases h : a = k <;> simp [h]
theorem zba (k : ByteArray) (v : Bool) : ∀ m : List (ByteArray × Bool), z6L (.string k) (.bool v) (m.map fun p => (Value.string p.1, Value.bool p.2)) = (z7O k v m).map fun p => (Value.string p.1, Value.bool p.2)
  | [] => rfl
  | (a, u) :: m => by
    simp only [List.map_cons, z6L, z7O, z2h, zba k v m]
    by_cases h : a = k <;> simp [h]
theorem zbb (k : Int) (kk kd : IntKind) (v : Int) : ∀ m : List (Int × Int), z6L (.int kk k) (.int kd v) (m.map fun p => (Value.int kk p.1, Value.int kd p.2)) = (z7O k v m).map fun p => (Value.int kk p.1, Value.int kd p.2)
  | [] => rfl
  | (a, u) :: m => by
    simp only [List.map_cons, z6L, z7O, z2h, zbb k kk kd v m]
    by_cases h : a = k <;> simp [h]
theorem zbc (k : Int) (kk : IntKind) (v : Bool) : ∀ m : List (Int × Bool), z6L (.int kk k) (.bool v) (m.map fun p => (Value.int kk p.1, Value.bool p.2)) = (z7O k v m).map fun p => (Value.int kk p.1, Value.bool p.2)
  | [] => rfl
  | (a, u) :: m => by
    simp only [List.map_cons, z6L, z7O, z2h, zbc k kk v m]
    by_cases h : a = k <;> simp [h]
def zaz {κ ν : Type} [DecidableEq κ] (k : κ) : List (κ × ν) -> Option (κ × ν)
  | [] => none
  | (a, v) :: m => if a = k then some (a, v) else zaz k m
theorem z4U {κ ν : Type} [DecidableEq κ] (k : κ) : ∀ m : List (κ × ν), (zaz k m).map (·.2) = z8o k m
  | [] => rfl
  | (a, v) :: m => by
    simp only [zaz, z8o]
    split
    · rfl
    · exact z4U k m
theorem zbO {κ ν : Type} [DecidableEq κ] (k : κ) (m : List (κ × ν)) : (zaz k m).isSome = (z8o k m).isSome := by rw [← z4U, Option.isSome_map]
theorem zbU {α : Type} (k : ByteArray) (g : ByteArray × α -> T) : ∀ m : List (ByteArray × α), z2X (.string k) (m.map fun p => Value.string p.1) (m.map g) = (zaz k m).map g
  | [] => rfl
  | (a, v) :: m => by
    simp only [List.map_cons, z2X, zaz, z2h, zbU k g m]
    by_cases h : a = k <;> simp [h]
theorem zbV {α : Type} (k : Int) (kk : IntKind) (g : Int × α -> T) : ∀ m : List (Int × α), z2X (.int kk k) (m.map fun p => Value.int kk p.1) (m.map g) = (zaz k m).map g
  | [] => rfl
  | (a, v) :: m => by
    simp only [List.map_cons, z2X, zaz, z2h, zbV k kk g m]
    by_cases h : a = k <;> simp [h]
theorem zbd (k : Value) (t : T) : z3J k t [] [] = ([k], [t]) := rfl
theorem zcD (k v : Value) : z6L k v [] = [(k, v)] := rfl
theorem zcE {κ ν : Type} [DecidableEq κ] (k : κ) (v : ν) : z7O k v [] = [(k, v)] := rfl
theorem zd8 (kd : IntKind) (z : Int) (o : Option Int) : (o.map (Value.int kd)).getD (.int kd z) = .int kd (o.getD z) := by cases o <;> rfl
theorem zbQ (z : Bool) (o : Option Bool) : (o.map Value.bool).getD (.bool z) = .bool (o.getD z) := by cases o <;> rfl
@[simp] theorem oneNil : (Value.slice none 0 0).oneCell' = true := rfl
@[simp] theorem bszL (a : Array UInt8) : ByteArray.size ⟨a⟩ = a.size := rfl
@[simp] theorem bempty : (⟨#[]⟩ : ByteArray) = ByteArray.empty := rfl
@[simp] theorem voG0 (p l : List T) : (p ++ l)[p.length]? = l[0]? := by rw [List.getElem?_append_right (Nat.le_refl _), Nat.sub_self]
@[simp] theorem voG (p l : List T) (j : Nat) : (p ++ l)[p.length + j]? = l[j]? := by rw [List.getElem?_append_right (by omega), Nat.add_sub_cancel_left]
@[simp] theorem voSet0 (p l : List T) (x : T) : (p ++ l).set p.length x = p ++ l.set 0 x := by rw [List.set_append_right _ _ (Nat.le_refl _), Nat.sub_self]
@[simp] theorem voSet (p l : List T) (j : Nat) (x : T) : (p ++ l).set (p.length + j) x = p ++ l.set j x := by rw [List.set_append_right _ _ (by omega), Nat.add_sub_cancel_left]
section
variable {P : Program} {C : z0b} {cf : Cfg} {LF : Nat} {c : Code} {fr fr1 : Fr} {Q : X -> Fr -> Prop}
theorem zr {l : List Oper} (hl : rgL c = some l) (hd : rgD c = false) (hz : cf.fz (rgI c) = none) (hf : z7X P C cf.wio l.toArray l fr = some fr1) (h : Q .n fr1) : wpC P C cf LF c fr Q :=
  zcN hl hd hz fun Q' hQ => by rw [hf, z7L]; exact hQ.out _ h
theorem zq (hk : z4j c = 2) (h : wpC P C cf LF (zf9 c) fr (z7U (fun fr' => wpC P C cf LF (zeR c) fr' Q) Q)) : wpC P C cf LF c fr Q := zgj hk h
theorem zb (hk : z4j c = 4) (h : wpC P C cf LF (blC c) fr (z2e (blI c) Q)) : wpC P C cf LF c fr Q := zeg hk h
end
@[simp] theorem voLe (a j k n : Nat) : (a + j + k <= a + n) = (j + k <= n) := by simp only [eq_iff_iff]; omega
end
section
open Go
theorem z9b {σ ρ : Type} {b : σ -> Option (σ ⊕ ρ)} {x : Option ρ} : ∀ (n : Nat) (f : Nat -> σ) (m : Nat), n < m -> (∀ k, k < n -> b (f k) = z1E (f (k + 1))) -> b (f n) = z1K x -> z1Y b m (f 0) = x
  | 0, f, m + 1, _, _, hl => by
    simp only [z1Y, hl]
    cases x <;> rfl
  | n + 1, f, m + 1, hm, hs, hl => by
    simp only [z1Y, hs 0 (by omega), z1E]
    exact z9b n (fun k => f (k + 1)) m (by omega) (fun k hk => hs (k + 1) (by omega)) hl
theorem z8k {σ ρ : Type} {b : σ -> Option (σ ⊕ ρ)} {x : Option ρ} (n : Nat) (f : Nat -> σ) {s : σ} (h0 : s = f 0) (hn : n < LFm) (step : ∀ k, k < n -> b (f k) = z1E (f (k + 1))) (last : b (f n) = z1K x) : z1Y b LFm s = x := by
  subst h0; exact z9b n f LFm hn step last
theorem z7T {k : Nat} (h : k < 4611686018427387904) : IntKind.i64.wrap ((k : Int) + 1) = ((k + 1 : Nat) : Int) := by
  rw [IntWalk.i64_in _ (by omega)]; omega
theorem z6A {α : Type} {xs : List α} {k : Nat} (h : k < xs.length) : atI xs (k : Int) = some xs[k] := by
  unfold atI; rw [if_pos (by omega), Int.toNat_natCast, List.getElem?_eq_getElem h]
theorem z5f {s : ByteArray} {k : Nat} (h : k < s.size) : z7I s (k : Int) = some (s[k].toNat : Int) := by
  unfold z7I; rw [if_pos (by omega), Int.toNat_natCast, getElem?_pos s k h]; rfl
theorem zbm {α : Type} {xs : List α} {k : Nat} (h : k <= xs.length) : z1g xs 0 (k : Int) = some (xs.take k) := by
  unfold z1g; rw [if_pos (by omega)]; simp
theorem z8c {α : Type} {xs : List α} {k : Nat} (h : k <= xs.length) : z1g xs (k : Int) (xs.length : Int) = some (xs.drop k) := by
  unfold z1g; rw [if_pos (by omega)]; simp [List.take_of_length_le]
theorem z1s {α : Type} {p : Prop} [Decidable p] (x : Option α) (h : p) : chk p x = x := by unfold chk; rw [if_pos h]
end
section
def Mo (C0 C1 : z0b) : Prop := ∀ f a o, C0 f a = some o -> C1 f a = some o
section
variable {P : Program} {C0 C1 : z0b}
theorem z4B (hMo : Mo C0 C1) {wio : FuncId -> Nat -> Bool} {fr fr' : Fr} {f : FuncId} {args : List E} {dst : Option Nat} (h : z3G C0 wio fr f args dst = some fr') : Ev fun m => z3G C1 wio fr f args dst = some fr' := by
  unfold z3G at h ⊢
  split at h
  · cases h
  · rename_i ts deps io ha
    split at h
    · cases h
    · rename_i r outs hc
      refine ⟨0, fun m _ => ?_⟩
      show (match C1 f ts with | none => none | some (r, outs) => _) = _
      rw [hMo _ _ _ hc]
      exact h
theorem zbs (hMo : Mo C0 C1) {wio : FuncId -> Nat -> Bool} {fr fr' : Fr} {o : Oper} (h : opF P C0 wio fr o = some fr') : Ev fun m => opF P C1 wio fr o = some fr' := by
  unfold opF at h ⊢
  split at h
  · exact .pure fun _ => h
  · split at h
    · exact z4B hMo h
    · cases h
  · exact .pure fun _ => h
  · exact .pure fun _ => h
  · exact .pure fun _ => h
theorem z9F (hMo : Mo C0 C1) {wio : FuncId -> Nat -> Bool} {fr fr' : Fr} {o : Oper} (h : z2Y P C0 wio fr o = some fr') : Ev fun m => z2Y P C1 wio fr o = some fr' := by
  unfold z2Y at h ⊢
  split at h
  · split at h
    · split at h
      · exact z4B hMo h
      · cases h
    · cases h
  · exact .pure fun _ => h
theorem zdt (hMo : Mo C0 C1) {wio : FuncId -> Nat -> Bool} {M : Nat -> Bool} {fr fr' : Fr} {o : Oper} (h : wrF P C0 wio M fr o = some fr') : Ev fun m => wrF P C1 wio M fr o = some fr' := by
  unfold wrF at h ⊢
  split at h
  · split at h
    · cases h
    · split at h
      · exact z4B hMo h
      · split at h
        · rename_i hM
          simp only [hM, if_true]
          exact z4B hMo h
        · cases h
      · cases h
  · exact .pure fun _ => h
  · exact .pure fun _ => h
  · exact .pure fun _ => h
  · cases h
theorem z7W (hMo : Mo C0 C1) {wio : FuncId -> Nat -> Bool} {ops : Array Oper} : ∀ {l : List Oper} {fr fr' : Fr}, z7X P C0 wio ops l fr = some fr' -> Ev fun m => z7X P C1 wio ops l fr = some fr'
  | [], fr, fr', h => .pure fun _ => h
  | o :: rest, fr, fr', h => by
    simp only [z7X] at h ⊢
    split at h
    · cases h
    · split at h
      · rename_i fr1 h1
        exact (zbs hMo h1).both (z7W hMo h) fun m a1 a2 => by rw [a1]; exact a2
      · cases h
    · split at h
      · rename_i fr1 h1
        exact (z7W hMo h)
      · cases h
theorem z4z (hMo : Mo C0 C1) {wio : FuncId -> Nat -> Bool} {same : Bool} {M : Nat -> Bool} {ops : Array Oper} : ∀ {l : List (Nat × Oper × Nat)} {fr fr' : Fr}, z2G P C0 wio same M ops l fr = some fr' -> Ev fun m => z2G P C1 wio same M ops l fr = some fr'
  | [], fr, fr', h => .pure fun _ => h
  | (k, o, mk) :: rest, fr, fr', h => by
    simp only [z2G] at h ⊢
    split at h
    · cases h
    · split at h
      · exact z4z hMo h
      · cases h
    · split at h
      · rename_i hm
        simp only [if_pos hm]
        split at h
        · split at h
          · exact z4z hMo h
          · cases h
        · cases h
      · rename_i hm
        simp only [if_neg hm]
        split at h
        · rename_i fr1 h1
          have h2 : Ev fun m => (if mk = 2 then opF P C1 wio fr o else if same = true then z2Y P C1 wio fr o else wrF P C1 wio M fr o) = some fr1 := by
            by_cases e : mk = 2
            · simp only [if_pos e] at h1 ⊢; exact zbs hMo h1
            · simp only [if_neg e] at h1 ⊢
              by_cases e2 : same = true
              · simp only [if_pos e2] at h1 ⊢; exact z9F hMo h1
              · simp only [if_neg e2] at h1 ⊢; exact zdt hMo h1
          exact h2.both (z4z hMo h) fun m a1 a2 => by rw [a1]; exact a2
        · cases h
theorem z2Q (hMo : Mo C0 C1) {wio : FuncId -> Nat -> Bool} {same : Bool} {M : Nat -> Bool} {ops : Array Oper} : ∀ {l : SchT} {fr fr' : Fr}, z1F P C0 wio same M ops l fr = some fr' -> Ev fun m => z1F P C1 wio same M ops l fr = some fr'
  | .nil, fr, fr', h => .pure fun _ => h
  | .alt x y, fr, fr', h => by
    simp only [z1F] at h ⊢
    split at h
    · rename_i f1 f2 h1 h2
      obtain ⟨rfl, hs⟩ := z3L h
      exact (z2Q hMo h1).both (z2Q hMo h2) fun m a1 a2 => by rw [a1, a2]; exact z5Y hs
    · cases h
  | .op k mk rest, fr, fr', h => by
    simp only [z1F] at h ⊢
    split at h
    · cases h
    rename_i o ho
    try simp only [ho]
    split at h
    · cases h
    · split at h
      · exact z2Q hMo h
      · cases h
    · split at h
      · rename_i hm
        simp only [if_pos hm]
        split at h
        · split at h
          · exact z2Q hMo h
          · cases h
        · cases h
      · rename_i hm
        simp only [if_neg hm]
        split at h
        · rename_i fr1 h1
          have h2 : Ev fun m => (if mk = 2 then opF P C1 wio fr o else if same = true then z2Y P C1 wio fr o else wrF P C1 wio M fr o) = some fr1 := by
            by_cases e : mk = 2
            · simp only [if_pos e] at h1 ⊢; exact zbs hMo h1
            · simp only [if_neg e] at h1 ⊢
              by_cases e2 : same = true
              · simp only [if_pos e2] at h1 ⊢; exact z9F hMo h1
              · simp only [if_neg e2] at h1 ⊢; exact zdt hMo h1
          exact h2.both (z2Q hMo h) fun m a1 a2 => by rw [a1]; exact a2
        · cases h
theorem zaF (hMo : Mo C0 C1) {c : Cfg} {id : Nat} {ops : Array Oper} {fr fr' : Fr} (h : z2g P C0 c id ops fr = some fr') : Ev fun m => z2g P C1 c id ops fr = some fr' := by
  unfold z2g at h ⊢
  split at h
  · exact z2Q hMo h
  · split at h
    · exact z4z hMo h
    · cases h
theorem z9h (hMo : Mo C0 C1) {B : z0b -> Fr -> Option (X × Fr)} {cn : Fr -> Fr} (hB : ∀ fr o, B C0 fr = some o -> Ev fun m => B C1 fr = some o) : ∀ {n : Nat} {fr : Fr} {o : X × Fr}, z3B (B C0) cn n fr = some o -> Ev fun m => z3B (B C1) cn n fr = some o
  | 0, fr, o, h => by cases h
  | n + 1, fr, o, h => by
    simp only [z3B] at h ⊢
    split at h
    · rename_i fr1 h1
      exact (hB _ _ h1).both (z9h hMo hB h) fun m a1 a2 => by rw [a1]; exact a2
    · rename_i x fr1 hne h1
      refine (hB _ _ h1).imp fun m a1 => ?_
      rw [a1]
      cases x with
      | n => exact absurd rfl hne
      | x i => exact h
      | r => exact h
    · cases h
theorem z4A (hMo : Mo C0 C1) {c : Cfg} {LF : Nat} : ∀ (b : Code) {fr : Fr} {o : X × Fr}, z0k P C0 c LF b fr = some o -> Ev fun m => z0k P C1 c LF b fr = some o := by
  intro b
  induction b with
  | skip => intro fr o h; exact .pure fun _ => h
  | label l => intro fr o h; exact .pure fun _ => h
  | exit id => intro fr o h; exact .pure fun _ => h
  | ret => intro fr o h; exact .pure fun _ => h
  | goto l => intro fr o h; cases h
  | scope c ih => intro fr o h; simp only [z0k] at h ⊢; exact ih h
  | refuse s => intro fr o h; cases h
  | rangeFunc => intro fr o h; cases h
  | region id ops draw =>
    intro fr o h
    simp only [z0k] at h ⊢
    split at h
    · rename_i hd
      simp only [hd, if_true]
      split at h
      · rename_i fr1 h1
        exact (zaF hMo h1).imp fun m a1 => by rw [a1]; exact h
      · cases h
    · rename_i hd
      simp only [hd, Bool.false_eq_true, if_false]
      split at h
      · rename_i fr1 h1
        exact (z7W hMo h1).imp fun m a1 => by rw [a1]; exact h
      · cases h
  | seq a b ih1 ih2 =>
    intro fr o h
    simp only [z0k] at h ⊢
    split at h
    · rename_i fr1 h1
      exact (ih1 h1).both (ih2 h) fun m a1 a2 => by rw [a1]; exact a2
    · rename_i hne
      refine (ih1 h).imp fun m a1 => ?_
      rw [a1]
      obtain ⟨x, fr1⟩ := o
      cases x with
      | n => exact absurd h (hne _)
      | x i => rfl
      | r => rfl
  | cond c x y ih1 ih2 =>
    intro fr o h
    simp only [z0k] at h ⊢
    split at h
    · exact ih1 h
    · exact ih2 h
    · cases h
  | block id c ih =>
    intro fr o h
    simp only [z0k] at h ⊢
    split at h
    · rename_i i fr1 h1
      exact (ih h1).imp fun m a1 => by rw [a1]; exact h
    · rename_i hne
      refine (ih h).imp fun m a1 => ?_
      rw [a1]
      obtain ⟨x, fr1⟩ := o
      cases x with
      | n => rfl
      | x i => exact absurd h (hne _ _)
      | r => rfl
  | loop b ih =>
    intro fr o h
    simp only [z0k] at h ⊢
    exact z9h hMo (B := fun C fr => z0k P C c LF b fr) (fun fr o h => ih h) h
theorem ze8 (hMo : Mo C0 C1) {c : Cfg} {LF : Nat} {fn : Func} {args : List T} {o : T × List T} (h : z6E P C0 c LF fn args = some o) : Ev fun m => z6E P C1 c LF fn args = some o := by
  unfold z6E at h ⊢
  split at h
  · rename_i hc
    simp only [if_pos hc]
    split at h
    · cases h
    · rename_i b hb
      split at h
      · rename_i fr h1
        exact (z4A hMo _ h1).imp fun m a1 => by rw [a1]; exact h
      · rename_i fr h1
        exact (z4A hMo _ h1).imp fun m a1 => by rw [a1]; exact h
      · cases h
  · cases h
end
class XMo (X : z0b -> z0b) : Prop where
  mo : ∀ {C D : z0b}, Mo C D -> Mo (X C) (X D)
instance {x : z0b} : XMo (fun _ => x) := ⟨fun _ => fun _ _ _ h => h⟩
theorem zes {D : z0b} : Mo (fun _ _ => none) D := fun _ _ _ h => by cases h
def tab : List (FuncId × List T × T × List T) -> z0b
  | [] => fun _ _ => none
  | (g, b, r, os) :: l => fun f a => if (Nat.beq g f && z8t b a) = true then some (r, os) else tab l f a
theorem zdw {C : z0b} : ∀ {l : List (FuncId × List T × T × List T)}, (∀ x ∈ l, C x.1 x.2.1 = some x.2.2) -> Mo (tab l) C
  | [], _ => fun f a o h => by cases h
  | (g, b, r, os) :: l, hl => fun f a o h => by
    simp only [tab] at h
    split at h
    · rename_i hc
      simp only [Bool.and_eq_true] at hc
      cases h
      have := hl _ (List.mem_cons_self ..)
      rw [← Nat.eq_of_beq_eq_true hc.1, ← z1W hc.2]
      exact this
    · exact zdw (fun x hx => hl x (List.mem_cons_of_mem _ hx)) f a o h
noncomputable def z7i (P : Program) (X : z0b -> z0b) (cf : FuncId -> Option Cfg) (S : z0b) : Nat -> z0b
  | 0 => S
  | n + 1 => fun f a => match S f a with
    | some o => some o
    | none => match cf f with
      | some c => (match P.funcs[f]? with | some fn => z6E P (z7i P X cf S n) c LFm fn a | none => none)
      | none => X (fun _ _ => none) f a
theorem z7h {P : Program} {X : z0b -> z0b} [hx : XMo X] {cf : FuncId -> Option Cfg} {S : z0b} (hS : Mo S (Lim P X cf)) : ∀ n, Mo (z7i P X cf S n) (Lim P X cf)
  | 0 => hS
  | n + 1 => fun f a o h => by
    simp only [z7i] at h
    split at h
    · rename_i o' ho
      cases h
      exact hS f a o ho
    · split at h
      · rename_i c hc
        split at h
        · rename_i fn hfn
          obtain ⟨k, hk⟩ := ze8 (z7h hS n) h
          exact zbz hc hfn (hk k (Nat.le_refl _))
        · cases h
      · rename_i hc
        exact z6h hc ⟨0, fun m _ => hx.mo zes f a o h⟩
theorem zeu {P : Program} {X : z0b -> z0b} [XMo X] {cf : FuncId -> Option Cfg} (l : List (FuncId × List T × T × List T)) (n : Nat) {f : FuncId} {a : List T} {o : T × List T} (h : z7i P X cf (tab l) n f a = some o) (hl : ∀ x ∈ l, Lim P X cf x.1 x.2.1 = some x.2.2) : Lim P X cf f a = some o :=
  z7h (zdw hl) n f a o h
end
section
open Go Go.Lib
theorem z9D : ∀ a b : List UInt8, compareBytes a b = -1 ∨ compareBytes a b = 0 ∨ compareBytes a b = 1
  | [], [] => by simp [compareBytes]
  | [], _ :: _ => by simp [compareBytes]
  | _ :: _, [] => by simp [compareBytes]
  | a :: au, b :: bs => by
    simp only [compareBytes]
    split
    · simp
    · split
      · simp
      · exact z9D au bs
theorem zcc : ∀ a b : List UInt8, compareBytes b a = - compareBytes a b
  | [], [] => by simp [compareBytes]
  | [], _ :: _ => by simp [compareBytes]
  | _ :: _, [] => by simp [compareBytes]
  | a :: au, b :: bs => by
    have h := zcc au bs
    simp only [compareBytes]
    by_cases h1 : a < b
    · have h2 : ¬ b < a := fun h' => by have := UInt8.lt_asymm h1; exact this h'
      simp [h1, h2]
    · by_cases h2 : b < a
      · simp [h1, h2]
      · simp [h1, h2, h]
theorem zca : ∀ a b : List UInt8, compareBytes a b = 0 ↔ a = b
  | [], [] => by simp [compareBytes]
  | [], _ :: _ => by simp [compareBytes]
  | _ :: _, [] => by simp [compareBytes]
  | a :: au, b :: bs => by
    have h := zca au bs
    simp only [compareBytes]
    by_cases h1 : a < b
    · have : a ≠ b := fun e => by subst e; exact UInt8.lt_irrefl _ h1
      simp [h1, this]
    · by_cases h2 : b < a
      · have : a ≠ b := fun e => by subst e; exact UInt8.lt_irrefl _ h2
        simp [h1, h2, this]
      · have : a = b := UInt8.le_antisymm (UInt8.not_lt.1 h2) (UInt8.not_lt.1 h1)
        simp [h1, h2, h, this]
theorem zcb : ∀ a b : List UInt8, Op.bytesLess a b = decide (compareBytes a b = -1)
  | [], [] => by simp [compareBytes, Op.bytesLess]
  | [], _ :: _ => by simp [compareBytes, Op.bytesLess]
  | _ :: _, [] => by simp [compareBytes, Op.bytesLess]
  | a :: au, b :: bs => by
    have h := zcb au bs
    simp only [compareBytes, Op.bytesLess, h]
    by_cases h1 : a < b
    · simp [h1]
    · by_cases h2 : b < a
      · have : a ≠ b := fun e => by subst e; exact UInt8.lt_irrefl _ h2
        simp [h1, h2, this]
      · have : a = b := UInt8.le_antisymm (UInt8.not_lt.1 h2) (UInt8.not_lt.1 h1)
        simp [h1, this]
theorem z9C : ∀ a b c : List UInt8, compareBytes a b <= 0 -> compareBytes b c <= 0 -> compareBytes a c <= 0
  | [], _, [] => by simp [compareBytes]
  | [], _, _ :: _ => by simp [compareBytes]
  | _ :: _, [], _ => by simp [compareBytes]
  | _ :: _, _ :: _, [] => by simp [compareBytes]
  | a :: au, b :: bs, c :: cs => by
    have h := z9C au bs cs
    simp only [compareBytes]
    intro h1 h2
    by_cases ab : a < b
    · by_cases bc : b < c
      · rw [if_pos (UInt8.lt_trans ab bc)]; omega
      · by_cases cb : c < b
        · rw [if_neg bc, if_pos cb] at h2; omega
        · have : b = c := UInt8.le_antisymm (UInt8.not_lt.1 cb) (UInt8.not_lt.1 bc)
          subst this; rw [if_pos ab]; omega
    · by_cases ba : b < a
      · rw [if_neg ab, if_pos ba] at h1; omega
      · have : a = b := UInt8.le_antisymm (UInt8.not_lt.1 ba) (UInt8.not_lt.1 ab)
        subst this
        rw [if_neg ab, if_neg ba] at h1
        by_cases bc : a < c
        · rw [if_pos bc]; omega
        · by_cases cb : c < a
          · rw [if_neg bc, if_pos cb] at h2; omega
          · rw [if_neg bc, if_neg cb] at h2 ⊢
            exact h h1 h2
def zaH (u v : List UInt8) : Int := if u.length < v.length then -1 else if v.length < u.length then 1 else compareBytes u v
theorem zc7 (a b : List UInt8) : zaH b a = - zaH a b := by
  have := zcc a b
  unfold zaH
  by_cases h1 : a.length < b.length
  · have : ¬ b.length < a.length := by omega
    simp [h1, this]
  · by_cases h2 : b.length < a.length
    · simp [h1, h2]
    · simp [h1, h2, this]
theorem zc6 (a b : List UInt8) : zaH a b = 0 ↔ a = b := by
  have := zca a b
  unfold zaH
  by_cases h1 : a.length < b.length
  · simp only [if_pos h1]
    constructor
    · omega
    · intro e; subst e; omega
  · by_cases h2 : b.length < a.length
    · simp only [if_neg h1, if_pos h2]
      constructor
      · omega
      · intro e; subst e; omega
    · simp only [if_neg h1, if_neg h2]; exact this
theorem z2R (a b c : List UInt8) (h1 : zaH a b <= 0) (h2 : zaH b c <= 0) : zaH a c <= 0 := by
  have := z9C a b c
  unfold zaH at *
  by_cases ab : a.length < b.length
  · by_cases cb : c.length < b.length
    · rw [if_neg (by omega), if_pos cb] at h2; omega
    · rw [if_pos (by omega)]; omega
  · by_cases ba : b.length < a.length
    · rw [if_neg ab, if_pos ba] at h1; omega
    · rw [if_neg ab, if_neg ba] at h1
      by_cases bc : b.length < c.length
      · rw [if_pos (by omega)]; omega
      · by_cases cb : c.length < b.length
        · rw [if_neg bc, if_pos cb] at h2; omega
        · rw [if_neg bc, if_neg cb] at h2
          rw [if_neg (by omega), if_neg (by omega)]
          exact this h1 h2
end
section
open Go
def z1w (u v : ByteArray) : Int := zaH u.data.toList v.data.toList
def leW (u v : ByteArray) : Bool := decide (z1w u v <= 0)
def z3f (l : List ByteArray) : List ByteArray := l.mergeSort leW
def zeO (l : List ByteArray) : List T := l.map fun s => .sc (.string s)
def zdD : List (Value × Value) -> Option (List ByteArray)
  | [] => some []
  | (.string s, _) :: l => (zdD l).map (s :: ·)
  | _ => none
theorem z9g : ∀ {es : List (Value × Value)} {ks : List ByteArray}, zdD es = some ks -> es.map (·.1) = ks.map fun s => .string s
  | [], ks, h => by simp [zdD] at h; subst h; rfl
  | (k, v) :: l, ks, h => by
    cases k <;> simp only [zdD] at h <;> try (cases h; done)
    rw [Option.map_eq_some_iff] at h
    obtain ⟨ys, hy, rfl⟩ := h
    simp [z9g hy]
theorem z9f {β : Type} (f : β -> ByteArray) (g : β -> Value) : ∀ l : List β, zdD (l.map fun x => (.string (f x), g x)) = some (l.map f)
  | [] => rfl
  | x :: l => by simp [zdD, z9f f g l]
def zdd : Nat -> Code -> Code
  | 0, _ => .skip
  | k + 1, c => .seq (zf9 c) (zdd k (zeR c))
noncomputable def z5g : Code := match Try.f11.body with | some c => c | none => .skip
noncomputable def zfO : Cfg := { wio := fun f i => (f == 999999 && (i == 0)), live := fun r => if r = 5 then some [0, 1, 5, 19, 20] else if r = 10 then some [0, 1, 5, 6, 7, 19, 20, 28, 29] else none, dr := fun r => none }
noncomputable def zeL (C : z0b) (args : List T) : Option (T × List T) :=
  if args.length <= 51 /\ args.all (fun t => !z1v t) = true then
  match z0k Try.prog C zfO LFm (zdd 4 z5g) (z1H 51 args) with
  | some (.r, fr) => (z4l Try.prog Try.f11 [] fr).bind fun x => if x.2 = [] then some (z0m x.1, args.map fun _ => .dead) else none
  | some (.n, fr) => (match z0n fr.tm 5, z0i fr.ob 5 with
    | .one (.h 5 []), some (.mp none es) => (match zdD es with
      | some ks => if ks.Nodup /\ (∀ s ∈ ks, s.size <= maxLen) /\ ks.length * 16 <= 140737488355328 /\ fr.nt = 51 then some (.sl ks.length (zeO (z3f ks)), args.map fun _ => .dead) else none
      | none => none)
    | _, _ => none)
  | _ => none
  else none
def zeM (u v : ByteArray) : Option Int := some (Lib.compareBytes u.data.toList v.data.toList)
def zfV (args : List T) : Option (T × List T) := match args with
  | [.sc (.string u), .sc (.string v)] => (zeM u v).map fun r => (.sc (.int .i64 r), [.dead, .dead])
  | _ => none
def z9W (u v : Int) : Option Int := some (Lib.compareInt u v)
def zcx (args : List T) : Option (T × List T) := match args with
  | [.sc (.int .i64 u), .sc (.int .i64 v)] => (z9W u v).map fun r => (.sc (.int .i64 r), [.dead, .dead])
  | _ => none
def zdN (u w : ByteArray) (m : Int) : Option Int := if u.size <= 1000 /\ w.size <= maxLen then some ((zct u.data.toList w.data.toList m : Nat) : Int) else none
def zfU (args : List T) : Option (T × List T) := match args with
  | [.sc (.string u), .sc (.string w), .sc (.int .i64 m)] => (zdN u w m).map fun r => (.sc (.int .i64 r), [.dead, .dead, .dead])
  | _ => none
def xtC : z0b := fun f args => if f = 26 then zfV args else if f = 25 then zcx args else if f = 14 then zfU args else none
noncomputable def xtF (C : z0b) : z0b := fun f args => if f = 11 then zeL C args else xtC f args
instance : XMo xtF := ⟨fun {C0 C1} h f a o => by
  unfold xtF
  split
  · unfold zeL
    intro h2
    split at h2
    case isFalse => cases h2
    rename_i hc
    rw [if_pos hc]
    split at h2
    · rename_i fr hf
      obtain ⟨n, hn⟩ := z4A h _ hf
      rw [hn n (Nat.le_refl _)]
      exact h2
    · rename_i fr hf
      obtain ⟨n, hn⟩ := z4A h _ hf
      rw [hn n (Nat.le_refl _)]
      exact h2
    · cases h2
  · exact id⟩
end
end Go.Proofs.Ytcjljokldnpgfaa
section
namespace Go.Proofs
open Go.Shelf
def Try.lays128_ren : Go.Shelf.Ren := ⟨fun | 128 => 53 | n => n, fun | 51 => 57 | 3 => 3 | 4 => 4 | 46 => 43 | 5 => 5 | 9 => 9 | n => n, fun | n => n⟩
theorem Try.lays128 : Go.Proofs.Lays.n128 Try.prog Try.lays128_ren := {
  mixed := by kernel_rfl
  f128 := Try.func53.trans (congrArg some (by kernel_rfl))
  t3 := Try.underlying3
  a3 := Try.isAgg3
  z3 := Try.sizeOf3
  v3 := Try.zeroValue3
  t4 := Try.underlying4
  a4 := Try.isAgg4
  z4 := Try.sizeOf4
  v4 := Try.zeroValue4
  t5 := Try.underlying5
  a5 := Try.isAgg5
  z5 := Try.sizeOf5
  v5 := Try.zeroValue5
  t9 := Try.underlying9
  a9 := Try.isAgg9
  z9 := Try.sizeOf9
  v9 := Try.zeroValue9
  t46 := Try.underlying43
  a46 := Try.isAgg43
  z46 := Try.sizeOf43
  v46 := Try.zeroValue43
  t51 := Try.underlying57
  a51 := Try.isAgg57
  z51 := Try.sizeOf57
  v51 := Try.zeroValue57 }
theorem Try.bits_Len32 (x : Int) (w : World) (h0 : 0 <= x) (h1 : x <= 4294967295) :
    Calls Try.prog 53 #[.int .u32 x] w fun e w' => e = .returned (.int .i64 (Lib.bitLen x.toNat)) /\ w' = w := Any.bits_Len32 Try.lays128 x w h0 h1
def Try.lays125_ren : Go.Shelf.Ren := ⟨fun | 125 => 40 | 128 => 53 | 129 => 54 | n => n, fun | 46 => 43 | 3 => 3 | 51 => 57 | 53 => 59 | 4 => 4 | 5 => 5 | 9 => 9 | n => n, fun | n => n⟩
theorem Try.lays125 : Go.Proofs.Lays.n125 Try.prog Try.lays125_ren := {
  mixed := by kernel_rfl
  f125 := Try.func40.trans (congrArg some (by kernel_rfl))
  f128 := Try.func53.trans (congrArg some (by kernel_rfl))
  f129 := Try.func54.trans (congrArg some (by kernel_rfl))
  t3 := Try.underlying3
  a3 := Try.isAgg3
  z3 := Try.sizeOf3
  v3 := Try.zeroValue3
  t4 := Try.underlying4
  a4 := Try.isAgg4
  z4 := Try.sizeOf4
  v4 := Try.zeroValue4
  t5 := Try.underlying5
  a5 := Try.isAgg5
  z5 := Try.sizeOf5
  v5 := Try.zeroValue5
  t9 := Try.underlying9
  a9 := Try.isAgg9
  z9 := Try.sizeOf9
  v9 := Try.zeroValue9
  t46 := Try.underlying43
  a46 := Try.isAgg43
  z46 := Try.sizeOf43
  v46 := Try.zeroValue43
  t51 := Try.underlying57
  a51 := Try.isAgg57
  z51 := Try.sizeOf57
  v51 := Try.zeroValue57
  t53 := Try.underlying59
  a53 := Try.isAgg59
  z53 := Try.sizeOf59
  v53 := Try.zeroValue59 }
theorem Try.bits_Len (x : Int) (w : World) (h0 : 0 <= x) (h1 : x <= 18446744073709551615) :
    Calls Try.prog 40 #[.int .u64 x] w fun e w' => e = .returned (.int .i64 (Lib.bitLen x.toNat)) /\ w' = w := Any.bits_Len Try.lays125 x w h0 h1
def Try.lays213_ren : Go.Shelf.Ren := ⟨fun | 213 => 37 | 265 => 43 | n => n, fun | 9 => 9 | 3 => 3 | n => n, fun | n => n⟩
theorem Try.lays213 : Go.Proofs.Lays.n213 Try.prog Try.lays213_ren := {
  mixed := by kernel_rfl
  f213 := Try.func37.trans (congrArg some (by kernel_rfl))
  f265 := Try.func43.trans (congrArg some (by kernel_rfl))
  t3 := Try.underlying3
  a3 := Try.isAgg3
  z3 := Try.sizeOf3
  v3 := Try.zeroValue3
  t9 := Try.underlying9
  a9 := Try.isAgg9
  z9 := Try.sizeOf9
  v9 := Try.zeroValue9 }
open Go.RowKit in
theorem Try.bytealg_CompareString (a b : ByteArray) (w : World) :
    Calls Try.prog 37 #[.string a, .string b] w fun e w' => e = .returned (.int .i64 (Lib.compareBytes a.data.toList b.data.toList)) /\ w' = w := Any.bytealg_CompareString Try.lays213 a b w
def Try.lays106_ren : Go.Shelf.Ren := ⟨fun | 106 => 26 | 213 => 37 | 265 => 43 | n => n, fun | 9 => 9 | 3 => 3 | n => n, fun | n => n⟩
theorem Try.lays106 : Go.Proofs.Lays.n106 Try.prog Try.lays106_ren := {
  mixed := by kernel_rfl
  f106 := Try.func26.trans (congrArg some (by kernel_rfl))
  f213 := Try.func37.trans (congrArg some (by kernel_rfl))
  f265 := Try.func43.trans (congrArg some (by kernel_rfl))
  t3 := Try.underlying3
  a3 := Try.isAgg3
  z3 := Try.sizeOf3
  v3 := Try.zeroValue3
  t9 := Try.underlying9
  a9 := Try.isAgg9
  z9 := Try.sizeOf9
  v9 := Try.zeroValue9 }
open Go.RowKit in
theorem Try.strings_Compare (a b : ByteArray) (w : World) :
    Calls Try.prog 26 #[.string a, .string b] w fun e w' => e = .returned (.int .i64 (Lib.compareBytes a.data.toList b.data.toList)) /\ w' = w := Any.strings_Compare Try.lays106 a b w
def Try.lays215_ren : Go.Shelf.Ren := ⟨fun | 215 => 36 | n => n, fun | 3 => 3 | 4 => 4 | n => n, fun | n => n⟩
theorem Try.lays215 : Go.Proofs.Lays.n215 Try.prog Try.lays215_ren := {
  mixed := by kernel_rfl
  f215 := Try.func36.trans (congrArg some (by kernel_rfl))
  t3 := Try.underlying3
  a3 := Try.isAgg3
  z3 := Try.sizeOf3
  v3 := Try.zeroValue3
  t4 := Try.underlying4
  a4 := Try.isAgg4
  z4 := Try.sizeOf4
  v4 := Try.zeroValue4 }
open Go.RowKit in
theorem Try.cmp_isNaN_int (x : Int) (w : World) :
    Calls Try.prog 36 #[.int .i64 x] w fun e w' => e = .returned (.bool false) /\ w' = w := Any.cmp_isNaN_int Try.lays215 x w
def Try.lays122_ren : Go.Shelf.Ren := ⟨fun | 122 => 25 | 215 => 36 | n => n, fun | 3 => 3 | 4 => 4 | n => n, fun | n => n⟩
theorem Try.lays122 : Go.Proofs.Lays.n122 Try.prog Try.lays122_ren := {
  mixed := by kernel_rfl
  f122 := Try.func25.trans (congrArg some (by kernel_rfl))
  f215 := Try.func36.trans (congrArg some (by kernel_rfl))
  t3 := Try.underlying3
  a3 := Try.isAgg3
  z3 := Try.sizeOf3
  v3 := Try.zeroValue3
  t4 := Try.underlying4
  a4 := Try.isAgg4
  z4 := Try.sizeOf4
  v4 := Try.zeroValue4 }
open Go.RowKit in
theorem Try.cmp_Compare_int (x y : Int) (w : World) :
    Calls Try.prog 25 #[.int .i64 x, .int .i64 y] w fun e w' => e = .returned (.int .i64 (Lib.compareInt x y)) /\ w' = w := Any.cmp_Compare_int Try.lays122 x y w
def Try.lays129_ren : Go.Shelf.Ren := ⟨fun | 129 => 54 | n => n, fun | 53 => 59 | 3 => 3 | 4 => 4 | 46 => 43 | 5 => 5 | 9 => 9 | n => n, fun | n => n⟩
theorem Try.lays129 : Go.Proofs.Lays.n129 Try.prog Try.lays129_ren := {
  mixed := by kernel_rfl
  f129 := Try.func54.trans (congrArg some (by kernel_rfl))
  t3 := Try.underlying3
  a3 := Try.isAgg3
  z3 := Try.sizeOf3
  v3 := Try.zeroValue3
  t4 := Try.underlying4
  a4 := Try.isAgg4
  z4 := Try.sizeOf4
  v4 := Try.zeroValue4
  t5 := Try.underlying5
  a5 := Try.isAgg5
  z5 := Try.sizeOf5
  v5 := Try.zeroValue5
  t9 := Try.underlying9
  a9 := Try.isAgg9
  z9 := Try.sizeOf9
  v9 := Try.zeroValue9
  t46 := Try.underlying43
  a46 := Try.isAgg43
  z46 := Try.sizeOf43
  v46 := Try.zeroValue43
  t53 := Try.underlying59
  a53 := Try.isAgg59
  z53 := Try.sizeOf59
  v53 := Try.zeroValue59 }
theorem Try.bits_Len64 (x : Int) (w : World) (h0 : 0 <= x) (h1 : x <= 18446744073709551615) :
    Calls Try.prog 54 #[.int .u64 x] w fun e w' => e = .returned (.int .i64 (Lib.bitLen x.toNat)) /\ w' = w := Any.bits_Len64 Try.lays129 x w h0 h1
def Try.lays190_ren : Go.Shelf.Ren := ⟨fun | 190 => 28 | 125 => 40 | 258 => 39 | 128 => 53 | 129 => 54 | 302 => 44 | 303 => 45 | 304 => 46 | 305 => 47 | 306 => 48 | 307 => 49 | 308 => 50 | 309 => 51 | 310 => 52 | 333 => 63 | 329 => 64 | 330 => 65 | 334 => 66 | 335 => 67 | 336 => 68 | 344 => 72 | n => n, fun | 31 => 23 | 9 => 9 | 3 => 3 | 46 => 43 | 0 => 0 | 51 => 57 | 53 => 59 | 4 => 4 | 183 => 68 | 182 => 67 | 131 => 52 | 5 => 5 | 218 => 78 | 222 => 82 | 228 => 86 | 229 => 87 | n => n, fun | n => n⟩
theorem Try.lays190 : Go.Proofs.Lays.n190 Try.prog Try.lays190_ren := {
  mixed := by kernel_rfl
  f125 := Try.func40.trans (congrArg some (by kernel_rfl))
  f128 := Try.func53.trans (congrArg some (by kernel_rfl))
  f129 := Try.func54.trans (congrArg some (by kernel_rfl))
  f190 := Try.func28.trans (congrArg some (by kernel_rfl))
  f258 := Try.func39.trans (congrArg some (by kernel_rfl))
  f302 := Try.func44.trans (congrArg some (by kernel_rfl))
  f303 := Try.func45.trans (congrArg some (by kernel_rfl))
  f304 := Try.func46.trans (congrArg some (by kernel_rfl))
  f305 := Try.func47.trans (congrArg some (by kernel_rfl))
  f306 := Try.func48.trans (congrArg some (by kernel_rfl))
  f307 := Try.func49.trans (congrArg some (by kernel_rfl))
  f308 := Try.func50.trans (congrArg some (by kernel_rfl))
  f309 := Try.func51.trans (congrArg some (by kernel_rfl))
  f310 := Try.func52.trans (congrArg some (by kernel_rfl))
  f329 := Try.func64.trans (congrArg some (by kernel_rfl))
  f330 := Try.func65.trans (congrArg some (by kernel_rfl))
  f333 := Try.func63.trans (congrArg some (by kernel_rfl))
  f334 := Try.func66.trans (congrArg some (by kernel_rfl))
  f335 := Try.func67.trans (congrArg some (by kernel_rfl))
  f336 := Try.func68.trans (congrArg some (by kernel_rfl))
  f344 := Try.func72.trans (congrArg some (by kernel_rfl))
  t0 := Try.underlying0
  a0 := Try.isAgg0
  z0 := Try.sizeOf0
  v0 := Try.zeroValue0
  t3 := Try.underlying3
  a3 := Try.isAgg3
  z3 := Try.sizeOf3
  v3 := Try.zeroValue3
  t4 := Try.underlying4
  a4 := Try.isAgg4
  z4 := Try.sizeOf4
  v4 := Try.zeroValue4
  t5 := Try.underlying5
  a5 := Try.isAgg5
  z5 := Try.sizeOf5
  v5 := Try.zeroValue5
  t9 := Try.underlying9
  a9 := Try.isAgg9
  z9 := Try.sizeOf9
  v9 := Try.zeroValue9
  t31 := Try.underlying23
  a31 := Try.isAgg23
  z31 := Try.sizeOf23
  v31 := Try.zeroValue23
  t46 := Try.underlying43
  a46 := Try.isAgg43
  z46 := Try.sizeOf43
  v46 := Try.zeroValue43
  t51 := Try.underlying57
  a51 := Try.isAgg57
  z51 := Try.sizeOf57
  v51 := Try.zeroValue57
  t53 := Try.underlying59
  a53 := Try.isAgg59
  z53 := Try.sizeOf59
  v53 := Try.zeroValue59
  t131 := Try.underlying52
  a131 := Try.isAgg52
  z131 := Try.sizeOf52
  v131 := Try.zeroValue52
  t182 := Try.underlying67
  a182 := Try.isAgg67
  z182 := Try.sizeOf67
  v182 := Try.zeroValue67
  t183 := Try.underlying68
  a183 := Try.isAgg68
  z183 := Try.sizeOf68
  v183 := Try.zeroValue68
  t218 := Try.underlying78
  a218 := Try.isAgg78
  z218 := Try.sizeOf78
  v218 := Try.zeroValue78
  t222 := Try.underlying82
  a222 := Try.isAgg82
  z222 := Try.sizeOf82
  v222 := Try.zeroValue82
  t228 := Try.underlying86
  a228 := Try.isAgg86
  z228 := Try.sizeOf86
  v228 := Try.zeroValue86
  t229 := Try.underlying87
  a229 := Try.isAgg87
  z229 := Try.sizeOf87
  v229 := Try.zeroValue87 }
open Go.Sort Go.RowKit in
theorem Try.slices_Sort_string (blk off cap : Nat) (ss : List (List UInt8)) (w : World) (hH : Holds encStr w blk off ss.toArray) (hblk : blk < w.heap.size) (hsz : ss.length < 4611686018427387904) :
    Calls Try.prog 28 #[.slice (some ⟨blk, off, none⟩) ss.length cap] w fun e w' =>
      e = .returned (.tuple #[]) /\ ∃ n os, w' = grow (putRow encStr (Sort.ahead w n) blk off (ss.mergeSort fun x y => decide (x <= y)).toArray) os := Any.slices_Sort_string Try.lays190 blk off cap ss w hH hblk hsz
def Try.laysNm237_ren : Go.Shelf.Ren := ⟨fun | 37 => 36 | n => n, fun | 3 => 3 | 4 => 4 | n => n, fun | n => n⟩
theorem Try.laysNm237 : Go.Proofs.Lays2.n37 Try.prog Try.laysNm237_ren := {
  mixed := by kernel_rfl
  f37 := Try.func36.trans (congrArg some (by kernel_rfl))
  t3 := Try.underlying3
  a3 := Try.isAgg3
  z3 := Try.sizeOf3
  v3 := Try.zeroValue3
  t4 := Try.underlying4
  a4 := Try.isAgg4
  z4 := Try.sizeOf4
  v4 := Try.zeroValue4 }
open Go.RowKit Go.Lib in
theorem Try.cmp_isNaN_int2 (x : Int) (w : World) :
    Calls Try.prog 36 #[.int .i64 x] w fun e w' => e = .returned (.bool false) /\ w' = w := Any.cmp_isNaN_int2 Try.laysNm237 x w
open Go.RowKit Go.Sort in
theorem Try.slices_Sort_string_none (p : Option Addr) (cap : Nat) (w : World) :
    Calls Try.prog 28 #[.slice p 0 cap] w fun e w' => e = .returned (.tuple #[]) /\ w' = w := Any.slices_Sort_string_none Try.lays190 p cap w
def Try.laysSlF20_f55_ren : Go.Shelf.Ren := ⟨fun | 20 => 55 | n => n, fun | 24 => 9 | 22 => 23 | 3 => 3 | 25 => 30 | 4 => 4 | 0 => 0 | n => n, fun | n => n⟩
theorem Try.laysSlF20_f55 : Go.Proofs.SlLaysF.n20 Try.prog Try.laysSlF20_f55_ren := {
  mixed := by kernel_rfl
  f20 := ⟨Try.f55.name, by decide, Try.func55.trans (congrArg some (by kernel_rfl))⟩
  t0 := Try.underlying0
  a0 := Try.isAgg0
  z0 := Try.sizeOf0
  v0 := Try.zeroValue0
  t3 := Try.underlying3
  a3 := Try.isAgg3
  z3 := Try.sizeOf3
  v3 := Try.zeroValue3
  t4 := Try.underlying4
  a4 := Try.isAgg4
  z4 := Try.sizeOf4
  v4 := Try.zeroValue4
  t22 := Try.underlying23
  a22 := Try.isAgg23
  z22 := Try.sizeOf23
  v22 := Try.zeroValue23
  a24 := Try.isAgg9
  z24 := Try.sizeOf9
  t25 := Try.underlying30
  a25 := Try.isAgg30
  z25 := Try.sizeOf30
  v25 := Try.zeroValue30 }
open Go.RowKit Go.Lib Go.Sort in
theorem Try.insertionSortCmpFunc_one {α : Type} [Inhabited α] (enc : α -> Value) (hO : OneCell enc) (cf : α -> α -> Int) (g : Nat) (cb : Array Value) (blk off cap a b : Nat) (d : Array α) (w : World) (eg : ∀ args w, (callFunc g args).run Try.prog w = .ok (.enter g args) w) (hcmp : CmpReads Try.prog g cb enc cf blk off d.size w) (hH : Holds enc w blk off d) (hab : a <= b) (hb : b <= d.size) (hsz : d.size < 4611686018427387904) :
    Calls Try.prog 55 #[.slice (some ⟨blk, off, none⟩) d.size cap, .int .i64 a, .int .i64 b, .func (.func g) #[] cb] w fun e w' =>
      e = .returned (.tuple #[]) /\ ∃ n, w' = (putRow enc w blk off (Sort.insertionSort (ltOf cf) d a b)).drewN n := Any.insertionSortCmpFunc_one Try.laysSlF20_f55 enc hO cf g cb blk off cap a b d w eg hcmp hH hab hb hsz
def Try.laysSlF46_f69_ren : Go.Shelf.Ren := ⟨fun | 46 => 69 | n => n, fun | 24 => 9 | 22 => 23 | 3 => 3 | 25 => 30 | 4 => 4 | 0 => 0 | n => n, fun | n => n⟩
theorem Try.laysSlF46_f69 : Go.Proofs.SlLaysF.n46 Try.prog Try.laysSlF46_f69_ren := {
  mixed := by kernel_rfl
  f46 := ⟨Try.f69.name, by decide, Try.func69.trans (congrArg some (by kernel_rfl))⟩
  t0 := Try.underlying0
  a0 := Try.isAgg0
  z0 := Try.sizeOf0
  v0 := Try.zeroValue0
  t3 := Try.underlying3
  a3 := Try.isAgg3
  z3 := Try.sizeOf3
  v3 := Try.zeroValue3
  t4 := Try.underlying4
  a4 := Try.isAgg4
  z4 := Try.sizeOf4
  v4 := Try.zeroValue4
  t22 := Try.underlying23
  a22 := Try.isAgg23
  z22 := Try.sizeOf23
  v22 := Try.zeroValue23
  a24 := Try.isAgg9
  z24 := Try.sizeOf9
  t25 := Try.underlying30
  a25 := Try.isAgg30
  z25 := Try.sizeOf30
  v25 := Try.zeroValue30 }
open Go.RowKit Go.Lib Go.Sort in
theorem Try.siftDownCmpFunc {α : Type} [Inhabited α] (enc : α -> Value) (cf : α -> α -> Int) (g : Nat) (cb : Array Value) (blk off cap lo hi first : Nat) (d0 d : Array α) (w0 w : World) (eg : ∀ args w, (callFunc g args).run Try.prog w = .ok (.enter g args) w) (hcmp : CmpLays1 Try.prog g cb enc cf blk off d0.size w0) (R : Row1 enc w0 blk off d0) (hs : d0.size = d.size) (S : SW enc w0 blk off d w) (hlo : lo <= hi) (hb : first + hi <= d.size) (hsz : d.size < 4611686018427387904) :
    Calls Try.prog 69 #[.slice (some ⟨blk, off, none⟩) d.size cap, .int .i64 lo, .int .i64 hi, .int .i64 first, .func (.func g) #[] cb] w fun e w' =>
      e = .returned (.tuple #[]) /\ SW enc w0 blk off (siftDown (ltOf cf) hi first lo d) w' := Any.siftDownCmpFunc Try.laysSlF46_f69 enc cf g cb blk off cap lo hi first d0 d w0 w eg hcmp R hs S hlo hb hsz
def Try.laysSlF21_f56_ren : Go.Shelf.Ren := ⟨fun | 21 => 56 | 46 => 69 | n => n, fun | 24 => 9 | 22 => 23 | 3 => 3 | 25 => 30 | 4 => 4 | 0 => 0 | n => n, fun | n => n⟩
theorem Try.laysSlF21_f56 : Go.Proofs.SlLaysF.n21 Try.prog Try.laysSlF21_f56_ren := {
  mixed := by kernel_rfl
  f21 := ⟨Try.f56.name, by decide, Try.func56.trans (congrArg some (by kernel_rfl))⟩
  f46 := ⟨Try.f69.name, by decide, Try.func69.trans (congrArg some (by kernel_rfl))⟩
  t0 := Try.underlying0
  a0 := Try.isAgg0
  z0 := Try.sizeOf0
  v0 := Try.zeroValue0
  t3 := Try.underlying3
  a3 := Try.isAgg3
  z3 := Try.sizeOf3
  v3 := Try.zeroValue3
  t4 := Try.underlying4
  a4 := Try.isAgg4
  z4 := Try.sizeOf4
  v4 := Try.zeroValue4
  t22 := Try.underlying23
  a22 := Try.isAgg23
  z22 := Try.sizeOf23
  v22 := Try.zeroValue23
  a24 := Try.isAgg9
  z24 := Try.sizeOf9
  t25 := Try.underlying30
  a25 := Try.isAgg30
  z25 := Try.sizeOf30
  v25 := Try.zeroValue30 }
open Go.RowKit Go.Lib Go.Sort in
theorem Try.heapSortCmpFunc {α : Type} [Inhabited α] (enc : α -> Value) (cf : α -> α -> Int) (g : Nat) (cb : Array Value) (blk off cap a b : Nat) (d0 d : Array α) (w0 w : World) (eg : ∀ args w, (callFunc g args).run Try.prog w = .ok (.enter g args) w) (hcmp : CmpLays1 Try.prog g cb enc cf blk off d0.size w0) (R : Row1 enc w0 blk off d0) (hs : d0.size = d.size) (S : SW enc w0 blk off d w) (hab : a <= b) (hb : b <= d.size) (hsz : d.size < 4611686018427387904) :
    Calls Try.prog 56 #[.slice (some ⟨blk, off, none⟩) d.size cap, .int .i64 a, .int .i64 b, .func (.func g) #[] cb] w fun e w' =>
      e = .returned (.tuple #[]) /\ SW enc w0 blk off (heapSort (ltOf cf) d a b) w' := Any.heapSortCmpFunc Try.laysSlF21_f56 enc cf g cb blk off cap a b d0 d w0 w eg hcmp R hs S hab hb hsz
open Go.RowKit Go.Lib Go.Sort in
theorem Try.insertionSortCmpFunc_s {α : Type} [Inhabited α] (enc : α -> Value) (cf : α -> α -> Int) (g : Nat) (cb : Array Value) (blk off cap a b : Nat) (d0 d : Array α) (w0 w : World) (eg : ∀ args w, (callFunc g args).run Try.prog w = .ok (.enter g args) w) (hcmp : CmpLays1 Try.prog g cb enc cf blk off d0.size w0) (R : Row1 enc w0 blk off d0) (hs : d0.size = d.size) (S : SW enc w0 blk off d w) (hab : a <= b) (hb : b <= d.size) (hsz : d.size < 4611686018427387904) :
    Calls Try.prog 55 #[.slice (some ⟨blk, off, none⟩) d.size cap, .int .i64 a, .int .i64 b, .func (.func g) #[] cb] w fun e w' => e = .returned (.tuple #[]) /\ SW enc w0 blk off (Sort.insertionSort (ltOf cf) d a b) w' := Any.insertionSortCmpFunc_s Try.laysSlF20_f55 enc cf g cb blk off cap a b d0 d w0 w eg hcmp R hs S hab hb hsz
def Try.laysSlF57_f73_ren : Go.Shelf.Ren := ⟨fun | 57 => 73 | n => n, fun | 24 => 9 | 22 => 23 | 3 => 3 | 70 => 82 | 25 => 30 | 0 => 0 | 4 => 4 | n => n, fun | n => n⟩
theorem Try.laysSlF57_f73 : Go.Proofs.SlLaysF.n57 Try.prog Try.laysSlF57_f73_ren := {
  mixed := by kernel_rfl
  f57 := ⟨Try.f73.name, by decide, Try.func73.trans (congrArg some (by kernel_rfl))⟩
  t0 := Try.underlying0
  a0 := Try.isAgg0
  z0 := Try.sizeOf0
  v0 := Try.zeroValue0
  t3 := Try.underlying3
  a3 := Try.isAgg3
  z3 := Try.sizeOf3
  v3 := Try.zeroValue3
  t4 := Try.underlying4
  a4 := Try.isAgg4
  z4 := Try.sizeOf4
  v4 := Try.zeroValue4
  t22 := Try.underlying23
  a22 := Try.isAgg23
  z22 := Try.sizeOf23
  v22 := Try.zeroValue23
  a24 := Try.isAgg9
  z24 := Try.sizeOf9
  t25 := Try.underlying30
  a25 := Try.isAgg30
  z25 := Try.sizeOf30
  v25 := Try.zeroValue30
  t70 := Try.underlying82
  a70 := Try.isAgg82
  z70 := Try.sizeOf82
  v70 := Try.zeroValue82 }
open Go.RowKit Go.Lib Go.Sort in
theorem Try.order2CmpFunc {α : Type} [Inhabited α] (enc : α -> Value) (cf : α -> α -> Int) (g : Nat) (cb : Array Value) (blk off cap a b c s : Nat) (d0 d : Array α) (w0 W : World) (eg : ∀ args w, (callFunc g args).run Try.prog w = .ok (.enter g args) w) (hcmp : CmpLays1 Try.prog g cb enc cf blk off d0.size w0) (R : Row1 enc w0 blk off d0) (hs : d0.size = d.size) (C : Cnt1 enc w0 blk off d c s W) (ha : a < d.size) (hb : b < d.size) (hsz : d.size < 4611686018427387904) (hss : s < 4611686018427387904) :
    Calls Try.prog 73 #[.slice (some ⟨blk, off, none⟩) d.size cap, .int .i64 a, .int .i64 b, .pointer (some ⟨c, 0, none⟩), .func (.func g) #[] cb] W fun e w' =>
      e = .returned (.tuple #[.int .i64 (order2 (ltOf cf) d a b s).1, .int .i64 (order2 (ltOf cf) d a b s).2.1]) /\ Cnt1 enc w0 blk off d c (order2 (ltOf cf) d a b s).2.2 w' := Any.order2CmpFunc Try.laysSlF57_f73 enc cf g cb blk off cap a b c s d0 d w0 W eg hcmp R hs C ha hb hsz hss
def Try.laysSlF50_f71_ren : Go.Shelf.Ren := ⟨fun | 50 => 71 | 57 => 73 | n => n, fun | 24 => 9 | 22 => 23 | 3 => 3 | 70 => 82 | 25 => 30 | 77 => 87 | 0 => 0 | 4 => 4 | n => n, fun | n => n⟩
theorem Try.laysSlF50_f71 : Go.Proofs.SlLaysF.n50 Try.prog Try.laysSlF50_f71_ren := {
  mixed := by kernel_rfl
  f50 := ⟨Try.f71.name, by decide, Try.func71.trans (congrArg some (by kernel_rfl))⟩
  f57 := ⟨Try.f73.name, by decide, Try.func73.trans (congrArg some (by kernel_rfl))⟩
  t0 := Try.underlying0
  a0 := Try.isAgg0
  z0 := Try.sizeOf0
  v0 := Try.zeroValue0
  t3 := Try.underlying3
  a3 := Try.isAgg3
  z3 := Try.sizeOf3
  v3 := Try.zeroValue3
  t4 := Try.underlying4
  a4 := Try.isAgg4
  z4 := Try.sizeOf4
  v4 := Try.zeroValue4
  t22 := Try.underlying23
  a22 := Try.isAgg23
  z22 := Try.sizeOf23
  v22 := Try.zeroValue23
  a24 := Try.isAgg9
  z24 := Try.sizeOf9
  t25 := Try.underlying30
  a25 := Try.isAgg30
  z25 := Try.sizeOf30
  v25 := Try.zeroValue30
  t70 := Try.underlying82
  a70 := Try.isAgg82
  z70 := Try.sizeOf82
  v70 := Try.zeroValue82
  t77 := Try.underlying87
  a77 := Try.isAgg87
  z77 := Try.sizeOf87
  v77 := Try.zeroValue87 }
open Go.RowKit Go.Lib Go.Sort in
theorem Try.medianCmpFunc {α : Type} [Inhabited α] (enc : α -> Value) (cf : α -> α -> Int) (g : Nat) (cb : Array Value) (blk off cap a b c' c s : Nat) (d0 d : Array α) (w0 W : World) (eg : ∀ args w, (callFunc g args).run Try.prog w = .ok (.enter g args) w) (hcmp : CmpLays1 Try.prog g cb enc cf blk off d0.size w0) (R : Row1 enc w0 blk off d0) (hs : d0.size = d.size) (C : Cnt1 enc w0 blk off d c s W) (ha : a < d.size) (hb : b < d.size) (hc : c' < d.size) (hsz : d.size < 4611686018427387904) (hss : s + 3 < 4611686018427387904) :
    Calls Try.prog 71 #[.slice (some ⟨blk, off, none⟩) d.size cap, .int .i64 a, .int .i64 b, .int .i64 c', .pointer (some ⟨c, 0, none⟩), .func (.func g) #[] cb] W fun e w' =>
      e = .returned (.int .i64 (median (ltOf cf) d a b c' s).1) /\ Cnt1 enc w0 blk off d c (median (ltOf cf) d a b c' s).2 w' := Any.medianCmpFunc Try.laysSlF50_f71 enc cf g cb blk off cap a b c' c s d0 d w0 W eg hcmp R hs C ha hb hc hsz hss
def Try.laysSlF49_f70_ren : Go.Shelf.Ren := ⟨fun | 49 => 70 | 50 => 71 | 57 => 73 | n => n, fun | 24 => 9 | 22 => 23 | 3 => 3 | 70 => 82 | 25 => 30 | 77 => 87 | 0 => 0 | 4 => 4 | n => n, fun | n => n⟩
theorem Try.laysSlF49_f70 : Go.Proofs.SlLaysF.n49 Try.prog Try.laysSlF49_f70_ren := {
  mixed := by kernel_rfl
  f49 := ⟨Try.f70.name, by decide, Try.func70.trans (congrArg some (by kernel_rfl))⟩
  f50 := ⟨Try.f71.name, by decide, Try.func71.trans (congrArg some (by kernel_rfl))⟩
  f57 := ⟨Try.f73.name, by decide, Try.func73.trans (congrArg some (by kernel_rfl))⟩
  t0 := Try.underlying0
  a0 := Try.isAgg0
  z0 := Try.sizeOf0
  v0 := Try.zeroValue0
  t3 := Try.underlying3
  a3 := Try.isAgg3
  z3 := Try.sizeOf3
  v3 := Try.zeroValue3
  t4 := Try.underlying4
  a4 := Try.isAgg4
  z4 := Try.sizeOf4
  v4 := Try.zeroValue4
  t22 := Try.underlying23
  a22 := Try.isAgg23
  z22 := Try.sizeOf23
  v22 := Try.zeroValue23
  a24 := Try.isAgg9
  z24 := Try.sizeOf9
  t25 := Try.underlying30
  a25 := Try.isAgg30
  z25 := Try.sizeOf30
  v25 := Try.zeroValue30
  t70 := Try.underlying82
  a70 := Try.isAgg82
  z70 := Try.sizeOf82
  v70 := Try.zeroValue82
  t77 := Try.underlying87
  a77 := Try.isAgg87
  z77 := Try.sizeOf87
  v77 := Try.zeroValue87 }
open Go.RowKit Go.Lib Go.Sort in
theorem Try.medianAdjacentCmpFunc {α : Type} [Inhabited α] (enc : α -> Value) (cf : α -> α -> Int) (g : Nat) (cb : Array Value) (blk off cap a c s : Nat) (d0 d : Array α) (w0 W : World) (eg : ∀ args w, (callFunc g args).run Try.prog w = .ok (.enter g args) w) (hcmp : CmpLays1 Try.prog g cb enc cf blk off d0.size w0) (R : Row1 enc w0 blk off d0) (hs : d0.size = d.size) (C : Cnt1 enc w0 blk off d c s W) (ha1 : 1 <= a) (ha2 : a + 1 < d.size) (hsz : d.size < 4611686018427387904) (hss : s + 3 < 4611686018427387904) :
    Calls Try.prog 70 #[.slice (some ⟨blk, off, none⟩) d.size cap, .int .i64 a, .pointer (some ⟨c, 0, none⟩), .func (.func g) #[] cb] W fun e w' =>
      e = .returned (.int .i64 (medianAdjacent (ltOf cf) d a s).1) /\ Cnt1 enc w0 blk off d c (medianAdjacent (ltOf cf) d a s).2 w' := Any.medianAdjacentCmpFunc Try.laysSlF49_f70 enc cf g cb blk off cap a c s d0 d w0 W eg hcmp R hs C ha1 ha2 hsz hss
def Try.laysSlF23_f58_ren : Go.Shelf.Ren := ⟨fun | 23 => 58 | 49 => 70 | 50 => 71 | 57 => 73 | n => n, fun | 24 => 9 | 22 => 23 | 3 => 3 | 25 => 30 | 45 => 67 | 0 => 0 | 4 => 4 | 70 => 82 | 77 => 87 | n => n, fun | n => n⟩
theorem Try.laysSlF23_f58 : Go.Proofs.SlLaysF.n23 Try.prog Try.laysSlF23_f58_ren := {
  mixed := by kernel_rfl
  f23 := ⟨Try.f58.name, by decide, Try.func58.trans (congrArg some (by kernel_rfl))⟩
  f49 := ⟨Try.f70.name, by decide, Try.func70.trans (congrArg some (by kernel_rfl))⟩
  f50 := ⟨Try.f71.name, by decide, Try.func71.trans (congrArg some (by kernel_rfl))⟩
  f57 := ⟨Try.f73.name, by decide, Try.func73.trans (congrArg some (by kernel_rfl))⟩
  t0 := Try.underlying0
  a0 := Try.isAgg0
  z0 := Try.sizeOf0
  v0 := Try.zeroValue0
  t3 := Try.underlying3
  a3 := Try.isAgg3
  z3 := Try.sizeOf3
  v3 := Try.zeroValue3
  t4 := Try.underlying4
  a4 := Try.isAgg4
  z4 := Try.sizeOf4
  v4 := Try.zeroValue4
  t22 := Try.underlying23
  a22 := Try.isAgg23
  z22 := Try.sizeOf23
  v22 := Try.zeroValue23
  a24 := Try.isAgg9
  z24 := Try.sizeOf9
  t25 := Try.underlying30
  a25 := Try.isAgg30
  z25 := Try.sizeOf30
  v25 := Try.zeroValue30
  t45 := Try.underlying67
  a45 := Try.isAgg67
  z45 := Try.sizeOf67
  v45 := Try.zeroValue67
  t70 := Try.underlying82
  a70 := Try.isAgg82
  z70 := Try.sizeOf82
  v70 := Try.zeroValue82
  t77 := Try.underlying87
  a77 := Try.isAgg87
  z77 := Try.sizeOf87
  v77 := Try.zeroValue87 }
open Go.RowKit Go.Lib Go.Sort in
theorem Try.choosePivotCmpFunc {α : Type} [Inhabited α] (enc : α -> Value) (cf : α -> α -> Int) (g : Nat) (cb : Array Value) (blk off cap a b : Nat) (d0 d : Array α) (w0 W : World) (eg : ∀ args w, (callFunc g args).run Try.prog w = .ok (.enter g args) w) (hcmp : CmpLays1 Try.prog g cb enc cf blk off d0.size w0) (R : Row1 enc w0 blk off d0) (hs : d0.size = d.size) (S : SW enc w0 blk off d W) (hab : a < b) (hb : b <= d.size) (hsz : d.size < 4611686018427387904) :
    Calls Try.prog 58 #[.slice (some ⟨blk, off, none⟩) d.size cap, .int .i64 a, .int .i64 b, .func (.func g) #[] cb] W fun e w' =>
      e = .returned (.tuple #[.int .i64 (choosePivot (ltOf cf) d a b).1, .int .i64 (hintCode (choosePivot (ltOf cf) d a b).2)]) /\ SW enc w0 blk off d w' := Any.choosePivotCmpFunc Try.laysSlF23_f58 enc cf g cb blk off cap a b d0 d w0 W eg hcmp R hs S hab hb hsz
def Try.laysSlF24_f59_ren : Go.Shelf.Ren := ⟨fun | 24 => 59 | n => n, fun | 24 => 9 | 22 => 23 | 3 => 3 | 25 => 30 | 4 => 4 | 0 => 0 | n => n, fun | n => n⟩
theorem Try.laysSlF24_f59 : Go.Proofs.SlLaysF.n24 Try.prog Try.laysSlF24_f59_ren := {
  mixed := by kernel_rfl
  f24 := ⟨Try.f59.name, by decide, Try.func59.trans (congrArg some (by kernel_rfl))⟩
  t0 := Try.underlying0
  a0 := Try.isAgg0
  z0 := Try.sizeOf0
  v0 := Try.zeroValue0
  t3 := Try.underlying3
  a3 := Try.isAgg3
  z3 := Try.sizeOf3
  v3 := Try.zeroValue3
  t4 := Try.underlying4
  a4 := Try.isAgg4
  z4 := Try.sizeOf4
  v4 := Try.zeroValue4
  t22 := Try.underlying23
  a22 := Try.isAgg23
  z22 := Try.sizeOf23
  v22 := Try.zeroValue23
  a24 := Try.isAgg9
  z24 := Try.sizeOf9
  t25 := Try.underlying30
  a25 := Try.isAgg30
  z25 := Try.sizeOf30
  v25 := Try.zeroValue30 }
open Go.RowKit Go.Lib Go.Sort in
theorem Try.reverseRangeCmpFunc {α : Type} [Inhabited α] (enc : α -> Value) (g : Nat) (cb : Array Value) (blk off cap a b : Nat) (d0 d : Array α) (w0 w : World) (R : Row1 enc w0 blk off d0) (hs : d0.size = d.size) (S : SW enc w0 blk off d w) (hab : a <= b) (hb : b <= d.size) (hsz : d.size < 4611686018427387904) :
    Calls Try.prog 59 #[.slice (some ⟨blk, off, none⟩) d.size cap, .int .i64 a, .int .i64 b, .func (.func g) #[] cb] w fun e w' => e = .returned (.tuple #[]) /\ SW enc w0 blk off (reverseRange d a b) w' := Any.reverseRangeCmpFunc Try.laysSlF24_f59 enc g cb blk off cap a b d0 d w0 w R hs S hab hb hsz
def Try.laysSlF25_f60_ren : Go.Shelf.Ren := ⟨fun | 25 => 60 | n => n, fun | 24 => 9 | 22 => 23 | 3 => 3 | 25 => 30 | 4 => 4 | 0 => 0 | n => n, fun | n => n⟩
theorem Try.laysSlF25_f60 : Go.Proofs.SlLaysF.n25 Try.prog Try.laysSlF25_f60_ren := {
  mixed := by kernel_rfl
  f25 := ⟨Try.f60.name, by decide, Try.func60.trans (congrArg some (by kernel_rfl))⟩
  t0 := Try.underlying0
  a0 := Try.isAgg0
  z0 := Try.sizeOf0
  v0 := Try.zeroValue0
  t3 := Try.underlying3
  a3 := Try.isAgg3
  z3 := Try.sizeOf3
  v3 := Try.zeroValue3
  t4 := Try.underlying4
  a4 := Try.isAgg4
  z4 := Try.sizeOf4
  v4 := Try.zeroValue4
  t22 := Try.underlying23
  a22 := Try.isAgg23
  z22 := Try.sizeOf23
  v22 := Try.zeroValue23
  a24 := Try.isAgg9
  z24 := Try.sizeOf9
  t25 := Try.underlying30
  a25 := Try.isAgg30
  z25 := Try.sizeOf30
  v25 := Try.zeroValue30 }
open Go.RowKit Go.Lib Go.Sort in
theorem Try.partialInsertionSortCmpFunc {α : Type} [Inhabited α] (enc : α -> Value) (cf : α -> α -> Int) (g : Nat) (cb : Array Value) (blk off cap a b : Nat) (d0 d : Array α) (w0 w : World) (eg : ∀ args w, (callFunc g args).run Try.prog w = .ok (.enter g args) w) (hcmp : CmpLays1 Try.prog g cb enc cf blk off d0.size w0) (R : Row1 enc w0 blk off d0) (hs : d0.size = d.size) (S : SW enc w0 blk off d w) (hab : a < b) (hb : b <= d.size) (hsz : d.size < 4611686018427387904) :
    Calls Try.prog 60 #[.slice (some ⟨blk, off, none⟩) d.size cap, .int .i64 a, .int .i64 b, .func (.func g) #[] cb] w fun e w' =>
      e = .returned (.bool (Sort.partialInsertionSort (ltOf cf) d a b).2) /\ SW enc w0 blk off (Sort.partialInsertionSort (ltOf cf) d a b).1 w' := Any.partialInsertionSortCmpFunc Try.laysSlF25_f60 enc cf g cb blk off cap a b d0 d w0 w eg hcmp R hs S hab hb hsz
def Try.laysSlF26_f61_ren : Go.Shelf.Ren := ⟨fun | 26 => 61 | n => n, fun | 24 => 9 | 22 => 23 | 3 => 3 | 25 => 30 | 0 => 0 | 4 => 4 | n => n, fun | n => n⟩
theorem Try.laysSlF26_f61 : Go.Proofs.SlLaysF.n26 Try.prog Try.laysSlF26_f61_ren := {
  mixed := by kernel_rfl
  f26 := ⟨Try.f61.name, by decide, Try.func61.trans (congrArg some (by kernel_rfl))⟩
  t0 := Try.underlying0
  a0 := Try.isAgg0
  z0 := Try.sizeOf0
  v0 := Try.zeroValue0
  t3 := Try.underlying3
  a3 := Try.isAgg3
  z3 := Try.sizeOf3
  v3 := Try.zeroValue3
  t4 := Try.underlying4
  a4 := Try.isAgg4
  z4 := Try.sizeOf4
  v4 := Try.zeroValue4
  t22 := Try.underlying23
  a22 := Try.isAgg23
  z22 := Try.sizeOf23
  v22 := Try.zeroValue23
  a24 := Try.isAgg9
  z24 := Try.sizeOf9
  t25 := Try.underlying30
  a25 := Try.isAgg30
  z25 := Try.sizeOf30
  v25 := Try.zeroValue30 }
open Go.RowKit Go.Lib Go.Sort in
theorem Try.partitionEqualCmpFunc {α : Type} [Inhabited α] (enc : α -> Value) (cf : α -> α -> Int) (g : Nat) (cb : Array Value) (blk off cap a b pivot : Nat) (d0 d : Array α) (w0 w : World) (eg : ∀ args w, (callFunc g args).run Try.prog w = .ok (.enter g args) w) (hcmp : CmpLays1 Try.prog g cb enc cf blk off d0.size w0) (R : Row1 enc w0 blk off d0) (hs : d0.size = d.size) (S : SW enc w0 blk off d w) (hap : a <= pivot) (hpb : pivot < b) (hb : b <= d.size) (hsz : d.size < 4611686018427387904) :
    Calls Try.prog 61 #[.slice (some ⟨blk, off, none⟩) d.size cap, .int .i64 a, .int .i64 b, .int .i64 pivot, .func (.func g) #[] cb] w fun e w' =>
      e = .returned (.int .i64 (Sort.partitionEqual (ltOf cf) d a b pivot).1) /\ SW enc w0 blk off (Sort.partitionEqual (ltOf cf) d a b pivot).2 w' := Any.partitionEqualCmpFunc Try.laysSlF26_f61 enc cf g cb blk off cap a b pivot d0 d w0 w eg hcmp R hs S hap hpb hb hsz
def Try.laysSlF27_f62_ren : Go.Shelf.Ren := ⟨fun | 27 => 62 | n => n, fun | 24 => 9 | 22 => 23 | 3 => 3 | 25 => 30 | 4 => 4 | 0 => 0 | n => n, fun | n => n⟩
theorem Try.laysSlF27_f62 : Go.Proofs.SlLaysF.n27 Try.prog Try.laysSlF27_f62_ren := {
  mixed := by kernel_rfl
  f27 := ⟨Try.f62.name, by decide, Try.func62.trans (congrArg some (by kernel_rfl))⟩
  t0 := Try.underlying0
  a0 := Try.isAgg0
  z0 := Try.sizeOf0
  v0 := Try.zeroValue0
  t3 := Try.underlying3
  a3 := Try.isAgg3
  z3 := Try.sizeOf3
  v3 := Try.zeroValue3
  t4 := Try.underlying4
  a4 := Try.isAgg4
  z4 := Try.sizeOf4
  v4 := Try.zeroValue4
  t22 := Try.underlying23
  a22 := Try.isAgg23
  z22 := Try.sizeOf23
  v22 := Try.zeroValue23
  a24 := Try.isAgg9
  z24 := Try.sizeOf9
  t25 := Try.underlying30
  a25 := Try.isAgg30
  z25 := Try.sizeOf30
  v25 := Try.zeroValue30 }
open Go.RowKit Go.Lib Go.Sort in
theorem Try.partitionCmpFunc {α : Type} [Inhabited α] (enc : α -> Value) (cf : α -> α -> Int) (g : Nat) (cb : Array Value) (blk off cap a b pivot : Nat) (d0 d : Array α) (w0 w : World) (eg : ∀ args w, (callFunc g args).run Try.prog w = .ok (.enter g args) w) (hcmp : CmpLays1 Try.prog g cb enc cf blk off d0.size w0) (R : Row1 enc w0 blk off d0) (hs : d0.size = d.size) (S : SW enc w0 blk off d w) (hap : a <= pivot) (hpb : pivot < b) (hb : b <= d.size) (hsz : d.size < 4611686018427387904) :
    Calls Try.prog 62 #[.slice (some ⟨blk, off, none⟩) d.size cap, .int .i64 a, .int .i64 b, .int .i64 pivot, .func (.func g) #[] cb] w fun e w' =>
      e = .returned (.tuple #[.int .i64 (Sort.partition (ltOf cf) d a b pivot).1, .bool (Sort.partition (ltOf cf) d a b pivot).2.1]) /\ SW enc w0 blk off (Sort.partition (ltOf cf) d a b pivot).2.2 w' := Any.partitionCmpFunc Try.laysSlF27_f62 enc cf g cb blk off cap a b pivot d0 d w0 w eg hcmp R hs S hap hpb hb hsz
def Try.laysSlF14_f42_ren : Go.Shelf.Ren := ⟨fun | 14 => 42 | 20 => 55 | 21 => 56 | 22 => 57 | 23 => 58 | 24 => 59 | 25 => 60 | 26 => 61 | 27 => 62 | 46 => 69 | 47 => 64 | 48 => 65 | 49 => 70 | 50 => 71 | 15 => 40 | 57 => 73 | 28 => 53 | 29 => 54 | n => n, fun | 24 => 9 | 22 => 23 | 3 => 3 | 25 => 30 | 4 => 4 | 0 => 0 | 46 => 68 | 45 => 67 | 50 => 52 | 66 => 78 | 39 => 43 | 55 => 59 | 70 => 82 | 76 => 86 | 77 => 87 | 53 => 57 | 5 => 5 | 9 => 9 | n => n, fun | n => n⟩
theorem Try.laysSlF14_f42 : Go.Proofs.SlLaysF.n14 Try.prog Try.laysSlF14_f42_ren := {
  mixed := by kernel_rfl
  f14 := ⟨Try.f42.name, by decide, Try.func42.trans (congrArg some (by kernel_rfl))⟩
  f15 := Try.func40.trans (congrArg some (by kernel_rfl))
  f20 := ⟨Try.f55.name, by decide, Try.func55.trans (congrArg some (by kernel_rfl))⟩
  f21 := ⟨Try.f56.name, by decide, Try.func56.trans (congrArg some (by kernel_rfl))⟩
  f22 := ⟨Try.f57.name, by decide, Try.func57.trans (congrArg some (by kernel_rfl))⟩
  f23 := ⟨Try.f58.name, by decide, Try.func58.trans (congrArg some (by kernel_rfl))⟩
  f24 := ⟨Try.f59.name, by decide, Try.func59.trans (congrArg some (by kernel_rfl))⟩
  f25 := ⟨Try.f60.name, by decide, Try.func60.trans (congrArg some (by kernel_rfl))⟩
  f26 := ⟨Try.f61.name, by decide, Try.func61.trans (congrArg some (by kernel_rfl))⟩
  f27 := ⟨Try.f62.name, by decide, Try.func62.trans (congrArg some (by kernel_rfl))⟩
  f28 := Try.func53.trans (congrArg some (by kernel_rfl))
  f29 := Try.func54.trans (congrArg some (by kernel_rfl))
  f46 := ⟨Try.f69.name, by decide, Try.func69.trans (congrArg some (by kernel_rfl))⟩
  f47 := Try.func64.trans (congrArg some (by kernel_rfl))
  f48 := Try.func65.trans (congrArg some (by kernel_rfl))
  f49 := ⟨Try.f70.name, by decide, Try.func70.trans (congrArg some (by kernel_rfl))⟩
  f50 := ⟨Try.f71.name, by decide, Try.func71.trans (congrArg some (by kernel_rfl))⟩
  f57 := ⟨Try.f73.name, by decide, Try.func73.trans (congrArg some (by kernel_rfl))⟩
  t0 := Try.underlying0
  a0 := Try.isAgg0
  z0 := Try.sizeOf0
  v0 := Try.zeroValue0
  t3 := Try.underlying3
  a3 := Try.isAgg3
  z3 := Try.sizeOf3
  v3 := Try.zeroValue3
  t4 := Try.underlying4
  a4 := Try.isAgg4
  z4 := Try.sizeOf4
  v4 := Try.zeroValue4
  t5 := Try.underlying5
  a5 := Try.isAgg5
  z5 := Try.sizeOf5
  v5 := Try.zeroValue5
  t9 := Try.underlying9
  a9 := Try.isAgg9
  z9 := Try.sizeOf9
  v9 := Try.zeroValue9
  t22 := Try.underlying23
  a22 := Try.isAgg23
  z22 := Try.sizeOf23
  v22 := Try.zeroValue23
  a24 := Try.isAgg9
  z24 := Try.sizeOf9
  t25 := Try.underlying30
  a25 := Try.isAgg30
  z25 := Try.sizeOf30
  v25 := Try.zeroValue30
  t39 := Try.underlying43
  a39 := Try.isAgg43
  z39 := Try.sizeOf43
  v39 := Try.zeroValue43
  t45 := Try.underlying67
  a45 := Try.isAgg67
  z45 := Try.sizeOf67
  v45 := Try.zeroValue67
  t46 := Try.underlying68
  a46 := Try.isAgg68
  z46 := Try.sizeOf68
  v46 := Try.zeroValue68
  t50 := Try.underlying52
  a50 := Try.isAgg52
  z50 := Try.sizeOf52
  v50 := Try.zeroValue52
  t53 := Try.underlying57
  a53 := Try.isAgg57
  z53 := Try.sizeOf57
  v53 := Try.zeroValue57
  t55 := Try.underlying59
  a55 := Try.isAgg59
  z55 := Try.sizeOf59
  v55 := Try.zeroValue59
  t66 := Try.underlying78
  a66 := Try.isAgg78
  z66 := Try.sizeOf78
  v66 := Try.zeroValue78
  t70 := Try.underlying82
  a70 := Try.isAgg82
  z70 := Try.sizeOf82
  v70 := Try.zeroValue82
  t76 := Try.underlying86
  a76 := Try.isAgg86
  z76 := Try.sizeOf86
  v76 := Try.zeroValue86
  t77 := Try.underlying87
  a77 := Try.isAgg87
  z77 := Try.sizeOf87
  v77 := Try.zeroValue87 }
open Go.RowKit Go.Lib Go.Sort in
theorem Try.pdqsortCmpFunc_all {α : Type} [Inhabited α] (enc : α -> Value) (cf : α -> α -> Int) (g : Nat) (cb : Array Value) (hO : SWO (ltOf cf)) (blk off cap : Nat) (d0 : Array α) (w0 : World) (eg : ∀ args w, (callFunc g args).run Try.prog w = .ok (.enter g args) w) (hcmp : CmpLays1 Try.prog g cb enc cf blk off d0.size w0) (R : Row1 enc w0 blk off d0) :
    ∀ (N a b limit : Nat) (d : Array α) (w : World), b - a < N -> d0.size = d.size -> SW enc w0 blk off d w -> a <= b -> b <= d.size -> d.size < 4611686018427387904 -> limit < 4611686018427387904 -> Below (ltOf cf) a b d ->
    Calls Try.prog 42 #[.slice (some ⟨blk, off, none⟩) d.size cap, .int .i64 a, .int .i64 b, .int .i64 limit, .func (.func g) #[] cb] w fun e w' => e = .returned (.tuple #[]) /\ SW enc w0 blk off (pdq (ltOf cf) d a b limit true true) w' := Any.pdqsortCmpFunc_all Try.laysSlF14_f42 enc cf g cb hO blk off cap d0 w0 eg hcmp R
def Try.laysSlF6_f34_ren : Go.Shelf.Ren := ⟨fun | 6 => 34 | 15 => 40 | 14 => 42 | 28 => 53 | 29 => 54 | 20 => 55 | 21 => 56 | 22 => 57 | 23 => 58 | 24 => 59 | 25 => 60 | 26 => 61 | 27 => 62 | 46 => 69 | 47 => 64 | 48 => 65 | 49 => 70 | 50 => 71 | 57 => 73 | n => n, fun | 22 => 23 | 24 => 9 | 25 => 30 | 3 => 3 | 39 => 43 | 0 => 0 | 53 => 57 | 55 => 59 | 4 => 4 | 46 => 68 | 45 => 67 | 50 => 52 | 5 => 5 | 9 => 9 | 66 => 78 | 70 => 82 | 76 => 86 | 77 => 87 | n => n, fun | n => n⟩
theorem Try.laysSlF6_f34 : Go.Proofs.SlLaysF.n6 Try.prog Try.laysSlF6_f34_ren := {
  mixed := by kernel_rfl
  f6 := ⟨Try.f34.name, by decide, Try.func34.trans (congrArg some (by kernel_rfl))⟩
  f14 := ⟨Try.f42.name, by decide, Try.func42.trans (congrArg some (by kernel_rfl))⟩
  f15 := Try.func40.trans (congrArg some (by kernel_rfl))
  f20 := ⟨Try.f55.name, by decide, Try.func55.trans (congrArg some (by kernel_rfl))⟩
  f21 := ⟨Try.f56.name, by decide, Try.func56.trans (congrArg some (by kernel_rfl))⟩
  f22 := ⟨Try.f57.name, by decide, Try.func57.trans (congrArg some (by kernel_rfl))⟩
  f23 := ⟨Try.f58.name, by decide, Try.func58.trans (congrArg some (by kernel_rfl))⟩
  f24 := ⟨Try.f59.name, by decide, Try.func59.trans (congrArg some (by kernel_rfl))⟩
  f25 := ⟨Try.f60.name, by decide, Try.func60.trans (congrArg some (by kernel_rfl))⟩
  f26 := ⟨Try.f61.name, by decide, Try.func61.trans (congrArg some (by kernel_rfl))⟩
  f27 := ⟨Try.f62.name, by decide, Try.func62.trans (congrArg some (by kernel_rfl))⟩
  f28 := Try.func53.trans (congrArg some (by kernel_rfl))
  f29 := Try.func54.trans (congrArg some (by kernel_rfl))
  f46 := ⟨Try.f69.name, by decide, Try.func69.trans (congrArg some (by kernel_rfl))⟩
  f47 := Try.func64.trans (congrArg some (by kernel_rfl))
  f48 := Try.func65.trans (congrArg some (by kernel_rfl))
  f49 := ⟨Try.f70.name, by decide, Try.func70.trans (congrArg some (by kernel_rfl))⟩
  f50 := ⟨Try.f71.name, by decide, Try.func71.trans (congrArg some (by kernel_rfl))⟩
  f57 := ⟨Try.f73.name, by decide, Try.func73.trans (congrArg some (by kernel_rfl))⟩
  t0 := Try.underlying0
  a0 := Try.isAgg0
  z0 := Try.sizeOf0
  v0 := Try.zeroValue0
  t3 := Try.underlying3
  a3 := Try.isAgg3
  z3 := Try.sizeOf3
  v3 := Try.zeroValue3
  t4 := Try.underlying4
  a4 := Try.isAgg4
  z4 := Try.sizeOf4
  v4 := Try.zeroValue4
  t5 := Try.underlying5
  a5 := Try.isAgg5
  z5 := Try.sizeOf5
  v5 := Try.zeroValue5
  t9 := Try.underlying9
  a9 := Try.isAgg9
  z9 := Try.sizeOf9
  v9 := Try.zeroValue9
  t22 := Try.underlying23
  a22 := Try.isAgg23
  z22 := Try.sizeOf23
  v22 := Try.zeroValue23
  a24 := Try.isAgg9
  z24 := Try.sizeOf9
  t25 := Try.underlying30
  a25 := Try.isAgg30
  z25 := Try.sizeOf30
  v25 := Try.zeroValue30
  t39 := Try.underlying43
  a39 := Try.isAgg43
  z39 := Try.sizeOf43
  v39 := Try.zeroValue43
  t45 := Try.underlying67
  a45 := Try.isAgg67
  z45 := Try.sizeOf67
  v45 := Try.zeroValue67
  t46 := Try.underlying68
  a46 := Try.isAgg68
  z46 := Try.sizeOf68
  v46 := Try.zeroValue68
  t50 := Try.underlying52
  a50 := Try.isAgg52
  z50 := Try.sizeOf52
  v50 := Try.zeroValue52
  t53 := Try.underlying57
  a53 := Try.isAgg57
  z53 := Try.sizeOf57
  v53 := Try.zeroValue57
  t55 := Try.underlying59
  a55 := Try.isAgg59
  z55 := Try.sizeOf59
  v55 := Try.zeroValue59
  t66 := Try.underlying78
  a66 := Try.isAgg78
  z66 := Try.sizeOf78
  v66 := Try.zeroValue78
  t70 := Try.underlying82
  a70 := Try.isAgg82
  z70 := Try.sizeOf82
  v70 := Try.zeroValue82
  t76 := Try.underlying86
  a76 := Try.isAgg86
  z76 := Try.sizeOf86
  v76 := Try.zeroValue86
  t77 := Try.underlying87
  a77 := Try.isAgg87
  z77 := Try.sizeOf87
  v77 := Try.zeroValue87 }
open Go.RowKit Go.Lib Go.Sort in
theorem Try.slices_SortFunc_eq {α : Type} [Inhabited α] (enc : α -> Value) (h1 : OneCell enc) (cf : α -> α -> Int) (hO : SWO (ltOf cf)) (g : Nat) (cb : Array Value) (blk off cap : Nat) (d : Array α) (w : World) (eg : ∀ args w, (callFunc g args).run Try.prog w = .ok (.enter g args) w) (hcmp : CmpLays1 Try.prog g cb enc cf blk off d.size w) (hH : Holds enc w blk off d) (hblk : blk < w.heap.size) (hsz : d.size < 4611686018427387904) :
    Calls Try.prog 34 #[.slice (some ⟨blk, off, none⟩) d.size cap, .func (.func g) #[] cb] w fun e w' =>
      e = .returned (.tuple #[]) /\ ∃ n os, w' = sortWorld enc w blk off n (pdq (ltOf cf) d 0 d.size (Lib.bitLen d.size) true true) os := Any.slices_SortFunc_eq Try.laysSlF6_f34 enc h1 cf hO g cb blk off cap d w eg hcmp hH hblk hsz
open Go.RowKit Go.Lib Go.Sort in
theorem Try.slices_SortFunc {α : Type} [Inhabited α] (enc : α -> Value) (h1 : OneCell enc) (cf : α -> α -> Int) (hO : SWO (ltOf cf)) (g : Nat) (cb : Array Value) (blk off cap : Nat) (d : Array α) (w : World) (eg : ∀ args w, (callFunc g args).run Try.prog w = .ok (.enter g args) w) (hcmp : CmpLays1 Try.prog g cb enc cf blk off d.size w) (hH : Holds enc w blk off d) (hblk : blk < w.heap.size) (hsz : d.size < 4611686018427387904) :
    Calls Try.prog 34 #[.slice (some ⟨blk, off, none⟩) d.size cap, .func (.func g) #[] cb] w fun e w' =>
      e = .returned (.tuple #[]) /\ ∃ d' n os, PermIn 0 d.size d d' /\ SortedIn (ltOf cf) 0 d.size d' /\ w' = sortWorld enc w blk off n d' os := Any.slices_SortFunc Try.laysSlF6_f34 enc h1 cf hO g cb blk off cap d w eg hcmp hH hblk hsz
def Try.laysSlF020_f55_ren : Go.Shelf.Ren := ⟨fun | 20 => 55 | n => n, fun | 24 => 9 | 22 => 23 | 3 => 3 | 25 => 30 | 4 => 4 | 0 => 0 | n => n, fun | n => n⟩
theorem Try.laysSlF020_f55 : Go.Proofs.SlLaysF0.n20 Try.prog Try.laysSlF020_f55_ren := {
  mixed := by kernel_rfl
  f20 := ⟨Try.f55.name, by decide, Try.func55.trans (congrArg some (by kernel_rfl))⟩
  t0 := Try.underlying0
  a0 := Try.isAgg0
  z0 := Try.sizeOf0
  v0 := Try.zeroValue0
  t3 := Try.underlying3
  a3 := Try.isAgg3
  z3 := Try.sizeOf3
  v3 := Try.zeroValue3
  t4 := Try.underlying4
  a4 := Try.isAgg4
  z4 := Try.sizeOf4
  v4 := Try.zeroValue4
  t22 := Try.underlying23
  a22 := Try.isAgg23
  z22 := Try.sizeOf23
  v22 := Try.zeroValue23
  t25 := Try.underlying30
  a25 := Try.isAgg30
  z25 := Try.sizeOf30
  v25 := Try.zeroValue30 }
open Go.RowKit Go.Lib Go.Sort in
theorem Try.insertionSortCmpFunc_none {α : Type} [Inhabited α] (p : Option Addr) (cap : Nat) (fv : Value) (w : World) :
    Calls Try.prog 55 #[.slice p 0 cap, .int .i64 0, .int .i64 0, fv] w fun e w' => e = .returned (.tuple #[]) /\ w' = w := AnyF.insertionSortCmpFunc_none Try.laysSlF020_f55 p cap fv w
def Try.laysSlF014_f42_ren : Go.Shelf.Ren := ⟨fun | 14 => 42 | 20 => 55 | 21 => 56 | 22 => 57 | 23 => 58 | 24 => 59 | 25 => 60 | 26 => 61 | 27 => 62 | 46 => 69 | 47 => 64 | 48 => 65 | 49 => 70 | 50 => 71 | 15 => 40 | 57 => 73 | 28 => 53 | 29 => 54 | n => n, fun | 24 => 9 | 22 => 23 | 3 => 3 | 25 => 30 | 4 => 4 | 0 => 0 | 46 => 68 | 45 => 67 | 50 => 52 | 66 => 78 | 39 => 43 | 55 => 59 | 70 => 82 | 76 => 86 | 77 => 87 | 53 => 57 | 5 => 5 | 9 => 9 | n => n, fun | n => n⟩
theorem Try.laysSlF014_f42 : Go.Proofs.SlLaysF0.n14 Try.prog Try.laysSlF014_f42_ren := {
  mixed := by kernel_rfl
  f14 := ⟨Try.f42.name, by decide, Try.func42.trans (congrArg some (by kernel_rfl))⟩
  f15 := Try.func40.trans (congrArg some (by kernel_rfl))
  f20 := ⟨Try.f55.name, by decide, Try.func55.trans (congrArg some (by kernel_rfl))⟩
  f21 := ⟨Try.f56.name, by decide, Try.func56.trans (congrArg some (by kernel_rfl))⟩
  f22 := ⟨Try.f57.name, by decide, Try.func57.trans (congrArg some (by kernel_rfl))⟩
  f23 := ⟨Try.f58.name, by decide, Try.func58.trans (congrArg some (by kernel_rfl))⟩
  f24 := ⟨Try.f59.name, by decide, Try.func59.trans (congrArg some (by kernel_rfl))⟩
  f25 := ⟨Try.f60.name, by decide, Try.func60.trans (congrArg some (by kernel_rfl))⟩
  f26 := ⟨Try.f61.name, by decide, Try.func61.trans (congrArg some (by kernel_rfl))⟩
  f27 := ⟨Try.f62.name, by decide, Try.func62.trans (congrArg some (by kernel_rfl))⟩
  f28 := Try.func53.trans (congrArg some (by kernel_rfl))
  f29 := Try.func54.trans (congrArg some (by kernel_rfl))
  f46 := ⟨Try.f69.name, by decide, Try.func69.trans (congrArg some (by kernel_rfl))⟩
  f47 := Try.func64.trans (congrArg some (by kernel_rfl))
  f48 := Try.func65.trans (congrArg some (by kernel_rfl))
  f49 := ⟨Try.f70.name, by decide, Try.func70.trans (congrArg some (by kernel_rfl))⟩
  f50 := ⟨Try.f71.name, by decide, Try.func71.trans (congrArg some (by kernel_rfl))⟩
  f57 := ⟨Try.f73.name, by decide, Try.func73.trans (congrArg some (by kernel_rfl))⟩
  t0 := Try.underlying0
  a0 := Try.isAgg0
  z0 := Try.sizeOf0
  v0 := Try.zeroValue0
  t3 := Try.underlying3
  a3 := Try.isAgg3
  z3 := Try.sizeOf3
  v3 := Try.zeroValue3
  t4 := Try.underlying4
  a4 := Try.isAgg4
  z4 := Try.sizeOf4
  v4 := Try.zeroValue4
  t5 := Try.underlying5
  a5 := Try.isAgg5
  z5 := Try.sizeOf5
  v5 := Try.zeroValue5
  t9 := Try.underlying9
  a9 := Try.isAgg9
  z9 := Try.sizeOf9
  v9 := Try.zeroValue9
  t22 := Try.underlying23
  a22 := Try.isAgg23
  z22 := Try.sizeOf23
  v22 := Try.zeroValue23
  t25 := Try.underlying30
  a25 := Try.isAgg30
  z25 := Try.sizeOf30
  v25 := Try.zeroValue30
  t39 := Try.underlying43
  a39 := Try.isAgg43
  z39 := Try.sizeOf43
  v39 := Try.zeroValue43
  t45 := Try.underlying67
  a45 := Try.isAgg67
  z45 := Try.sizeOf67
  v45 := Try.zeroValue67
  t46 := Try.underlying68
  a46 := Try.isAgg68
  z46 := Try.sizeOf68
  v46 := Try.zeroValue68
  t50 := Try.underlying52
  a50 := Try.isAgg52
  z50 := Try.sizeOf52
  v50 := Try.zeroValue52
  t53 := Try.underlying57
  a53 := Try.isAgg57
  z53 := Try.sizeOf57
  v53 := Try.zeroValue57
  t55 := Try.underlying59
  a55 := Try.isAgg59
  z55 := Try.sizeOf59
  v55 := Try.zeroValue59
  t66 := Try.underlying78
  a66 := Try.isAgg78
  z66 := Try.sizeOf78
  v66 := Try.zeroValue78
  t70 := Try.underlying82
  a70 := Try.isAgg82
  z70 := Try.sizeOf82
  v70 := Try.zeroValue82
  t76 := Try.underlying86
  a76 := Try.isAgg86
  z76 := Try.sizeOf86
  v76 := Try.zeroValue86
  t77 := Try.underlying87
  a77 := Try.isAgg87
  z77 := Try.sizeOf87
  v77 := Try.zeroValue87 }
open Go.RowKit Go.Lib Go.Sort in
theorem Try.pdqsortCmpFunc_none {α : Type} [Inhabited α] (p : Option Addr) (cap : Nat) (lim : Int) (fv : Value) (w : World) :
    Calls Try.prog 42 #[.slice p 0 cap, .int .i64 0, .int .i64 0, .int .i64 lim, fv] w fun e w' => e = .returned (.tuple #[]) /\ w' = w := AnyF.pdqsortCmpFunc_none Try.laysSlF014_f42 p cap lim fv w
def Try.laysSlF06_f34_ren : Go.Shelf.Ren := ⟨fun | 6 => 34 | 15 => 40 | 14 => 42 | 28 => 53 | 29 => 54 | 20 => 55 | 21 => 56 | 22 => 57 | 23 => 58 | 24 => 59 | 25 => 60 | 26 => 61 | 27 => 62 | 46 => 69 | 47 => 64 | 48 => 65 | 49 => 70 | 50 => 71 | 57 => 73 | n => n, fun | 22 => 23 | 24 => 9 | 25 => 30 | 3 => 3 | 39 => 43 | 0 => 0 | 53 => 57 | 55 => 59 | 4 => 4 | 46 => 68 | 45 => 67 | 50 => 52 | 5 => 5 | 9 => 9 | 66 => 78 | 70 => 82 | 76 => 86 | 77 => 87 | n => n, fun | n => n⟩
theorem Try.laysSlF06_f34 : Go.Proofs.SlLaysF0.n6 Try.prog Try.laysSlF06_f34_ren := {
  mixed := by kernel_rfl
  f6 := ⟨Try.f34.name, by decide, Try.func34.trans (congrArg some (by kernel_rfl))⟩
  f14 := ⟨Try.f42.name, by decide, Try.func42.trans (congrArg some (by kernel_rfl))⟩
  f15 := Try.func40.trans (congrArg some (by kernel_rfl))
  f20 := ⟨Try.f55.name, by decide, Try.func55.trans (congrArg some (by kernel_rfl))⟩
  f21 := ⟨Try.f56.name, by decide, Try.func56.trans (congrArg some (by kernel_rfl))⟩
  f22 := ⟨Try.f57.name, by decide, Try.func57.trans (congrArg some (by kernel_rfl))⟩
  f23 := ⟨Try.f58.name, by decide, Try.func58.trans (congrArg some (by kernel_rfl))⟩
  f24 := ⟨Try.f59.name, by decide, Try.func59.trans (congrArg some (by kernel_rfl))⟩
  f25 := ⟨Try.f60.name, by decide, Try.func60.trans (congrArg some (by kernel_rfl))⟩
  f26 := ⟨Try.f61.name, by decide, Try.func61.trans (congrArg some (by kernel_rfl))⟩
  f27 := ⟨Try.f62.name, by decide, Try.func62.trans (congrArg some (by kernel_rfl))⟩
  f28 := Try.func53.trans (congrArg some (by kernel_rfl))
  f29 := Try.func54.trans (congrArg some (by kernel_rfl))
  f46 := ⟨Try.f69.name, by decide, Try.func69.trans (congrArg some (by kernel_rfl))⟩
  f47 := Try.func64.trans (congrArg some (by kernel_rfl))
  f48 := Try.func65.trans (congrArg some (by kernel_rfl))
  f49 := ⟨Try.f70.name, by decide, Try.func70.trans (congrArg some (by kernel_rfl))⟩
  f50 := ⟨Try.f71.name, by decide, Try.func71.trans (congrArg some (by kernel_rfl))⟩
  f57 := ⟨Try.f73.name, by decide, Try.func73.trans (congrArg some (by kernel_rfl))⟩
  t0 := Try.underlying0
  a0 := Try.isAgg0
  z0 := Try.sizeOf0
  v0 := Try.zeroValue0
  t3 := Try.underlying3
  a3 := Try.isAgg3
  z3 := Try.sizeOf3
  v3 := Try.zeroValue3
  t4 := Try.underlying4
  a4 := Try.isAgg4
  z4 := Try.sizeOf4
  v4 := Try.zeroValue4
  t5 := Try.underlying5
  a5 := Try.isAgg5
  z5 := Try.sizeOf5
  v5 := Try.zeroValue5
  t9 := Try.underlying9
  a9 := Try.isAgg9
  z9 := Try.sizeOf9
  v9 := Try.zeroValue9
  t22 := Try.underlying23
  a22 := Try.isAgg23
  z22 := Try.sizeOf23
  v22 := Try.zeroValue23
  t25 := Try.underlying30
  a25 := Try.isAgg30
  z25 := Try.sizeOf30
  v25 := Try.zeroValue30
  t39 := Try.underlying43
  a39 := Try.isAgg43
  z39 := Try.sizeOf43
  v39 := Try.zeroValue43
  t45 := Try.underlying67
  a45 := Try.isAgg67
  z45 := Try.sizeOf67
  v45 := Try.zeroValue67
  t46 := Try.underlying68
  a46 := Try.isAgg68
  z46 := Try.sizeOf68
  v46 := Try.zeroValue68
  t50 := Try.underlying52
  a50 := Try.isAgg52
  z50 := Try.sizeOf52
  v50 := Try.zeroValue52
  t53 := Try.underlying57
  a53 := Try.isAgg57
  z53 := Try.sizeOf57
  v53 := Try.zeroValue57
  t55 := Try.underlying59
  a55 := Try.isAgg59
  z55 := Try.sizeOf59
  v55 := Try.zeroValue59
  t66 := Try.underlying78
  a66 := Try.isAgg78
  z66 := Try.sizeOf78
  v66 := Try.zeroValue78
  t70 := Try.underlying82
  a70 := Try.isAgg82
  z70 := Try.sizeOf82
  v70 := Try.zeroValue82
  t76 := Try.underlying86
  a76 := Try.isAgg86
  z76 := Try.sizeOf86
  v76 := Try.zeroValue86
  t77 := Try.underlying87
  a77 := Try.isAgg87
  z77 := Try.sizeOf87
  v77 := Try.zeroValue87 }
open Go.RowKit Go.Lib Go.Sort in
theorem Try.slices_SortFunc_none {α : Type} [Inhabited α] (p : Option Addr) (cap : Nat) (fv : Value) (w : World) :
    Calls Try.prog 34 #[.slice p 0 cap, fv] w fun e w' => e = .returned (.tuple #[]) /\ w' = w := AnyF.slices_SortFunc_none Try.laysSlF06_f34 p cap fv w
open Go.RowKit Go.Lib Go.Sort in
theorem Try.slices_SortFunc_total {α : Type} [Inhabited α] (enc : α -> Value) (h1 : OneCell enc) (cf : α -> α -> Int) (hO : SWO (ltOf cf)) (g : Nat) (cb : Array Value) (blk off cap : Nat) (d : Array α) (w : World) (eg : ∀ args w, (callFunc g args).run Try.prog w = .ok (.enter g args) w) (hcmp : CmpLays1 Try.prog g cb enc cf blk off d.size w) (hH : Holds enc w blk off d) (hblk : blk < w.heap.size) (hsz : d.size < 4611686018427387904) (hT : ∀ x y, (ltOf cf) x y = false -> (ltOf cf) y x = false -> x = y) :
    Calls Try.prog 34 #[.slice (some ⟨blk, off, none⟩) d.size cap, .func (.func g) #[] cb] w fun e w' =>
      e = .returned (.tuple #[]) /\ ∃ n os, w' = sortWorld enc w blk off n (d.toList.mergeSort fun x y => !(ltOf cf) y x).toArray os := Any.slices_SortFunc_total Try.laysSlF6_f34 enc h1 cf hO g cb blk off cap d w eg hcmp hH hblk hsz hT
def Try.keys24_ren : Go.Shelf.Ren := ⟨fun | 7 => 24 | 10 => 35 | n => n, fun | 23 => 42 | 26 => 9 | 3 => 4 | 28 => 37 | 0 => 0 | 27 => 36 | 33 => 54 | 4 => 4 | n => n, fun | n => n⟩
theorem Try.keys24 : Go.Proofs.SlLaysZ.n7 Try.prog Try.keys24_ren := {
  mixed := by kernel_rfl
  f7 := ⟨Try.f24.name, by decide, Try.func24.trans (congrArg some (by kernel_rfl))⟩
  f10 := ⟨Try.f35.name, by decide, Try.func35.trans (congrArg some (by kernel_rfl))⟩
  t0 := Try.underlying0
  a0 := Try.isAgg0
  z0 := Try.sizeOf0
  v0 := Try.zeroValue0
  t4 := Try.underlying4
  a4 := Try.isAgg4
  z4 := Try.sizeOf4
  v4 := Try.zeroValue4
  t23 := Try.underlying42
  a23 := Try.isAgg42
  z23 := Try.sizeOf42
  v23 := Try.zeroValue42
  t26 := Try.underlying9
  a26 := Try.isAgg9
  z26 := Try.sizeOf9
  v26 := Try.zeroValue9
  t27 := Try.underlying36
  a27 := Try.isAgg36
  z27 := Try.sizeOf36
  v27 := Try.zeroValue36
  t28 := Try.underlying37
  a28 := Try.isAgg37
  z28 := Try.sizeOf37
  v28 := Try.zeroValue37
  t33 := Try.underlying54
  a33 := Try.isAgg54
  z33 := Try.sizeOf54
  v33 := Try.zeroValue54 }
def Try.sorted17_ren : Go.Shelf.Ren := ⟨fun | 6 => 17 | 8 => 27 | 9 => 28 | 11 => 38 | 13 => 40 | 12 => 39 | 23 => 53 | 24 => 54 | 14 => 44 | 15 => 45 | 16 => 46 | 17 => 47 | 18 => 48 | 19 => 49 | 20 => 50 | 21 => 51 | 22 => 52 | 25 => 63 | 26 => 64 | 27 => 65 | 28 => 66 | 29 => 67 | 30 => 68 | 31 => 72 | n => n, fun | 26 => 9 | 28 => 37 | 24 => 23 | 0 => 0 | 3 => 3 | 37 => 43 | 48 => 57 | 50 => 59 | 4 => 4 | 40 => 68 | 39 => 67 | 45 => 52 | 5 => 5 | 9 => 9 | 51 => 78 | 55 => 82 | 57 => 86 | 58 => 87 | 33 => 54 | n => n, fun | n => n⟩
theorem Try.sorted17 : Go.Proofs.SlLaysZ.n6 Try.prog Try.sorted17_ren := {
  mixed := by kernel_rfl
  f6 := ⟨Try.f17.name, by decide, Try.func17.trans (congrArg some (by kernel_rfl))⟩
  f8 := ⟨Try.f27.name, by decide, Try.func27.trans (congrArg some (by kernel_rfl))⟩
  f11 := ⟨Try.f38.name, by decide, Try.func38.trans (congrArg some (by kernel_rfl))⟩
  t0 := Try.underlying0
  a0 := Try.isAgg0
  z0 := Try.sizeOf0
  v0 := Try.zeroValue0
  t24 := Try.underlying23
  a24 := Try.isAgg23
  z24 := Try.sizeOf23
  v24 := Try.zeroValue23
  t26 := Try.underlying9
  a26 := Try.isAgg9
  z26 := Try.sizeOf9
  v26 := Try.zeroValue9
  t28 := Try.underlying37
  a28 := Try.isAgg37
  z28 := Try.sizeOf37
  v28 := Try.zeroValue37
  i26 := by kernel_rfl }
end Go.Proofs
end
namespace Go.Proofs.Ytcjljokldnpgfaa
section
open Go Go.RowKit Go.Sort Go.Maps
set_option maxRecDepth 100000
set_option maxHeartbeats 4000000
theorem z0E (a b : ByteArray) : z1w b a = - z1w a b := zc7 _ _
theorem z0R (a b : ByteArray) : z1w a b = 0 ↔ a = b := by
  unfold z1w
  rw [zc6]
  constructor
  · intro h
    obtain ⟨⟨a⟩⟩ := a
    obtain ⟨⟨b⟩⟩ := b
    simp at h
    subst h
    rfl
  · rintro rfl; rfl
theorem z7j (a b c : ByteArray) : leW a b = true -> leW b c = true -> leW a c = true := by
  simp only [leW, decide_eq_true_eq]
  exact z2R _ _ _
theorem z7k (a b : ByteArray) : (leW a b || leW b a) = true := by
  simp only [leW, Bool.or_eq_true, decide_eq_true_eq]
  have := z0E a b
  omega
theorem z4a {a b : ByteArray} (h1 : leW a b = true) (h2 : leW b a = true) : a = b := by
  simp only [leW, decide_eq_true_eq] at h1 h2
  have := z0E a b
  exact (z0R a b).1 (by omega)
theorem z2a (l : List ByteArray) : (z3f l).Pairwise (fun a b => leW a b = true) := List.pairwise_mergeSort z7j z7k l
theorem z1m (l : List ByteArray) : (z3f l).Perm l := List.mergeSort_perm l leW
theorem za3 {l l' : List ByteArray} (h : l.Perm l') : z3f l = z3f l' :=
  List.Perm.eq_of_pairwise (le := fun a b => leW a b = true) (fun a b _ _ => z4a) (z2a l) (z2a l') (((z1m l).trans h).trans (z1m l').symm)
theorem z7V {a b : Int} (h : a = b) : Ending.returned (.int .i64 a) = .returned (.int .i64 b) := by rw [h]
theorem z8A {u v : ByteArray} (h : u.size < v.size) : z1w u v = -1 := by
  have : u.data.toList.length < v.data.toList.length := h
  simp only [z1w, zaH, if_pos this]
theorem z8B {u v : ByteArray} (h : v.size < u.size) : z1w u v = 1 := by
  have h1 : v.data.toList.length < u.data.toList.length := h
  have h2 : ¬ u.data.toList.length < v.data.toList.length := by omega
  simp only [z1w, zaH, if_neg h2, if_pos h1]
theorem z5c {u v : ByteArray} (h : u.size = v.size) : z1w u v = Lib.compareBytes u.data.toList v.data.toList := by
  have h1 : u.data.toList.length = v.data.toList.length := h
  simp only [z1w, zaH, h1, Nat.lt_irrefl, if_false]
theorem z8x (u v : ByteArray) (w : World) (hu : u.size <= maxLen) (hv : v.size <= maxLen) :
    Calls Try.prog 15 #[.string u, .string v] w fun e w' => e = .returned (.int .i64 (z1w u v)) /\ w = w' := by
  unfold maxLen at hu hv
  rcases Nat.lt_trichotomy u.size v.size with h | h | h
  · have H := Lib.hid (z8A h)
    have hc := Lib.hid (show Lib.compareInt (u.size : Int) (v.size : Int) = -1 by unfold Lib.compareInt; rw [if_pos (by omega)])
    have hb : ((u.size : Int) == (v.size : Int)) = false := by simp; omega
    have hb2 : ((u.size : Int) != (v.size : Int)) = true := by simp; omega
    go_enter Try.func15, Try.ntmps15
    go_wp2_with (go_at_call 25; refine (Try.cmp_Compare_int _ _ _).mono ?_; rintro e w' ⟨rfl, rfl⟩)
    go_ret
    exact ⟨z7V (by rw [H.out, hc.out]), rfl⟩
  · have H := Lib.hid (z5c h)
    have hb : ((u.size : Int) == (v.size : Int)) = true := by simp; omega
    have hb2 : ((u.size : Int) != (v.size : Int)) = false := by simp; omega
    have h' := Lib.hid h
    clear h
    go_enter Try.func15, Try.ntmps15
    go_wp2_with (go_at_call 26; refine (Try.strings_Compare _ _ _).mono ?_; rintro e w' ⟨rfl, rfl⟩)
    go_ret
    exact ⟨z7V (by rw [H.out]), rfl⟩
  · have H := Lib.hid (z8B h)
    have hc := Lib.hid (show Lib.compareInt (u.size : Int) (v.size : Int) = 1 by unfold Lib.compareInt; rw [if_neg (by omega), if_pos (by omega)])
    have hb : ((u.size : Int) == (v.size : Int)) = false := by simp; omega
    have hb2 : ((u.size : Int) != (v.size : Int)) = true := by simp; omega
    go_enter Try.func15, Try.ntmps15
    go_wp2_with (go_at_call 25; refine (Try.cmp_Compare_int _ _ _).mono ?_; rintro e w' ⟨rfl, rfl⟩)
    go_ret
    exact ⟨z7V (by rw [H.out, hc.out]), rfl⟩
abbrev Wd := { s : ByteArray // s.size <= maxLen }
instance : Inhabited Wd := ⟨⟨ByteArray.empty, Nat.zero_le _⟩⟩
def zda (s : Wd) : Value := .string s.1
def cfV (a b : Wd) : Int := z1w a.1 b.1
theorem ltV (x y : Wd) : ltOf cfV x y = true ↔ z1w x.1 y.1 < 0 := decide_eq_true_iff
theorem z3N (x y : Wd) : ltOf cfV x y = false ↔ ¬ z1w x.1 y.1 < 0 := decide_eq_false_iff_not
theorem zhb : SWO (ltOf cfV) where
  irrefl x := by
    rw [z3N]
    have := (z0R x.1 x.1).2 rfl
    omega
  trans x y z := by
    rw [ltV, ltV, ltV]
    intro h1 h2
    have h4 : z1w x.1 z.1 <= 0 := z2R _ _ _ (Int.le_of_lt h1) (Int.le_of_lt h2)
    rcases Int.lt_or_eq_of_le h4 with h | h
    · exact h
    · have e := (z0R _ _).1 h
      rw [e] at h1
      have := z0E y.1 z.1
      omega
  ntrans x y z := by
    rw [z3N, z3N, z3N]
    intro h1 h2 h3
    have a1 := z0E x.1 y.1
    have a2 := z0E y.1 z.1
    have a3 := z0E x.1 z.1
    have h4 : z1w z.1 x.1 <= 0 := z2R z.1.data.toList y.1.data.toList x.1.data.toList (show z1w z.1 y.1 <= 0 by omega) (show z1w y.1 x.1 <= 0 by omega)
    omega
theorem zha (x y : Wd) (h1 : ltOf cfV x y = false) (h2 : ltOf cfV y x = false) : x = y := by
  rw [z3N] at h1 h2
  have := z0E x.1 y.1
  exact Subtype.ext ((z0R _ _).1 (by omega))
theorem ze2 (blk cap : Nat) (d : Array Wd) (w : World) (hH : Holds zda w blk 0 d) (hblk : blk < w.heap.size) (hsz : d.size < 4611686018427387904) :
    Calls Try.prog 34 #[.slice (some ⟨blk, 0, none⟩) d.size cap, .func (.func 15) #[] #[]] w fun e w' => e = .returned (.tuple #[]) /\ ∃ n os, w' = sortWorld zda w blk 0 n (d.toList.mergeSort fun x y => !(ltOf cfV) y x).toArray os :=
  Try.slices_SortFunc_total zda (fun x => rfl) cfV zhb 15 #[] blk 0 cap d w (enters_of Try.func15 (by kernel_rfl) rfl)
    (fun m os dk _ x y => (z8x x.1 y.1 _ x.2 y.2).mono fun e w' ⟨he, hw⟩ => ⟨he, 0, #[], by rw [← hw, grow_empty]; rfl⟩) hH hblk hsz zha
theorem zcY : ∀ d : List Wd, (d.mergeSort fun x y => !(ltOf cfV) y x).map (·.1) = z3f (d.map (·.1)) := fun d => by
  have e : (fun x y : Wd => !(ltOf cfV) y x) = fun x y => leW x.1 y.1 := by
    funext x y
    have := z0E x.1 y.1
    rcases hb : ltOf cfV y x with _ | _
    · rw [z3N] at hb
      exact (decide_eq_true (show z1w x.1 y.1 <= 0 by omega)).symm
    · rw [ltV] at hb
      exact (decide_eq_false (show ¬ z1w x.1 y.1 <= 0 by omega)).symm
  rw [e]
  refine List.Perm.eq_of_pairwise (le := fun a b => leW a b = true) (fun a b _ _ => z4a) ?_ (z2a _) (((List.mergeSort_perm d _).map _).trans (z1m _).symm)
  rw [List.pairwise_map]
  exact List.pairwise_mergeSort (fun a b c => z7j a.1 b.1 c.1) (fun a b => z7k a.1 b.1) d
end
section
structure Run {ρ : Type} (x : Option ρ) (K : ρ -> Prop) : Prop where
  out : ∃ v, x = some v /\ K v
structure RK {σ ρ : Type} (o : σ ⊕ ρ) (K : ρ -> Prop) (o' : σ ⊕ ρ) : Prop where
  eq : o' = o
  k : ∀ r, o' = .inr r -> K r
class Head {σ ρ : Type} (b : σ -> Option (σ ⊕ ρ)) where
  H : σ -> Fr
class Ok {ρ : Type} (x : Option ρ) (S : outParam (ρ -> Prop)) : Prop where
  ok : ∀ r, x = some r -> S r
section
variable {G : Prop} {ρ : Type} {K : ρ -> Prop}
theorem zfp {b n : Nat} {x : Option ρ} (k : n * b <= 140737488355328 -> n <= 4611686018427387904 -> Run x K -> G) (h : Run (chk (z2x b n) x) K) : G := by
  obtain ⟨v, e, hk⟩ := h
  obtain ⟨⟨a, c⟩, e⟩ := z3E e
  exact k a c ⟨v, e, hk⟩
theorem zfo {n : Nat} {x : Option ρ} (k : n <= 140737488355328 -> n <= 4611686018427387904 -> Run x K -> G) (h : Run (chk (z2x 1 n) x) K) : G := zfp (fun a b => k (by omega) b) h
theorem zh5 {b l : Int} {x : Option ρ} (k : 0 <= l -> l <= 140737488355328 -> b * l <= 140737488355328 -> max l 0 = l -> Run x K -> G) (h : Run (chk (z9a b l) x) K) : G := by
  obtain ⟨v, e, hk⟩ := h
  obtain ⟨⟨a, c, d⟩, e⟩ := z3E e
  exact k a c d (by omega) ⟨v, e, hk⟩
theorem zgq {l : Int} {x : Option ρ} (k : 0 <= l -> l <= 140737488355328 -> max l 0 = l -> Run x K -> G) (h : Run (chk (z9a 1 l) x) K) : G := zh5 (fun a b _ d => k a b d) h
theorem zgo {i : Int} {n : Nat} {x : Option ρ} (k : 0 <= i -> i < (n : Int) -> i.toNat < n -> i.toNat + 1 <= n -> Run x K -> G) (h : Run (chk (0 <= i /\ i < (n : Int)) x) K) : G := by
  obtain ⟨v, e, hk⟩ := h
  obtain ⟨⟨a, c⟩, e⟩ := z3E e
  exact k a c (by omega) (by omega) ⟨v, e, hk⟩
theorem zfk {i n : Int} {x : Option ρ} (k : 0 <= i -> i < n -> i.toNat < n.toNat -> i.toNat + 1 <= n.toNat -> Run x K -> G) (h : Run (chk (0 <= i /\ i < n) x) K) : G := by
  obtain ⟨v, e, hk⟩ := h
  obtain ⟨⟨a, c⟩, e⟩ := z3E e
  exact k a c (by omega) (by omega) ⟨v, e, hk⟩
theorem zgw {p : Prop} [Decidable p] {x : Option ρ} (k : p -> Run x K -> G) (h : Run (chk p x) K) : G := by
  obtain ⟨v, e, hk⟩ := h
  obtain ⟨a, e⟩ := z3E e
  exact k a ⟨v, e, hk⟩
theorem zgp {α : Type} {xs : List α} {i : Nat} {f : α -> Option ρ} (k : ∀ v, i < xs.length -> i + 1 <= xs.length -> xs[i]? = some v -> (∀ hh : i < xs.length, xs[i]'hh = v) -> Run (f v) K -> G) (h : Run ((atI xs (i : Int)).bind f) K) : G := by
  obtain ⟨r, e, hk⟩ := h
  obtain ⟨v, ⟨a, b, c, d⟩, e⟩ := zdo e
  exact k v a b c d ⟨r, e, hk⟩
theorem zhk {α : Type} {xs : List α} {i : Int} {f : α -> Option ρ} (k : ∀ v, 0 <= i -> i < xs.length -> i.toNat + 1 <= xs.length -> xs[i.toNat]? = some v -> (∀ hh : i.toNat < xs.length, xs[i.toNat]'hh = v) -> Run (f v) K -> G) (h : Run ((atI xs i).bind f) K) : G := by
  obtain ⟨r, e, hk⟩ := h
  obtain ⟨v, ⟨a, b, c, d, d2⟩, e⟩ := zdp e
  exact k v a b c d d2 ⟨r, e, hk⟩
theorem zfr {s : ByteArray} {i : Int} {f : Int -> Option ρ} (k : ∀ v, 0 <= i -> i < s.size -> (∃ b, s[i.toNat]? = some b /\ v = (b.toNat : Int)) -> (∀ hh : i.toNat < s.size, ((s[i.toNat]'hh).toNat : Int) = v) -> Run (f v) K -> G) (h : Run ((z7I s i).bind f) K) : G := by
  obtain ⟨r, e, hk⟩ := h
  obtain ⟨v, e1, e2⟩ := z1L e
  obtain ⟨a, b, c, d1, d2, d3⟩ := zaJ e1
  exact k v a b ⟨c, d1, d2⟩ d3 ⟨r, e2, hk⟩
theorem zej {α : Type} {xs : List α} {i : Int} {v : α} {f : α -> Option ρ} (hv : xs[i.toNat]? = some v) (hi : 0 <= i) (k : Run (f v) K -> G) (h : Run ((atI xs i).bind f) K) : G := by
  obtain ⟨r, e, hk⟩ := h
  unfold atI at e
  rw [if_pos hi, hv] at e
  exact k ⟨r, e, hk⟩
theorem zfm {α : Type} {xs : List α} {i : Nat} {v : α} {f : α -> Option ρ} (hv : xs[i]? = some v) (k : Run (f v) K -> G) (h : Run ((atI xs (i : Int)).bind f) K) : G := zej (i := (i : Int)) hv (Int.natCast_nonneg i) k h
theorem zhl {α : Type} {xs : List α} {v : α} {f : α -> Option ρ} (hv : xs[0]? = some v) (k : Run (f v) K -> G) (h : Run ((atI xs 0).bind f) K) : G := zej (i := 0) hv (Int.le_refl 0) k h
theorem zeh {α : Type} {e : Option α} {v : α} {f : α -> Option ρ} (hv : e = some v) (k : Run (f v) K -> G) (h : Run (e.bind f) K) : G := by subst hv; exact k h
theorem zfq {α : Type} {e : Option α} {S : α -> Prop} [Ok e S] {f : α -> Option ρ} (k : ∀ v, e = some v -> S v -> Run (f v) K -> G) (h : Run (e.bind f) K) : G := by
  obtain ⟨r, e1, hk⟩ := h
  obtain ⟨v, e2, e3⟩ := z1L e1
  exact k v e2 (Ok.ok v e2) ⟨r, e3, hk⟩
theorem zhj {p : Prop} [Decidable p] {x y : Option ρ} (k : (p = True) -> Run x K -> G) (k2 : (p = False) -> Run y K -> G) (h : Run (if p then x else y) K) : G := by
  by_cases c : p
  · rw [if_pos c] at h; exact k (eq_true c) h
  · rw [if_neg c] at h; exact k2 (eq_false c) h
theorem p_0 {α : Type} {xs : List α} {f : α -> Option ρ} (k : ∀ v, 0 < xs.length -> xs ≠ [] -> xs[0]? = some v -> (∀ hh : 0 < xs.length, xs[0]'hh = v) -> Run (f v) K -> G) (h : Run ((atI xs 0).bind f) K) : G := by
  obtain ⟨r, e, hk⟩ := h
  obtain ⟨v, ⟨b, c, d, d2⟩, e⟩ := zdo (i := 0) e
  exact k v b (List.length_pos_iff.1 b) d d2 ⟨r, e, hk⟩
theorem zgr {α : Type} {xs : List α} {i : Nat} {f : α -> Option ρ} (k : ∀ v, (OfNat.ofNat i : Nat) < xs.length -> xs ≠ [] -> xs[(OfNat.ofNat i : Nat)]? = some v -> (∀ hh : (OfNat.ofNat i : Nat) < xs.length, xs[(OfNat.ofNat i : Nat)]'hh = v) -> Run (f v) K -> G) (h : Run ((atI xs (OfNat.ofNat i : Int)).bind f) K) : G := by
  obtain ⟨r, e, hk⟩ := h
  obtain ⟨v, ⟨b, c, d, d2⟩, e⟩ := zdo (i := i) e
  exact k v b (List.length_pos_iff.1 (Nat.lt_of_le_of_lt (Nat.zero_le _) b)) d d2 ⟨r, e, hk⟩
class IsS (α : Type) : Prop
theorem zgy {α : Type} [IsS α] {xs : List α} {i : Int} {f : α -> Option ρ} (k : ∀ v, 0 <= i -> i < xs.length -> i.toNat + 1 <= xs.length -> xs[i.toNat]? = some v -> (∀ m, i.toNat * m + m <= xs.length * m) -> (∀ (g : α -> List T) (m : Nat), (∀ x, (g x).length = m) -> ((xs.flatMap g).drop (i.toNat * m)).take m = g v) ->
    (∀ (g : α -> List T) (m j : Nat), (∀ x, (g x).length = m) -> j < m -> (xs.flatMap g)[i.toNat * m + j]? = (g v)[j]?) -> (∀ (g : α -> List T) (m : Nat), (∀ x, (g x).length = m) -> 0 < m -> (xs.flatMap g)[i.toNat * m]? = (g v)[0]?) -> Run (f v) K -> G) (h : Run ((atI xs i).bind f) K) : G := by
  obtain ⟨r, e, hk⟩ := h
  obtain ⟨v, ⟨a, b, c, d, d2⟩, e⟩ := zdp e
  refine k v a b c d (fun m => ?_) (fun g m hg => (z4X hg d).2.1) (fun g m j hg hj => (z4X hg d).2.2.1 j hj) (fun g m hg hj => (z4X hg d).2.2.1 0 hj) ⟨r, e, hk⟩
  calc i.toNat * m + m = (i.toNat + 1) * m := by rw [Nat.add_mul, Nat.one_mul]
    _ <= _ := Nat.mul_le_mul_right _ c
theorem z5I {α : Type} {xs : List α} {v : α} (h : xs[0]? = some v) (g : α -> List T) : ∃ r, xs.flatMap g = g v ++ r := by
  cases xs with
  | nil => cases h
  | cons a l =>
    simp at h; subst h
    exact ⟨l.flatMap g, List.flatMap_cons ..⟩
theorem zfs {α : Type} [IsS α] {xs : List α} {f : α -> Option ρ} (k : ∀ v, 0 < xs.length -> xs ≠ [] -> xs[0]? = some v -> (∀ (g : α -> List T) (j : Nat), j < (g v).length -> (xs.flatMap g)[j]? = (g v)[j]?) -> (∀ (g : α -> List T) (m : Nat), m = (g v).length -> (xs.flatMap g).take m = g v) -> Run (f v) K -> G) (h : Run ((atI xs 0).bind f) K) : G := by
  obtain ⟨r, e, hk⟩ := h
  obtain ⟨v, ⟨b, c, d, d2⟩, e⟩ := zdo (i := 0) e
  refine k v b (List.length_pos_iff.1 b) d (fun g j hj => ?_) (fun g m hm => ?_) ⟨r, e, hk⟩
  · obtain ⟨q, hq⟩ := z5I d g
    rw [hq, List.getElem?_append_left hj]
  · obtain ⟨q, hq⟩ := z5I d g
    subst hm
    rw [hq, List.take_left]
theorem zgx {α : Type} {l : List α} {j : Nat} {a : α} {i : Int} {f : α -> Option ρ} (k : ∀ v, 0 <= i -> i < l.length -> i.toNat + 1 <= l.length -> (∀ (g : α -> T) hh, ((l.map g).set j (g a))[i.toNat]'hh = g v) -> (∀ (g : α -> T), ((l.map g).set j (g a))[i.toNat]? = some (g v)) -> Run (f v) K -> G) (h : Run ((atI (l.set j a) i).bind f) K) : G := by
  obtain ⟨r, e, hk⟩ := h
  obtain ⟨v, ⟨x, b, c, d, d2⟩, e⟩ := zdp e
  rw [List.length_set] at b c
  have key : ∀ (g : α -> T), ((l.map g).set j (g a))[i.toNat]? = some (g v) := fun g => by rw [← List.map_set, List.getElem?_map, d]; rfl
  exact k v x b c (fun g hh => (List.getElem?_eq_some_iff.1 (key g)).2) key ⟨r, e, hk⟩
theorem zgz {α : Type} {l : List α} {a : α} {i : Int} {f : α -> Option ρ} (k : ∀ v, 0 <= i -> i < (l.length : Int) + 1 -> i.toNat <= l.length -> (∀ (g : α -> T) hh, (l.map g ++ [g a])[i.toNat]'hh = g v) -> (∀ g : α -> T, (l.map g ++ [g a])[i.toNat]? = some (g v)) -> Run (f v) K -> G) (h : Run ((atI (l ++ [a]) i).bind f) K) : G := by
  obtain ⟨r, e, hk⟩ := h
  obtain ⟨v, ⟨x, b, c, d, d2⟩, e⟩ := zdp e
  rw [List.length_append, List.length_singleton] at b c
  have key : ∀ (g : α -> T), (l.map g ++ [g a])[i.toNat]? = some (g v) := fun g => by
    have := congrArg (Option.map g) d
    rwa [← List.getElem?_map, List.map_append] at this
  exact k v x (by omega) (by omega) (fun g hh => (List.getElem?_eq_some_iff.1 (key g)).2) key ⟨r, e, hk⟩
theorem zcP {α : Type} {xs : List α} {l u : Int} {f : List α -> Option ρ} (k : ∀ v : List α, 0 <= l -> l <= u -> u <= xs.length -> 0 <= u -> l <= (u.toNat : Int) -> l <= max u 0 -> (∀ g : α -> T, ((xs.map g).drop l.toNat).take (u.toNat - l.toNat) = v.map g) -> (∀ g : α -> T, T.sl (u.toNat - l.toNat) (v.map g) = T.sl v.length (v.map g)) -> Run (f v) K -> G) (h : Run ((z1g xs l u).bind f) K) : G := by
  obtain ⟨r, e, hk⟩ := h
  obtain ⟨v, e1, e2⟩ := z1L e
  obtain ⟨a, b, c, -⟩ := z1n e1
  obtain ⟨d, g⟩ := z5W a b
  exact k v a b c d g (by omega) (fun g => zab e1) (fun g => za9 e1 g) ⟨r, e2, hk⟩
theorem zcQ {α : Type} [IsS α] {xs : List α} {l u : Int} {f : List α -> Option ρ} (k : ∀ v : List α, 0 <= l -> l <= u -> u <= xs.length -> 0 <= u -> l <= (u.toNat : Int) -> l <= max u 0 -> (∀ (g : α -> List T) (m : Nat), (∀ x, (g x).length = m) -> ((xs.flatMap g).drop (l.toNat * m)).take ((u.toNat - l.toNat) * m) = v.flatMap g) -> (∀ g : α -> List T, T.sl (u.toNat - l.toNat) (v.flatMap g) = T.sl v.length (v.flatMap g)) -> Run (f v) K -> G) (h : Run ((z1g xs l u).bind f) K) : G := by
  obtain ⟨r, e, hk⟩ := h
  obtain ⟨v, e1, e2⟩ := z1L e
  obtain ⟨a, b, c, -⟩ := z1n e1
  obtain ⟨d, g⟩ := z5W a b
  exact k v a b c d g (by omega) (fun g m hg => z8d hg e1) (fun g => zaa e1 g) ⟨r, e2, hk⟩
theorem zcO {s : ByteArray} {l u : Int} {f : ByteArray -> Option ρ} (k : ∀ v, 0 <= l -> l <= u -> u <= s.size -> 0 <= u -> l <= (u.toNat : Int) -> l <= max u 0 -> s.extract l.toNat u.toNat = v -> Run (f v) K -> G) (h : Run ((z4N s l u).bind f) K) : G := by
  obtain ⟨r, e, hk⟩ := h
  obtain ⟨v, e1, e2⟩ := z1L e
  obtain ⟨a, b, c, d⟩ := z8b e1
  obtain ⟨d1, g⟩ := z5W a b
  exact k v a b c d1 g (by omega) d.symm ⟨r, e2, hk⟩
theorem zei {α β : Type} {e : Option (α ⊕ β)} {S : α ⊕ β -> Prop} [Ok e S] {f : α ⊕ β -> Option ρ} (k : ∀ v, S (.inl v) -> Run (f (.inl v)) K -> G) (k2 : ∀ v, S (.inr v) -> Run (f (.inr v)) K -> G) (h : Run (e.bind f) K) : G := by
  obtain ⟨r, e1, hk⟩ := h
  obtain ⟨v, e2, e3⟩ := z1L e1
  cases v with
  | inl v => exact k v (Ok.ok _ e2) ⟨r, e3, hk⟩
  | inr v => exact k2 v (Ok.ok _ e2) ⟨r, e3, hk⟩
theorem zgt {α : Type} {m : Option α} {x y : Option ρ} (k : m.isSome = true -> Run x K -> G) (k2 : m = none -> Run y K -> G) (h : Run (if m.isSome = true then x else y) K) : G := by
  cases m with
  | some v => exact k rfl (by simpa using h)
  | none => exact k2 rfl (by simpa using h)
theorem zgu {b : Bool} {x y : Option ρ} (k : b = true -> Run x K -> G) (k2 : b = false -> Run y K -> G) (h : Run (if b = true then x else y) K) : G := by
  cases b with
  | true => exact k rfl (by simpa using h)
  | false => exact k2 rfl (by simpa using h)
theorem zgv {α : Type} {xs : List α} {x y : Option ρ} (k : ((xs.length : Int) = 0) = True -> xs = [] -> Run x K -> G) (k2 : ((xs.length : Int) = 0) = False -> xs ≠ [] -> Run y K -> G) (h : Run (if (xs.length : Int) = 0 then x else y) K) : G := by
  by_cases c : (xs.length : Int) = 0
  · rw [if_pos c] at h; exact k (eq_true c) (List.eq_nil_of_length_eq_zero (by omega)) h
  · rw [if_neg c] at h; exact k2 (eq_false c) (fun e => c (by rw [e]; rfl)) h
theorem zgs {α : Type} {xs : List α} {x y : Option ρ} (k : ((0 : Int) < (xs.length : Int)) = True -> xs ≠ [] -> 0 < xs.length -> Run x K -> G) (k2 : ((0 : Int) < (xs.length : Int)) = False -> xs = [] -> Run y K -> G) (h : Run (if (0 : Int) < (xs.length : Int) then x else y) K) : G := by
  by_cases c : (0 : Int) < (xs.length : Int)
  · rw [if_pos c] at h; exact k (eq_true c) (fun e => by subst e; simp at c) (by omega) h
  · rw [if_neg c] at h; exact k2 (eq_false c) (List.eq_nil_of_length_eq_zero (by omega)) h
theorem zfn {κ ν : Type} [DecidableEq κ] {q : κ} {m : List (κ × ν)} {f : ν -> Option ρ} {y : Option ρ} (k : ∀ v, z8o q m = some v -> zaz q m = some (q, v) -> Run (f v) K -> G) (k2 : z8o q m = none -> zaz q m = none -> Run y K -> G) (h : Run ((z8o q m).elim y f) K) : G := by
  have e := z4U q m
  have hk : ∀ l : List (κ × ν), ∀ p, zaz q l = some p -> p.1 = q := by
    intro l
    induction l with
    | nil => intro p hp; cases hp
    | cons a l ih =>
      intro p hp
      simp only [zaz] at hp
      split at hp
      · rename_i ha; cases hp; exact ha
      · exact ih p hp
  cases hp : zaz q m with
  | none =>
    rw [hp] at e
    rw [← e] at h
    exact k2 e.symm hp h
  | some p =>
    rw [hp] at e
    rw [← e] at h
    have h1 := hk m p hp
    exact k p.2 e.symm (by rw [hp, ← h1]) h
theorem zfj {v : ρ} (k : K v -> G) (h : Run (some v) K) : G := by
  obtain ⟨r, e, hk⟩ := h
  cases e; exact k hk
theorem zfl (h : Run none K) : G := by
  obtain ⟨r, e, hk⟩ := h
  cases e
theorem zbo {x : Option ρ} {r : ρ} (h : x = some r) : Run x (· = r) := ⟨r, h, rfl⟩
theorem za7 {α β : Type} {P : α × β -> Prop} (h : ∀ a, ∀ b, P (a, b)) : ∀ s : α × β, P s := fun s => h s.1 s.2
end
theorem zaX {α β : Type} {P : α ⊕ β -> Prop} (h1 : ∀ a, P (.inl a)) (h2 : ∀ b, P (.inr b)) : ∀ s : α ⊕ β, P s := fun s => by
  cases s with
  | inl a => exact h1 a
  | inr b => exact h2 b
theorem zbr {α : Type} {P : Option α -> Prop} (h1 : ∀ _ : Unit, P none) (h2 : ∀ a, P (some a)) : ∀ s : Option α, P s := fun s => by
  cases s with
  | none => exact h1 ()
  | some a => exact h2 a
section
variable {P : Program} {C : z0b} {cf : Cfg} {LF : Nat} {c : Code} {fr : Fr} {Q : X -> Fr -> Prop} {σ ρ : Type} {K : ρ -> Prop} {o : σ ⊕ ρ} {H : σ -> Fr} {cn : Fr -> Fr}
theorem zhh {s : σ} (h : Run (z1E s : Option (σ ⊕ ρ)) (RK o K)) (e : cn fr = H s) : z3t H cn o Q .n fr := by
  obtain ⟨r, e1, e2⟩ := h
  have := zby e1
  exact zcL (e2.eq.symm.trans this) e
theorem zhf {i : Nat} {x : Option ρ} (k : Run x K -> Q (.x i) fr) (h : Run (z1K x : Option (σ ⊕ ρ)) (RK o K)) : z3t H cn o Q (.x i) fr := by
  obtain ⟨r, e1, e2⟩ := h
  obtain ⟨v, e3, rfl⟩ := z7v e1
  exact zcJ (e2.eq.symm) (k ⟨v, e3, e2.k _ rfl⟩)
theorem zhg {x : Option ρ} (k : Run x K -> Q .r fr) (h : Run (z1K x : Option (σ ⊕ ρ)) (RK o K)) : z3t H cn o Q .r fr := by
  obtain ⟨r, e1, e2⟩ := h
  obtain ⟨v, e3, rfl⟩ := z7v e1
  exact zcK (e2.eq.symm) (k ⟨v, e3, e2.k _ rfl⟩)
end
def zf8 {α : Type} (k : Nat) (v : α) : List (Nat × α) -> List (Nat × α)
  | [] => []
  | (j, u) :: r => if j = k then (j, v) :: r else (j, u) :: zf8 k v r
def zeQ {α : Type} : List (Nat × α) -> List (Nat × α) -> List (Nat × α)
  | [], l => l
  | (k, v) :: r, l => zeQ r (zf8 k v l)
def zdP (x : List (Nat × E) × List (Nat × T)) (fr : Fr) : Fr := { fr with tm := zeQ x.1 fr.tm, ob := zeQ x.2 fr.ob }
class Hd {σ ρ : Type} (b : σ -> Option (σ ⊕ ρ)) where
  H : σ -> List (Nat × E) × List (Nat × T)
section
variable {P : Program} {C : z0b} {cf : Cfg} {LF : Nat} {c : Code} {fr fr0 : Fr} {Q : X -> Fr -> Prop} {σ ρ : Type} {K : ρ -> Prop}
theorem zec {lv : List Nat} {body : σ -> Option (σ ⊕ ρ)} [hd : Hd body] {s0 : σ} (hk : z4j c = 5) (hv : cf.live (z3b (lpC c)) = some lv) (h : Run (z1Y body LF s0) K)
    (hf : z3d (some lv) fr = fr0) (h0 : fr0 = zdP (Hd.H body s0) fr0) (round : ∀ s, ∀ o, Run (body s) (RK o K) -> wpC P C cf LF (lpC c) (zdP (Hd.H body s) fr0) (z3t (fun s => zdP (Hd.H body s) fr0) (z3d (some lv)) o Q)) : wpC P C cf LF c fr Q := by
  obtain ⟨r, e, hk2⟩ := h
  exact zed e (fun s => zdP (Hd.H body s) fr0) hk hv (hf.trans h0) fun s o h1 h2 => round s o ⟨o, h1, rfl, fun r' e' => by rw [h2 r' e']; exact hk2⟩
end
@[simp] theorem zcB {α : Type} (c : Nat) : ∀ l : List α, (l.map fun _ => c).sum = l.length * c
  | [] => by simp
  | x :: l => by simp only [List.map_cons, List.sum_cons, zcB c l, List.length_cons, Nat.add_mul]; omega
abbrev xI (x : Int) : E := .one (.t none (.sc (.int .i64 x)))
abbrev xB (x : Bool) : E := .one (.t none (.sc (.bool x)))
theorem zhc {a b : Fr} (h : z4h a b) : z4h a b := h
section
variable {P : Program} {C : z0b} {cf : Cfg} {LF : Nat} {c : Code} {fr : Fr}
theorem zh2 {Q : X -> Fr -> Prop} {id i : Nat} (h : z2e id Q (.x i) fr) : z2e id Q (.x i) fr := h
theorem zgc {Q : X -> Fr -> Prop} (h : wpC P C cf LF c fr Q) : wpC P C cf LF c fr Q := h
theorem zgG {wio : FuncId -> Nat -> Bool} {M : List Nat} {ops : Array Oper} {l : List (Nat × Nat)} {Q : Fr -> Prop} (h : z2l P C wio M ops l fr Q) : z2l P C wio M ops l fr Q := h
theorem zgg {l : List Oper} {Q : Fr -> Prop} (h : ∃ fr2, z1k P l fr = some fr2 /\ Q fr2) : ∃ fr2, z1k P l fr = some fr2 /\ Q fr2 := h
theorem tpN {i : Nat} {t : SchT} {Q : Fr -> Prop} (e : t = .nil) (h : Q fr) : z1C P C cf c i t fr Q := by subst e; exact zf4 h
theorem tpA {i : Nat} {t a b : SchT} {Q : Fr -> Prop} (e : t = .alt a b) (h : z1C P C cf c i a fr (fun x => z1C P C cf c i b fr (fun y => z4h x y) /\ Q x)) : z1C P C cf c i t fr Q := by subst e; exact zdS h
theorem tpO {i k m : Nat} {t rest : SchT} {o : Oper} {fr1 : Fr} {Q : Fr -> Prop} (e : t = .op k m rest) (ho : zbt c k = some o) (hg : o.guard = none) (hs : z6I P C cf.wio (cf.wr i).isEmpty (cf.wr i).contains fr o m = some fr1) (h : z1C P C cf c i rest fr1 Q) : z1C P C cf c i t fr Q := by subst e; exact zgd ho hg hs h
theorem tpT {i k m : Nat} {t rest : SchT} {o : Oper} {g : Option (Option Nat × Bool)} {fr1 : Fr} {Q : Fr -> Prop} (e : t = .op k m rest) (ho : zbt c k = some o) (hg : zez c o = some g) (hv : zdE g fr = some true) (hs : z6I P C cf.wio (cf.wr i).isEmpty (cf.wr i).contains fr o m = some fr1) (h : z1C P C cf c i rest fr1 Q) : z1C P C cf c i t fr Q := by subst e; exact zge ho hg hv hs h
theorem tpF {i k m : Nat} {t rest : SchT} {o : Oper} {g : Option (Option Nat × Bool)} {fr1 : Fr} {Q : Fr -> Prop} (e : t = .op k m rest) (ho : zbt c k = some o) (hg : zez c o = some g) (hv : zdE g fr = some false) (hs : nrmO? (putF fr o.dst (.one (.k undef))) = some fr1) (h : z1C P C cf c i rest fr1 Q) : z1C P C cf c i t fr Q := by subst e; exact zgf ho hg hv hs h
theorem zgI {i : Nat} {t : SchT} {Q : Fr -> Prop} (h : z1C P C cf c i t fr Q) : z1C P C cf c i t fr Q := h
end
theorem z5P {G : Prop} (g : G := by
  repeat' (first
    | with_reducible refine zdV ?_
    | with_reducible refine zdT ?_
    | with_reducible refine zdU ?_
    | with_reducible refine zdk ?_
    | ((with_reducible refine zh2 ?_); first | refine z8I rfl ?_ | refine z8H rfl ?_)
    | with_reducible refine zdj ?_
    | (revert h; with_reducible refine zhf fun h => ?_)
    | (revert h; with_reducible refine zhg fun h => ?_)
    | ((with_reducible refine zhh h ?_); simp [*, zdP, zeQ, zf8, Hd.H]; done)
    | (revert h; first
      | with_reducible refine zfl
      | with_reducible refine zfo fun _ _ h => ?_
      | with_reducible refine zfp fun _ _ h => ?_
      | with_reducible refine zgq fun _ _ _ h => ?_
      | with_reducible refine zh5 fun _ _ _ _ h => ?_
      | with_reducible refine zgo fun _ _ _ _ h => ?_
      | with_reducible refine zfk fun _ _ _ _ h => ?_
      | with_reducible refine zgw fun _ h => ?_
      | with_reducible refine zej (by assumption) (by assumption) fun h => ?_
      | with_reducible refine zfm (by assumption) fun h => ?_
      | with_reducible refine zhl (by assumption) fun h => ?_
      | with_reducible refine zeh (by assumption) fun h => ?_
      | with_reducible refine zfs fun _ _ _ _ k k1 h => ?_
      | with_reducible refine zgy fun _ _ _ _ _ _ k k1 k2 h => ?_
      | with_reducible refine zgx fun _ _ _ _ k k1 h => ?_
      | with_reducible refine zgz fun _ _ _ _ k k1 h => ?_
      | with_reducible refine p_0 fun _ _ _ _ _ h => ?_
      | with_reducible refine zgr fun _ _ _ _ _ h => ?_
      | with_reducible refine zgp fun _ _ _ _ _ h => ?_
      | with_reducible refine zhk fun _ _ _ _ _ _ h => ?_
      | with_reducible refine zfr fun _ _ _ _ _ h => ?_
      | ((with_reducible refine zcQ fun _ _ _ _ _ _ _ k k2 h => ?_); try simp at k; try simp only [Int.reduceToNat, Int.toNat_natCast, Nat.sub_zero] at k2)
      | ((with_reducible refine zcP fun _ _ _ _ _ _ _ k k2 h => ?_); try simp at k; try simp only [Int.reduceToNat, Int.toNat_natCast, Nat.sub_zero] at k2)
      | ((with_reducible refine zcO fun _ _ _ _ _ _ _ k h => ?_); try simp only [Int.reduceToNat, Int.toNat_natCast] at k)
      | ((with_reducible refine zei (fun _ k h => ?_) fun _ k h => ?_) <;> (try simp at k))
      | ((with_reducible refine zfq fun _ _ k h => ?_); try simp at k))
    | ((with_reducible refine zgc ?_); first
      | refine zq rfl ?_
      | refine zb rfl ?_
      | refine zeb rfl ?_
      | refine zff rfl ?_
      | refine zee rfl ?_
      | refine zfg rfl ?_
      | refine zgk rfl ?_
      | refine zr rfl rfl rfl (by simp [*]; with_reducible rfl) ?_
      | refine zef rfl rfl rfl rfl ?_
      | refine zfe rfl rfl rfl rfl ?_
      | refine zgl rfl (by first | (simp [*]; done) | fail) ?_
      | refine zgm rfl (by first | (simp [*]; done) | fail) ?_
      | refine zgn rfl rfl (by simp [*]; rfl) ?_
      | (refine zec rfl rfl h (by simp [*]; rfl) (by first | (simp [*, zdP, zeQ, zf8, Hd.H]; done) | fail) ?_; clear h; (repeat' (first | refine za7 fun _ => ?_ | refine zaX ?_ ?_ | refine zbr ?_ ?_)); all_goals (intro _ _ h; simp only [zdP, zeQ, zf8, Hd.H, Nat.reduceEqDiff, if_true, if_false])))
    | ((with_reducible refine zgG ?_); first
      | (refine za6 rfl rfl fun Q' hQ => ?_; simp [*]; refine hQ.out _ ?_; clear hQ; clear Q')
      | (refine z5T rfl rfl fun Q1 Q2 h1 h2 => ?_; simp [*, zaU]; (first | refine h1.out ?_ | refine h2.out ?_); clear h1 h2; clear Q1 Q2; intro Q' hQ; simp [*]; refine hQ.out _ ?_; clear hQ; clear Q')
      | (refine z7Y rfl fun Q' hQ => ?_; simp [*]; refine hQ.out _ ?_; clear hQ; clear Q'))
    | ((with_reducible refine zgI ?_); first
      | refine tpN rfl ?_
      | refine tpA rfl ?_
      | refine tpO rfl rfl rfl (by simp [*, z6I, z4H]; rfl) ?_
      | refine tpT rfl rfl rfl (by first | (simp [*]; done) | fail) (by simp [*, z6I, z4H]; rfl) ?_
      | refine tpF rfl rfl rfl (by first | (simp [*]; done) | fail) (by simp [*]; rfl) ?_)
    | ((with_reducible refine zgg ?_); refine zf5 rfl (by simp [*]; rfl) ?_)
    | ((with_reducible refine And.intro ?_ ?_); rotate_left)
    | ((with_reducible refine zhc ?_); simp [*, z4h]; done)
    | (revert h; with_reducible refine zfn (fun _ _ _ h => ?_) fun _ _ h => ?_)
    | (revert h; first
      | with_reducible refine zgt (fun _ h => ?_) fun _ h => ?_
      | with_reducible refine zgu (fun _ h => ?_) fun _ h => ?_
      | with_reducible refine zgv (fun _ _ h => ?_) fun _ _ h => ?_
      | with_reducible refine zgs (fun _ _ _ h => ?_) fun _ _ h => ?_
      | with_reducible refine zhj (fun _ h => ?_) fun _ h => ?_
      | ((with_reducible refine zfj fun h => ?_); cases h; simp [*]; done)))) : G := g
end
section
open Go
structure Tape where
  l : List Int
  at_ : Int
deriving Inhabited
structure DFA where
  letters : Int
  start : Int
  final : List Bool
  next : List (List Int)
deriving Inhabited
structure Imgs where
  sets : List Int
  class_ : List Int
  height : List Int
  tiles : List (List Int)
  words : List ByteArray
  back : List ByteArray
deriving Inhabited
structure Dgm where
  sets : List Int
  next : List (List Int)
  below : List (List Bool)
deriving Inhabited
structure Hol where
  set : Int
  tiles : List Int
  words : List ByteArray
  perms : List (List Int)
deriving Inhabited
instance : IsS Hol := ⟨⟩
end
section
attribute [simp] undef scB ext z0m z0q Function.comp_def z5M z7S z4k z7P nav sub upd z0A z1T z0n z4o z0i z7B z0Z zfB z1o z2H z4c z8w onA kill z0B z5C z3I z1b z3p z3O zeC z0T z3P z3v zd5 z3k z4n setT moveT moveR mvA za8 z8V plugL' zaD zaf z1D zfz zfy zdB zfG zfF nrmO? plugL putR z2I explode cellsE z0X rdV scE zdm z8Y zgA zdl zcl zaw zal zap zan zam zav zbJ zak z6j zau zao zaq zar zas zat za1 z9Y z9Z za0 za2 z9s z9t z9u z9v zb9 zba zbb zbc zd8 zbQ zcD zcE List.map_flatMap z8X z7b z9G z6x zfE unS zgB zgC z9A opE zeX z6u zaj zac zbk zhr z2N z9k zcw z8S z4x zg0 z3e zbH zdf zeG z2A z2E z2U z2f z4m zcv zcW z9N zg8 z5q zbF z2D z5u z2T z0U z0F z1N zb2 z6H z4h zcm z6z zh6 zeP zbp zbG z5j z6B zeB z2S z6C zex zd0 z9H zg6 z8E zfQ opn z5n z1v z8N zeI zcp zg9 z0x z5w z2v z4W clB ioF zgh zfY z3G z2B putF opF z8K z1V zdE z7X z2Y z3b onE ids z5t z5s z2s zay z3d z1k z3c z2d z1X z1H zfb zbg z6K z2W z3Z zfv zad z7a z6i zbq zg1 zfu z7J zft z4l z9y zfi z6i z7L zho zhq zhn zhp zgH z2G z4H wrF z3w noM zga frz1 zfI zeW z5r zfc z6g z6d z3j z6b zbM z4u zf3 zd4 z7l zd3 zeU z4v z4s z4r z3x z4t z4S z6f z6c zbU zbV zbO zbd zfP zcd zg7 zce z7A z3y z3m z8i z7y z5L zeE zeD Option.map_some z6s zbX
end
section
open Go
set_option maxRecDepth 100000
@[simp] theorem ty3 : z0u Try.prog 3 = some ⟨.int .i64, 1, 8, (some [(.sc (.int .i64 0))])⟩ := by kernel_rfl
@[simp] theorem ty4 : z0u Try.prog 4 = some ⟨.bool, 1, 1, (some [(.sc (.bool false))])⟩ := by kernel_rfl
@[simp] theorem ty5 : z0u Try.prog 5 = some ⟨.int .u8, 1, 1, (some [(.sc (.int .u8 0))])⟩ := by kernel_rfl
@[simp] theorem ty9 : z0u Try.prog 9 = some ⟨.string, 1, 16, (some [(.sc (.string ByteArray.empty))])⟩ := by kernel_rfl
@[simp] theorem ty23 : z0u Try.prog 23 = some ⟨.slice 9, 1, 24, (some [(.os 1 0 [])])⟩ := by kernel_rfl
@[simp] theorem ty32 : z0u Try.prog 32 = some ⟨.map 3 9, 1, 8, (some [(.sc (.map none))])⟩ := by kernel_rfl
@[simp] theorem mt32 : z3M Try.prog 32 = some ((some .i64), 9) := by kernel_rfl
@[simp] theorem zv32 : z9Q Try.prog 9 = some (.string ByteArray.empty) := by kernel_rfl
@[simp] theorem ty33 : z0u Try.prog 33 = some ⟨.slice 3, 1, 24, (some [(.os 1 0 [])])⟩ := by kernel_rfl
@[simp] theorem ty42 : z0u Try.prog 42 = some ⟨.map 9 4, 1, 8, (some [(.sc (.map none))])⟩ := by kernel_rfl
@[simp] theorem mt42 : z3M Try.prog 42 = some (none, 4) := by kernel_rfl
@[simp] theorem zv42 : z9Q Try.prog 4 = some (.bool false) := by kernel_rfl
@[simp] theorem ty43 : z0u Try.prog 43 = some ⟨.int .u64, 1, 8, (some [(.sc (.int .u64 0))])⟩ := by kernel_rfl
@[simp] theorem ty45 : z0u Try.prog 45 = some ⟨.slice 5, 1, 24, (some [(.os 1 0 [])])⟩ := by kernel_rfl
@[simp] theorem ty50 : z0u Try.prog 50 = some ⟨.map 51 3, 1, 8, (some [(.sc (.map none))])⟩ := by kernel_rfl
@[simp] theorem ty51 : z0u Try.prog 51 = some ⟨.array 2 3, 2, 16, (some [(.sc (.int .i64 0)), (.sc (.int .i64 0))])⟩ := by kernel_rfl
@[simp] theorem ty57 : z0u Try.prog 57 = some ⟨.int .u32, 1, 4, (some [(.sc (.int .u32 0))])⟩ := by kernel_rfl
@[simp] theorem ty59 : z0u Try.prog 59 = some ⟨.int .u64, 1, 8, (some [(.sc (.int .u64 0))])⟩ := by kernel_rfl
def cf5 : Cfg := { wio := fun f i => (f == 999999 && (i == 0)), live := fun r => if r = 5 then some [0, 1, 2, 7, 8, 16, 17, 18] else none, dr := fun r => none }
@[simp] theorem wio5 : cf5.wio = fun f i => (f == 999999 && (i == 0)) := rfl
@[simp] theorem live5 : cf5.live = fun r => if r = 5 then some [0, 1, 2, 7, 8, 16, 17, 18] else none := rfl
@[simp] theorem wr5 : cf5.wr = fun _ => [] := rfl
def cf6 : Cfg := { wio := fun f i => (f == 999999 && (i == 0)), live := fun r => none, dr := fun r => none }
@[simp] theorem wio6 : cf6.wio = fun f i => (f == 999999 && (i == 0)) := rfl
@[simp] theorem live6 : cf6.live = fun r => none := rfl
@[simp] theorem wr6 : cf6.wr = fun _ => [] := rfl
def cf8 : Cfg := { wio := fun f i => (f == 999999 && (i == 0)), live := fun r => none, dr := fun r => none }
@[simp] theorem wio8 : cf8.wio = fun f i => (f == 999999 && (i == 0)) := rfl
@[simp] theorem live8 : cf8.live = fun r => none := rfl
@[simp] theorem wr8 : cf8.wr = fun _ => [] := rfl
def cf9 : Cfg := { wio := fun f i => (f == 999999 && (i == 0)), live := fun r => if r = 4 then some [0, 1, 12, 13] else none, dr := fun r => if r = 6 then some [(0, 0), (1, 0), (2, 0), (3, 0), (4, 0), (5, 0), (6, 0), (7, 0), (8, 0)] else none }
@[simp] theorem wio9 : cf9.wio = fun f i => (f == 999999 && (i == 0)) := rfl
@[simp] theorem live9 : cf9.live = fun r => if r = 4 then some [0, 1, 12, 13] else none := rfl
@[simp] theorem wr9 : cf9.wr = fun _ => [] := rfl
def cf10 : Cfg := { wio := fun f i => (f == 999999 && (i == 0)), live := fun r => if r = 3 then some [0, 1, 5, 6] else none, dr := fun r => none, fz := fun r => if r = 2 then some [5] else if r = 999998 then some [] else none }
@[simp] theorem wio10 : cf10.wio = fun f i => (f == 999999 && (i == 0)) := rfl
@[simp] theorem live10 : cf10.live = fun r => if r = 3 then some [0, 1, 5, 6] else none := rfl
@[simp] theorem wr10 : cf10.wr = fun _ => [] := rfl
def cf12 : Cfg := { wio := fun f i => (f == 999999 && (i == 0)), live := fun r => if r = 3 then some [0, 1, 5, 6] else if r = 7 then some [0, 1, 5, 6, 18, 19, 20] else none, dr := fun r => none, fz := fun r => if r = 2 then some [5] else if r = 999998 then some [] else none }
@[simp] theorem wio12 : cf12.wio = fun f i => (f == 999999 && (i == 0)) := rfl
@[simp] theorem live12 : cf12.live = fun r => if r = 3 then some [0, 1, 5, 6] else if r = 7 then some [0, 1, 5, 6, 18, 19, 20] else none := rfl
@[simp] theorem wr12 : cf12.wr = fun _ => [] := rfl
def cf13 : Cfg := { wio := fun f i => (f == 999999 && (i == 0)), live := fun r => if r = 3 then some [0, 1, 5, 6] else none, dr := fun r => if r = 5 then some [(0, 0), (1, 0), (2, 0), (3, 0), (4, 0), (5, 0), (6, 0)] else none }
@[simp] theorem wio13 : cf13.wio = fun f i => (f == 999999 && (i == 0)) := rfl
@[simp] theorem live13 : cf13.live = fun r => if r = 3 then some [0, 1, 5, 6] else none := rfl
@[simp] theorem wr13 : cf13.wr = fun _ => [] := rfl
def cf15 : Cfg := { wio := fun f i => (f == 999999 && (i == 0)), live := fun r => none, dr := fun r => none }
@[simp] theorem wio15 : cf15.wio = fun f i => (f == 999999 && (i == 0)) := rfl
@[simp] theorem live15 : cf15.live = fun r => none := rfl
@[simp] theorem wr15 : cf15.wr = fun _ => [] := rfl
def cf19 : Cfg := { wio := fun f i => (f == 999999 && (i == 0)), live := fun r => if r = 6 then some [0, 1, 6] else none, dr := fun r => none }
@[simp] theorem wio19 : cf19.wio = fun f i => (f == 999999 && (i == 0)) := rfl
@[simp] theorem live19 : cf19.live = fun r => if r = 6 then some [0, 1, 6] else none := rfl
@[simp] theorem wr19 : cf19.wr = fun _ => [] := rfl
def cf20 : Cfg := { wio := fun f i => (f == 999999 && (i == 0)), live := fun r => if r = 4 then some [0, 1, 18, 19] else none, dr := fun r => none }
@[simp] theorem wio20 : cf20.wio = fun f i => (f == 999999 && (i == 0)) := rfl
@[simp] theorem live20 : cf20.live = fun r => if r = 4 then some [0, 1, 18, 19] else none := rfl
@[simp] theorem wr20 : cf20.wr = fun _ => [] := rfl
def cf21 : Cfg := { wio := fun f i => (f == 999999 && (i == 0)), live := fun r => if r = 2 then some [0, 1, 5] else none, dr := fun r => none, fz := fun r => if r = 999998 then some [] else none, dt := fun r => if r = 6 then some (.op 1 0 (.op 2 0 (.op 3 0 (.op 5 3 (.op 8 3 (.op 9 3 (.op 10 3 (.alt (.op 0 1 (.alt (.op 4 2 (.op 6 1 (.op 7 2 (.op 11 2 (.op 12 0 .nil))))) (.op 6 1 (.op 4 2 (.op 7 2 (.op 11 2 (.op 12 0 .nil))))))) (.op 6 1 (.op 0 1 (.op 4 2 (.op 7 2 (.op 11 2 (.op 12 0 .nil)))))))))))))) else none }
@[simp] theorem wio21 : cf21.wio = fun f i => (f == 999999 && (i == 0)) := rfl
@[simp] theorem live21 : cf21.live = fun r => if r = 2 then some [0, 1, 5] else none := rfl
@[simp] theorem wr21 : cf21.wr = fun _ => [] := rfl
def cf22 : Cfg := { wio := fun f i => (f == 999999 && (i == 0)), live := fun r => none, dr := fun r => none }
@[simp] theorem wio22 : cf22.wio = fun f i => (f == 999999 && (i == 0)) := rfl
@[simp] theorem live22 : cf22.live = fun r => none := rfl
@[simp] theorem wr22 : cf22.wr = fun _ => [] := rfl
def cf30 : Cfg := { wio := fun f i => (f == 41 && (i == 0)) || (f == 999999 && (i == 0)), live := fun r => none, dr := fun r => none }
@[simp] theorem wio30 : cf30.wio = fun f i => (f == 41 && (i == 0)) || (f == 999999 && (i == 0)) := rfl
@[simp] theorem live30 : cf30.live = fun r => none := rfl
@[simp] theorem wr30 : cf30.wr = fun _ => [] := rfl
def cf31 : Cfg := { wio := fun f i => (f == 999999 && (i == 0)), live := fun r => none, dr := fun r => none }
@[simp] theorem wio31 : cf31.wio = fun f i => (f == 999999 && (i == 0)) := rfl
@[simp] theorem live31 : cf31.live = fun r => none := rfl
@[simp] theorem wr31 : cf31.wr = fun _ => [] := rfl
def cf33 : Cfg := { wio := fun f i => (f == 999999 && (i == 0)), live := fun r => none, dr := fun r => none }
@[simp] theorem wio33 : cf33.wio = fun f i => (f == 999999 && (i == 0)) := rfl
@[simp] theorem live33 : cf33.live = fun r => none := rfl
@[simp] theorem wr33 : cf33.wr = fun _ => [] := rfl
def cf41 : Cfg := { wio := fun f i => (f == 999999 && (i == 0)), live := fun r => if r = 1 then some [0, 2, 3] else none, dr := fun r => if r = 3 then some [(0, 0), (1, 0), (2, 3), (3, 3), (4, 0), (5, 0), (6, 0), (7, 0), (8, 0), (9, 0), (10, 0), (11, 0), (12, 0), (13, 2), (14, 0), (15, 2)] else none }
@[simp] theorem wio41 : cf41.wio = fun f i => (f == 999999 && (i == 0)) := rfl
@[simp] theorem live41 : cf41.live = fun r => if r = 1 then some [0, 2, 3] else none := rfl
@[simp] theorem wr41 : cf41.wr = fun _ => [] := rfl
def z2w (f : FuncId) : Option Cfg :=
  if f = 5 then some cf5 else
  if f = 6 then some cf6 else
  if f = 8 then some cf8 else
  if f = 9 then some cf9 else
  if f = 10 then some cf10 else
  if f = 12 then some cf12 else
  if f = 13 then some cf13 else
  if f = 15 then some cf15 else
  if f = 19 then some cf19 else
  if f = 20 then some cf20 else
  if f = 21 then some cf21 else
  if f = 22 then some cf22 else
  if f = 30 then some cf30 else
  if f = 31 then some cf31 else
  if f = 33 then some cf33 else
  if f = 41 then some cf41 else none
theorem zhE : z2w 5 = some cf5 := rfl
theorem zhD : z2w 6 = some cf6 := rfl
theorem zh1 : z2w 12 = some cf12 := rfl
theorem zh0 : z2w 13 = some cf13 := rfl
theorem zgZ : z2w 15 = some cf15 := rfl
theorem zgY : z2w 21 = some cf21 := rfl
theorem zgX : z2w 22 = some cf22 := rfl
theorem zgW : z2w 31 = some cf31 := rfl
theorem zgV : z2w 33 = some cf33 := rfl
theorem fn5 : Try.prog.funcs[5]? = some Try.f5 := by kernel_rfl
theorem fn6 : Try.prog.funcs[6]? = some Try.f6 := by kernel_rfl
theorem zhy : Try.prog.funcs[12]? = some Try.f12 := by kernel_rfl
theorem zhx : Try.prog.funcs[13]? = some Try.f13 := by kernel_rfl
theorem zhw : Try.prog.funcs[15]? = some Try.f15 := by kernel_rfl
theorem zhv : Try.prog.funcs[21]? = some Try.f21 := by kernel_rfl
theorem zhu : Try.prog.funcs[22]? = some Try.f22 := by kernel_rfl
theorem zht : Try.prog.funcs[31]? = some Try.f31 := by kernel_rfl
theorem zhs : Try.prog.funcs[33]? = some Try.f33 := by kernel_rfl
noncomputable def cd5 : Code := match Try.f5.body with | some c => c | none => .skip
theorem bd5 : Try.f5.body = some cd5 := by kernel_rfl
noncomputable def cd6 : Code := match Try.f6.body with | some c => c | none => .skip
theorem bd6 : Try.f6.body = some cd6 := by kernel_rfl
noncomputable def zhM : Code := match Try.f12.body with | some c => c | none => .skip
theorem zhT : Try.f12.body = some zhM := by kernel_rfl
noncomputable def zhL : Code := match Try.f13.body with | some c => c | none => .skip
theorem zhS : Try.f13.body = some zhL := by kernel_rfl
noncomputable def zhK : Code := match Try.f15.body with | some c => c | none => .skip
theorem zhR : Try.f15.body = some zhK := by kernel_rfl
noncomputable def zhJ : Code := match Try.f21.body with | some c => c | none => .skip
theorem zhQ : Try.f21.body = some zhJ := by kernel_rfl
noncomputable def zhI : Code := match Try.f22.body with | some c => c | none => .skip
theorem zhP : Try.f22.body = some zhI := by kernel_rfl
noncomputable def zhH : Code := match Try.f31.body with | some c => c | none => .skip
theorem zhO : Try.f31.body = some zhH := by kernel_rfl
noncomputable def zhG : Code := match Try.f33.body with | some c => c | none => .skip
theorem zhN : Try.f33.body = some zhG := by kernel_rfl
noncomputable def xt : z0b -> z0b := xtF
noncomputable def L : z0b := Lim Try.prog xt z2w
theorem zfS {f : FuncId} {c : Cfg} {fn : Func} {args : List T} {o : T × List T} (hc : z2w f = some c) (hfn : Try.prog.funcs[f]? = some fn) (h : z6E Try.prog L c LFm fn args = some o) : L f args = some o := zbz hc hfn h
end
section
open Go
theorem zeK {f : FuncId} {cf : Cfg} {fn : Func} {c : Code} {args : List T} {r : T} {outs : List T} (hc : z2w f = some cf) (hfn : Try.prog.funcs[f]? = some fn) (hb : fn.body = some c) (ha : args.length <= fn.ntmps /\ (args.filter z1v).length <= 1 := by exact ⟨of_decide_eq_true rfl, of_decide_eq_true rfl⟩) (hz : cf.fz 999998 = none := by rfl) (g : wpC Try.prog L cf LFm c (z1H fn.ntmps args) (zeE Try.prog fn args r outs) := by simp only [z1H, z2d, z1X, z3c, z1v]; exact z5P) : L f args = some (r, outs) := zfS hc hfn (ze7 hb ha g hz)
theorem zfT {f : FuncId} {cf : Cfg} {fn : Func} {c : Code} {args : List T} {r : T} {outs : List T} (hc : z2w f = some cf) (hfn : Try.prog.funcs[f]? = some fn) (hb : fn.body = some c) (ha : args.length <= fn.ntmps /\ (args.filter z1v).length <= 1 := by exact ⟨of_decide_eq_true rfl, of_decide_eq_true rfl⟩) (hz : (cf.fz 999998).isSome = true := by rfl) (g : wpC Try.prog L cf LFm c (z1H fn.ntmps args) (zeD Try.prog fn args r outs) := by simp only [z1H, z2d, z1X, z3c, z1v]; exact z5P) : L f args = some (r, outs) := zfS hc hfn (zcH hb ha hz g)
end
section
open Go
theorem zdO {a0 a1 : ByteArray} {r : Int} (h : zeM a0 a1 = some r) : L 26 [.sc (.string a0), .sc (.string a1)] = some (.sc (.int .i64 r), [.dead, .dead]) := by
  refine z8n rfl fun C => ?_
  simp only [xt, xtF, xtC, Nat.reduceEqDiff, if_true, if_false, zfV, h, Option.map_some]
instance {a0 a1 : ByteArray} : Ok (zeM a0 a1) (fun r => L 26 [.sc (.string a0), .sc (.string a1)] = some (.sc (.int .i64 r), [.dead, .dead])) := ⟨fun _ h => zdO h⟩
theorem zcA {a0 a1 : Int} {r : Int} (h : z9W a0 a1 = some r) : L 25 [.sc (.int .i64 a0), .sc (.int .i64 a1)] = some (.sc (.int .i64 r), [.dead, .dead]) := by
  refine z8n rfl fun C => ?_
  simp only [xt, xtF, xtC, Nat.reduceEqDiff, if_true, if_false, zcx, h, Option.map_some]
instance {a0 a1 : Int} : Ok (z9W a0 a1) (fun r => L 25 [.sc (.int .i64 a0), .sc (.int .i64 a1)] = some (.sc (.int .i64 r), [.dead, .dead])) := ⟨fun _ h => zcA h⟩
theorem zdM {a0 a1 : ByteArray} {a2 r : Int} (h : zdN a0 a1 a2 = some r) : L 14 [.sc (.string a0), .sc (.string a1), .sc (.int .i64 a2)] = some (.sc (.int .i64 r), [.dead, .dead, .dead]) := by
  refine z8n rfl fun C => ?_
  simp only [xt, xtF, xtC, Nat.reduceEqDiff, if_true, if_false, zfU, h, Option.map_some]
instance {a0 a1 : ByteArray} {a2 : Int} : Ok (zdN a0 a1 a2) (fun r => L 14 [.sc (.string a0), .sc (.string a1), .sc (.int .i64 a2)] = some (.sc (.int .i64 r), [.dead, .dead, .dead])) := ⟨fun _ h => zdM h⟩
end
section
open Go
noncomputable section
set_option maxRecDepth 100000
set_option maxHeartbeats 6000000
def z1U (a0 : ByteArray) (a1 : Int) : Option (ByteArray) :=
  (z4N a0 0 (if a1 < (a0.size : Int) then a1 else (a0.size : Int))).bind fun v2 =>
  some v2
theorem z4b {a0 : ByteArray} {a1 : Int} {r : ByteArray} (h : z1U a0 a1 = some r) : L 6 [.sc (.string a0), .sc (.int .i64 a1)] = some (.sc (.string r), [.dead, .dead]) := by
  have h := zbo h; unfold z1U at h; exact zeK zhD fn6 bd6
def z1e (a0 : ByteArray) (a1 : ByteArray) : Option (Int) :=
  if a0.size < a1.size then
    some (-1)
  else
    if (a0.size : Int) = (a1.size : Int) then
      if (zb0 a0 a1) = true then
        some (-1)
      else
        if a0 = a1 then
          some 0
        else
          some 1
    else
      if a0 = a1 then
        some 0
      else
        some 1
instance ref01_Compare_ok {a0 : ByteArray} {a1 : ByteArray} : Ok (z1e a0 a1) (fun r => L 31 [.sc (.string a0), .sc (.string a1)] = some (.sc (.int .i64 r), [.dead, .dead])) := ⟨fun r h => by have h := zbo h; unfold z1e at h; exact zeK zgW zht zhO⟩
abbrev z1l (a0 : ByteArray) (a1 : ByteArray) : Int × Int -> Option ((Int × Int) ⊕ Bool)
  | (w11, w12) =>
  if w12 < (a1.size : Int) then
    if w11 < (a0.size : Int) then
      (z7I a1 w12).bind fun v15 =>
      (z7I a0 w11).bind fun v16 =>
      if v15 = v16 then
        z1E (IntKind.i64.wrap (w11 + 1), IntKind.i64.wrap (w12 + 1))
      else
        z1E (w11, IntKind.i64.wrap (w12 + 1))
    else
      z1K <|
      some (decide (w11 = (a0.size : Int)))
  else
    z1K <|
    some (decide (w11 = (a0.size : Int)))
instance {a0 : ByteArray} {a1 : ByteArray} : Hd (z1l a0 a1) := ⟨fun (w11, w12) => ([(5, xI w11), (6, xI w12)], [])⟩
def z0s (a0 : ByteArray) (a1 : ByteArray) : Option (Bool) :=
  z1Y (z1l a0 a1) LFm (0, 0)
instance word_IsSubword_ok {a0 : ByteArray} {a1 : ByteArray} : Ok (z0s a0 a1) (fun r => L 13 [.sc (.string a0), .sc (.string a1)] = some (.sc (.bool r), [.dead, .dead])) := ⟨fun r h => by have h := zbo h; unfold z0s at h; exact zeK zh0 zhx zhS⟩
def z1y (a0 : ByteArray) (a1 : ByteArray) : Option (Int) :=
  if (a0.size : Int) = (a1.size : Int) then
    (zeM a0 a1).bind fun v3 =>
    some v3
  else
    (z9W (a0.size : Int) (a1.size : Int)).bind fun v4 =>
    some v4
instance word_Compare_ok {a0 : ByteArray} {a1 : ByteArray} : Ok (z1y a0 a1) (fun r => L 15 [.sc (.string a0), .sc (.string a1)] = some (.sc (.int .i64 r), [.dead, .dead])) := ⟨fun r h => by have h := zbo h; unfold z1y at h; exact zeK zgZ zhw zhR⟩
def z0r (a0 : Int) : Option (Int) :=
  chk (¬ 1 < 0) <|
  chk (¬ 2 < 0) <|
  chk (¬ 4 < 0) <|
  chk (¬ 8 < 0) <|
  chk (¬ 16 < 0) <|
  chk (¬ 32 < 0) <|
  some (z0l .i64 (IntKind.i64.wrap (IntKind.u64.wrap ((IntKind.u64.wrap ((IntKind.u64.wrap ((z0l .u64 (IntKind.u64.wrap ((z0M .u64 (IntKind.u64.wrap ((z0l .u64 (z0M .u64 (IntKind.u64.wrap ((z0l .u64 (z0M .u64 a0 1) 6148914691236517205) + (z0l .u64 a0 6148914691236517205))) 2) 3689348814741910323) + (z0l .u64 (IntKind.u64.wrap ((z0l .u64 (z0M .u64 a0 1) 6148914691236517205) + (z0l .u64 a0 6148914691236517205))) 3689348814741910323))) 4) + (IntKind.u64.wrap ((z0l .u64 (z0M .u64 (IntKind.u64.wrap ((z0l .u64 (z0M .u64 a0 1) 6148914691236517205) + (z0l .u64 a0 6148914691236517205))) 2) 3689348814741910323) + (z0l .u64 (IntKind.u64.wrap ((z0l .u64 (z0M .u64 a0 1) 6148914691236517205) + (z0l .u64 a0 6148914691236517205))) 3689348814741910323))))) 1085102592571150095) + (z0M .u64 (z0l .u64 (IntKind.u64.wrap ((z0M .u64 (IntKind.u64.wrap ((z0l .u64 (z0M .u64 (IntKind.u64.wrap ((z0l .u64 (z0M .u64 a0 1) 6148914691236517205) + (z0l .u64 a0 6148914691236517205))) 2) 3689348814741910323) + (z0l .u64 (IntKind.u64.wrap ((z0l .u64 (z0M .u64 a0 1) 6148914691236517205) + (z0l .u64 a0 6148914691236517205))) 3689348814741910323))) 4) + (IntKind.u64.wrap ((z0l .u64 (z0M .u64 (IntKind.u64.wrap ((z0l .u64 (z0M .u64 a0 1) 6148914691236517205) + (z0l .u64 a0 6148914691236517205))) 2) 3689348814741910323) + (z0l .u64 (IntKind.u64.wrap ((z0l .u64 (z0M .u64 a0 1) 6148914691236517205) + (z0l .u64 a0 6148914691236517205))) 3689348814741910323))))) 1085102592571150095) 8))) + (z0M .u64 (IntKind.u64.wrap ((z0l .u64 (IntKind.u64.wrap ((z0M .u64 (IntKind.u64.wrap ((z0l .u64 (z0M .u64 (IntKind.u64.wrap ((z0l .u64 (z0M .u64 a0 1) 6148914691236517205) + (z0l .u64 a0 6148914691236517205))) 2) 3689348814741910323) + (z0l .u64 (IntKind.u64.wrap ((z0l .u64 (z0M .u64 a0 1) 6148914691236517205) + (z0l .u64 a0 6148914691236517205))) 3689348814741910323))) 4) + (IntKind.u64.wrap ((z0l .u64 (z0M .u64 (IntKind.u64.wrap ((z0l .u64 (z0M .u64 a0 1) 6148914691236517205) + (z0l .u64 a0 6148914691236517205))) 2) 3689348814741910323) + (z0l .u64 (IntKind.u64.wrap ((z0l .u64 (z0M .u64 a0 1) 6148914691236517205) + (z0l .u64 a0 6148914691236517205))) 3689348814741910323))))) 1085102592571150095) + (z0M .u64 (z0l .u64 (IntKind.u64.wrap ((z0M .u64 (IntKind.u64.wrap ((z0l .u64 (z0M .u64 (IntKind.u64.wrap ((z0l .u64 (z0M .u64 a0 1) 6148914691236517205) + (z0l .u64 a0 6148914691236517205))) 2) 3689348814741910323) + (z0l .u64 (IntKind.u64.wrap ((z0l .u64 (z0M .u64 a0 1) 6148914691236517205) + (z0l .u64 a0 6148914691236517205))) 3689348814741910323))) 4) + (IntKind.u64.wrap ((z0l .u64 (z0M .u64 (IntKind.u64.wrap ((z0l .u64 (z0M .u64 a0 1) 6148914691236517205) + (z0l .u64 a0 6148914691236517205))) 2) 3689348814741910323) + (z0l .u64 (IntKind.u64.wrap ((z0l .u64 (z0M .u64 a0 1) 6148914691236517205) + (z0l .u64 a0 6148914691236517205))) 3689348814741910323))))) 1085102592571150095) 8))) 16))) + (z0M .u64 (IntKind.u64.wrap ((IntKind.u64.wrap ((z0l .u64 (IntKind.u64.wrap ((z0M .u64 (IntKind.u64.wrap ((z0l .u64 (z0M .u64 (IntKind.u64.wrap ((z0l .u64 (z0M .u64 a0 1) 6148914691236517205) + (z0l .u64 a0 6148914691236517205))) 2) 3689348814741910323) + (z0l .u64 (IntKind.u64.wrap ((z0l .u64 (z0M .u64 a0 1) 6148914691236517205) + (z0l .u64 a0 6148914691236517205))) 3689348814741910323))) 4) + (IntKind.u64.wrap ((z0l .u64 (z0M .u64 (IntKind.u64.wrap ((z0l .u64 (z0M .u64 a0 1) 6148914691236517205) + (z0l .u64 a0 6148914691236517205))) 2) 3689348814741910323) + (z0l .u64 (IntKind.u64.wrap ((z0l .u64 (z0M .u64 a0 1) 6148914691236517205) + (z0l .u64 a0 6148914691236517205))) 3689348814741910323))))) 1085102592571150095) + (z0M .u64 (z0l .u64 (IntKind.u64.wrap ((z0M .u64 (IntKind.u64.wrap ((z0l .u64 (z0M .u64 (IntKind.u64.wrap ((z0l .u64 (z0M .u64 a0 1) 6148914691236517205) + (z0l .u64 a0 6148914691236517205))) 2) 3689348814741910323) + (z0l .u64 (IntKind.u64.wrap ((z0l .u64 (z0M .u64 a0 1) 6148914691236517205) + (z0l .u64 a0 6148914691236517205))) 3689348814741910323))) 4) + (IntKind.u64.wrap ((z0l .u64 (z0M .u64 (IntKind.u64.wrap ((z0l .u64 (z0M .u64 a0 1) 6148914691236517205) + (z0l .u64 a0 6148914691236517205))) 2) 3689348814741910323) + (z0l .u64 (IntKind.u64.wrap ((z0l .u64 (z0M .u64 a0 1) 6148914691236517205) + (z0l .u64 a0 6148914691236517205))) 3689348814741910323))))) 1085102592571150095) 8))) + (z0M .u64 (IntKind.u64.wrap ((z0l .u64 (IntKind.u64.wrap ((z0M .u64 (IntKind.u64.wrap ((z0l .u64 (z0M .u64 (IntKind.u64.wrap ((z0l .u64 (z0M .u64 a0 1) 6148914691236517205) + (z0l .u64 a0 6148914691236517205))) 2) 3689348814741910323) + (z0l .u64 (IntKind.u64.wrap ((z0l .u64 (z0M .u64 a0 1) 6148914691236517205) + (z0l .u64 a0 6148914691236517205))) 3689348814741910323))) 4) + (IntKind.u64.wrap ((z0l .u64 (z0M .u64 (IntKind.u64.wrap ((z0l .u64 (z0M .u64 a0 1) 6148914691236517205) + (z0l .u64 a0 6148914691236517205))) 2) 3689348814741910323) + (z0l .u64 (IntKind.u64.wrap ((z0l .u64 (z0M .u64 a0 1) 6148914691236517205) + (z0l .u64 a0 6148914691236517205))) 3689348814741910323))))) 1085102592571150095) + (z0M .u64 (z0l .u64 (IntKind.u64.wrap ((z0M .u64 (IntKind.u64.wrap ((z0l .u64 (z0M .u64 (IntKind.u64.wrap ((z0l .u64 (z0M .u64 a0 1) 6148914691236517205) + (z0l .u64 a0 6148914691236517205))) 2) 3689348814741910323) + (z0l .u64 (IntKind.u64.wrap ((z0l .u64 (z0M .u64 a0 1) 6148914691236517205) + (z0l .u64 a0 6148914691236517205))) 3689348814741910323))) 4) + (IntKind.u64.wrap ((z0l .u64 (z0M .u64 (IntKind.u64.wrap ((z0l .u64 (z0M .u64 a0 1) 6148914691236517205) + (z0l .u64 a0 6148914691236517205))) 2) 3689348814741910323) + (z0l .u64 (IntKind.u64.wrap ((z0l .u64 (z0M .u64 a0 1) 6148914691236517205) + (z0l .u64 a0 6148914691236517205))) 3689348814741910323))))) 1085102592571150095) 8))) 16))) 32)))) 127)
instance math_bits_OnesCount64_ok {a0 : Int} : Ok (z0r a0) (fun r => L 33 [.sc (.int .u64 a0)] = some (.sc (.int .i64 r), [.dead])) := ⟨fun r h => by have h := zbo h; unfold z0r at h; exact zeK zgV zhs zhN⟩
def z0d (a0 : Int) : Option (Int) :=
  (z0r a0).bind fun v2 =>
  some v2
instance math_bits_OnesCount_ok {a0 : Int} : Ok (z0d a0) (fun r => L 22 [.sc (.int .u64 a0)] = some (.sc (.int .i64 r), [.dead])) := ⟨fun r h => by have h := zbo h; unfold z0d at h; exact zeK zgX zhu zhP⟩
end
end
section
theorem zhd (a b : Nat) : (a + 1 + b = a + (b + 1)) = True := by simp only [eq_iff_iff, iff_true]; omega
end
section
open Go
noncomputable section
set_option maxRecDepth 100000
set_option maxHeartbeats 6000000
attribute [local simp] zhd
abbrev z1d (a0 : List ByteArray) (a1 : ByteArray) : Int -> Option (Int ⊕ List ByteArray)
  | w15 =>
  if 0 < w15 then
    (atI a0 (IntKind.i64.wrap (w15 - 1))).bind fun v18 =>
    (z1e a1 v18).bind fun v19 =>
    if v19 < 0 then
      z1E (IntKind.i64.wrap (w15 - 1))
    else
      z1K <|
      if v18 = a1 then
        some a0
      else
        (z1g a0 0 w15).bind fun v21 =>
        (z1g a0 w15 (a0.length : Int)).bind fun v22 =>
        chk (z2x 16 (v21.length)) <|
        chk (z2x 16 (v21.length + 1)) <|
        chk (z2x 16 (v21.length + 1 + v22.length)) <|
        some ((v21 ++ [a1]) ++ v22)
  else
    z1K <|
    (z1g a0 0 w15).bind fun v23 =>
    (z1g a0 w15 (a0.length : Int)).bind fun v24 =>
    chk (z2x 16 (v23.length)) <|
    chk (z2x 16 (v23.length + 1)) <|
    chk (z2x 16 (v23.length + 1 + v24.length)) <|
    some ((v23 ++ [a1]) ++ v24)
instance {a0 : List ByteArray} {a1 : ByteArray} : Hd (z1d a0 a1) := ⟨fun w15 => ([(5, xI w15)], [])⟩
def z1z (a0 : List ByteArray) (a1 : ByteArray) : Option (List ByteArray) :=
  z1Y (z1d a0 a1) LFm (a0.length : Int)
instance ref01_Insert_ok {a0 : List ByteArray} {a1 : ByteArray} : Ok (z1z a0 a1) (fun r => L 21 [.sl a0.length (a0.map fun x0 => .sc (.string x0)), .sc (.string a1)] = some (.sl r.length (r.map fun x0 => .sc (.string x0)), [.dead, .dead])) := ⟨fun r h => by have h := zbo h; unfold z1z at h; exact zfT zgY zhv zhQ⟩
abbrev z0v (a0 : ByteArray) (a1 : Int) (w45 : List ByteArray) (w46 : Int) : List ByteArray × Int -> Option ((List ByteArray × Int) ⊕ ((List ByteArray × Int) ⊕ List ByteArray))
  | (w61, w62) =>
  if w62 < (w45.length : Int) then
    (atI w45 w62).bind fun v66 =>
    if (v66.size : Int) < a1 then
      (z4N a0 w46 (IntKind.i64.wrap (w46 + 1))).bind fun v67 =>
      chk (z7D v66 v67) <|
      (z1z w61 (v66 ++ v67)).bind fun v68 =>
      z1E (v68, IntKind.i64.wrap (w62 + 1))
    else
      z1E (w61, IntKind.i64.wrap (w62 + 1))
  else
    z1K <|
    z1E (w61, IntKind.i64.wrap (w46 + 1))
instance {a0 : ByteArray} {a1 : Int} {w45 : List ByteArray} {w46 : Int} : Hd (z0v a0 a1 w45 w46) := ⟨fun (w61, w62) => ([(5, .one (.t none (.sl w61.length (w61.map fun x0 => .sc (.string x0))))), (20, xI w62)], [])⟩
abbrev z0I (a0 : ByteArray) (a1 : Int) : List ByteArray × Int -> Option ((List ByteArray × Int) ⊕ List ByteArray)
  | (w45, w46) =>
  if w46 < (a0.size : Int) then
    z1Y (z0v a0 a1 w45 w46) LFm (w45, 0)
  else
    z1K <|
    some w45
instance {a0 : ByteArray} {a1 : Int} : Hd (z0I a0 a1) := ⟨fun (w45, w46) => ([(5, .one (.t none (.sl w45.length (w45.map fun x0 => .sc (.string x0))))), (6, xI w46)], [])⟩
def z0Q (a0 : ByteArray) (a1 : Int) : Option (List ByteArray) :=
  z1Y (z0I a0 a1) LFm ([ByteArray.empty], 0)
instance ref01_Subwords_ok {a0 : ByteArray} {a1 : Int} : Ok (z0Q a0 a1) (fun r => L 12 [.sc (.string a0), .sc (.int .i64 a1)] = some (.sl r.length (r.map fun x0 => .sc (.string x0)), [.dead, .dead])) := ⟨fun r h => by have h := zbo h; unfold z0Q at h; exact zfT zh1 zhy zhT⟩
end
end
section
open Go
theorem z5K {a b c : ByteArray} (h1 : z1w a b < 0) (h2 : z1w b c < 0) : z1w a c < 0 := by
  have h3 : z1w a c <= 0 := z2R _ _ _ (Int.le_of_lt h1) (Int.le_of_lt h2)
  rcases Int.lt_or_eq_of_le h3 with h | h
  · exact h
  · have e := (z0R a c).1 h
    subst e
    have := z0E a b
    omega
theorem zeZ {k : Nat} (h : k < 4611686018427387904) (h0 : 0 < k) : IntKind.i64.wrap ((k : Int) - 1) = ((k - 1 : Nat) : Int) := by
  rw [IntKind.wrap_i64]; omega
theorem zcC (a b : ByteArray) : zb0 a b = decide (Lib.compareBytes a.data.toList b.data.toList = -1) := by
  unfold zb0
  rw [ByteArray.toList_eq, ByteArray.toList_eq]
  exact zcb _ _
theorem zbj (a b : ByteArray) : z1e a b = some (z1w a b) := by
  unfold z1e
  rcases Nat.lt_trichotomy a.size b.size with h | h | h
  · rw [if_pos h, z8A h]
  · rw [if_neg (by omega), if_pos (by omega), zcC, z5c h]
    rcases z9D a.data.toList b.data.toList with h1 | h1 | h1
    · rw [h1, if_pos (by simp)]
    · rw [h1, if_neg (by simp), if_pos]
      exact (z0R a b).1 (by rw [z5c h, h1])
    · rw [h1, if_neg (by simp), if_neg]
      rintro rfl
      have := (z0R a a).2 rfl
      rw [z5c h, h1] at this
      omega
  · have hne : ¬ a = b := by rintro rfl; omega
    rw [if_neg (by omega), if_neg (by omega), if_neg hne, z8B h]
theorem zey {E : List ByteArray} {x : ByteArray} (hs : E.Pairwise fun a b => z1w a b < 0) (hl : E.length <= 1000000) :
    ∃ F, z1z E x = some F /\ (F.Pairwise fun a b => z1w a b < 0) /\ (∀ e, e ∈ F ↔ e ∈ E ∨ e = x) /\ F.length <= E.length + 1 := by
  have build : ∀ k : Nat, k <= E.length -> (∀ j (hj : j < E.length), j < k -> z1w E[j] x < 0) -> (∀ j (hj : j < E.length), k <= j -> z1w x E[j] < 0) -> (((z1g E 0 (k : Int)).bind fun v23 => (z1g E (k : Int) (E.length : Int)).bind fun v24 => chk (z2x 16 (v23.length)) <| chk (z2x 16 (v23.length + 1)) <| chk (z2x 16 (v23.length + 1 + v24.length)) <| some ((v23 ++ [x]) ++ v24)) = some ((E.take k ++ [x]) ++ E.drop k)) /\
      ((E.take k ++ [x] ++ E.drop k).Pairwise fun a b => z1w a b < 0) /\ (∀ e, e ∈ E.take k ++ [x] ++ E.drop k ↔ e ∈ E ∨ e = x) /\ (E.take k ++ [x] ++ E.drop k).length <= E.length + 1 := fun k hk hlo hhi => by
    have hmem : ∀ e, e ∈ E ↔ e ∈ E.take k ∨ e ∈ E.drop k := fun e => by rw [← List.mem_append, List.take_append_drop]
    have hlt : ∀ e ∈ E.take k, z1w e x < 0 := fun e he => by
      obtain ⟨j, hj, rfl⟩ := List.getElem_of_mem he
      rw [List.length_take] at hj
      rw [List.getElem_take]; exact hlo j (by omega) (by omega)
    have hgt : ∀ e ∈ E.drop k, z1w x e < 0 := fun e he => by
      obtain ⟨j, hj, rfl⟩ := List.getElem_of_mem he
      rw [List.length_drop] at hj
      rw [List.getElem_drop]; exact hhi (k + j) (by omega) (by omega)
    refine ⟨?_, ?_, fun e => ?_, ?_⟩
    · rw [zbm hk, Option.bind_some, z8c hk, Option.bind_some]
      have e1 : (E.take k).length = k := by rw [List.length_take]; omega
      have e2 : (E.drop k).length = E.length - k := List.length_drop ..
      rw [z1s _ (by unfold z2x; omega), z1s _ (by unfold z2x; omega), z1s _ (by unfold z2x; omega)]
    · rw [List.pairwise_append, List.pairwise_append]
      refine ⟨⟨hs.sublist (List.take_sublist _ _), by simp, fun a ha b hb => ?_⟩, hs.sublist (List.drop_sublist _ _), fun a ha b hb => ?_⟩
      · obtain rfl := List.mem_singleton.1 hb; exact hlt a ha
      · rcases List.mem_append.1 ha with ha | ha
        · exact z5K (hlt a ha) (hgt b hb)
        · obtain rfl := List.mem_singleton.1 ha; exact hgt b hb
    · rw [List.mem_append, List.mem_append, List.mem_singleton, hmem]
      constructor
      · rintro ((h | h) | h)
        · exact .inl (.inl h)
        · exact .inr h
        · exact .inl (.inr h)
      · rintro ((h | h) | h)
        · exact .inl (.inl h)
        · exact .inr h
        · exact .inl (.inr h)
    · simp only [List.length_append, List.length_take, List.length_drop, List.length_singleton]; omega
  unfold z1z
  refine Exists.elim (z1O (b := z1d E x) (fun z => ∃ k : Nat, z = (k : Int) /\ k <= E.length /\ ∀ j (hj : j < E.length), k <= j -> z1w x E[j] < 0) (fun z => z.toNat)
    (fun F => (F.Pairwise fun a b => z1w a b < 0) /\ (∀ e, e ∈ F ↔ e ∈ E ∨ e = x) /\ F.length <= E.length + 1) ?_ LFm (E.length : Int) ⟨E.length, rfl, Nat.le_refl _, fun j hj h => by omega⟩ (by simp only [LFm]; omega)) fun F h => ⟨F, h.1, h.2⟩
  rintro z ⟨k, rfl, hk, hhi⟩
  simp only [z1d]
  by_cases k0 : k = 0
  · subst k0
    right
    rw [if_neg (by omega)]
    obtain ⟨b1, b2⟩ := build 0 (by omega) (fun j hj h => by omega) hhi
    exact ⟨_, by unfold z1K; rw [b1]; rfl, b2⟩
  · have hk1 : k - 1 < E.length := by omega
    rw [if_pos (by omega), zeZ (by omega) (by omega), z6A hk1, Option.bind_some, zbj, Option.bind_some]
    by_cases hc : z1w x E[k - 1] < 0
    · left
      rw [if_pos hc]
      refine ⟨_, rfl, ⟨k - 1, rfl, by omega, fun j hj h => ?_⟩, by omega⟩
      by_cases e : j = k - 1
      · subst e; exact hc
      · exact hhi j hj (by omega)
    · right
      rw [if_neg hc]
      by_cases he : E[k - 1] = x
      · rw [if_pos he]
        have hm : x ∈ E := he ▸ List.getElem_mem hk1
        exact ⟨E, rfl, hs, fun e => ⟨fun h => .inl h, fun h => h.elim id fun h => h ▸ hm⟩, Nat.le_succ _⟩
      · rw [if_neg he]
        have hlt : z1w E[k - 1] x < 0 := by
          have h1 := z0E x E[k - 1]
          have h2 : z1w x E[k - 1] ≠ 0 := fun h => he ((z0R _ _).1 h).symm
          omega
        have hlo : ∀ j (hj : j < E.length), j < k -> z1w E[j] x < 0 := fun j hj h => by
          by_cases e : j = k - 1
          · subst e; exact hlt
          · exact z5K (List.pairwise_iff_getElem.1 hs j (k - 1) hj hk1 (by omega)) hlt
        obtain ⟨b1, b2⟩ := build k hk hlo hhi
        exact ⟨_, by unfold z1K; rw [b1]; rfl, b2⟩
theorem zaZ {a b : List ByteArray} (ha : a.Pairwise fun x y => z1w x y < 0) (hb : b.Pairwise fun x y => z1w x y < 0) (h : ∀ x, x ∈ a ↔ x ∈ b) : a = b := by
  have nd : ∀ {l : List ByteArray}, (l.Pairwise fun x y => z1w x y < 0) -> l.Nodup := fun h => h.imp fun {x y} hxy e => by
    subst e
    have := (z0R x x).2 rfl
    omega
  refine List.Perm.eq_of_pairwise (le := fun x y => z1w x y < 0) (fun x y _ _ h1 h2 => ?_) ha hb ((List.perm_ext_iff_of_nodup (nd ha) (nd hb)).2 h)
  have := z0E x y
  omega
theorem z6J {l : List ByteArray} (h : l.Nodup) : (z3f l).Pairwise fun x y => z1w x y < 0 := by
  have h1 := z2a l
  have h2 : (z3f l).Nodup := (z1m l).nodup_iff.2 h
  refine (h1.and h2).imp fun {x y} hxy => ?_
  obtain ⟨h3, h4⟩ := hxy
  simp only [leW, decide_eq_true_eq] at h3
  have : z1w x y ≠ 0 := fun e => h4 ((z0R _ _).1 e)
  omega
end
section
open Go Go.RowKit Go.Sort Go.Maps
set_option maxRecDepth 100000
set_option maxHeartbeats 4000000
def toB (x : Wd) : List UInt8 := x.1.data.toList
def mkB (l : List UInt8) : ByteArray := ⟨⟨l⟩⟩
theorem z6t (x : Wd) : zda x = encStr (toB x) := by
  obtain ⟨⟨⟨l⟩⟩, h⟩ := x
  simp [zda, toB, encStr]
theorem zet (x : Wd) : mkB (toB x) = x.1 := by
  obtain ⟨⟨⟨l⟩⟩, h⟩ := x
  rfl
theorem zdu : ∀ ss : List (List UInt8), (∀ x ∈ ss, x.length <= maxLen) -> ∃ ds : List Wd, ds.map toB = ss
  | [], _ => ⟨[], rfl⟩
  | x :: ss, h => by
    obtain ⟨ds, e⟩ := zdu ss fun y hy => h y (List.mem_cons_of_mem _ hy)
    refine ⟨⟨mkB x, h x (List.mem_cons_self ..)⟩ :: ds, ?_⟩
    rw [List.map_cons, e]; rfl
theorem z7Z (d : Array Wd) : putCells zda 0 d = putCells encStr 0 (d.map toB) := by
  funext c
  unfold putCells
  rw [Array.size_map]
  congr 1
  funext i x
  split
  · rename_i h
    have hd : i - 0 < d.size := by omega
    rw [getElem!_pos d _ hd, getElem!_pos (d.map toB) _ (by simpa using hd), Array.getElem_map, z6t]
  · rfl
theorem zb4 (g : Nat) (lb : Array Value) (eg : ∀ args w, (callFunc g args).run Try.prog w = .ok (.enter g args) w) (S : List (List UInt8) -> Prop) (N : Nat) (hN : N <= maxLen) (hNb : N * 16 <= 140737488355328) (hS : ∀ ss, S ss -> ∀ x ∈ ss, x.length <= maxLen) (w : World) (hseq : SeqGives Fence.wide 2 Try.prog g lb encStr S N w) :
    Calls Try.prog 23 #[.func (.func g) #[] lb, .func (.func 15) #[] #[]] w fun e w' => ∃ (v : Value) (ss : List (List UInt8)), e = .returned v /\ S ss /\
      w'.ownsRow w.heap.size 9 1 v ss.length ((z3f (ss.map mkB)).map Value.string) /\ Below w.heap.size w w' := by
  have hcol := callsIn_wide.1 (AnyZ.collect_in (ρ := Try.sorted17_ren) { Try.sorted17 with } Fence.wide 4 trivial trivial rfl (by omega) g lb trivial eg _ N hN hNb w hseq.bounded)
  go_enter Try.func23, Try.ntmps23
  go_wp2_with (go_at_call 27; refine hcol.mono ?_; rintro e W ⟨v, ss, rfl, ⟨hSs, hlen⟩, hrow, hnil, hb⟩)
  clear hcol
  rcases hrow.2 with ⟨rfl, hz⟩ | ⟨gb, cap, cur, rfl, hbase, hgb, r1, r2, r3, r4⟩
  · have hss : ss = [] := List.eq_nil_of_length_eq_zero hz
    subst hss
    go_wp2_with (go_at_call 34; refine (Try.slices_SortFunc_none (α := Wd) none 0 _ W).mono ?_; rintro e w' ⟨rfl, rfl⟩)
    go_ret
    exact ⟨.slice none 0 0, [], rfl, hSs, by show World.ownsRow _ _ (Try.sorted17_ren.t 26) _ _ _ _; simpa [z3f] using hrow, hb⟩
  · obtain ⟨ds, hds⟩ := zdu ss (hS ss hSs)
    have hdl : ds.length = ss.length := by rw [← hds, List.length_map]
    have hH0 : Holds encStr W gb 0 ss.toArray := holds_of_block hgb (by simpa using r4)
    have hH : Holds zda W gb 0 ds.toArray := fun j hj => by
      have hj1 : j < ds.length := by simpa using hj
      have h0 := hH0 j (by simpa [← hdl] using hj)
      have e : zda ds.toArray[j]! = encStr ss.toArray[j]! := by
        subst hds
        rw [z6t, getElem!_pos _ j hj, getElem!_pos _ j (by simpa using hj1)]
        simp
      rw [e]; exact h0
    have hgl : gb < W.heap.size := (Array.getElem?_eq_some_iff.1 hgb).1
    have cS := ze2 gb cap ds.toArray W hH hgl (by simp; omega)
    have hz0 : ds.toArray.size = ss.length := by simpa using hdl
    rw [hz0] at cS
    go_wp2_with (go_at_call 34; refine cS.mono ?_; rintro e w' ⟨rfl, nn, os, rfl⟩)
    go_ret
    have hts : (((ds.mergeSort fun x y => !(ltOf cfV) y x)).map toB).length = ss.length := by simp [hdl]
    have hval : (((ds.mergeSort fun x y => !(ltOf cfV) y x)).map toB).map encStr = (z3f (ss.map mkB)).map Value.string := by
      have e1 : ss.map mkB = ds.map (·.1) := by rw [← hds, List.map_map]; exact List.map_congr_left fun x _ => zet x
      rw [e1, ← zcY, List.map_map, List.map_map]
      exact List.map_congr_left fun x _ => by show encStr (toB x) = Value.string x.1; rw [← z6t]; rfl
    have hw : sortWorld zda W gb 0 nn (ds.mergeSort fun x y => !(ltOf cfV) y x).toArray os = grow (putRow encStr (Sort.ahead W nn) gb 0 ((ds.mergeSort fun x y => !(ltOf cfV) y x).map toB).toArray) os := by
      unfold sortWorld putRow
      rw [z7Z]
      simp
    refine ⟨_, ss, rfl, hSs, ?_, ?_⟩
    · rw [← hval]
      rw [hw]
      exact ownsRow_sorted hts hbase hgb r1 r2 r3
    · rw [hw]
      exact hb.grown (grownBy_sorted _) hb.size (fun j hj => by cases hj; exact hbase)
end
section
open Go
theorem z5E (a b : List UInt8) : mkB a ++ mkB b = mkB (a ++ b) := by
  apply ByteArray.ext
  apply Array.toList_inj.1
  simp [mkB]
theorem z2c (a : List UInt8) : (mkB a).size = a.length := rfl
theorem zcX (s : ByteArray) : mkB s.data.toList = s := by obtain ⟨⟨l⟩⟩ := s; rfl
theorem z5X {s : ByteArray} {a n : Nat} (h : a + n <= s.size) : z4N s (a : Int) ((a + n : Nat) : Int) = some (mkB ((s.data.toList.drop a).take n)) := by
  unfold z4N
  rw [if_pos (by omega), Int.toNat_natCast, Int.toNat_natCast]
  congr 1
  apply ByteArray.ext
  apply Array.toList_inj.1
  simp only [ByteArray.data_extract, Array.toList_extract, List.extract, mkB]
  rw [show a + n - a = n by omega]
theorem zfw {l : List UInt8} {k : Nat} (h : k < l.length) : (l.drop k).take 1 = [l[k]] := by
  rw [List.drop_eq_getElem_cons h]; rfl
theorem z5R {u l : List UInt8} {c : UInt8} : u.Sublist (l ++ [c]) ↔ u.Sublist l ∨ ∃ v, v.Sublist l /\ u = v ++ [c] := by
  rw [List.sublist_append_iff]
  constructor
  · rintro ⟨a, b, rfl, h1, h2⟩
    cases h2 with
    | cons _ h => rw [List.sublist_nil] at h; subst h; rw [List.append_nil]; exact .inl h1
    | cons_cons _ h => rw [List.sublist_nil] at h; subst h; exact .inr ⟨a, h1, rfl⟩
  · rintro (h | ⟨v, h, rfl⟩)
    · exact ⟨u, [], by simp, h, by simp⟩
    · exact ⟨v, [c], rfl, h, .refl _⟩
def zcr (l : List UInt8) (n : Int) (e : ByteArray) : Prop := ∃ u, u.Sublist l /\ (u.length : Int) <= n /\ e = mkB u
theorem zaY {l : List UInt8} {c : UInt8} {n : Int} {e : ByteArray} : zcr (l ++ [c]) n e ↔ zcr l n e ∨ ∃ x, zcr l n x /\ (x.size : Int) < n /\ e = x ++ mkB [c] := by
  unfold zcr
  constructor
  · rintro ⟨u, h1, h2, rfl⟩
    rcases z5R.1 h1 with h | ⟨v, h, rfl⟩
    · exact .inl ⟨u, h, h2, rfl⟩
    · rw [List.length_append, List.length_singleton] at h2
      exact .inr ⟨mkB v, ⟨v, h, by omega, rfl⟩, by rw [z2c]; omega, (z5E _ _).symm⟩
  · rintro (⟨u, h1, h2, rfl⟩ | ⟨x, ⟨u, h1, h2, rfl⟩, h3, rfl⟩)
    · exact ⟨u, z5R.2 (.inl h1), h2, rfl⟩
    · rw [z2c] at h3
      exact ⟨u ++ [c], z5R.2 (.inr ⟨u, h1, rfl⟩), by rw [List.length_append, List.length_singleton]; omega, z5E _ _⟩
theorem zbi {w : ByteArray} {n : Int} (hn : 0 <= n) (hw : w.size <= 16) : ∃ F, z0Q w n = some F /\ (F.Pairwise fun a b => z1w a b < 0) /\ (∀ e, e ∈ F ↔ zcr w.data.toList n e) /\ F.length <= 2 ^ 16 := by
  have hl : w.data.toList.length = w.size := by rw [Array.length_toList]; rfl
  unfold z0Q
  refine Exists.elim (z1O (b := z0I w n) (fun z => ∃ k : Nat, z.2 = (k : Int) /\ k <= w.size /\ (z.1.Pairwise fun a b => z1w a b < 0) /\ (∀ e, e ∈ z.1 ↔ zcr (w.data.toList.take k) n e) /\ z.1.length <= 2 ^ k) (fun z => w.size + 1 - z.2.toNat)
    (fun F => (F.Pairwise fun a b => z1w a b < 0) /\ (∀ e, e ∈ F ↔ zcr w.data.toList n e) /\ F.length <= 2 ^ 16) ?_ LFm ([ByteArray.empty], 0) ⟨0, rfl, by omega, by simp, fun e => ?_, by simp⟩ (by simp only [LFm]; omega)) fun F h => ⟨F, h.1, h.2⟩
  · rintro ⟨E, z⟩ ⟨k, hz, hk, hs, hm, hlen⟩
    simp only at hz hs hm hlen
    subst hz
    have hp : 2 ^ k <= 2 ^ 16 := Nat.pow_le_pow_right (by omega) (by omega)
    simp only [z0I]
    by_cases c1 : k < w.size
    · left
      rw [if_pos (by omega)]
      have hkl : k < w.data.toList.length := by omega
      have hinner : ∃ s, z1Y (z0v w n E (k : Int)) LFm (E, 0) = z1E s /\ s.2 = ((k + 1 : Nat) : Int) /\ (s.1.Pairwise fun a b => z1w a b < 0) /\ (∀ e, e ∈ s.1 ↔ e ∈ E ∨ ∃ x ∈ E, (x.size : Int) < n /\ e = x ++ mkB [w.data.toList[k]]) /\ s.1.length <= E.length + E.length := by
        refine Exists.elim (z1O (b := z0v w n E (k : Int)) (fun z => ∃ j : Nat, z.2 = (j : Int) /\ j <= E.length /\ (z.1.Pairwise fun a b => z1w a b < 0) /\ (∀ e, e ∈ z.1 ↔ e ∈ E ∨ ∃ x ∈ E.take j, (x.size : Int) < n /\ e = x ++ mkB [w.data.toList[k]]) /\ z.1.length <= E.length + j) (fun z => E.length + 1 - z.2.toNat)
          (fun r => ∃ s, r = Sum.inl s /\ s.2 = ((k + 1 : Nat) : Int) /\ (s.1.Pairwise fun a b => z1w a b < 0) /\ (∀ e, e ∈ s.1 ↔ e ∈ E ∨ ∃ x ∈ E, (x.size : Int) < n /\ e = x ++ mkB [w.data.toList[k]]) /\ s.1.length <= E.length + E.length) ?_ LFm (E, 0) ⟨0, rfl, by omega, hs, fun e => by simp, by simp⟩ (by simp only [LFm]; omega)) fun r h => ?_
        · rintro ⟨E1, z⟩ ⟨j, hz, hj, hs1, hm1, hlen1⟩
          simp only at hz hs1 hm1 hlen1
          subst hz
          simp only [z0v]
          by_cases c2 : j < E.length
          · left
            rw [if_pos (by omega), z6A c2, Option.bind_some]
            have hsz : E[j].size <= 16 := by
              obtain ⟨u, h1, h2, h3⟩ := (hm E[j]).1 (List.getElem_mem c2)
              rw [h3, z2c]
              have := h1.length_le
              rw [List.length_take] at this
              omega
            have htk : E.take (j + 1) = E.take j ++ [E[j]] := by rw [List.take_succ_eq_append_getElem c2]
            by_cases c3 : (E[j].size : Int) < n
            · rw [if_pos c3, z7T (by omega), z5X (n := 1) (by omega), Option.bind_some, zfw hkl, z1s _ (by unfold z7D; rw [z2c]; simp only [List.length_singleton]; omega)]
              obtain ⟨F, f1, f2, f3, f4⟩ := zey (x := E[j] ++ mkB [w.data.toList[k]]) hs1 (by omega)
              rw [f1, Option.bind_some, z7T (by omega)]
              refine ⟨_, rfl, ⟨j + 1, rfl, by omega, f2, fun e => ?_, by simp only; omega⟩, by simp only; omega⟩
              rw [f3, hm1, htk]
              simp only [List.mem_append, List.mem_singleton]
              constructor
              · rintro ((h | ⟨x, h1, h2⟩) | h)
                · exact .inl h
                · exact .inr ⟨x, .inl h1, h2⟩
                · exact .inr ⟨E[j], .inr rfl, c3, h⟩
              · rintro (h | ⟨x, h1 | h1, h2, h3⟩)
                · exact .inl (.inl h)
                · exact .inl (.inr ⟨x, h1, h2, h3⟩)
                · subst h1; exact .inr h3
            · rw [if_neg c3, z7T (by omega)]
              refine ⟨_, rfl, ⟨j + 1, rfl, by omega, hs1, fun e => ?_, by simp only; omega⟩, by simp only; omega⟩
              rw [hm1, htk]
              simp only [List.mem_append, List.mem_singleton]
              constructor
              · rintro (h | ⟨x, h1, h2⟩)
                · exact .inl h
                · exact .inr ⟨x, .inl h1, h2⟩
              · rintro (h | ⟨x, h1 | h1, h2, h3⟩)
                · exact .inl h
                · exact .inr ⟨x, h1, h2, h3⟩
                · subst h1; exact absurd h2 c3
          · right
            have hje : j = E.length := by omega
            subst hje
            rw [if_neg (by omega), z7T (by omega)]
            refine ⟨_, rfl, _, rfl, rfl, hs1, fun e => ?_, hlen1⟩
            rw [hm1, List.take_length]
        · obtain ⟨h1, s, rfl, h2⟩ := h
          exact ⟨s, h1, h2⟩
      obtain ⟨s, h1, h2, h3, h4, h5⟩ := hinner
      rw [h1]
      refine ⟨s, rfl, ⟨k + 1, h2, by omega, h3, fun e => ?_, by rw [Nat.pow_succ]; omega⟩, by rw [h2]; omega⟩
      rw [h4, List.take_succ_eq_append_getElem hkl, zaY]
      simp only [hm]
    · right
      have hke : k = w.size := by omega
      subst hke
      rw [if_neg (by omega)]
      refine ⟨E, rfl, hs, fun e => ?_, by omega⟩
      rw [hm, ← hl, List.take_length]
  · simp only [List.mem_singleton, List.take_zero]
    unfold zcr
    constructor
    · rintro rfl; exact ⟨[], .refl _, by simpa using hn, rfl⟩
    · rintro ⟨u, h1, h2, rfl⟩
      rw [List.sublist_nil] at h1
      subst h1; rfl
end
section
open Go
noncomputable section
set_option maxRecDepth 100000
set_option maxHeartbeats 6000000
attribute [local simp] zfO
abbrev z4F (a0 : ByteArray) (w27 : Int) (w28 : List (ByteArray × Bool)) : Int × List Int -> Option ((Int × List Int) ⊕ ((Int × (List (ByteArray × Bool))) ⊕ List (ByteArray × Bool)))
  | (w37, w38) =>
  if w37 < (a0.size : Int) then
    chk (¬ w37 < 0) <|
    if (z0l .u64 (z0M .u64 w27 w37) 1) = 1 then
      (z7I a0 w37).bind fun v40 =>
      chk (z2x 1 (w38.length + 1)) <|
      z1E (IntKind.i64.wrap (w37 + 1), w38 ++ [v40])
    else
      z1E (IntKind.i64.wrap (w37 + 1), w38)
  else
    z1K <|
    z1E (IntKind.u64.wrap (w27 + 1), z7O (z6x w38) true w28)
instance {a0 : ByteArray} {w27 : Int} {w28 : List (ByteArray × Bool)} : Hd (z4F a0 w27 w28) := ⟨fun (w37, w38) => ([(29, xI w37)], [(7, .os 1 w38.length (w38.map fun x0 => .sc (.int .u8 x0)))])⟩
abbrev z8R (a0 : ByteArray) (a1 : Int) : Int × (List (ByteArray × Bool)) -> Option ((Int × (List (ByteArray × Bool))) ⊕ List (ByteArray × Bool))
  | (w27, w28) =>
  if w27 < (zfX .u64 1 (a0.size : Int)) then
    (z0d w27).bind fun v35 =>
    if a1 < v35 then
      z1E (IntKind.u64.wrap (w27 + 1), w28)
    else
      z1Y (z4F a0 w27 w28) LFm (0, [])
  else
    z1K <|
    some w28
instance {a0 : ByteArray} {a1 : Int} : Hd (z8R a0 a1) := ⟨fun (w27, w28) => ([(20, .one (.t none (.sc (.int .u64 w27))))], [(5, .mp none (w28.map fun x0 => (.string x0.1, .bool x0.2)))])⟩
def zf7 (a0 : ByteArray) (a1 : Int) : Option (List (ByteArray × Bool)) :=
  if a1 < 0 then
    none
  else
    if 16 < (a0.size : Int) then
      none
    else
      chk (¬ (a0.size : Int) < 0) <|
      z1Y (z8R a0 a1) LFm (0, ([] : List (ByteArray × Bool)))
def zfW (a0 : ByteArray) (a1 : Int) : Option Unit :=
  if a1 < 0 then
    some ()
  else
    if 16 < (a0.size : Int) then
      some ()
    else
      none
theorem ze0 {a0 : ByteArray} {a1 : Int} {mp : List (ByteArray × Bool)} (h : zf7 a0 a1 = some mp) : wpC Try.prog L zfO LFm (zdd 4 z5g) (z1H 51 [.sc (.string a0), .sc (.int .i64 a1)]) (fun x fr => x = .n /\ z0n fr.tm 5 = .one (.h 5 []) /\ z0i fr.ob 5 = some (.mp none (mp.map fun x0 => (.string x0.1, .bool x0.2))) /\ fr.nt = 51) := by
  have h := zbo h
  unfold zf7 at h
  simp only [z1H, z2d, z1X, z3c, z1v]
  exact z5P
theorem zdZ {a0 : ByteArray} {a1 : Int} (h : zfW a0 a1 = some ()) : wpC Try.prog L zfO LFm (zdd 4 z5g) (z1H 51 [.sc (.string a0), .sc (.int .i64 a1)]) (fun x fr => x = .r /\ z4l Try.prog Try.f11 [] fr = some (.os 1 0 [], [])) := by
  have h := zbo h
  unfold zfW at h
  simp only [z1H, z2d, z1X, z3c, z1v]
  exact z5P
def zdv (a0 : ByteArray) (a1 : Int) : Option (List ByteArray) :=
  if a1 < 0 ∨ 16 < (a0.size : Int) then some [] else
  (zf7 a0 a1).bind fun mp => if (mp.map (·.1)).Nodup /\ (∀ s ∈ mp.map (·.1), s.size <= maxLen) /\ mp.length * 16 <= 140737488355328 then some (z3f (mp.map (·.1))) else none
instance vSub_okI {a0 : ByteArray} {a1 : Int} : Ok (zdv a0 a1) (fun r => L 11 [.sc (.string a0), .sc (.int .i64 a1)] = some (.sl r.length (r.map fun x0 => .sc (.string x0)), [.dead, .dead])) := ⟨fun r h => by
  unfold zdv at h
  split at h
  · rename_i hc
    cases h
    have hE : zfW a0 a1 = some () := by
      unfold zfW
      split
      · rfl
      · rename_i hn
        rcases hc with hc | hc
        · exact absurd hc hn
        · rw [if_pos hc]
    have hA := zdZ hE
    unfold wpC at hA
    obtain ⟨x, fr, hco, hx, hex⟩ := hA
    subst hx
    obtain ⟨n, hn⟩ := z3D _ hco
    refine z6h rfl ⟨n, fun m hm => ?_⟩
    show xtF (z0D Try.prog xt z2w m) _ _ = _
    unfold xtF
    rw [if_pos rfl]
    unfold zeL
    rw [if_pos ⟨by simp, by simp [z1v]⟩, hn m hm]
    simp only [hex, Option.bind_some, if_true]
    simp
  · obtain ⟨mp, h1, h2⟩ := z1L h
    split at h2
    case isFalse => cases h2
    rename_i hc
    obtain ⟨hnd, hsz, hby⟩ := hc
    have hr : z3f (mp.map (·.1)) = r := Option.some.inj h2
    have hA := ze0 h1
    unfold wpC at hA
    obtain ⟨x, fr, hco, hx, h5, ho, hnt⟩ := hA
    subst hx
    obtain ⟨n, hn⟩ := z3D _ hco
    refine z6h rfl ⟨n, fun m hm => ?_⟩
    show xtF (z0D Try.prog xt z2w m) _ _ = _
    unfold xtF
    rw [if_pos rfl]
    unfold zeL
    rw [if_pos ⟨by simp, by simp [z1v]⟩, hn m hm]
    simp only [h5, ho, z9f]
    rw [if_pos ⟨hnd, hsz, by simpa using hby, hnt⟩, hr]
    have hl : r.length = (mp.map (·.1)).length := by rw [← hr]; exact (List.mergeSort_perm _ _).length_eq
    rw [hl]
    rfl⟩
end
end
section
open Go
set_option maxRecDepth 100000
def cnt (c : Nat) : Nat := (List.range 11).countP fun q => c.testBit q
theorem zcR : ((List.range 2048).all fun c => z0d (c : Int) == some ((cnt c : Nat) : Int)) = true := by decide +kernel
end
section
open Go
set_option maxRecDepth 100000
theorem zbu {c : Nat} (h : c < 2048) : z0d (c : Int) = some ((cnt c : Nat) : Int) := by
  have := List.all_eq_true.1 zcR c (List.mem_range.2 h)
  simpa using this
theorem zen (c : Int) : ∃ k, z0d c = some k := by
  unfold z0d z0r
  rw [z1s _ (by omega), z1s _ (by omega), z1s _ (by omega), z1s _ (by omega), z1s _ (by omega), z1s _ (by omega)]
  exact ⟨_, rfl⟩
def z4g : Nat -> List UInt8 -> List UInt8
  | _, [] => []
  | c, x :: l => if c % 2 = 1 then x :: z4g (c / 2) l else z4g (c / 2) l
theorem z4J (x : UInt8) : ∀ (c : Nat) (l : List UInt8), z4g c (l ++ [x]) = z4g c l ++ if c.testBit l.length = true then [x] else []
  | c, [] => by
    simp only [List.nil_append, z4g, List.length_nil, Nat.testBit_zero, decide_eq_true_eq]
  | c, y :: l => by
    have ih := z4J x (c / 2) l
    have e : c.testBit (y :: l).length = (c / 2).testBit l.length := by rw [List.length_cons, Nat.testBit_succ]
    rw [List.cons_append, z4g, z4g, ih, e]
    split <;> simp
theorem z3s : ∀ (c : Nat) (l : List UInt8), (z4g c l).Sublist l
  | _, [] => .refl _
  | c, x :: l => by
    rw [z4g]
    split
    · exact (z3s (c / 2) l).cons_cons x
    · exact (z3s (c / 2) l).cons x
theorem ze5 {u l : List UInt8} (h : u.Sublist l) : ∃ c, c < 2 ^ l.length /\ z4g c l = u := by
  induction h with
  | slnil => exact ⟨0, by simp, rfl⟩
  | cons a h ih =>
    obtain ⟨c, h1, h2⟩ := ih
    refine ⟨2 * c, by rw [List.length_cons, Nat.pow_succ]; omega, ?_⟩
    rw [z4g, if_neg (by omega), show 2 * c / 2 = c by omega, h2]
  | cons_cons a h ih =>
    obtain ⟨c, h1, h2⟩ := ih
    refine ⟨2 * c + 1, by rw [List.length_cons, Nat.pow_succ]; omega, ?_⟩
    rw [z4g, if_pos (by omega), show (2 * c + 1) / 2 = c by omega, h2]
theorem z8T (c : Nat) (l : List UInt8) : ∀ k, k <= l.length -> (z4g c (l.take k)).length = (List.range k).countP fun q => c.testBit q
  | 0, _ => rfl
  | k + 1, h => by
    have hk : k < l.length := by omega
    rw [List.take_succ_eq_append_getElem hk, z4J, List.length_append, z8T c l k (by omega), List.range_succ, List.countP_append]
    have : (l.take k).length = k := by rw [List.length_take]; omega
    rw [this]
    by_cases hb : c.testBit k = true
    · simp [hb]
    · simp [hb]
theorem z9B {c N : Nat} (hc : c < 2 ^ N) : ∀ d, (List.range (N + d)).countP (fun q => c.testBit q) = (List.range N).countP fun q => c.testBit q
  | 0 => rfl
  | d + 1 => by
    rw [← Nat.add_assoc, List.range_succ, List.countP_append, z9B hc d]
    have : c.testBit (N + d) = false := Nat.testBit_lt_two_pow (Nat.lt_of_lt_of_le hc (Nat.pow_le_pow_right (by omega) (by omega)))
    simp [this]
theorem zfM {c N : Nat} (hc : c < 2 ^ N) (hN : N <= 11) : (List.range N).countP (fun q => c.testBit q) = cnt c := by
  have := z9B hc (11 - N)
  rw [show N + (11 - N) = 11 by omega] at this
  exact this.symm
theorem zds {k : Nat} (h : k < 4611686018427387904) : IntKind.u64.wrap ((k : Int) + 1) = ((k + 1 : Nat) : Int) := by
  rw [IntKind.wrap_u64]; omega
theorem zh3 {a q : Nat} (ha : a < 2 ^ 62) (hq : q <= 64) : (z0l .u64 (z0M .u64 (a : Int) (q : Int)) 1 = 1) ↔ a.testBit q = true := by
  have e1 : z0M .u64 (a : Int) (q : Int) = ((a >>> q : Nat) : Int) := by
    unfold z0M
    have e : min ((q : Int).toNat) IntKind.u64.bits = q := by
      show min ((q : Int).toNat) 64 = q
      omega
    rw [e, Nat.shiftRight_eq_div_pow, Int.fdiv_eq_ediv_of_nonneg _ (by exact Int.pow_nonneg (by omega))]
    simp
  have h3 : a >>> q < 2 ^ 62 := by rw [Nat.shiftRight_eq_div_pow]; exact Nat.lt_of_le_of_lt (Nat.div_le_self _ _) ha
  have e2 : ∀ s : Nat, s < 2 ^ 62 -> z0l .u64 (s : Int) 1 = ((s &&& 1 : Nat) : Int) := fun s hs => by
    unfold z0l
    have e : (BitVec.ofInt IntKind.u64.bits (s : Int) &&& BitVec.ofInt IntKind.u64.bits 1).toNat = s &&& 1 := by
      show (BitVec.ofInt 64 (s : Int) &&& BitVec.ofInt 64 1).toNat = _
      rw [BitVec.toNat_and, BitVec.toNat_ofInt, BitVec.toNat_ofInt]
      have h1 : ((s : Int) % ((2 ^ 64 : Nat) : Int)).toNat = s := by omega
      have h2 : ((1 : Int) % ((2 ^ 64 : Nat) : Int)).toNat = 1 := by omega
      rw [h1, h2]
    rw [e, IntKind.wrap_u64]
    have := Nat.and_le_right (n := s) (m := 1)
    omega
  rw [e1, e2 _ h3, Nat.testBit]
  have : (1 &&& a >>> q) = (a >>> q) &&& 1 := Nat.and_comm ..
  rw [this]
  have h2 := Nat.and_one_is_mod (a >>> q)
  rw [h2]
  simp only [bne_iff_ne, ne_eq]
  omega
theorem zci (l : List UInt8) : z6x (l.map fun b => (b.toNat : Int)) = mkB l := by
  unfold z6x mkB
  rw [List.map_map]
  have : l.map ((fun z : Int => UInt8.ofNat z.toNat) ∘ fun b : UInt8 => (b.toNat : Int)) = l := by
    conv => rhs; rw [← List.map_id l]
    exact List.map_congr_left fun b _ => by simp
  rw [this]
theorem z8G {w : ByteArray} {k : Nat} (h : k < w.size) (h2 : k < w.data.toList.length) : w[k] = w.data.toList[k] := by
  rw [Array.getElem_toList]; rfl
theorem zd7 {w : ByteArray} (hw : w.size <= 16) {c : Nat} (hc : c < 2 ^ 17) (mp : List (ByteArray × Bool)) : z1Y (z4F w (c : Int) mp) LFm (0, []) = z1E (((c + 1 : Nat) : Int), z7O (mkB (z4g c w.data.toList)) true mp) := by
  have hl : w.data.toList.length = w.size := by rw [Array.length_toList]; rfl
  have hlen : ∀ k, (z4g c (w.data.toList.take k)).length <= 16 := fun k => by
    have h1 := (z3s c (w.data.toList.take k)).length_le
    rw [List.length_take] at h1
    omega
  refine z8k (s := ((0 : Int), ([] : List Int))) w.size (fun k => ((k : Int), (z4g c (w.data.toList.take k)).map fun b => (b.toNat : Int))) rfl (by simp only [LFm]; omega) (fun k hk => ?_) ?_
  · have hkl : k < w.data.toList.length := by omega
    simp only [z4F]
    rw [if_pos (by omega), z1s _ (by omega)]
    have hb := zh3 (a := c) (q := k) (by omega) (by omega)
    rw [List.take_succ_eq_append_getElem hkl, z4J]
    have htl : (w.data.toList.take k).length = k := by rw [List.length_take]; omega
    rw [htl]
    by_cases h : c.testBit k = true
    · rw [if_pos (hb.2 h), if_pos h, z5f hk, Option.bind_some, z1s _ (by unfold z2x; rw [List.length_map]; have := hlen k; omega), z7T (by omega), z8G hk hkl]
      simp
    · rw [if_neg (fun e => h (hb.1 e)), if_neg h, z7T (by omega), List.append_nil]
  · simp only [z4F]
    rw [if_neg (by omega), zds (by omega), ← hl, List.take_length, zci]
theorem z6M {k : ByteArray} {v : Bool} : ∀ mp : List (ByteArray × Bool), (k ∈ mp.map (·.1) /\ (z7O k v mp).map (·.1) = mp.map (·.1)) ∨ (k ∉ mp.map (·.1) /\ (z7O k v mp).map (·.1) = mp.map (·.1) ++ [k])
  | [] => .inr ⟨by simp, rfl⟩
  | (a, u) :: mp => by
    unfold z7O
    by_cases h : a = k
    · subst h; rw [if_pos rfl]; exact .inl ⟨by simp, rfl⟩
    · rw [if_neg h]
      rcases z6M (k := k) (v := v) mp with ⟨h1, h2⟩ | ⟨h1, h2⟩
      · exact .inl ⟨List.mem_cons_of_mem _ h1, by rw [List.map_cons, h2]; rfl⟩
      · refine .inr ⟨fun h3 => ?_, by rw [List.map_cons, h2]; rfl⟩
        rcases List.mem_cons.1 h3 with e | e
        · exact h e.symm
        · exact h1 e
theorem ze1 {w : ByteArray} (hw : w.size <= 16) {n : Int} (hn : 0 <= n) : ∃ mp, zf7 w n = some mp /\ (mp.map (·.1)).Nodup /\ (∀ e, e ∈ mp.map (·.1) ↔ ∃ c : Nat, c < 2 ^ w.size /\ (∀ k, z0d (c : Int) = some k -> k <= n) /\ e = mkB (z4g c w.data.toList)) /\ mp.length <= 2 ^ 16 := by
  have hp : 2 ^ w.size <= 2 ^ 16 := Nat.pow_le_pow_right (by omega) hw
  unfold zf7
  rw [if_neg (by omega), if_neg (by omega), z1s _ (by omega)]
  refine Exists.elim (z1O (b := z8R w n) (fun z => ∃ c : Nat, z.1 = (c : Int) /\ c <= 2 ^ w.size /\ (z.2.map (·.1)).Nodup /\ (∀ e, e ∈ z.2.map (·.1) ↔ ∃ b, b < c /\ (∀ k, z0d (b : Int) = some k -> k <= n) /\ e = mkB (z4g b w.data.toList)) /\ z.2.length <= c) (fun z => 2 ^ w.size + 1 - z.1.toNat)
    (fun mp => (mp.map (·.1)).Nodup /\ (∀ e, e ∈ mp.map (·.1) ↔ ∃ c : Nat, c < 2 ^ w.size /\ (∀ k, z0d (c : Int) = some k -> k <= n) /\ e = mkB (z4g c w.data.toList)) /\ mp.length <= 2 ^ 16) ?_ LFm (0, []) ⟨0, rfl, Nat.zero_le _, by simp, fun e => by simp, by simp⟩ (by generalize 2 ^ w.size = p at hp; simp only [LFm]; omega)) fun F h => ⟨F, h.1, h.2⟩
  rintro ⟨z, mp⟩ ⟨c, hz, hc, hnd, hm, hlen⟩
  simp only at hz hnd hm hlen
  subst hz
  have esh : zfX .u64 1 (w.size : Int) = ((2 ^ w.size : Nat) : Int) := by
    rw [zb7]
    have e : min ((w.size : Int).toNat) IntKind.u64.bits = w.size := by
      show min ((w.size : Int).toNat) 64 = w.size
      omega
    rw [e, Int.one_mul]
    have : ((2 : Int) ^ w.size) = ((2 ^ w.size : Nat) : Int) := by simp
    rw [this, IntKind.wrap_u64]
    omega
  simp only [z8R]
  rw [esh]
  by_cases c1 : c < 2 ^ w.size
  · left
    obtain ⟨k, hk⟩ := zen (c : Int)
    rw [if_pos (by omega), hk, Option.bind_some]
    by_cases c2 : n < k
    · rw [if_pos c2, zds (by omega)]
      refine ⟨_, rfl, ⟨c + 1, rfl, by omega, hnd, fun e => ?_, by simp only; omega⟩, by simp only; omega⟩
      rw [hm]
      constructor
      · rintro ⟨b, h1, h2⟩; exact ⟨b, by omega, h2⟩
      · rintro ⟨b, h1, h2, h3⟩
        refine ⟨b, ?_, h2, h3⟩
        rcases Nat.lt_or_ge b c with h | h
        · exact h
        · have : b = c := by omega
          subst this
          have := h2 k hk
          omega
    · rw [if_neg c2, zd7 hw (by omega)]
      have hk2 : ∀ k', z0d (c : Int) = some k' -> k' <= n := fun k' h => by rw [hk] at h; cases h; omega
      have hset := z6M (k := mkB (z4g c w.data.toList)) (v := true) mp
      generalize hmp : z7O (mkB (z4g c w.data.toList)) true mp = mp' at hset
      have hll : mp'.length <= c + 1 /\ (mp'.map (·.1)).Nodup /\ ∀ e, e ∈ mp'.map (·.1) ↔ e ∈ mp.map (·.1) ∨ e = mkB (z4g c w.data.toList) := by
        rcases hset with ⟨h1, h2⟩ | ⟨h1, h2⟩
        · refine ⟨?_, by rw [h2]; exact hnd, fun e => by rw [h2]; exact ⟨fun h => .inl h, fun h' => h'.elim id fun e1 => e1 ▸ h1⟩⟩
          have := congrArg List.length h2
          rw [List.length_map, List.length_map] at this
          omega
        · refine ⟨?_, ?_, fun e => by rw [h2, List.mem_append, List.mem_singleton]⟩
          · have := congrArg List.length h2
            rw [List.length_map, List.length_append, List.length_map, List.length_singleton] at this
            omega
          · rw [h2]
            exact List.nodup_append.2 ⟨hnd, by simp, fun a ha b hb => by rw [List.mem_singleton] at hb; subst hb; rintro rfl; exact h1 ha⟩
      obtain ⟨l1, l2, l3⟩ := hll
      refine ⟨_, rfl, ⟨c + 1, rfl, by omega, l2, fun e => ?_, l1⟩, by simp only; omega⟩
      rw [l3, hm]
      constructor
      · rintro (⟨b, h1, h2⟩ | rfl)
        · exact ⟨b, by omega, h2⟩
        · exact ⟨c, by omega, hk2, rfl⟩
      · rintro ⟨b, h1, h2, h3⟩
        rcases Nat.lt_or_ge b c with h | h
        · exact .inl ⟨b, h, h2, h3⟩
        · have : b = c := by omega
          subst this
          exact .inr h3
  · right
    have hce : c = 2 ^ w.size := by omega
    subst hce
    rw [if_neg (by omega)]
    exact ⟨mp, rfl, hnd, hm, by omega⟩
theorem zdL {w : ByteArray} (hw : w.size <= 16) {n : Int} (hn : 0 <= n) : ∃ F, zdv w n = some F /\ (F.Pairwise fun a b => z1w a b < 0) /\ (∀ e, e ∈ F ↔ ∃ c : Nat, c < 2 ^ w.size /\ (∀ k, z0d (c : Int) = some k -> k <= n) /\ e = mkB (z4g c w.data.toList)) /\ F.length <= 2 ^ 16 := by
  have hl : w.data.toList.length = w.size := by rw [Array.length_toList]; rfl
  obtain ⟨mp, h1, h2, h3, h4⟩ := ze1 hw hn
  unfold zdv
  rw [if_neg (by omega), h1, Option.bind_some, if_pos ⟨h2, fun s hs => by
    obtain ⟨c, _, _, rfl⟩ := (h3 s).1 hs
    rw [z2c]
    have := (z3s c w.data.toList).length_le
    unfold maxLen
    omega, by omega⟩]
  refine ⟨_, rfl, z6J h2, fun e => ?_, ?_⟩
  · rw [(z1m _).mem_iff, h3]
  · rw [(z1m _).length_eq, List.length_map]; exact h4
theorem zdY {w : ByteArray} (hw : w.size <= 11) {n : Int} (e : ByteArray) : (∃ c : Nat, c < 2 ^ w.size /\ (∀ k, z0d (c : Int) = some k -> k <= n) /\ e = mkB (z4g c w.data.toList)) ↔ zcr w.data.toList n e := by
  have hl : w.data.toList.length = w.size := by rw [Array.length_toList]; rfl
  have hp : 2 ^ w.size <= 2 ^ 11 := Nat.pow_le_pow_right (by omega) hw
  have hcl : ∀ c, c < 2 ^ w.size -> (z4g c w.data.toList).length = cnt c := fun c hc => by
    have := z8T c w.data.toList w.size (by omega)
    rw [← hl, List.take_length, hl] at this
    rw [this, zfM hc hw]
  constructor
  · rintro ⟨c, h1, h2, rfl⟩
    refine ⟨_, z3s c _, ?_, rfl⟩
    rw [hcl c h1]
    exact h2 _ (zbu (by omega))
  · rintro ⟨u, h1, h2, rfl⟩
    obtain ⟨c, h3, rfl⟩ := ze5 h1
    rw [hl] at h3
    refine ⟨c, h3, fun k hk => ?_, rfl⟩
    rw [zbu (by omega)] at hk
    cases hk
    rw [← hcl c h3]; exact h2
theorem zdX {w : ByteArray} (hw : w.size <= 11) {n : Int} (hn : 0 <= n) : ∃ F, zdv w n = some F /\ z0Q w n = some F /\ (F.Pairwise fun a b => z1w a b < 0) /\ (∀ e, e ∈ F ↔ zcr w.data.toList n e) /\ F.length <= 2 ^ 16 := by
  obtain ⟨F, a1, a2, a3, a4⟩ := zdL (show w.size <= 16 by omega) hn
  obtain ⟨G, b1, b2, b3, b4⟩ := zbi hn (show w.size <= 16 by omega)
  have e : F = G := zaZ a2 b2 fun x => by rw [a3, zdY hw, b3]
  subst e
  exact ⟨F, a1, b1, a2, b3, a4⟩
end
end Go.Proofs.Ytcjljokldnpgfaa
