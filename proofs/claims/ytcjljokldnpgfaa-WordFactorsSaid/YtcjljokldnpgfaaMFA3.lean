/- Proved here: a part of the proof of the law at hand, in one text: no condition. -/
import Derived.Test.YtcjljokldnpgfaaMFA2
import Derived.Lib.Bytealg
import Derived.Lib.Small
import Derived.WalkKit
import Derived.Test.YtcjljokldnpgfaaProg
import Derived.Shelf.Small.Bits
import Derived.Shelf.Small.Strs
import Derived.Shelf.Small.Wraps
import Derived.Shelf.Strconv.Itoa0
import Derived.Shelf.Sort.Plain
import Derived.Shelf.Slices.In.SortNone
import Derived.Ground.SlsfProg
import Derived.Shelf.SlSortCmp.Insertion
import Derived.Shelf.SlSortCmp.SiftDown1
import Derived.Shelf.SlSortCmp.HeapSort1
import Derived.Shelf.SlSortCmp.Insertion1
import Derived.Shelf.SlSortCmp.Median1
import Derived.Shelf.SlSortCmp.Pivot1
import Derived.Shelf.SlSortCmp.ReverseRange1
import Derived.Shelf.SlSortCmp.PartialInsertion1
import Derived.Shelf.SlSortCmp.PartitionEqual1
import Derived.Shelf.SlSortCmp.Partition1
import Derived.Shelf.SlSortCmp.Pdq1
import Derived.Shelf.SlSortCmp.Whole1
import Derived.Shelf.SlSortCmp.NoneTotal
import Derived.Shelf.SlIter.Sorted
import Derived.Ground.GgzProg
import Derived.Shelf.SlIterI.Keys
import Derived.KernelRfl
set_option linter.unusedVariables false
set_option linter.unusedSimpArgs false
namespace Go.Proofs.Ytcjljokldnpgfaa
section
def z2A (i : Nat) : T -> E
  | .vr _ => .one (.a i [] 0)
  | .os _ _ _ => .one (.h i [])
  | .vo off _ => .one (.a i [] off)
  | .pr cs => .one (.ea none cs 0)
  | t => .one (.t none t)
def z1Q (nt : Nat) : List T -> Nat -> List (Nat × E)
  | [], _ => []
  | t :: ts, i => if z1g t then (i, z2A i t) :: (nt + 1000 + i, z2A i t) :: z1Q nt ts (i + 1) else (i, z2A i t) :: z1Q nt ts (i + 1)
def zfR : T -> T
  | .vo _ cs => .vr cs
  | t => t
def z1A : List T -> Nat -> List (Nat × T)
  | [], _ => []
  | t :: ts, i => if z1g t then (i, zfR t) :: z1A ts (i + 1) else z1A ts (i + 1)
theorem z3V : ∀ (ts : List T) (i j : Nat) (t : T), z0i (z1A ts i) j = some t -> i <= j /\ ∃ t0, t = zfR t0 /\ ts[j - i]? = some t0 /\ z1g t0 = true
  | [], i, j, t, h => by cases h
  | t0 :: ts, i, j, t, h => by
    simp only [z1A] at h
    split at h
    · rename_i hio
      simp only [z0i] at h
      split at h
      · rename_i e
        cases h
        subst e
        exact ⟨Nat.le_refl _, t0, rfl, by simp, hio⟩
      · obtain ⟨h1, t1, h0, h2, h3⟩ := z3V ts (i + 1) j t h
        exact ⟨by omega, t1, h0, by rw [show j - i = (j - (i + 1)) + 1 by omega, List.getElem?_cons_succ]; exact h2, h3⟩
    · obtain ⟨h1, t1, h0, h2, h3⟩ := z3V ts (i + 1) j t h
      exact ⟨by omega, t1, h0, by rw [show j - i = (j - (i + 1)) + 1 by omega, List.getElem?_cons_succ]; exact h2, h3⟩
theorem z7K : ∀ (ts : List T) (i j : Nat) (t : T), ts[j]? = some t -> z1g t = true -> z0i (z1A ts i) (i + j) = some (zfR t)
  | [], i, j, t, h, _ => by simp at h
  | t0 :: ts, i, 0, t, h, hio => by
    simp at h; subst h
    simp [z1A, hio, z0i]
  | t0 :: ts, i, j + 1, t, h, hio => by
    have ih := z7K ts (i + 1) j t (by simpa using h) hio
    rw [show i + 1 + j = i + (j + 1) by omega] at ih
    simp only [z1A]
    split
    · simp only [z0i]; rw [if_neg (by omega)]; exact ih
    · exact ih
theorem z5V (nt : Nat) : ∀ (ts : List T) (i k : Nat), z0n (z1Q nt ts i) k = .one .dead ∨ ∃ j t, ts[j]? = some t /\ z0n (z1Q nt ts i) k = z2A (i + j) t /\ (k = i + j ∨ (z1g t = true /\ k = nt + 1000 + (i + j)))
  | [], i, k => .inl rfl
  | t :: ts, i, k => by
    have rest : z0n (z1Q nt ts (i + 1)) k = .one .dead ∨ ∃ j t', (t :: ts)[j]? = some t' /\ z0n (z1Q nt ts (i + 1)) k = z2A (i + j) t' /\ (k = i + j ∨ (z1g t' = true /\ k = nt + 1000 + (i + j))) := by
      rcases z5V nt ts (i + 1) k with h | ⟨j, t', h1, h2, h3⟩
      · exact .inl h
      · refine .inr ⟨j + 1, t', by simpa using h1, by rw [h2]; congr 1; omega, ?_⟩
        rcases h3 with h3 | ⟨h3, h4⟩
        · left; omega
        · right; exact ⟨h3, by omega⟩
    simp only [z1Q]
    split
    · rename_i hio
      simp only [z0n]
      split
      · rename_i e; exact .inr ⟨0, t, rfl, rfl, .inl e.symm⟩
      · split
        · rename_i e; exact .inr ⟨0, t, rfl, rfl, .inr ⟨hio, e.symm⟩⟩
        · exact rest
    · simp only [z0n]
      split
      · rename_i e; exact .inr ⟨0, t, rfl, rfl, .inl e.symm⟩
      · exact rest
def z0V (nt : Nat) (args : List T) : Fr := ⟨nt, z1Q nt args 0, z1A args 0⟩
def zdJ : Option T -> Value -> Value
  | some (.vo _ _), .pointer (some a) => .pointer (some ⟨a.block, 0, none⟩)
  | _, v => v
theorem z5o {w : World} {K : Nat -> z0a} {args : List T} {vals : Array Value} {nt : Nat} (hs : vals.size = args.length) (hr : ∀ i t, args[i]? = some t -> z5y w K i (vals.getD i undef) t) (hn : args.length <= nt) :
    FRep w K (fun i => zdJ (args[i]?) (vals.getD i undef)) (fun i => vals.getD (i - (nt + 1000)) undef) (z0V nt args) { tmps := vals ++ Array.replicate (nt - vals.size) undef, defers := [] } := by
  refine ⟨fun k => ?_, fun id t ht => ?_, by simp [z0V]; omega, rfl⟩
  · show ERep w K _ (z1A args 0) (z0n (z1Q nt args 0) k) _
    rcases z5V nt args 0 k with h | ⟨j, t, h1, h2, h3⟩
    · rw [h]; trivial
    · rw [h2, Nat.zero_add]
      have hlt := (List.getElem?_eq_some_iff.1 h1).1
      have hreg : z2m { tmps := vals ++ Array.replicate (nt - vals.size) undef, defers := [] } (fun i => vals.getD (i - (nt + 1000)) undef) k = vals.getD j undef := by
        rcases h3 with e | ⟨_, e⟩
        · have hk : k = j := by omega
          subst hk
          rw [z2m, if_pos (by simp; omega)]
          simp only [Array.getD_eq_getD_getElem?, Array.getElem?_append]
          rw [if_pos (by omega)]
        · rw [z2m, if_neg (by simp; omega), e, show nt + 1000 + (0 + j) - (nt + 1000) = j by omega]
      rw [hreg]
      have hr' := hr j t h1
      unfold z5y at hr'
      have hob : z1g t = true -> z0i (z1A args 0) j = some (zfR t) := fun hio => by
        have := z7K args 0 j t h1 hio
        rwa [Nat.zero_add] at this
      cases t with
      | vr cs =>
        have hob' := hob rfl
        simp only [z1g, if_true] at hr'
        generalize hv : vals.getD j undef = v at hr'
        have hvv : v = vals.getD j undef := hv.symm
        cases hr' with
        | vr c g cs arr e fz F hfz hc0 hK hg hl hF hh => exact ⟨_, g, rfl, by simp [hv, h1, zdJ, z1j], rfl, _, hob', rfl⟩
      | os sz n cs => exact ⟨by simp [h1, zdJ, nav], _, hob rfl, rfl⟩
      | vo off cs =>
        have hob' := hob rfl
        simp only [z1g, if_true] at hr'
        generalize hv : vals.getD j undef = v at hr'
        cases hr' with
        | vo c g off cs h2 => exact ⟨.pointer (some ⟨g, 0, none⟩), g, by simp [hv, h1, zdJ, nav], rfl, rfl, _, hob', rfl⟩
      | pr cs =>
        simp only [z1g, Bool.false_eq_true, if_false] at hr'
        generalize hv : vals.getD j undef = v at hr'
        cases hr' with
        | pr c g o cs F hK hg hF hh => exact ⟨g, o, F, rfl, hK, hg, hF, hh, fun _ e => by cases e⟩
      | sc v => exact ⟨hr', fun _ e => by cases e⟩
      | dead => exact ⟨hr', fun _ e => by cases e⟩
      | agg cs => exact ⟨hr', fun _ e => by cases e⟩
      | tup cs => exact ⟨hr', fun _ e => by cases e⟩
      | mp kk es => exact ⟨hr', fun _ e => by cases e⟩
      | mr kk es => exact ⟨hr', fun _ e => by cases e⟩
      | mt => exact ⟨hr', fun _ e => by cases e⟩
      | ms => exact ⟨hr', fun _ e => by cases e⟩
      | cl f cs => exact ⟨hr', fun _ e => by cases e⟩
      | sl n cs => exact ⟨hr', fun _ e => by cases e⟩
  · obtain ⟨h1, t0, h0, h2, h3⟩ := z3V args 0 id t ht
    have h2' : args[id]? = some t0 := by simpa using h2
    have := hr id t0 h2'
    unfold z5y at this
    rw [h3] at this
    simp only [if_true] at this
    rw [h2', h0]
    cases t0 with
    | vo off cs =>
      generalize hv : vals.getD id undef = v at this
      cases this with
      | vo c g off cs h2 => exact h2
    | _ => exact this
def zfz (P : Program) (fr : Fr) : ResultVar -> Option E
  | .tmp t => if t < fr.nt then some (z0n fr.tm t) else none
  | .cell ad ty => if ad < fr.nt then zau P noM fr ty (z0n fr.tm ad) else none
def zby (P : Program) (fr : Fr) : List ResultVar -> Option (List E)
  | [] => some []
  | r :: rs => match zfz P fr r, zby P fr rs with | some e, some es => some (e :: es) | _, _ => none
def zfg : ResultVar -> Array Value -> Sem Value
  | .tmp t, tmps => pure (tmps.getD t undef)
  | .cell a t, tmps => do loadVar t (← asAddr (tmps.getD a undef))
theorem zda {P : Program} {w : World} {K : Nat -> z0a} {R G : Nat -> Value} {fr : Fr} {a : Act} {r : ResultVar} {e : E} (h : FRep w K R G fr a) (hr : zfz P fr r = some e) : ∃ v, ERep w K R fr.ob e v /\ (zfg r a.tmps).run P w = .ok v w := by
  have hreg : ∀ t, t < fr.nt -> ERep w K R fr.ob (z0n fr.tm t) (a.tmps.getD t undef) := fun t ht => by
    have := h.tm t
    rwa [z2m, if_pos (by rw [h.nt]; exact ht)] at this
  cases r with
  | tmp t =>
    simp only [zfz] at hr
    split at hr
    · rename_i ht
      cases hr
      exact ⟨_, hreg t ht, by simp [zfg]⟩
    · cases hr
  | cell ad ty =>
    simp only [zfz] at hr
    split at hr
    · rename_i ht
      obtain ⟨v, h1, h2⟩ := z9l h (hreg ad ht) hr
      refine ⟨v, h1, ?_⟩
      have h3 := h2 w (Stay.refl w K noM)
      have hp : ∃ ad', a.tmps.getD ad undef = .pointer (some ad') := by
        have hx := hreg ad ht
        unfold zau at hr
        split at hr
        · cases hr
        · split at hr
          · rename_i id p off hg
            rw [hg] at hx
            obtain ⟨hv, g, _, _, n5, _⟩ := hx
            exact ⟨_, n5⟩
          · rename_i dep cs off hg
            rw [hg] at hx
            obtain ⟨g, o, F, n5, _⟩ := hx
            exact ⟨_, n5⟩
          · cases hr
      obtain ⟨ad', hp⟩ := hp
      rw [hp] at h3
      simp only [zfg, hp, asAddr, Sem.run_bind, Sem.run_pure, Result.andThen_ok]
      simpa [Instr.loadAt, Instr.sureAddr] using h3
    · cases hr
theorem z7c {P : Program} {w : World} {K : Nat -> z0a} {R G : Nat -> Value} {fr : Fr} {a : Act} (h : FRep w K R G fr a) : ∀ {rs : List ResultVar} {es : List E}, zby P fr rs = some es ->
    ∃ vs : List Value, vs.length = es.length /\ es.length = rs.length /\ (∀ j e, es[j]? = some e -> ERep w K R fr.ob e (vs.getD j undef)) /\ (rs.mapM (fun r => zfg r a.tmps)).run P w = .ok vs w
  | [], es, hr => by cases hr; exact ⟨[], rfl, rfl, fun j e hj => by simp at hj, by simp⟩
  | r :: rs, es, hr => by
    simp only [zby] at hr
    split at hr
    · rename_i e es' h1 h2
      cases hr
      obtain ⟨v, a1, a2⟩ := zda h h1
      obtain ⟨vs, b1, b0, b2, b3⟩ := z7c h h2
      refine ⟨v :: vs, by simp [b1], by simp [b0], fun j e hj => ?_, ?_⟩
      · match j, hj with
        | 0, hj => simp at hj; subst hj; simpa using a1
        | j + 1, hj => simpa using b2 j e (by simpa using hj)
      · rw [List.mapM_cons]
        simp only [Sem.run_bind, a2, b3, Result.andThen_ok, Sem.run_pure]
    · cases hr
def z6W : E -> T
  | .one _ => .dead
  | .ag xs => .agg (xs.map fun _ => .dead)
def z2Y : List E -> List A
  | [] => []
  | .one x :: es => x :: z2Y es
  | .ag xs :: es => xs ++ z2Y es
def z4f : Nat -> Nat -> List E -> List (List Nat × Nat)
  | _, _, [] => []
  | j, base, .one x :: es => ([j], base) :: z4f (j + 1) (base + 1) es
  | j, base, .ag xs :: es => (List.range xs.length).map (fun i => ([j, i], base + i)) ++ z4f (j + 1) (base + xs.length) es
theorem z3h {w : World} {K : Nat -> z0a} {R : Nat -> Value} {ob : List (Nat × T)} : ∀ {es : List E} {us : List Value} {j0 base : Nat}, us.length = es.length -> (∀ j e, es[j]? = some e -> ERep w K R ob e (us.getD j undef)) ->
    ∃ vs : List Value, vs.length = (z2Y es).length /\ (∀ k x, (z2Y es)[k]? = some x -> ARep w K R ob x (vs.getD k undef)) /\
      ∀ q r, (q, r) ∈ z4f j0 base es -> ∃ k, k < vs.length /\ r = base + k /\ ∃ j q', q = (j0 + j) :: q' /\ j < es.length /\ nav w (us.getD j undef) q' = some (vs.getD k undef)
  | [], us, j0, base, hl, hr => ⟨[], rfl, fun k x hk => by simp [z2Y] at hk, fun q r hm => by cases hm⟩
  | .one x :: es, us, j0, base, hl, hr => by
    match us, hl with
    | u :: us, hl =>
      obtain ⟨vs, a1, a2, a3⟩ := z3h (es := es) (us := us) (j0 := j0 + 1) (base := base + 1) (by simpa using hl) (fun j e hj => by simpa using hr (j + 1) e (by simpa using hj))
      refine ⟨u :: vs, by simp [z2Y, a1], fun k y hk => ?_, fun q r hm => ?_⟩
      · match k, hk with
        | 0, hk => simp [z2Y] at hk; subst hk; exact (hr 0 (.one x) rfl : ERep w K R ob (.one x) u)
        | k + 1, hk => simpa using a2 k y (by simpa [z2Y] using hk)
      · simp only [z4f] at hm
        rcases List.mem_cons.1 hm with hm | hm
        · cases hm
          exact ⟨0, by simp, by simp, 0, [], by simp, by simp, by simp [nav]⟩
        · obtain ⟨k, k1, k2, j, q', k3, k4, k5⟩ := a3 q r hm
          exact ⟨k + 1, by simpa using k1, by omega, j + 1, q', by rw [k3]; congr 1; omega, by simpa using k4, by simpa using k5⟩
  | .ag xs :: es, us, j0, base, hl, hr => by
    match us, hl with
    | u :: us, hl =>
      obtain ⟨arr, b1, b2, b3⟩ := hr 0 (.ag xs) rfl
      obtain ⟨vs, a1, a2, a3⟩ := z3h (es := es) (us := us) (j0 := j0 + 1) (base := base + xs.length) (by simpa using hl) (fun j e hj => by simpa using hr (j + 1) e (by simpa using hj))
      have hal : arr.toList.length = xs.length := by simpa using b2
      refine ⟨arr.toList ++ vs, by simp [z2Y, a1, b2], fun k y hk => ?_, fun q r hm => ?_⟩
      · simp only [z2Y] at hk
        by_cases hlt : k < xs.length
        · rw [List.getElem?_append_left hlt] at hk
          have := b3 k y hk
          have e1 : (arr.toList ++ vs).getD k undef = arr.getD k undef := by
            simp only [List.getD_eq_getElem?_getD, List.getElem?_append_left (show k < arr.toList.length by omega), Array.getElem?_toList, Array.getD_eq_getD_getElem?]
          rw [e1]; exact this
        · rw [List.getElem?_append_right (by omega)] at hk
          have := a2 _ y hk
          have e1 : (arr.toList ++ vs).getD k undef = vs.getD (k - xs.length) undef := by
            simp only [List.getD_eq_getElem?_getD, List.getElem?_append_right (show arr.toList.length <= k by omega), hal]
          rw [e1]; exact this
      · simp only [z4f, List.mem_append, List.mem_map, List.mem_range] at hm
        rcases hm with ⟨i, hi, he⟩ | hm
        · cases he
          have hia : i < arr.size := by omega
          refine ⟨i, by simp; omega, rfl, 0, [i], by simp, by simp, ?_⟩
          have e1 : (arr.toList ++ vs).getD i undef = arr.getD i undef := by
            simp only [List.getD_eq_getElem?_getD, List.getElem?_append_left (show i < arr.toList.length by omega), Array.getElem?_toList, Array.getD_eq_getD_getElem?]
          rw [e1]
          have hu : (u :: us).getD 0 undef = .agg arr := by simpa using b1
          rw [hu]
          simp [nav, z4q, Array.getD_eq_getD_getElem?, hia]
        · obtain ⟨k, k1, k2, j, q', k3, k4, k5⟩ := a3 q r hm
          refine ⟨xs.length + k, by simp; omega, by omega, j + 1, q', by rw [k3]; congr 1; omega, by simpa using k4, ?_⟩
          have e1 : (arr.toList ++ vs).getD (xs.length + k) undef = vs.getD k undef := by
            simp only [List.getD_eq_getElem?_getD, List.getElem?_append_right (show arr.toList.length <= xs.length + k by omega), hal]
            congr 2; omega
          rw [e1]; simpa using k5
end
section
def zfT (fr : Fr) (g : Nat) : T :=
  match z0n fr.tm g with
  | .one (.h e []) => (match z0i fr.ob e with | some t => t | none => .dead)
  | .one (.a e [] 0) => (match z0i fr.ob e with | some (.vr cs) => .vr cs | _ => .dead)
  | _ => .dead
def zfS (fr : Fr) (g : Nat) : T :=
  match z0n fr.tm g with
  | .one (.a e [] off) => (match z0i fr.ob e with | some (.vr cs) => .vo off cs | _ => .dead)
  | _ => .dead
def zgn : T -> Bool
  | .vo _ _ => true
  | _ => false
theorem TRep.vr_val {w : World} {K : Nat -> z0a} {c : z0a} {v : Value} {cs : List T} {g : Nat} (h : TRep w K c v (.vr cs)) (hb : z1j v = some g) : v = .pointer (some ⟨g, 0, none⟩) := by
  cases h with
  | vr c g' cs arr e fz F hfz hc0 hK hg hl hF hh =>
    simp only [z1j, Option.some.injEq] at hb
    rw [hb]
def zao (fr : Fr) (g : Nat) : Option Nat :=
  match z0n fr.tm g with
  | .one (.h e []) => some e
  | .one (.a e [] _) => some e
  | _ => none
def z7m (fr : Fr) (nt : Nat) : List T -> Nat -> List T
  | [], _ => []
  | t :: ts, i => (if zgn t then zfS fr (nt + 1000 + i) else if z1g t then zfT fr (nt + 1000 + i) else .dead) :: z7m fr nt ts (i + 1)
theorem z7l (fr : Fr) (nt : Nat) : ∀ (ts : List T) (i j : Nat) (t : T), ts[j]? = some t -> z1g t = true -> (z7m fr nt ts i)[j]? = some (if zgn t then zfS fr (nt + 1000 + (i + j)) else zfT fr (nt + 1000 + (i + j)))
  | [], i, j, t, h, _ => by simp at h
  | t0 :: ts, i, 0, t, h, hio => by simp at h; subst h; simp [z7m, hio]
  | t0 :: ts, i, j + 1, t, h, hio => by
    simp only [z7m, List.getElem?_cons_succ]
    rw [z7l fr nt ts (i + 1) j t (by simpa using h) hio]
    rw [show i + 1 + j = i + (j + 1) by omega]
def z6t : List T -> Nat -> Option Nat
  | [], _ => none
  | t :: ts, i => if z1g t then some i else z6t ts (i + 1)
theorem z9p : ∀ (ts : List T) (i j : Nat) (t : T), (ts.filter z1g).length <= 1 -> ts[j]? = some t -> z1g t = true -> z6t ts i = some (i + j)
  | [], i, j, t, _, h, _ => by simp at h
  | t0 :: ts, i, 0, t, _, h, hio => by simp at h; subst h; simp [z6t, hio]
  | t0 :: ts, i, j + 1, t, hl, h, hio => by
    have h' : ts[j]? = some t := by simpa using h
    by_cases h0 : z1g t0 = true
    · exfalso
      have hm : t ∈ ts.filter z1g := by simp [List.mem_of_getElem? h', hio]
      have := List.length_pos_of_mem hm
      simp only [List.filter_cons, h0, if_true, List.length_cons] at hl
      omega
    · have h0' : z1g t0 = false := by simpa using h0
      simp only [z6t, h0', Bool.false_eq_true, if_false]
      rw [z9p ts (i + 1) j t (by simpa [List.filter_cons, h0'] using hl) h' hio]
      congr 1; omega
def zbH (fr : Fr) (nt : Nat) (args : List T) : Option Nat := match z6t args 0 with | some i => zao fr (nt + 1000 + i) | none => none
def zfG (fr : Fr) (nt : Nat) (args : List T) : Fr :=
  match z6t args 0 with
  | none => fr
  | some i => match z0n fr.tm (nt + 1000 + i) with
    | .one (.a e (j :: p) 0) => (z3N fr e (j :: p) (fr.nt + 7)).getD fr
    | _ => fr
def z9J (P : Program) (fn : Func) (args : List T) (fr : Fr) : Option (T × List T) :=
  match zby P fr fn.results.toList with
  | none => none
  | some es =>
    if (z2Y es).length <= 900 /\ fr.nt = fn.ntmps then
      match plugL true { fr with tm := z1m (kill fr.nt) (putR fr.tm (fr.nt + 1) (z2Y es)), ob := z0X fr.ob fr.nt (.tup (es.map z6W)) } fr.nt (z4f 0 (fr.nt + 1) es) with
      | none => none
      | some fr2 =>
        if zbH fr2 fn.ntmps args = some fr.nt then none else
        match z0i fr2.ob fr.nt with
        | some (.tup ts) =>
          if es.length = 1 then (match ts with | [t] => some (t, z7m fr2 fn.ntmps args 0) | _ => none)
          else some (.tup ts, z7m fr2 fn.ntmps args 0)
        | _ => none
    else none
def z3m (P : Program) (fn : Func) (args : List T) (fr : Fr) : Option (T × List T) := z9J P fn args (zfG fr fn.ntmps args)
def zeE (cf : Cfg) (o : Option (T × List T)) : Option (T × List T) := match cf.fz 999998 with | none => o | some _ => o.map fun x => (z0l x.1, x.2)
def dz : z0a -> z0a
  | 0 :: _ => []
  | c => c
theorem zbN {cf : Cfg} {o : Option (T × List T)} {r : T} {outs : List T} (h : zeE cf o = some (r, outs)) : ∃ r0, o = some (r0, outs) /\ (r = r0 ∨ r = z0l r0) := by
  unfold zeE at h
  split at h
  · exact ⟨r, h, .inl rfl⟩
  · rw [Option.map_eq_some_iff] at h
    obtain ⟨⟨r0, outs0⟩, h1, h2⟩ := h
    cases h2
    exact ⟨r0, h1, .inr rfl⟩
noncomputable def z6O (P : Program) (C : z0b) (cf : Cfg) (LF : Nat) (fn : Func) (args : List T) : Option (T × List T) :=
  if args.length <= fn.ntmps /\ (args.filter z1g).length <= 1 then
    match fn.body with
    | none => none
    | some c => match z0k P C cf LF c (z0V fn.ntmps args) with
      | some (.n, fr) => zeE cf (z3m P fn args fr)
      | some (.r, fr) => zeE cf (z3m P fn args fr)
      | _ => none
  else none
theorem zbn {w : World} {K : Nat -> z0a} {R : Nat -> Value} {ob : List (Nat × T)} {e : E} {u : Value} (h : ERep w K R ob e u) (c : z0a) : TRep w K c u (z6W e) := by
  cases e with
  | one x => exact .dead c u
  | ag xs =>
    obtain ⟨arr, rfl, h2, h3⟩ := h
    refine .agg c arr _ (fun j => arr.getD j undef) (by simpa using h2) (fun j hj => z0F _ _ (by simp at hj; omega)) (fun j t ht => ?_)
    simp only [List.getElem?_map, Option.map_eq_some_iff] at ht
    obtain ⟨y, hy, rfl⟩ := ht
    exact .dead _ _
theorem zaf (fn : Func) (tmps : Array Value) : results fn tmps = (do let vs ← fn.results.mapM (fun r => zfg r tmps); pure (if h : vs.size = 1 then vs[0] else .tuple vs)) := by
  unfold results
  congr 1
  congr 1
  funext r
  cases r <;> rfl
def zcQ (N : Nat) (e0 : Option (Nat × Nat)) (one : Bool) : z0a -> z0a
  | [] => []
  | h :: s => if h = N + 2 then (if one then (match s with | 0 :: s' => 0 :: s' | _ => [1]) else 0 :: s)
    else match e0 with | some (e, i) => if h = e + 2 then (i + 2) :: s else [1] | none => [1]
theorem z9I {P : Program} {fn : Func} {args : List T} {fr : Fr} {r : T} {outs : List T} {w : World} {K : Nat -> z0a} {R G : Nat -> Value} {a : Act} (h : FRep w K R G fr a) (hx : z9J P fn args fr = some (r, outs)) (h1 : (args.filter z1g).length <= 1) :
    ∃ v K', (results fn a.tmps).run P w = .ok v w /\ TRep w K' [0] v r /\ (∀ i t, args[i]? = some t -> z1g t = true -> ∃ t', outs[i]? = some t' /\ TRep w K' (col i) (G (fn.ntmps + 1000 + i)) t') /\ Step w K w K' := by
  unfold z9J at hx
  split at hx
  case h_1 => cases hx
  case h_2 es hes =>
  split at hx
  case isFalse => cases hx
  case isTrue hc =>
  obtain ⟨hfl, hnt⟩ := hc
  split at hx
  case h_1 => cases hx
  case h_2 fr2 hpl =>
  split at hx
  · cases hx
  rename_i hne
  obtain ⟨us, u1, u0, u2, u3⟩ := z7c h hes
  obtain ⟨vs, v1, v2, v3⟩ := z3h (j0 := 0) (base := fr.nt + 1) u1 u2
  have hp := h.putR (base := fr.nt + 1) (xs := z2Y es) (us := fun j => vs.getD j undef) (by omega) v2
  have hrep : TRep w K (col fr.nt) (.tuple us.toArray) (.tup (es.map z6W)) := by
    refine .tup _ us.toArray _ (fun j => us.getD j undef) (by simp [u1]) (fun j hj => ?_) (fun j t ht => ?_)
    · have : j < us.length := by simp at hj; omega
      simp [List.getD, this]
    · simp only [List.getElem?_map, Option.map_eq_some_iff] at ht
      obtain ⟨e, he, rfl⟩ := ht
      exact zbn (u2 j e he) _
  have hq := hp.replace (d := fr.nt) (w' := w) (K' := K) (v := .tuple us.toArray) (t := .tup (es.map z6W)) ⟨fun b hb e => ⟨e, rfl⟩, fun b hb _ => ⟨rfl, rfl⟩, Nat.le_refl _⟩ hrep
  have hregs : ∀ k, k < vs.length -> z2m a (gv G (fr.nt + 1) (fun j => vs.getD j undef) (z2Y es).length) (fr.nt + 1 + k) = vs.getD k undef := fun k hk => by
    rw [z2m, if_neg (by rw [h.nt]; omega)]
    simp only [gv]
    rw [if_pos (by omega)]
    congr 1; omega
  obtain ⟨K2, R2, q1, q2, q3, q4, _⟩ := hq.plugL (l := z4f 0 (fr.nt + 1) es) (fun q r' hm => by
    obtain ⟨k, k1, rfl, j, q', rfl, k4, k5⟩ := v3 q r' hm
    refine ⟨?_, by omega⟩
    rw [hregs k k1]
    have hju : j < us.length := by omega
    simp only [z2q, if_true, Nat.zero_add, nav, z4q]
    have : us.toArray[j]? = some (us.getD j undef) := by simp [List.getD, hju]
    rw [this]
    exact k5) hpl
  have hRN : R2 fr.nt = .tuple us.toArray := by
    rw [q4 fr.nt (fun q r' hm => by obtain ⟨k, k1, rfl, _⟩ := v3 q r' hm; omega)]
    simp [z2q]
  have hres : (results fn a.tmps).run P w = .ok (if us.length = 1 then us.getD 0 undef else .tuple us.toArray) w := by
    rw [zaf]
    have : (fn.results.mapM (fun r => zfg r a.tmps)).run P w = .ok us.toArray w := by
      rw [Array.mapM_eq_mapM_toList]
      simp only [map_eq_pure_bind, Sem.run_bind, u3, Result.andThen_ok, Sem.run_pure]
    simp only [Sem.run_bind, this, Result.andThen_ok, Sem.run_pure]
    congr 1
    by_cases e : us.length = 1
    · match us, e with
      | [u], _ => simp
    · rw [dif_neg (by simpa using e), if_neg e]
  let io : Option (Nat × Nat) := match z6t args 0 with | some i => (match zao fr2 (fn.ntmps + 1000 + i) with | some e => some (e, i) | none => none) | none => none
  have hio : ∀ e i, io = some (e, i) -> e ≠ fr.nt := fun e i he => by
    intro heq
    apply hne
    simp only [io] at he
    split at he
    · rename_i i' hi'
      split at he
      · rename_i e' he'
        cases he
        simp only [zbH, hi']
        rw [he', heq]
      · cases he
    · cases he
  let one : Bool := decide (es.length = 1)
  let K3 : Nat -> z0a := fun b => zcQ fr.nt io one (K2 b)
  have hK3 : ∀ b, K2 b = [] -> K3 b = [] := fun b e => by show zcQ fr.nt io one (K2 b) = []; rw [e]; rfl
  have hstep : Step w K2 w K3 := ⟨rfl, rfl, rfl, Nat.le_refl _, fun b hb hc => ⟨by
    show zcQ fr.nt io one (K2 b) = K2 b
    rcases hc with e | e
    · rw [e]; rfl
    · rw [e]
      simp only [zcQ]
      rw [if_neg (by omega)]
      cases io with
      | none => rfl
      | some x =>
        obtain ⟨e', i⟩ := x
        simp only
        rw [if_neg (by omega)], rfl⟩, .same rfl⟩
  have houts : outs = z7m fr2 fn.ntmps args 0 -> ∀ i t, args[i]? = some t -> z1g t = true -> ∃ t', outs[i]? = some t' /\ TRep w K3 (col i) (G (fn.ntmps + 1000 + i)) t' := fun ho i t ht hit => by
    refine ⟨if zgn t then zfS fr2 (fn.ntmps + 1000 + i) else zfT fr2 (fn.ntmps + 1000 + i), by rw [ho, z7l fr2 fn.ntmps args 0 i t ht hit, Nat.zero_add], ?_⟩
    have hidx := z9p args 0 i t h1 ht hit
    rw [Nat.zero_add] at hidx
    have hg := q1.tm (fn.ntmps + 1000 + i)
    have hgv : z2m a (gv G (fr.nt + 1) (fun j => vs.getD j undef) (z2Y es).length) (fn.ntmps + 1000 + i) = G (fn.ntmps + 1000 + i) := by
      rw [z2m, if_neg (by rw [h.nt]; omega)]
      simp only [gv]
      rw [if_neg (by omega)]
    rw [hgv] at hg
    have hmv0 : ∀ e tt, io = some (e, i) -> z0i fr2.ob e = some tt -> TRep w K3 (col i) (R2 e) tt := fun e tt he hob => by
      have hr := q1.ob e tt hob
      have hen := hio e i he
      refine hr.move (fun b s hb hcc hKb => ⟨?_, rfl⟩) (fun b hb e0 => ⟨hK3 b e0, rfl⟩) (by simp [col]) (Nat.le_refl _)
      show zcQ fr.nt io one (K2 b) = _
      rw [hKb, he]
      simp [zcQ, col, hen]
    have hmv : ∀ e tt, io = some (e, i) -> z0i fr2.ob e = some tt -> R2 e = G (fn.ntmps + 1000 + i) -> TRep w K3 (col i) (G (fn.ntmps + 1000 + i)) tt := fun e tt he hob hR => hR ▸ hmv0 e tt he hob
    split
    · unfold zfS
      split
      · rename_i e off hge
        have hie : io = some (e, i) := by simp only [io, hidx, zao, hge]
        split
        · rename_i cs hob
          rw [hge] at hg
          obtain ⟨hv, g, n1, n4, n5, _⟩ := hg
          simp only [nav, Option.some.injEq] at n1
          have hr := hmv0 e _ hie hob
          rw [n1] at hr
          rw [hr.vr_val n4] at hr
          rw [n5]
          exact .vo _ g off cs hr
        · exact .dead _ _
      · exact .dead _ _
    unfold zfT
    split
    · rename_i e hge
      have hie : io = some (e, i) := by simp only [io, hidx, zao, hge]
      split
      · rename_i tt hob
        rw [hge] at hg
        obtain ⟨n1, _⟩ := hg
        simp only [nav, Option.some.injEq] at n1
        exact hmv e tt hie hob n1
      · exact .dead _ _
    · rename_i e hge
      have hie : io = some (e, i) := by simp only [io, hidx, zao, hge]
      split
      · rename_i cs hob
        rw [hge] at hg
        obtain ⟨hv, g, n1, n4, n5, _⟩ := hg
        simp only [nav, Option.some.injEq] at n1
        refine hmv e _ hie hob ?_
        have hr := q1.ob e _ hob
        rw [n5, n1]
        rw [n1] at hr
        cases hr with
        | vr c g' cs arr e' fz F hfz hc0 hK hg' hl hF hh =>
          simp only [z1j, Option.some.injEq] at n4
          rw [n4]
      · exact .dead _ _
    · exact .dead _ _
  refine ⟨_, K3, hres, ?_⟩
  split at hx
  case h_2 => cases hx
  case h_1 ts hob =>
  have htup := q1.ob fr.nt _ hob
  rw [hRN] at htup
  split at hx
  · rename_i hone
    split at hx
    · rename_i t
      cases hx
      refine ⟨?_, houts rfl, q2.trans hstep⟩
      rw [if_pos (by omega)]
      obtain ⟨v', k1, k2⟩ := htup.kid (j := 0) (t' := r) (z0f _) rfl
      have hv' : v' = us.getD 0 undef := by
        simp only [z4q] at k1
        have : 0 < us.length := by omega
        simp [List.getD, this] at k1 ⊢
        exact k1.symm
      rw [← hv']
      refine k2.move (fun b s hb hcc hKb => ⟨?_, rfl⟩) (fun b hb e0 => ⟨hK3 b e0, rfl⟩) (by simp [col]) (Nat.le_refl _)
      show zcQ fr.nt io one (K2 b) = _
      rw [hKb]
      simp [zcQ, col, one, hone]
    · cases hx
  · rename_i hone
    cases hx
    refine ⟨?_, houts rfl, q2.trans hstep⟩
    rw [if_neg (by omega)]
    refine htup.move (fun b s hb hcc hKb => ⟨?_, rfl⟩) (fun b hb e0 => ⟨hK3 b e0, rfl⟩) (by simp [col]) (Nat.le_refl _)
    show zcQ fr.nt io one (K2 b) = _
    rw [hKb]
    simp [zcQ, col, one, hone]
theorem z8C {P : Program} {fn : Func} {args : List T} {fr : Fr} {r : T} {outs : List T} {w : World} {K : Nat -> z0a} {R G : Nat -> Value} {a : Act} (h : FRep w K R G fr a) (hx : z3m P fn args fr = some (r, outs)) (h1 : (args.filter z1g).length <= 1) :
    ∃ v K', (results fn a.tmps).run P w = .ok v w /\ TRep w K' [0] v r /\ (∀ i t, args[i]? = some t -> z1g t = true -> ∃ t', outs[i]? = some t' /\ TRep w K' (col i) (G (fn.ntmps + 1000 + i)) t') /\ Step w K w K' := by
  unfold z3m at hx
  have keep : zfG fr fn.ntmps args = fr ∨ ∃ e p fr1, z3N fr e p (fr.nt + 7) = some fr1 /\ zfG fr fn.ntmps args = fr1 := by
    unfold zfG
    split
    · exact .inl rfl
    · split
      · rename_i e j p _
        cases ht : z3N fr e (j :: p) (fr.nt + 7) with
        | none => exact .inl rfl
        | some f => exact .inr ⟨_, _, f, ht, rfl⟩
      · exact .inl rfl
  rcases keep with e | ⟨e, p, fr1, e1, e2⟩
  · rw [e] at hx; exact z9I h hx h1
  · rw [e2] at hx
    obtain ⟨vp, t, -, -, h2⟩ := h.take e1
    obtain ⟨v, K', r1, r2, r3, r4⟩ := z9I h2 hx h1
    exact ⟨v, K', r1, r2, r3, (z4u e p _).trans r4⟩
theorem zfy {P : Program} {I : World -> (Nat -> z0a) -> Prop} {C : z0b} {cf : Cfg} {LF : Nat} {f : FuncId} {fn : Func} {c : Code} {args : List T} {r : T} {outs : List T} (hI : EnvS I) (hC : z1y P I C) (hm : P.follows .mixedOrders = true) (hfn : P.funcs[f]? = some fn) (hb : fn.body = some c) (hname : fn.name ≠ "runtime.NumGoroutine")
    (hok : okC cf c = true) (hr : z6O P C cf LF fn args = some (r, outs)) : CallOk P I f args r outs := by
  unfold z6O at hr
  split at hr
  case isFalse => cases hr
  case isTrue hc =>
  rw [hb] at hr
  simp only at hr
  refine ⟨fun vals w => by simp [callFunc, program, Sem.run, hfn, hname, hb], fun w K vals hs ha hIw => ?_⟩
  have hent := z5o (nt := fn.ntmps) hs ha hc.1
  have main : ∀ x fr, (x = .n ∨ x = .r) -> z0k P C cf LF c (z0V fn.ntmps args) = some (x, fr) -> zeE cf (z3m P fn args fr) = some (r, outs) ->
      Calls P f vals w fun e w' => ∃ v K', e = .returned v /\ TRep w' K' [0] v r /\ (∀ i t, args[i]? = some t -> z1g t = true -> ∃ t', outs[i]? = some t' /\ TRep w' K' (col i) (vals.getD i undef) t') /\ Step w K w' K' := fun x fr hx hcode hexit => by
    refine calls_of_wp hfn hb (z8J hI hC hm c hok hent hIw hcode fun a' w' K' R' h' hst => ?_)
    obtain ⟨r0, hex0, hr0⟩ := zbN hexit
    obtain ⟨v, K1, e1, e20, e30, e40⟩ := z8C h' hex0 hc.2
    obtain ⟨K2, e2, e3, e4⟩ : ∃ K2, TRep w' K2 [0] v r /\ (∀ i t, args[i]? = some t -> z1g t = true -> ∃ t', outs[i]? = some t' /\ TRep w' K2 (col i) (vals.getD (fn.ntmps + 1000 + i - (fn.ntmps + 1000)) undef) t') /\ Step w' K' w' K2 := by
      rcases hr0 with e | e
      · rw [e]; exact ⟨K1, e20, e30, e40⟩
      · rw [e]
        refine ⟨fun b => dz (K1 b), e20.freeze (fun b s hb hcc hK => ⟨by show dz (K1 b) = []; rw [hK]; rfl, rfl⟩) (fun b hb hK => ⟨by show dz (K1 b) = []; rw [hK]; rfl, rfl⟩) (Nat.le_refl _) [0], fun i t hi hio => ?_, e40.trans ⟨rfl, rfl, rfl, Nat.le_refl _, fun b hb hcc => ⟨by
          show dz (K1 b) = K1 b
          rcases hcc with q | q <;> rw [q] <;> rfl, rfl⟩, .same rfl⟩⟩
        obtain ⟨t', f1, f2⟩ := e30 i t hi hio
        exact ⟨t', f1, f2.move (fun b s hb hcc hK => ⟨by show dz (K1 b) = col i ++ s; rw [hK]; rfl, rfl⟩) (fun b hb hK => ⟨by show dz (K1 b) = []; rw [hK]; rfl, rfl⟩) Iff.rfl (Nat.le_refl _)⟩
    have hpost : a'.defers = [] /\ ∃ v, (results fn a'.tmps).run P w' = .ok v w' /\ ∃ v' K', Ending.returned v = .returned v' /\ TRep w' K' [0] v' r /\ (∀ i t, args[i]? = some t -> z1g t = true -> ∃ t', outs[i]? = some t' /\ TRep w' K' (col i) (vals.getD i undef) t') /\ Step w K w' K' :=
      ⟨h'.df, v, e1, v, K2, rfl, e2, fun i t hi hio => by
        obtain ⟨t', f1, f2⟩ := e3 i t hi hio
        rw [show fn.ntmps + 1000 + i - (fn.ntmps + 1000) = i by omega] at f2
        exact ⟨t', f1, f2⟩, hst.trans e4⟩
    rcases hx with rfl | rfl
    · exact hpost
    · exact hpost
  split at hr
  · rename_i fr hcode
    exact main .n fr (.inl rfl) hcode hr
  · rename_i fr hcode
    exact main .r fr (.inr rfl) hcode hr
  · cases hr
end
section
def wpC (P : Program) (C : z0b) (cf : Cfg) (LF : Nat) (c : Code) (fr : Fr) (Q : X -> Fr -> Prop) : Prop := ∃ x fr', z0k P C cf LF c fr = some (x, fr') /\ Q x fr'
def zgl (P : Program) (C : z0b) (wio : FuncId -> Nat -> Bool) (ops : Array Oper) : List Oper -> Fr -> (Fr -> Prop) -> Prop
  | [], fr, Q => Q fr
  | o :: rest, fr, Q => ∃ b, z1O ops fr o = some b /\ (b = true -> ∃ fr', opF P C wio fr o = some fr' /\ zgl P C wio ops rest fr' Q) /\ (b = false -> ∃ fr', putF fr o.dst (.one (.k undef)) = some fr' /\ zgl P C wio ops rest fr' Q)
variable {P : Program} {C : z0b} {cf : Cfg} {LF : Nat} {fr : Fr} {Q : X -> Fr -> Prop}
theorem zcU (h : Q .n fr) : wpC P C cf LF .skip fr Q := ⟨_, _, rfl, h⟩
theorem zb4 {i} (h : Q .n fr) : wpC P C cf LF (.label i) fr Q := ⟨_, _, rfl, h⟩
theorem zcV {i} (h : Q (.x i) fr) : wpC P C cf LF (.exit i) fr Q := ⟨_, _, rfl, h⟩
theorem ze4 (h : Q .r fr) : wpC P C cf LF .ret fr Q := ⟨_, _, rfl, h⟩
def z8g (Q1 : Fr -> Prop) (Q : X -> Fr -> Prop) : X -> Fr -> Prop
  | .n, fr => Q1 fr
  | .x i, fr => Q (.x i) fr
  | .r, fr => Q .r fr
theorem ze3 {a b : Code} (h : wpC P C cf LF a fr (z8g (fun fr' => wpC P C cf LF b fr' Q) Q)) : wpC P C cf LF (.seq a b) fr Q := by
  obtain ⟨x, fr1, e, h⟩ := h
  cases x with
  | n =>
    obtain ⟨y, fr2, e2, h⟩ := h
    exact ⟨y, fr2, by simp only [z0k, e, e2], h⟩
  | x i => exact ⟨_, _, by simp only [z0k, e], h⟩
  | r => exact ⟨_, _, by simp only [z0k, e], h⟩
def z1T (id : Nat) (Q : X -> Fr -> Prop) : X -> Fr -> Prop
  | .n, fr => Q .n fr
  | .x i, fr => if i = id then Q .n fr else Q (.x i) fr
  | .r, fr => Q .r fr
theorem zb6 {id : Nat} {c : Code} (h : wpC P C cf LF c fr (z1T id Q)) : wpC P C cf LF (.block id c) fr Q := by
  obtain ⟨x, fr1, e, h⟩ := h
  cases x with
  | n => exact ⟨_, _, by simp only [z0k, e], h⟩
  | x i =>
    simp only [z1T] at h
    by_cases hi : i = id
    · rw [if_pos hi] at h
      exact ⟨.n, fr1, by simp only [z0k, e, if_pos hi], h⟩
    · rw [if_neg hi] at h
      exact ⟨.x i, fr1, by simp only [z0k, e, if_neg hi], h⟩
  | r => exact ⟨_, _, by simp only [z0k, e], h⟩
structure Hid (p : Prop) : Prop where
  out : p
def zfr (o : Option Bool) (Q1 Q2 : Prop) : Prop := match o with | some b => (b = true -> Q1) /\ (b = false -> Q2) | none => False
theorem zba {b : Bool} {Q1 Q2 : Prop} : zfr (some b) Q1 Q2 = ((b = true -> Q1) /\ (b = false -> Q2)) := rfl
theorem zeb {o : Option Bool} {Q1 Q2 : Prop} (h : zfr o Q1 Q2) : ∃ b, o = some b /\ (b = true -> Q1) /\ (b = false -> Q2) := by
  cases o with
  | none => exact absurd h id
  | some b => exact ⟨b, rfl, h⟩
def zfa (o : Option Value) (Q1 Q2 : Prop) : Prop := match o with | some (.bool b) => (b = true -> Q1) /\ (b = false -> Q2) | _ => False
theorem z6R {b : Bool} {Q1 Q2 : Prop} : zfa (some (.bool b)) Q1 Q2 = ((b = true -> Q1) /\ (b = false -> Q2)) := rfl
theorem zea {o : Option Value} {Q1 Q2 : Prop} (h : zfa o Q1 Q2) : ∃ b, o = some (.bool b) /\ (b = true -> Q1) /\ (b = false -> Q2) := by
  unfold zfa at h
  split at h
  · exact ⟨_, rfl, h⟩
  · exact absurd h id
def z7Y (o : Option Fr) (Q : Fr -> Prop) : Prop := match o with | some fr => Q fr | none => False
theorem z7X {fr : Fr} {Q : Fr -> Prop} : z7Y (some fr) Q = Q fr := rfl
theorem z5w {o : Option Fr} {Q : Fr -> Prop} (h : z7Y o Q) : ∃ fr, o = some fr /\ Q fr := by
  cases o with
  | none => exact absurd h id
  | some fr => exact ⟨fr, rfl, h⟩
theorem za5 {id : Nat} {ops : Array Oper} {draw : Bool} (hd : draw = false) (hz : cf.fz id = none) (h : ∀ Q' : Fr -> Prop, Hid (∀ fr', Q .n fr' -> Q' fr') -> z7Y (z8j P C cf.wio ops ops.toList fr) Q') : wpC P C cf LF (.region id ops draw) fr Q := by
  obtain ⟨fr', e, h⟩ := z5w (h (Q .n) ⟨fun _ h => h⟩)
  subst hd
  exact ⟨.n, fr', by simp [z0k, hz, zdt, e], h⟩
theorem ze5 {id : Nat} {ops : Array Oper} {draw : Bool} {l : List Nat} {fr1 : Fr} (hz : cf.fz id = some l) (hf : zfk fr l = fr1) (h : wpC P C { cf with fz := fun _ => none } LF (.region id ops draw) fr1 Q) : wpC P C cf LF (.region id ops draw) fr Q := by
  obtain ⟨x, fr', e, h⟩ := h
  refine ⟨x, fr', ?_, h⟩
  simp only [z0k, zdt] at e
  simp only [z0k, hz, zdt, hf]
  exact e
def zh8 (P : Program) (C : z0b) (wio : FuncId -> Nat -> Bool) (M : List Nat) (ops : Array Oper) (sch : List (Nat × Nat)) (fr : Fr) : Option Fr := match z2B P C wio M.isEmpty M.contains ops (z3z ops sch) fr with | some fr1 => z1k P ops.toList fr1 | none => none
def z4O (P : Program) (C : z0b) (wio : FuncId -> Nat -> Bool) (same : Bool) (M : Nat -> Bool) (fr : Fr) (o : Oper) (m : Nat) : Option Fr :=
  if m = 0 ∨ m = 3 then (match z2u P (if m = 0 then M else zgx) fr o.op with | some e => putF fr o.dst e | none => none)
  else if m = 2 then opF P C wio fr o else if same then z3a P C wio fr o else wrF P C wio M fr o
def z2c (P : Program) (C : z0b) (wio : FuncId -> Nat -> Bool) (M : List Nat) (ops : Array Oper) : List (Nat × Nat) -> Fr -> (Fr -> Prop) -> Prop
  | [], fr, Q => Q fr
  | (k, m) :: rest, fr, Q => ∃ o, ops[k]? = some o /\ ∃ b, z1O ops fr o = some b /\ (b = true -> ∃ fr', z4O P C wio M.isEmpty M.contains fr o m = some fr' /\ z2c P C wio M ops rest fr' Q) /\ (b = false -> ∃ fr', putF fr o.dst (.one (.k undef)) = some fr' /\ z2c P C wio M ops rest fr' Q)
theorem z3W {P : Program} {C : z0b} {wio : FuncId -> Nat -> Bool} {M : List Nat} {ops : Array Oper} {Q : Fr -> Prop} : ∀ {l : List (Nat × Nat)} {fr : Fr}, z2c P C wio M ops l fr Q -> ∃ fr', z2B P C wio M.isEmpty M.contains ops (z3z ops l) fr = some fr' /\ Q fr'
  | [], fr, h => ⟨fr, rfl, h⟩
  | (k, m) :: rest, fr, ⟨o, ho, b, hb, h1, h2⟩ => by
    have hp : z3z ops ((k, m) :: rest) = (k, o, m) :: z3z ops rest := by simp [z3z, ho]
    rw [hp]
    cases b with
    | true =>
      obtain ⟨fr', e, h⟩ := h1 rfl
      obtain ⟨x, e2, h⟩ := z3W h
      refine ⟨x, ?_, h⟩
      simp only [z2B, hb]
      unfold z4O at e
      by_cases hm : m = 0 ∨ m = 3
      · rw [if_pos hm] at e ⊢
        split at e
        · rename_i e' he'
          simp only [he', e, e2]
        · cases e
      · rw [if_neg hm] at e ⊢
        simp only [e, e2]
    | false =>
      obtain ⟨fr', e, h⟩ := h2 rfl
      obtain ⟨x, e2, h⟩ := z3W h
      exact ⟨x, by simp only [z2B, hb, e, e2], h⟩
theorem zb5 {id : Nat} {ops : Array Oper} {draw : Bool} {sch : List (Nat × Nat)} (hd : draw = true) (hs : cf.dr id = some sch) (hz : cf.fz id = none) (h : z2c P C cf.wio (cf.wr id) ops sch fr (fun fr1 => z7Y (z1k P ops.toList fr1) (Q .n))) (ht : cf.dt id = none := by rfl) : wpC P C cf LF (.region id ops draw) fr Q := by
  obtain ⟨fr1, e1, h⟩ := z3W h
  obtain ⟨fr2, e2, h⟩ := z5w h
  subst hd
  exact ⟨.n, fr2, by simp only [z0k, if_true, z1W, ht, hs, hz, zdt, e1, e2], h⟩
theorem zcp {wio : FuncId -> Nat -> Bool} {M : List Nat} {ops : Array Oper} {l : List Oper} {Q : X -> Fr -> Prop} (h : ∀ Q' : Fr -> Prop, Hid (∀ fr', Q .n fr' -> Q' fr') -> z7Y (z1k P l fr) Q') : z2c P C wio M ops [] fr (fun fr1 => z7Y (z1k P l fr1) (Q .n)) := h _ ⟨fun _ h => h⟩
theorem zdz {wio : FuncId -> Nat -> Bool} {M : List Nat} {ops : Array Oper} {k m : Nat} {o : Oper} {l : List (Nat × Nat)} {Q : Fr -> Prop} (ho : ops[k]? = some o) (hg : o.guard = none) (h : ∀ Q' : Fr -> Prop, Hid (∀ fr', z2c P C wio M ops l fr' Q -> Q' fr') -> z7Y (z4O P C wio M.isEmpty M.contains fr o m) Q') : z2c P C wio M ops ((k, m) :: l) fr Q := by
  obtain ⟨fr', e, h⟩ := z5w (h _ ⟨fun _ h => h⟩)
  exact ⟨o, ho, true, by simp [z1O, hg], fun _ => ⟨fr', e, h⟩, fun h => by cases h⟩
theorem z8F {wio : FuncId -> Nat -> Bool} {M : List Nat} {ops : Array Oper} {k m : Nat} {o : Oper} {l : List (Nat × Nat)} {Q : Fr -> Prop} (ho : ops[k]? = some o) (h : ∀ Q1 Q2 : Prop, Hid ((∀ Q' : Fr -> Prop, Hid (∀ fr', z2c P C wio M ops l fr' Q -> Q' fr') -> z7Y (z4O P C wio M.isEmpty M.contains fr o m) Q') -> Q1) -> Hid ((∀ Q' : Fr -> Prop, Hid (∀ fr', z2c P C wio M ops l fr' Q -> Q' fr') -> z7Y (putF fr o.dst (.one (.k undef))) Q') -> Q2) -> zfr (z1O ops fr o) Q1 Q2) : z2c P C wio M ops ((k, m) :: l) fr Q := by
  obtain ⟨b, hb, h1, h2⟩ := zeb (h _ _ ⟨id⟩ ⟨id⟩)
  refine ⟨o, ho, b, hb, fun e => ?_, fun e => ?_⟩
  · obtain ⟨fr', e, h⟩ := z5w (h1 e _ ⟨fun _ h => h⟩)
    exact ⟨fr', e, h⟩
  · obtain ⟨fr', e, h⟩ := z5w (h2 e _ ⟨fun _ h => h⟩)
    exact ⟨fr', e, h⟩
theorem zfp {c : Operand} {x y : Code} (h : ∀ Q1 Q2 : Prop, Hid (wpC P C cf LF x fr Q -> Q1) -> Hid (wpC P C cf LF y fr Q -> Q2) -> zfa (rdV (opE fr c)) Q1 Q2) : wpC P C cf LF (.cond c x y) fr Q := by
  obtain ⟨b, h, h1, h2⟩ := zea (h _ _ ⟨id⟩ ⟨id⟩)
  cases b with
  | true =>
    obtain ⟨x, fr1, e, h'⟩ := h1 rfl
    exact ⟨x, fr1, by simp only [z0k, h, e], h'⟩
  | false =>
    obtain ⟨x, fr1, e, h'⟩ := h2 rfl
    exact ⟨x, fr1, by simp only [z0k, h, e], h'⟩
theorem zef {Q1 : Fr -> Prop} (h : Q1 fr) : z8g Q1 Q .n fr := h
theorem zed {Q1 : Fr -> Prop} {i} (h : Q (.x i) fr) : z8g Q1 Q (.x i) fr := h
theorem zee {Q1 : Fr -> Prop} (h : Q .r fr) : z8g Q1 Q .r fr := h
theorem zdG {id} (h : Q .n fr) : z1T id Q .n fr := h
theorem zaY {id} (h : Q .n fr) : z1T id Q (.x id) fr := by simp [z1T, h]
theorem z8P {id i} (hi : (i == id) = false) (h : Q (.x i) fr) : z1T id Q (.x i) fr := by
  have : i ≠ id := by simpa using hi
  simp [z1T, this, h]
theorem zdF {id} (h : Q .r fr) : z1T id Q .r fr := h
theorem zhR {a b : Int} (h : b <= a) : (a < b) = False := by simp; omega
theorem zhT {a b : Int} (h : b < a) : (a <= b) = False := by simp; omega
theorem zhQ {a b : Nat} (h : b <= a) : (a < b) = False := by simp; omega
theorem zhS {a b : Nat} (h : b < a) : (a <= b) = False := by simp; omega
def zh4 (I : Nat -> Fr -> Prop) (cn : Fr -> Fr) (m : Nat) (Q : X -> Fr -> Prop) : X -> Fr -> Prop
  | .n, fr => ∃ k, k < m /\ I k (cn fr)
  | .x i, fr => Q (.x i) fr
  | .r, fr => Q .r fr
def zfB (I : Nat -> Prop) (H : Nat -> Fr) (cn : Fr -> Fr) (n k : Nat) (Q : X -> Fr -> Prop) : X -> Fr -> Prop
  | .n, fr => k < n /\ I (k + 1) /\ cn fr = H (k + 1)
  | .x i, fr => Q (.x i) fr
  | .r, fr => Q .r fr
def zeY (P : Program) (fn : Func) (args : List T) (r : T) (outs : List T) : X -> Fr -> Prop
  | .n, fr => z3m P fn args fr = some (r, outs)
  | .r, fr => z3m P fn args fr = some (r, outs)
  | .x _, _ => False
def zeX (P : Program) (fn : Func) (args : List T) (r : T) (outs : List T) : X -> Fr -> Prop
  | .n, fr => (z3m P fn args fr).map (fun x => (z0l x.1, x.2)) = some (r, outs)
  | .r, fr => (z3m P fn args fr).map (fun x => (z0l x.1, x.2)) = some (r, outs)
  | .x _, _ => False
theorem zd5 {fn : Func} {c : Code} {args : List T} {r : T} {outs : List T} (hb : fn.body = some c) (ha : args.length <= fn.ntmps /\ (args.filter z1g).length <= 1) (hz : (cf.fz 999998).isSome = true) (h : wpC P C cf LF c (z0V fn.ntmps args) (zeX P fn args r outs)) : z6O P C cf LF fn args = some (r, outs) := by
  obtain ⟨x, fr', e, h⟩ := h
  obtain ⟨l, hl⟩ := Option.isSome_iff_exists.1 hz
  unfold z6O zeE
  rw [if_pos ha, hb]
  simp only [e, hl]
  cases x with
  | n => exact h
  | x i => exact absurd h id
  | r => exact h
theorem zem {fn : Func} {c : Code} {args : List T} {r : T} {outs : List T} (hb : fn.body = some c) (ha : args.length <= fn.ntmps /\ (args.filter z1g).length <= 1) (h : wpC P C cf LF c (z0V fn.ntmps args) (zeY P fn args r outs)) (hz : cf.fz 999998 = none := by rfl) : z6O P C cf LF fn args = some (r, outs) := by
  obtain ⟨x, fr', e, h⟩ := h
  unfold z6O zeE
  rw [if_pos ha, hb]
  simp only [e, hz]
  cases x with
  | n => exact h
  | x i => exact absurd h id
  | r => exact h
def z4p : Code -> Nat
  | .skip => 0
  | .region _ _ _ => 1
  | .seq _ _ => 2
  | .cond _ _ _ => 3
  | .block _ _ => 4
  | .loop _ => 5
  | .exit _ => 6
  | .ret => 7
  | .label _ => 8
  | .scope _ => 10
  | _ => 9
def zfe : Code -> Code
  | .seq a _ => a
  | c => c
def zfd : Code -> Code
  | .seq _ b => b
  | c => c
def cdA : Code -> Code
  | .cond _ x _ => x
  | c => c
def cdB : Code -> Code
  | .cond _ _ y => y
  | c => c
def cdO : Code -> Option Operand
  | .cond o _ _ => some o
  | _ => none
def blC : Code -> Code
  | .block _ c => c
  | c => c
def blI : Code -> Nat
  | .block i _ => i
  | _ => 0
def lpC : Code -> Code
  | .loop c => c
  | c => c
def spC : Code -> Code
  | .scope c => c
  | c => c
def exI : Code -> Nat
  | .exit i => i
  | _ => 0
def rgI : Code -> Nat
  | .region i _ _ => i
  | _ => 0
def rgD : Code -> Bool
  | .region _ _ d => d
  | _ => false
def rgO : Code -> Array Oper
  | .region _ ops _ => ops
  | _ => #[]
def rgN : Code -> Option Nat
  | .region i _ _ => some i
  | _ => none
def rgL (c : Code) : Option (List Oper) := match c with | .region _ ops _ => some ops.toList | _ => none
section
variable {c : Code}
theorem zfD (hk : z4p c = 0) (h : Q .n fr) : wpC P C cf LF c fr Q := by
  cases c <;> first | exact zcU h | cases hk
theorem zes (hk : z4p c = 8) (h : Q .n fr) : wpC P C cf LF c fr Q := by
  cases c <;> first | exact zb4 h | cases hk
theorem zfE (hk : z4p c = 6) (h : Q (.x (exI c)) fr) : wpC P C cf LF c fr Q := by
  cases c <;> first | exact zcV h | cases hk
theorem zgL (hk : z4p c = 7) (h : Q .r fr) : wpC P C cf LF c fr Q := by
  cases c <;> first | exact ze4 h | cases hk
theorem zgK (hk : z4p c = 2) (h : wpC P C cf LF (zfe c) fr (z8g (fun fr' => wpC P C cf LF (zfd c) fr' Q) Q)) : wpC P C cf LF c fr Q := by
  cases c <;> first | exact ze3 h | cases hk
theorem zeu (hk : z4p c = 4) (h : wpC P C cf LF (blC c) fr (z1T (blI c) Q)) : wpC P C cf LF c fr Q := by
  cases c <;> first | exact zb6 h | cases hk
theorem zhv {o : Operand} (ho : cdO c = some o) (h : ∀ Q1 Q2 : Prop, Hid (wpC P C cf LF (cdA c) fr Q -> Q1) -> Hid (wpC P C cf LF (cdB c) fr Q -> Q2) -> zfa (rdV (opE fr o)) Q1 Q2) : wpC P C cf LF c fr Q := by
  cases c <;> first | (cases ho; exact zfp h) | cases ho
theorem zdb {l : List Oper} (hl : rgL c = some l) (hd : rgD c = false) (hz : cf.fz (rgI c) = none) (h : ∀ Q' : Fr -> Prop, Hid (∀ fr', Q .n fr' -> Q' fr') -> z7Y (z8j P C cf.wio l.toArray l fr) Q') : wpC P C cf LF c fr Q := by
  cases c with
  | region i ops d =>
    cases hl
    exact za5 hd hz (by simpa using h)
  | _ => cases hl
theorem zgO {l : List Nat} {fr1 : Fr} (hk : z4p c = 1) (hz : cf.fz (rgI c) = some l) (hf : zfk fr l = fr1) (h : wpC P C { cf with fz := fun _ => none } LF c fr1 Q) : wpC P C cf LF c fr Q := by
  cases c <;> first | exact ze5 hz hf h | cases hk
theorem zet {i : Nat} {sch : List (Nat × Nat)} (hi : rgN c = some i) (hd : rgD c = true) (hs : cf.dr i = some sch) (hz : cf.fz i = none) (h : z2c P C cf.wio (cf.wr i) (rgO c) sch fr (fun fr1 => z7Y (z1k P (rgO c).toList fr1) (Q .n))) (ht : cf.dt i = none := by rfl) : wpC P C cf LF c fr Q := by
  cases c with
  | region j ops d =>
    cases hi
    exact zb5 hd hs hz h ht
  | _ => cases hi
def zfU : List Oper -> Nat -> Option Oper
  | [], _ => none
  | o :: _, 0 => some o
  | _ :: l, k + 1 => zfU l k
theorem zeD (l : List Oper) : ∀ (k : Nat) (o : Oper), zfU l k = some o -> l[k]? = some o := by
  induction l with
  | nil => intro k o h; cases k <;> cases h
  | cons a l ih =>
    intro k o h
    cases k with
    | zero => simpa [zfU] using h
    | succ k => simpa using ih k o (by simpa [zfU] using h)
def zbK (c : Code) (k : Nat) : Option Oper := match c with | .region _ ops _ => zfU ops.toList k | _ => none
theorem z4Y {c : Code} {k : Nat} {o : Oper} (h : zbK c k = some o) : (rgO c)[k]? = some o := by
  cases c with
  | region i ops d => rw [← Array.getElem?_toList]; exact zeD _ _ _ h
  | _ => cases h
theorem z8k {wio : FuncId -> Nat -> Bool} {M : List Nat} {ops : Array Oper} {l : List Oper} {Q : X -> Fr -> Prop} (hl : rgL c = some l) (h : ∀ Q' : Fr -> Prop, Hid (∀ fr', Q .n fr' -> Q' fr') -> z7Y (z1k P l fr) Q') : z2c P C wio M ops [] fr (fun fr1 => z7Y (z1k P (rgO c).toList fr1) (Q .n)) := by
  have e : (rgO c).toList = l := by
    cases c with
    | region i ops d => cases hl; rfl
    | _ => cases hl
  rw [e]
  exact zcp h
def zhy : Option Oper -> Option Nat
  | some o => o.dst
  | none => none
def zeN (c : Code) (o : Oper) : Option (Option (Option Nat × Bool)) := match o.guard with | none => some none | some (j, want) => (match zhy (zbK c j) with | some t => some (some (some t, want)) | none => none)
def zdY (g : Option (Option Nat × Bool)) (fr : Fr) : Option Bool :=
  match g with
  | none => some true
  | some (none, _) => some false
  | some (some t, want) => if t < fr.nt then (match z8S (z0n fr.tm t) with | some b => some (b == some want) | none => none) else none
theorem zc9 {o : Oper} {g : Option (Option Nat × Bool)} (hg : zeN c o = some g) (fr : Fr) : z1O (rgO c) fr o = zdY g fr := by
  unfold zeN at hg
  unfold z1O zdY
  split at hg
  · rename_i h; cases hg; simp [h]
  · rename_i j want h
    split at hg
    · rename_i t ht
      cases hg
      have e : ((rgO c)[j]?).bind (·.dst) = some t := by
        unfold zhy at ht
        split at ht
        · rename_i o' ho'
          rw [z4Y ho']; exact ht
        · cases ht
      simp only [h, e]
      all_goals rfl
    · cases hg
theorem zag {wio : FuncId -> Nat -> Bool} {M : List Nat} {k m : Nat} {o : Oper} {l : List (Nat × Nat)} {Q : Fr -> Prop} (ho : zbK c k = some o) (hg : o.guard = none) (h : ∀ Q' : Fr -> Prop, Hid (∀ fr', z2c P C wio M (rgO c) l fr' Q -> Q' fr') -> z7Y (z4O P C wio M.isEmpty M.contains fr o m) Q') : z2c P C wio M (rgO c) ((k, m) :: l) fr Q := zdz (z4Y ho) hg h
theorem z6d {wio : FuncId -> Nat -> Bool} {M : List Nat} {k m : Nat} {o : Oper} {g : Option (Option Nat × Bool)} {l : List (Nat × Nat)} {Q : Fr -> Prop} (ho : zbK c k = some o) (hg : zeN c o = some g) (h : ∀ Q1 Q2 : Prop, Hid ((∀ Q' : Fr -> Prop, Hid (∀ fr', z2c P C wio M (rgO c) l fr' Q -> Q' fr') -> z7Y (z4O P C wio M.isEmpty M.contains fr o m) Q') -> Q1) -> Hid ((∀ Q' : Fr -> Prop, Hid (∀ fr', z2c P C wio M (rgO c) l fr' Q -> Q' fr') -> z7Y (putF fr o.dst (.one (.k undef))) Q') -> Q2) -> zfr (zdY g fr) Q1 Q2) : z2c P C wio M (rgO c) ((k, m) :: l) fr Q :=
  z8F (z4Y ho) (by simpa only [zc9 hg] using h)
def zhH (P : Program) (C : z0b) (wio : FuncId -> Nat -> Bool) (c : Code) (k : Nat) (fr : Fr) (Q : Fr -> Prop) : Prop := zgl P C wio (rgO c) ((rgO c).toList.drop k) fr Q
theorem zep (hk : z4p c = 10) (h : wpC P C cf LF (spC c) fr Q) : wpC P C cf LF c fr Q := by
  cases c with
  | scope c => unfold wpC at h ⊢; simpa only [z0k, spC] using h
  | _ => cases hk
def z1v (P : Program) (C : z0b) (cf : Cfg) (c : Code) (i : Nat) (t : SchT) (fr : Fr) (Q : Fr -> Prop) : Prop := ∃ fr', z1x P C cf.wio (cf.wr i).isEmpty (cf.wr i).contains (rgO c) t fr = some fr' /\ Q fr'
theorem zfC {i : Nat} {t : SchT} (hi : rgN c = some i) (hd : rgD c = true) (ht : cf.dt i = some t) (hz : cf.fz i = none) (h : z1v P C cf c i t fr (fun fr1 => ∃ fr2, z1k P (rgO c).toList fr1 = some fr2 /\ Q .n fr2)) : wpC P C cf LF c fr Q := by
  cases c with
  | region j ops d =>
    cases hi
    simp only [rgD] at hd
    subst hd
    obtain ⟨fr1, e1, fr2, e2, h⟩ := h
    simp only [rgO] at e1 e2
    exact ⟨.n, fr2, by simp only [z0k, if_true, z1W, ht, hz, zdt, e1, e2], h⟩
  | _ => cases hi
theorem zft {i : Nat} {Q : Fr -> Prop} (h : Q fr) : z1v P C cf c i .nil fr Q := ⟨fr, by simp only [z1x], h⟩
theorem zfu {l : List Oper} {fr2 : Fr} {Q : X -> Fr -> Prop} (hl : rgL c = some l) (ha : z1k P l fr = some fr2) (h : Q .n fr2) : ∃ fr2, z1k P (rgO c).toList fr = some fr2 /\ Q .n fr2 := by
  cases c with
  | region j ops d => cases hl; exact ⟨fr2, ha, h⟩
  | _ => cases hl
def z6T (P : Program) (C : z0b) (wio : FuncId -> Nat -> Bool) (same : Bool) (M : Nat -> Bool) (fr : Fr) (o : Oper) (m : Nat) : Option Fr := match z4O P C wio same M fr o m with | some f => some (zdW f) | none => none
theorem z5K {i k m : Nat} {rest : SchT} {o : Oper} {fr1 fr' : Fr} (ho : zbK c k = some o) (hgd : z1O (rgO c) fr o = some true) (hs : z6T P C cf.wio (cf.wr i).isEmpty (cf.wr i).contains fr o m = some fr1) (e : z1x P C cf.wio (cf.wr i).isEmpty (cf.wr i).contains (rgO c) rest fr1 = some fr') : z1x P C cf.wio (cf.wr i).isEmpty (cf.wr i).contains (rgO c) (.op k m rest) fr = some fr' := by
  unfold z6T at hs
  split at hs
  case h_2 => cases hs
  case h_1 f hz =>
  cases hs
  simp only [z1x, z4Y ho, hgd]
  unfold z4O at hz
  split at hz
  · rename_i hm
    rw [if_pos hm]
    split at hz
    · rename_i e1 he
      try rw [he]
      simp only [hz]
      exact e
    · cases hz
  · rename_i hm
    rw [if_neg hm]
    rw [hz]
    exact e
theorem zgD {i k m : Nat} {rest : SchT} {o : Oper} {fr1 : Fr} {Q : Fr -> Prop} (ho : zbK c k = some o) (hg : o.guard = none) (hs : z6T P C cf.wio (cf.wr i).isEmpty (cf.wr i).contains fr o m = some fr1) (h : z1v P C cf c i rest fr1 Q) : z1v P C cf c i (.op k m rest) fr Q := by
  obtain ⟨fr', e, h⟩ := h
  exact ⟨fr', z5K ho (by unfold z1O; rw [hg]) hs e, h⟩
theorem zgE {i k m : Nat} {rest : SchT} {o : Oper} {g : Option (Option Nat × Bool)} {fr1 : Fr} {Q : Fr -> Prop} (ho : zbK c k = some o) (hg : zeN c o = some g) (hv : zdY g fr = some true) (hs : z6T P C cf.wio (cf.wr i).isEmpty (cf.wr i).contains fr o m = some fr1) (h : z1v P C cf c i rest fr1 Q) : z1v P C cf c i (.op k m rest) fr Q := by
  obtain ⟨fr', e, h⟩ := h
  exact ⟨fr', z5K ho (by rw [zc9 hg]; exact hv) hs e, h⟩
def nrmO? : Option Fr -> Option Fr
  | some f => some (zdW f)
  | none => none
theorem zgF {i k m : Nat} {rest : SchT} {o : Oper} {g : Option (Option Nat × Bool)} {fr1 : Fr} {Q : Fr -> Prop} (ho : zbK c k = some o) (hg : zeN c o = some g) (hv : zdY g fr = some false) (hs : nrmO? (putF fr o.dst (.one (.k undef))) = some fr1) (h : z1v P C cf c i rest fr1 Q) : z1v P C cf c i (.op k m rest) fr Q := by
  obtain ⟨fr', e, h⟩ := h
  have hgd : z1O (rgO c) fr o = some false := by rw [zc9 hg]; exact hv
  unfold nrmO? at hs
  split at hs
  · rename_i f hf
    cases hs
    exact ⟨fr', by simp only [z1x, z4Y ho, hgd, hf]; exact e, h⟩
  · cases hs
theorem zfv {i : Nat} {a b : SchT} {f : Fr} {Q : Fr -> Prop} (h1 : z1v P C cf c i a fr (fun x => x = f)) (h2 : z1v P C cf c i b fr (fun y => z4n f y)) (h : Q f) : z1v P C cf c i (.alt a b) fr Q := by
  obtain ⟨x, e1, rfl⟩ := h1
  obtain ⟨y, e2, hs⟩ := h2
  exact ⟨x, by simp only [z1x, e1, e2]; exact z6i hs, h⟩
theorem zec {i : Nat} {a b : SchT} {Q : Fr -> Prop} (h : z1v P C cf c i a fr (fun x => z1v P C cf c i b fr (fun y => z4n x y) /\ Q x)) : z1v P C cf c i (.alt a b) fr Q := by
  obtain ⟨x, e1, h1, h2⟩ := h
  exact zfv ⟨x, e1, rfl⟩ h1 h2
theorem z8Q {id i : Nat} (hi : i = id) (h : Q .n fr) : z1T id Q (.x i) fr := by
  subst hi; exact zaY h
end
attribute [irreducible] wpC z8g z1T zgl zhH z2c zh4 zfB z7Y zfr zfa
end
section
def LFm : Nat := 18446744073709551616
noncomputable def z0A (P : Program) (X : z0b -> z0b) (cf : FuncId -> Option Cfg) : Nat -> z0b
  | 0 => fun f args => match cf f with | some _ => none | none => X (fun _ _ => none) f args
  | n + 1 => fun f args => match cf f with
    | some c => (match P.funcs[f]? with | some fn => z6O P (z0A P X cf n) c LFm fn args | none => none)
    | none => X (z0A P X cf n) f args
def z4Z (P : Program) (f : FuncId) (c : Cfg) : Bool :=
  match P.funcs[f]? with
  | none => false
  | some fn => match fn.body with
    | none => false
    | some b => (fn.name != "runtime.NumGoroutine") && okC c b
theorem z3i {P : Program} {I : World -> (Nat -> z0a) -> Prop} {X : z0b -> z0b} {cf : FuncId -> Option Cfg} (hI : EnvS I) (hX : ∀ C, z1y P I C -> z1y P I (X C)) (hm : P.follows .mixedOrders = true) (hf : ∀ f c, cf f = some c -> z4Z P f c = true) : ∀ n, z1y P I (z0A P X cf n)
  | 0 => fun f args r outs h => by
    simp only [z0A] at h
    split at h
    · cases h
    · exact hX _ (fun _ _ _ _ h => by cases h) f args r outs h
  | n + 1 => fun f args r outs h => by
    simp only [z0A] at h
    split at h
    · rename_i c hc
      split at h
      · rename_i fn hfn
        have hok := hf f c hc
        unfold z4Z at hok
        rw [hfn] at hok
        simp only at hok
        split at hok
        · cases hok
        · rename_i b hb
          simp only [Bool.and_eq_true, bne_iff_ne, ne_eq] at hok
          exact zfy hI (z3i hI hX hm hf n) hm hfn hb hok.1 hok.2 h
      · cases h
    · exact hX _ (z3i hI hX hm hf n) f args r outs h
theorem zbV {P : Program} {X : z0b -> z0b} {cf : FuncId -> Option Cfg} {f : FuncId} {c : Cfg} {fn : Func} {n : Nat} {args : List T} {o : T × List T} (hc : cf f = some c) (hfn : P.funcs[f]? = some fn) (h : z6O P (z0A P X cf n) c LFm fn args = some o) : z0A P X cf (n + 1) f args = some o := by
  simp only [z0A, hc, hfn, h]
def From (P : Program) (X : z0b -> z0b) (cf : FuncId -> Option Cfg) (d : Nat) (f : FuncId) (args : List T) (o : T × List T) : Prop := ∀ n, d <= n -> z0A P X cf n f args = some o
theorem From.run {P : Program} {X : z0b -> z0b} {cf : FuncId -> Option Cfg} {f : FuncId} {c : Cfg} {fn : Func} {d : Nat} {args : List T} {o : T × List T} (hc : cf f = some c) (hfn : P.funcs[f]? = some fn) (h : ∀ n, d <= n -> z6O P (z0A P X cf n) c LFm fn args = some o) : From P X cf (d + 1) f args o := fun n hn => by
  match n, hn with
  | m + 1, hm => exact zbV hc hfn (h m (by omega))
theorem From.mono {P : Program} {X : z0b -> z0b} {cf : FuncId -> Option Cfg} {f : FuncId} {d e : Nat} {args : List T} {o : T × List T} (h : From P X cf d f args o) (he : d <= e) : From P X cf e f args o := fun n hn => h n (by omega)
theorem From.ok {P : Program} {I : World -> (Nat -> z0a) -> Prop} {X : z0b -> z0b} {cf : FuncId -> Option Cfg} {f : FuncId} {d : Nat} {args : List T} {r : T} {outs : List T} (hI : EnvS I) (hX : ∀ C, z1y P I C -> z1y P I (X C)) (hm : P.follows .mixedOrders = true) (hf : ∀ f c, cf f = some c -> z4Z P f c = true) (h : From P X cf d f args (r, outs)) : CallOk P I f args r outs :=
  z3i hI hX hm hf d f args r outs (h d (Nat.le_refl d))
end
section
noncomputable def Lim (P : Program) (X : z0b -> z0b) (cf : FuncId -> Option Cfg) : z0b := fun f args =>
  @dite _ (∃ o d, From P X cf d f args o) (Classical.propDecidable _) (fun h => some h.choose) (fun _ => none)
section
variable {P : Program} {Xc : z0b -> z0b} {cf : FuncId -> Option Cfg}
theorem zbT {d : Nat} {f : FuncId} {args : List T} {o : T × List T} (h : From P Xc cf d f args o) : Lim P Xc cf f args = some o := by
  have he : ∃ o d, From P Xc cf d f args o := ⟨o, d, h⟩
  unfold Lim
  rw [dif_pos he]
  obtain ⟨e, h2⟩ := he.choose_spec
  have a1 := h (d + e) (by omega)
  have a2 := h2 (d + e) (by omega)
  rw [a1] at a2
  exact a2.symm
theorem zdV {f : FuncId} {args : List T} {o : T × List T} (h : Lim P Xc cf f args = some o) : ∃ d, From P Xc cf d f args o := by
  unfold Lim at h
  split at h
  · rename_i he
    cases h
    exact he.choose_spec
  · cases h
def Ev (p : Nat -> Prop) : Prop := ∃ n, ∀ m, n <= m -> p m
theorem Ev.pure {p : Nat -> Prop} (h : ∀ m, p m) : Ev p := ⟨0, fun m _ => h m⟩
theorem Ev.both {p q r : Nat -> Prop} (h1 : Ev p) (h2 : Ev q) (h : ∀ m, p m -> q m -> r m) : Ev r := by
  obtain ⟨a, h1⟩ := h1
  obtain ⟨b, h2⟩ := h2
  exact ⟨a + b, fun m hm => h m (h1 m (by omega)) (h2 m (by omega))⟩
theorem Ev.imp {p q : Nat -> Prop} (h1 : Ev p) (h : ∀ m, p m -> q m) : Ev q := by
  obtain ⟨a, h1⟩ := h1
  exact ⟨a, fun m hm => h m (h1 m hm)⟩
theorem z3K {wio : FuncId -> Nat -> Bool} {fr fr' : Fr} {f : FuncId} {args : List E} {dst : Option Nat} (h : z3L (Lim P Xc cf) wio fr f args dst = some fr') : Ev fun m => z3L (z0A P Xc cf m) wio fr f args dst = some fr' := by
  unfold z3L at h ⊢
  split at h
  · cases h
  · rename_i ts deps io ha
    split at h
    · cases h
    · rename_i r outs hc
      obtain ⟨d, hd⟩ := zdV hc
      refine ⟨d, fun m hm => ?_⟩
      show (match z0A P Xc cf m f ts with | none => none | some (r, outs) => _) = _
      rw [hd m hm]
      exact h
theorem z8q {wio : FuncId -> Nat -> Bool} {fr fr' : Fr} {o : Oper} (h : opF P (Lim P Xc cf) wio fr o = some fr') : Ev fun m => opF P (z0A P Xc cf m) wio fr o = some fr' := by
  unfold opF at h ⊢
  split at h
  · exact .pure fun _ => h
  · split at h
    · exact z3K h
    · cases h
  · exact .pure fun _ => h
  · exact .pure fun _ => h
  · exact .pure fun _ => h
theorem z7S {wio : FuncId -> Nat -> Bool} {fr fr' : Fr} {o : Oper} (h : z3a P (Lim P Xc cf) wio fr o = some fr') : Ev fun m => z3a P (z0A P Xc cf m) wio fr o = some fr' := by
  unfold z3a at h ⊢
  split at h
  · split at h
    · split at h
      · exact z3K h
      · cases h
    · cases h
  · exact .pure fun _ => h
theorem zb2 {wio : FuncId -> Nat -> Bool} {M : Nat -> Bool} {fr fr' : Fr} {o : Oper} (h : wrF P (Lim P Xc cf) wio M fr o = some fr') : Ev fun m => wrF P (z0A P Xc cf m) wio M fr o = some fr' := by
  unfold wrF at h ⊢
  split at h
  · split at h
    · cases h
    · split at h
      · exact z3K h
      · split at h
        · rename_i hM
          simp only [hM, if_true]
          exact z3K h
        · cases h
      · cases h
  · exact .pure fun _ => h
  · exact .pure fun _ => h
  · exact .pure fun _ => h
  · cases h
theorem z6c {wio : FuncId -> Nat -> Bool} {ops : Array Oper} : ∀ {l : List Oper} {fr fr' : Fr}, z8j P (Lim P Xc cf) wio ops l fr = some fr' -> Ev fun m => z8j P (z0A P Xc cf m) wio ops l fr = some fr'
  | [], fr, fr', h => .pure fun _ => h
  | o :: rest, fr, fr', h => by
    simp only [z8j] at h ⊢
    split at h
    · cases h
    · split at h
      · rename_i fr1 h1
        exact (z8q h1).both (z6c h) fun m a1 a2 => by rw [a1]; exact a2
      · cases h
    · split at h
      · rename_i fr1 h1
        exact (z6c h)
      · cases h
theorem z3I {wio : FuncId -> Nat -> Bool} {same : Bool} {M : Nat -> Bool} {ops : Array Oper} : ∀ {l : List (Nat × Oper × Nat)} {fr fr' : Fr}, z2B P (Lim P Xc cf) wio same M ops l fr = some fr' -> Ev fun m => z2B P (z0A P Xc cf m) wio same M ops l fr = some fr'
  | [], fr, fr', h => .pure fun _ => h
  | (k, o, mk) :: rest, fr, fr', h => by
    simp only [z2B] at h ⊢
    split at h
    · cases h
    · split at h
      · exact z3I h
      · cases h
    · split at h
      · rename_i hm
        simp only [if_pos hm]
        split at h
        · split at h
          · exact z3I h
          · cases h
        · cases h
      · rename_i hm
        simp only [if_neg hm]
        split at h
        · rename_i fr1 h1
          have h2 : Ev fun m => (if mk = 2 then opF P (z0A P Xc cf m) wio fr o else if same = true then z3a P (z0A P Xc cf m) wio fr o else wrF P (z0A P Xc cf m) wio M fr o) = some fr1 := by
            by_cases e : mk = 2
            · simp only [if_pos e] at h1 ⊢; exact z8q h1
            · simp only [if_neg e] at h1 ⊢
              by_cases e2 : same = true
              · simp only [if_pos e2] at h1 ⊢; exact z7S h1
              · simp only [if_neg e2] at h1 ⊢; exact zb2 h1
          exact h2.both (z3I h) fun m a1 a2 => by rw [a1]; exact a2
        · cases h
theorem z2d {wio : FuncId -> Nat -> Bool} {same : Bool} {M : Nat -> Bool} {ops : Array Oper} : ∀ {l : SchT} {fr fr' : Fr}, z1x P (Lim P Xc cf) wio same M ops l fr = some fr' -> Ev fun m => z1x P (z0A P Xc cf m) wio same M ops l fr = some fr'
  | .nil, fr, fr', h => .pure fun _ => h
  | .alt x y, fr, fr', h => by
    simp only [z1x] at h ⊢
    split at h
    · rename_i f1 f2 h1 h2
      obtain ⟨rfl, hs⟩ := z3P h
      exact (z2d h1).both (z2d h2) fun m a1 a2 => by rw [a1, a2]; exact z6i hs
    · cases h
  | .op k mk rest, fr, fr', h => by
    simp only [z1x] at h ⊢
    split at h
    · cases h
    rename_i o ho
    try simp only [ho]
    split at h
    · cases h
    · split at h
      · exact z2d h
      · cases h
    · split at h
      · rename_i hm
        simp only [if_pos hm]
        split at h
        · split at h
          · exact z2d h
          · cases h
        · cases h
      · rename_i hm
        simp only [if_neg hm]
        split at h
        · rename_i fr1 h1
          have h2 : Ev fun m => (if mk = 2 then opF P (z0A P Xc cf m) wio fr o else if same = true then z3a P (z0A P Xc cf m) wio fr o else wrF P (z0A P Xc cf m) wio M fr o) = some fr1 := by
            by_cases e : mk = 2
            · simp only [if_pos e] at h1 ⊢; exact z8q h1
            · simp only [if_neg e] at h1 ⊢
              by_cases e2 : same = true
              · simp only [if_pos e2] at h1 ⊢; exact z7S h1
              · simp only [if_neg e2] at h1 ⊢; exact zb2 h1
          exact h2.both (z2d h) fun m a1 a2 => by rw [a1]; exact a2
        · cases h
theorem z8G {c : Cfg} {id : Nat} {ops : Array Oper} {fr fr' : Fr} (h : z1W P (Lim P Xc cf) c id ops fr = some fr') : Ev fun m => z1W P (z0A P Xc cf m) c id ops fr = some fr' := by
  unfold z1W at h ⊢
  split at h
  · exact z2d h
  · split at h
    · exact z3I h
    · cases h
theorem z7B {B : z0b -> Fr -> Option (X × Fr)} {cn : Fr -> Fr} (hB : ∀ fr o, B (Lim P Xc cf) fr = some o -> Ev fun m => B (z0A P Xc cf m) fr = some o) : ∀ {n : Nat} {fr : Fr} {o : X × Fr}, z3H (B (Lim P Xc cf)) cn n fr = some o -> Ev fun m => z3H (B (z0A P Xc cf m)) cn n fr = some o
  | 0, fr, o, h => by cases h
  | n + 1, fr, o, h => by
    simp only [z3H] at h ⊢
    split at h
    · rename_i fr1 h1
      exact (hB _ _ h1).both (z7B hB h) fun m a1 a2 => by rw [a1]; exact a2
    · rename_i x fr1 hne h1
      refine (hB _ _ h1).imp fun m a1 => ?_
      rw [a1]
      cases x with
      | n => exact absurd rfl hne
      | x i => exact h
      | r => exact h
    · cases h
theorem z2D {c : Cfg} {LF : Nat} : ∀ (b : Code) {fr : Fr} {o : X × Fr}, z0k P (Lim P Xc cf) c LF b fr = some o -> Ev fun m => z0k P (z0A P Xc cf m) c LF b fr = some o := by
  intro b
  induction b with
  | skip => intro fr o h; exact .pure fun _ => h
  | label l => intro fr o h; exact .pure fun _ => h
  | exit id => intro fr o h; exact .pure fun _ => h
  | ret => intro fr o h; exact .pure fun _ => h
  | goto l => intro fr o h; cases h
  | scope c ih => intro fr o h; simp only [z0k] at h ⊢; exact ih h
  | refuse s => intro fr o h; cases h
  | rangeFunc => intro fr o h; cases h
  | region id ops draw =>
    intro fr o h
    simp only [z0k] at h ⊢
    split at h
    · rename_i hd
      simp only [hd, if_true]
      split at h
      · rename_i fr1 h1
        exact (z8G h1).imp fun m a1 => by rw [a1]; exact h
      · cases h
    · rename_i hd
      simp only [hd, Bool.false_eq_true, if_false]
      split at h
      · rename_i fr1 h1
        exact (z6c h1).imp fun m a1 => by rw [a1]; exact h
      · cases h
  | seq a b ih1 ih2 =>
    intro fr o h
    simp only [z0k] at h ⊢
    split at h
    · rename_i fr1 h1
      exact (ih1 h1).both (ih2 h) fun m a1 a2 => by rw [a1]; exact a2
    · rename_i hne
      refine (ih1 h).imp fun m a1 => ?_
      rw [a1]
      obtain ⟨x, fr1⟩ := o
      cases x with
      | n => exact absurd h (hne _)
      | x i => rfl
      | r => rfl
  | cond c x y ih1 ih2 =>
    intro fr o h
    simp only [z0k] at h ⊢
    split at h
    · exact ih1 h
    · exact ih2 h
    · cases h
  | block id c ih =>
    intro fr o h
    simp only [z0k] at h ⊢
    split at h
    · rename_i i fr1 h1
      exact (ih h1).imp fun m a1 => by rw [a1]; exact h
    · rename_i hne
      refine (ih h).imp fun m a1 => ?_
      rw [a1]
      obtain ⟨x, fr1⟩ := o
      cases x with
      | n => rfl
      | x i => exact absurd h (hne _ _)
      | r => rfl
  | loop b ih =>
    intro fr o h
    simp only [z0k] at h ⊢
    exact z7B (B := fun C fr => z0k P C c LF b fr) (fun fr o h => ih h) h
theorem zd6 {c : Cfg} {LF : Nat} {fn : Func} {args : List T} {o : T × List T} (h : z6O P (Lim P Xc cf) c LF fn args = some o) : Ev fun m => z6O P (z0A P Xc cf m) c LF fn args = some o := by
  unfold z6O at h ⊢
  split at h
  · rename_i hc
    simp only [if_pos hc]
    split at h
    · cases h
    · rename_i b hb
      split at h
      · rename_i fr h1
        exact (z2D _ h1).imp fun m a1 => by rw [a1]; exact h
      · rename_i fr h1
        exact (z2D _ h1).imp fun m a1 => by rw [a1]; exact h
      · cases h
  · cases h
theorem zbS {f : FuncId} {c : Cfg} {fn : Func} {args : List T} {o : T × List T} (hc : cf f = some c) (hfn : P.funcs[f]? = some fn) (h : z6O P (Lim P Xc cf) c LFm fn args = some o) : Lim P Xc cf f args = some o := by
  obtain ⟨d, hd⟩ := zd6 h
  exact zbT (d := d + 1) (From.run hc hfn hd)
theorem z8y {f : FuncId} {args : List T} (hc : cf f = none) {o : T × List T} (h : ∀ C, Xc C f args = some o) : Lim P Xc cf f args = some o :=
  zbT (d := 0) fun n _ => by
    cases n with
    | zero => simp only [z0A, hc, h]
    | succ n => simp only [z0A, hc, h]
theorem z6s {f : FuncId} {args : List T} (hc : cf f = none) {o : T × List T} (h : Ev fun m => Xc (z0A P Xc cf m) f args = some o) : Lim P Xc cf f args = some o := by
  obtain ⟨d, hd⟩ := h
  refine zbT (d := d + 1) fun n hn => ?_
  match n, hn with
  | n + 1, hn => simp only [z0A, hc]; exact hd n (by omega)
theorem zfZ {I : World -> (Nat -> z0a) -> Prop} {f : FuncId} {args : List T} {r : T} {outs : List T} (hI : EnvS I) (hX : ∀ C, z1y P I C -> z1y P I (Xc C)) (hm : P.follows .mixedOrders = true) (hf : ∀ f c, cf f = some c -> z4Z P f c = true) (h : Lim P Xc cf f args = some (r, outs)) : CallOk P I f args r outs := by
  obtain ⟨d, hd⟩ := zdV h
  exact From.ok hI hX hm hf hd
end
end
section
def Mo (C0 C1 : z0b) : Prop := ∀ f a o, C0 f a = some o -> C1 f a = some o
section
variable {P : Program} {C0 C1 : z0b}
theorem z4I (hMo : Mo C0 C1) {wio : FuncId -> Nat -> Bool} {fr fr' : Fr} {f : FuncId} {args : List E} {dst : Option Nat} (h : z3L C0 wio fr f args dst = some fr') : Ev fun m => z3L C1 wio fr f args dst = some fr' := by
  unfold z3L at h ⊢
  split at h
  · cases h
  · rename_i ts deps io ha
    split at h
    · cases h
    · rename_i r outs hc
      refine ⟨0, fun m _ => ?_⟩
      show (match C1 f ts with | none => none | some (r, outs) => _) = _
      rw [hMo _ _ _ hc]
      exact h
theorem zbJ (hMo : Mo C0 C1) {wio : FuncId -> Nat -> Bool} {fr fr' : Fr} {o : Oper} (h : opF P C0 wio fr o = some fr') : Ev fun m => opF P C1 wio fr o = some fr' := by
  unfold opF at h ⊢
  split at h
  · exact .pure fun _ => h
  · split at h
    · exact z4I hMo h
    · cases h
  · exact .pure fun _ => h
  · exact .pure fun _ => h
  · exact .pure fun _ => h
theorem z9P (hMo : Mo C0 C1) {wio : FuncId -> Nat -> Bool} {fr fr' : Fr} {o : Oper} (h : z3a P C0 wio fr o = some fr') : Ev fun m => z3a P C1 wio fr o = some fr' := by
  unfold z3a at h ⊢
  split at h
  · split at h
    · split at h
      · exact z4I hMo h
      · cases h
    · cases h
  · exact .pure fun _ => h
theorem zdO (hMo : Mo C0 C1) {wio : FuncId -> Nat -> Bool} {M : Nat -> Bool} {fr fr' : Fr} {o : Oper} (h : wrF P C0 wio M fr o = some fr') : Ev fun m => wrF P C1 wio M fr o = some fr' := by
  unfold wrF at h ⊢
  split at h
  · split at h
    · cases h
    · split at h
      · exact z4I hMo h
      · split at h
        · rename_i hM
          simp only [hM, if_true]
          exact z4I hMo h
        · cases h
      · cases h
  · exact .pure fun _ => h
  · exact .pure fun _ => h
  · exact .pure fun _ => h
  · cases h
theorem z8i (hMo : Mo C0 C1) {wio : FuncId -> Nat -> Bool} {ops : Array Oper} : ∀ {l : List Oper} {fr fr' : Fr}, z8j P C0 wio ops l fr = some fr' -> Ev fun m => z8j P C1 wio ops l fr = some fr'
  | [], fr, fr', h => .pure fun _ => h
  | o :: rest, fr, fr', h => by
    simp only [z8j] at h ⊢
    split at h
    · cases h
    · split at h
      · rename_i fr1 h1
        exact (zbJ hMo h1).both (z8i hMo h) fun m a1 a2 => by rw [a1]; exact a2
      · cases h
    · split at h
      · rename_i fr1 h1
        exact (z8i hMo h)
      · cases h
theorem z4H (hMo : Mo C0 C1) {wio : FuncId -> Nat -> Bool} {same : Bool} {M : Nat -> Bool} {ops : Array Oper} : ∀ {l : List (Nat × Oper × Nat)} {fr fr' : Fr}, z2B P C0 wio same M ops l fr = some fr' -> Ev fun m => z2B P C1 wio same M ops l fr = some fr'
  | [], fr, fr', h => .pure fun _ => h
  | (k, o, mk) :: rest, fr, fr', h => by
    simp only [z2B] at h ⊢
    split at h
    · cases h
    · split at h
      · exact z4H hMo h
      · cases h
    · split at h
      · rename_i hm
        simp only [if_pos hm]
        split at h
        · split at h
          · exact z4H hMo h
          · cases h
        · cases h
      · rename_i hm
        simp only [if_neg hm]
        split at h
        · rename_i fr1 h1
          have h2 : Ev fun m => (if mk = 2 then opF P C1 wio fr o else if same = true then z3a P C1 wio fr o else wrF P C1 wio M fr o) = some fr1 := by
            by_cases e : mk = 2
            · simp only [if_pos e] at h1 ⊢; exact zbJ hMo h1
            · simp only [if_neg e] at h1 ⊢
              by_cases e2 : same = true
              · simp only [if_pos e2] at h1 ⊢; exact z9P hMo h1
              · simp only [if_neg e2] at h1 ⊢; exact zdO hMo h1
          exact h2.both (z4H hMo h) fun m a1 a2 => by rw [a1]; exact a2
        · cases h
theorem z2R (hMo : Mo C0 C1) {wio : FuncId -> Nat -> Bool} {same : Bool} {M : Nat -> Bool} {ops : Array Oper} : ∀ {l : SchT} {fr fr' : Fr}, z1x P C0 wio same M ops l fr = some fr' -> Ev fun m => z1x P C1 wio same M ops l fr = some fr'
  | .nil, fr, fr', h => .pure fun _ => h
  | .alt x y, fr, fr', h => by
    simp only [z1x] at h ⊢
    split at h
    · rename_i f1 f2 h1 h2
      obtain ⟨rfl, hs⟩ := z3P h
      exact (z2R hMo h1).both (z2R hMo h2) fun m a1 a2 => by rw [a1, a2]; exact z6i hs
    · cases h
  | .op k mk rest, fr, fr', h => by
    simp only [z1x] at h ⊢
    split at h
    · cases h
    rename_i o ho
    try simp only [ho]
    split at h
    · cases h
    · split at h
      · exact z2R hMo h
      · cases h
    · split at h
      · rename_i hm
        simp only [if_pos hm]
        split at h
        · split at h
          · exact z2R hMo h
          · cases h
        · cases h
      · rename_i hm
        simp only [if_neg hm]
        split at h
        · rename_i fr1 h1
          have h2 : Ev fun m => (if mk = 2 then opF P C1 wio fr o else if same = true then z3a P C1 wio fr o else wrF P C1 wio M fr o) = some fr1 := by
            by_cases e : mk = 2
            · simp only [if_pos e] at h1 ⊢; exact zbJ hMo h1
            · simp only [if_neg e] at h1 ⊢
              by_cases e2 : same = true
              · simp only [if_pos e2] at h1 ⊢; exact z9P hMo h1
              · simp only [if_neg e2] at h1 ⊢; exact zdO hMo h1
          exact h2.both (z2R hMo h) fun m a1 a2 => by rw [a1]; exact a2
        · cases h
theorem zaQ (hMo : Mo C0 C1) {c : Cfg} {id : Nat} {ops : Array Oper} {fr fr' : Fr} (h : z1W P C0 c id ops fr = some fr') : Ev fun m => z1W P C1 c id ops fr = some fr' := by
  unfold z1W at h ⊢
  split at h
  · exact z2R hMo h
  · split at h
    · exact z4H hMo h
    · cases h
theorem z9o (hMo : Mo C0 C1) {B : z0b -> Fr -> Option (X × Fr)} {cn : Fr -> Fr} (hB : ∀ fr o, B C0 fr = some o -> Ev fun m => B C1 fr = some o) : ∀ {n : Nat} {fr : Fr} {o : X × Fr}, z3H (B C0) cn n fr = some o -> Ev fun m => z3H (B C1) cn n fr = some o
  | 0, fr, o, h => by cases h
  | n + 1, fr, o, h => by
    simp only [z3H] at h ⊢
    split at h
    · rename_i fr1 h1
      exact (hB _ _ h1).both (z9o hMo hB h) fun m a1 a2 => by rw [a1]; exact a2
    · rename_i x fr1 hne h1
      refine (hB _ _ h1).imp fun m a1 => ?_
      rw [a1]
      cases x with
      | n => exact absurd rfl hne
      | x i => exact h
      | r => exact h
    · cases h
theorem z2S (hMo : Mo C0 C1) {c : Cfg} {LF : Nat} : ∀ (b : Code) {fr : Fr} {o : X × Fr}, z0k P C0 c LF b fr = some o -> Ev fun m => z0k P C1 c LF b fr = some o := by
  intro b
  induction b with
  | skip => intro fr o h; exact .pure fun _ => h
  | label l => intro fr o h; exact .pure fun _ => h
  | exit id => intro fr o h; exact .pure fun _ => h
  | ret => intro fr o h; exact .pure fun _ => h
  | goto l => intro fr o h; cases h
  | scope c ih => intro fr o h; simp only [z0k] at h ⊢; exact ih h
  | refuse s => intro fr o h; cases h
  | rangeFunc => intro fr o h; cases h
  | region id ops draw =>
    intro fr o h
    simp only [z0k] at h ⊢
    split at h
    · rename_i hd
      simp only [hd, if_true]
      split at h
      · rename_i fr1 h1
        exact (zaQ hMo h1).imp fun m a1 => by rw [a1]; exact h
      · cases h
    · rename_i hd
      simp only [hd, Bool.false_eq_true, if_false]
      split at h
      · rename_i fr1 h1
        exact (z8i hMo h1).imp fun m a1 => by rw [a1]; exact h
      · cases h
  | seq a b ih1 ih2 =>
    intro fr o h
    simp only [z0k] at h ⊢
    split at h
    · rename_i fr1 h1
      exact (ih1 h1).both (ih2 h) fun m a1 a2 => by rw [a1]; exact a2
    · rename_i hne
      refine (ih1 h).imp fun m a1 => ?_
      rw [a1]
      obtain ⟨x, fr1⟩ := o
      cases x with
      | n => exact absurd h (hne _)
      | x i => rfl
      | r => rfl
  | cond c x y ih1 ih2 =>
    intro fr o h
    simp only [z0k] at h ⊢
    split at h
    · exact ih1 h
    · exact ih2 h
    · cases h
  | block id c ih =>
    intro fr o h
    simp only [z0k] at h ⊢
    split at h
    · rename_i i fr1 h1
      exact (ih h1).imp fun m a1 => by rw [a1]; exact h
    · rename_i hne
      refine (ih h).imp fun m a1 => ?_
      rw [a1]
      obtain ⟨x, fr1⟩ := o
      cases x with
      | n => rfl
      | x i => exact absurd h (hne _ _)
      | r => rfl
  | loop b ih =>
    intro fr o h
    simp only [z0k] at h ⊢
    exact z9o hMo (B := fun C fr => z0k P C c LF b fr) (fun fr o h => ih h) h
theorem zen (hMo : Mo C0 C1) {c : Cfg} {LF : Nat} {fn : Func} {args : List T} {o : T × List T} (h : z6O P C0 c LF fn args = some o) : Ev fun m => z6O P C1 c LF fn args = some o := by
  unfold z6O at h ⊢
  split at h
  · rename_i hc
    simp only [if_pos hc]
    split at h
    · cases h
    · rename_i b hb
      split at h
      · rename_i fr h1
        exact (z2S hMo _ h1).imp fun m a1 => by rw [a1]; exact h
      · rename_i fr h1
        exact (z2S hMo _ h1).imp fun m a1 => by rw [a1]; exact h
      · cases h
  · cases h
end
class XMo (X : z0b -> z0b) : Prop where
  mo : ∀ {C D : z0b}, Mo C D -> Mo (X C) (X D)
instance {x : z0b} : XMo (fun _ => x) := ⟨fun _ => fun _ _ _ h => h⟩
theorem zeF {D : z0b} : Mo (fun _ _ => none) D := fun _ _ _ h => by cases h
def tab : List (FuncId × List T × T × List T) -> z0b
  | [] => fun _ _ => none
  | (g, b, r, os) :: l => fun f a => if (Nat.beq g f && z8E b a) = true then some (r, os) else tab l f a
theorem zdQ {C : z0b} : ∀ {l : List (FuncId × List T × T × List T)}, (∀ x ∈ l, C x.1 x.2.1 = some x.2.2) -> Mo (tab l) C
  | [], _ => fun f a o h => by cases h
  | (g, b, r, os) :: l, hl => fun f a o h => by
    simp only [tab] at h
    split at h
    · rename_i hc
      simp only [Bool.and_eq_true] at hc
      cases h
      have := hl _ (List.mem_cons_self ..)
      rw [← Nat.eq_of_beq_eq_true hc.1, ← z1P hc.2]
      exact this
    · exact zdQ (fun x hx => hl x (List.mem_cons_of_mem _ hx)) f a o h
noncomputable def z7u (P : Program) (X : z0b -> z0b) (cf : FuncId -> Option Cfg) (S : z0b) : Nat -> z0b
  | 0 => S
  | n + 1 => fun f a => match S f a with
    | some o => some o
    | none => match cf f with
      | some c => (match P.funcs[f]? with | some fn => z6O P (z7u P X cf S n) c LFm fn a | none => none)
      | none => X (fun _ _ => none) f a
theorem z7t {P : Program} {X : z0b -> z0b} [hx : XMo X] {cf : FuncId -> Option Cfg} {S : z0b} (hS : Mo S (Lim P X cf)) : ∀ n, Mo (z7u P X cf S n) (Lim P X cf)
  | 0 => hS
  | n + 1 => fun f a o h => by
    simp only [z7u] at h
    split at h
    · rename_i o' ho
      cases h
      exact hS f a o ho
    · split at h
      · rename_i c hc
        split at h
        · rename_i fn hfn
          obtain ⟨k, hk⟩ := zen (z7t hS n) h
          exact zbS hc hfn (hk k (Nat.le_refl _))
        · cases h
      · rename_i hc
        exact z6s hc ⟨0, fun m _ => hx.mo zeF f a o h⟩
theorem zeI {P : Program} {X : z0b -> z0b} [XMo X] {cf : FuncId -> Option Cfg} (l : List (FuncId × List T × T × List T)) (n : Nat) {f : FuncId} {a : List T} {o : T × List T} (h : z7u P X cf (tab l) n f a = some o) (hl : ∀ x ∈ l, Lim P X cf x.1 x.2.1 = some x.2.2) : Lim P X cf f a = some o :=
  z7t (zdQ hl) n f a o h
end
section
open Go Go.Lib
theorem z9N : ∀ a b : List UInt8, compareBytes a b = -1 ∨ compareBytes a b = 0 ∨ compareBytes a b = 1
  | [], [] => by simp [compareBytes]
  | [], _ :: _ => by simp [compareBytes]
  | _ :: _, [] => by simp [compareBytes]
  | a :: au, b :: bs => by
    simp only [compareBytes]
    split
    · simp
    · split
      · simp
      · exact z9N au bs
theorem zcy : ∀ a b : List UInt8, compareBytes b a = - compareBytes a b
  | [], [] => by simp [compareBytes]
  | [], _ :: _ => by simp [compareBytes]
  | _ :: _, [] => by simp [compareBytes]
  | a :: au, b :: bs => by
    have h := zcy au bs
    simp only [compareBytes]
    by_cases h1 : a < b
    · have h2 : ¬ b < a := fun h' => by have := UInt8.lt_asymm h1; exact this h'
      simp [h1, h2]
    · by_cases h2 : b < a
      · simp [h1, h2]
      · simp [h1, h2, h]
theorem zcw : ∀ a b : List UInt8, compareBytes a b = 0 ↔ a = b
  | [], [] => by simp [compareBytes]
  | [], _ :: _ => by simp [compareBytes]
  | _ :: _, [] => by simp [compareBytes]
  | a :: au, b :: bs => by
    have h := zcw au bs
    simp only [compareBytes]
    by_cases h1 : a < b
    · have : a ≠ b := fun e => by subst e; exact UInt8.lt_irrefl _ h1
      simp [h1, this]
    · by_cases h2 : b < a
      · have : a ≠ b := fun e => by subst e; exact UInt8.lt_irrefl _ h2
        simp [h1, h2, this]
      · have : a = b := UInt8.le_antisymm (UInt8.not_lt.1 h2) (UInt8.not_lt.1 h1)
        simp [h1, h2, h, this]
theorem zcx : ∀ a b : List UInt8, Op.bytesLess a b = decide (compareBytes a b = -1)
  | [], [] => by simp [compareBytes, Op.bytesLess]
  | [], _ :: _ => by simp [compareBytes, Op.bytesLess]
  | _ :: _, [] => by simp [compareBytes, Op.bytesLess]
  | a :: au, b :: bs => by
    have h := zcx au bs
    simp only [compareBytes, Op.bytesLess, h]
    by_cases h1 : a < b
    · simp [h1]
    · by_cases h2 : b < a
      · have : a ≠ b := fun e => by subst e; exact UInt8.lt_irrefl _ h2
        simp [h1, h2, this]
      · have : a = b := UInt8.le_antisymm (UInt8.not_lt.1 h2) (UInt8.not_lt.1 h1)
        simp [h1, this]
theorem z9M : ∀ a b c : List UInt8, compareBytes a b <= 0 -> compareBytes b c <= 0 -> compareBytes a c <= 0
  | [], _, [] => by simp [compareBytes]
  | [], _, _ :: _ => by simp [compareBytes]
  | _ :: _, [], _ => by simp [compareBytes]
  | _ :: _, _ :: _, [] => by simp [compareBytes]
  | a :: au, b :: bs, c :: cs => by
    have h := z9M au bs cs
    simp only [compareBytes]
    intro h1 h2
    by_cases ab : a < b
    · by_cases bc : b < c
      · rw [if_pos (UInt8.lt_trans ab bc)]; omega
      · by_cases cb : c < b
        · rw [if_neg bc, if_pos cb] at h2; omega
        · have : b = c := UInt8.le_antisymm (UInt8.not_lt.1 cb) (UInt8.not_lt.1 bc)
          subst this; rw [if_pos ab]; omega
    · by_cases ba : b < a
      · rw [if_neg ab, if_pos ba] at h1; omega
      · have : a = b := UInt8.le_antisymm (UInt8.not_lt.1 ba) (UInt8.not_lt.1 ab)
        subst this
        rw [if_neg ab, if_neg ba] at h1
        by_cases bc : a < c
        · rw [if_pos bc]; omega
        · by_cases cb : c < a
          · rw [if_neg bc, if_pos cb] at h2; omega
          · rw [if_neg bc, if_neg cb] at h2 ⊢
            exact h h1 h2
def zaT (u v : List UInt8) : Int := if u.length < v.length then -1 else if v.length < u.length then 1 else compareBytes u v
theorem zcr (a b : List UInt8) : zaT b a = - zaT a b := by
  have := zcy a b
  unfold zaT
  by_cases h1 : a.length < b.length
  · have : ¬ b.length < a.length := by omega
    simp [h1, this]
  · by_cases h2 : b.length < a.length
    · simp [h1, h2]
    · simp [h1, h2, this]
theorem zcq (a b : List UInt8) : zaT a b = 0 ↔ a = b := by
  have := zcw a b
  unfold zaT
  by_cases h1 : a.length < b.length
  · simp only [if_pos h1]
    constructor
    · omega
    · intro e; subst e; omega
  · by_cases h2 : b.length < a.length
    · simp only [if_neg h1, if_pos h2]
      constructor
      · omega
      · intro e; subst e; omega
    · simp only [if_neg h1, if_neg h2]; exact this
theorem z2T (a b c : List UInt8) (h1 : zaT a b <= 0) (h2 : zaT b c <= 0) : zaT a c <= 0 := by
  have := z9M a b c
  unfold zaT at *
  by_cases ab : a.length < b.length
  · by_cases cb : c.length < b.length
    · rw [if_neg (by omega), if_pos cb] at h2; omega
    · rw [if_pos (by omega)]; omega
  · by_cases ba : b.length < a.length
    · rw [if_neg ab, if_pos ba] at h1; omega
    · rw [if_neg ab, if_neg ba] at h1
      by_cases bc : b.length < c.length
      · rw [if_pos (by omega)]; omega
      · by_cases cb : c.length < b.length
        · rw [if_neg bc, if_pos cb] at h2; omega
        · rw [if_neg bc, if_neg cb] at h2
          rw [if_neg (by omega), if_neg (by omega)]
          exact this h1 h2
end
section
open Go
def z1E (u v : ByteArray) : Int := zaT u.data.toList v.data.toList
def leW (u v : ByteArray) : Bool := decide (z1E u v <= 0)
def z4P (l : List ByteArray) : List ByteArray := l.mergeSort leW
def zdS (l : List ByteArray) : List T := l.map fun s => .sc (.string s)
def zfj : List (Value × Value) -> Option (List ByteArray)
  | [] => some []
  | (.string s, _) :: l => (zfj l).map (s :: ·)
  | _ => none
theorem z9n : ∀ {es : List (Value × Value)} {ks : List ByteArray}, zfj es = some ks -> es.map (·.1) = ks.map fun s => .string s
  | [], ks, h => by simp [zfj] at h; subst h; rfl
  | (k, v) :: l, ks, h => by
    cases k <;> simp only [zfj] at h <;> try (cases h; done)
    rw [Option.map_eq_some_iff] at h
    obtain ⟨ys, hy, rfl⟩ := h
    simp [z9n hy]
def zaR : Nat -> Code -> Code
  | 0, _ => .skip
  | k + 1, c => .seq (zfe c) (zaR k (zfd c))
noncomputable def z6J : Code := match Try.f11.body with | some c => c | none => .skip
noncomputable def zhr : Cfg := { wio := fun f i => (f == 999999 && (i == 0)), live := fun r => if r = 5 then some [0, 1, 5, 19, 20] else if r = 10 then some [0, 1, 5, 6, 7, 19, 20, 28, 29] else none, dr := fun r => none }
noncomputable def zgf (C : z0b) (args : List T) : Option (T × List T) :=
  if args.length <= 51 /\ args.all (fun t => !z1g t) = true then
  match z0k Try.prog C zhr LFm (zaR 4 z6J) (z0V 51 args) with
  | some (.r, fr) => (z3m Try.prog Try.f11 [] fr).bind fun x => if x.2 = [] then some (z0l x.1, args.map fun _ => .dead) else none
  | some (.n, fr) => (match z0n fr.tm 5, z0i fr.ob 5 with
    | .one (.h 5 []), some (.mp none es) => (match zfj es with
      | some ks => if ks.Nodup /\ (∀ s ∈ ks, s.size <= maxLen) /\ ks.length * 16 <= 140737488355328 /\ fr.nt = 51 then some (.sl ks.length (zdS (z4P ks)), args.map fun _ => .dead) else none
      | none => none)
    | _, _ => none)
  | _ => none
  else none
def kvI : List (Value × Value) -> Option (List (Int × ByteArray))
  | [] => some []
  | (.int .i64 k, .string s) :: l => (kvI l).map ((k, s) :: ·)
  | _ => none
theorem zbZ : ∀ {es : List (Value × Value)} {ks : List (Int × ByteArray)}, kvI es = some ks -> es = ks.map fun p => (.int .i64 p.1, .string p.2)
  | [], ks, h => by simp [kvI] at h; subst h; rfl
  | (k, v) :: l, ks, h => by
    unfold kvI at h
    split at h
    · rename_i h1; cases h1
    · rename_i k' s' l' h1
      cases h1
      rw [Option.map_eq_some_iff] at h
      obtain ⟨ys, hy, rfl⟩ := h
      rw [List.map_cons, ← zbZ hy]
    · cases h
theorem zbY {β : Type} (f : β -> Int) (g : β -> ByteArray) : ∀ l : List β, kvI (l.map fun x => (.int .i64 (f x), .string (g x))) = some (l.map fun x => (f x, g x))
  | [] => rfl
  | x :: l => by simp [kvI, zbY f g l]
def z2g (l : List ByteArray) : List ByteArray := ((l.map fun s => s.data.toList).mergeSort fun x y => decide (x <= y)).map fun l => ⟨⟨l⟩⟩
noncomputable def z4a : Code := match Try.f7.body with | some c => c | none => .skip
noncomputable def zf2 : Cfg := { wio := fun f i => (f == 999999 && (i == 0)), live := fun r => if r = 7 then some [0, 1, 5, 22, 23, 24] else none, dr := fun r => none }
noncomputable def zf9 (C : z0b) (args : List T) : Option (T × List T) :=
  if args.length <= 41 /\ args.all (fun t => !z1g t) = true then
  match z0k Try.prog C zf2 LFm (zaR 5 z4a) (z0V 41 args) with
  | some (.r, fr) => (z3m Try.prog Try.f7 [] fr).bind fun x => if x.2 = [] then some (z0l x.1, args.map fun _ => .dead) else none
  | some (.n, fr) => (match z0n fr.tm 5, z0i fr.ob 5 with
    | .one (.h 5 []), some (.mp (some .i64) es) => (match kvI es with
      | some ks => if (ks.map (·.1)).Nodup /\ (∀ p ∈ ks, (Lit.int .i64 p.1).wf = true /\ p.2.size <= maxLen) /\ ks.length * 16 <= 140737488355328 /\ fr.nt = 41 then some (.sl ks.length (zdS (z2g (ks.map (·.2)))), args.map fun _ => .dead) else none
      | none => none)
    | _, _ => none)
  | _ => none
  else none
def zgj (u v : ByteArray) : Option Int := some (Lib.compareBytes u.data.toList v.data.toList)
def zgh (args : List T) : Option (T × List T) := match args with
  | [.sc (.string u), .sc (.string v)] => (zgj u v).map fun r => (.sc (.int .i64 r), [.dead, .dead])
  | _ => none
def zcX (u v : Int) : Option Int := some (Lib.compareInt u v)
def zcT (args : List T) : Option (T × List T) := match args with
  | [.sc (.int .i64 u), .sc (.int .i64 v)] => (zcX u v).map fun r => (.sc (.int .i64 r), [.dead, .dead])
  | _ => none
def zgi (u w : ByteArray) (m : Int) : Option Int := if u.size <= 1000 /\ w.size <= maxLen then some ((zdi u.data.toList w.data.toList m : Nat) : Int) else none
def zgg (args : List T) : Option (T × List T) := match args with
  | [.sc (.string u), .sc (.string w), .sc (.int .i64 m)] => (zgi u w m).map fun r => (.sc (.int .i64 r), [.dead, .dead, .dead])
  | _ => none
def xtC : z0b := fun f args => if f = 26 then zgh args else if f = 25 then zcT args else if f = 14 then zgg args else none
noncomputable def xtF (C : z0b) : z0b := fun f args => if f = 11 then zgf C args else if f = 7 then zf9 C args else xtC f args
instance : XMo xtF := ⟨fun {C0 C1} h f a o => by
  unfold xtF
  split
  · unfold zgf
    intro h2
    split at h2
    case isFalse => cases h2
    rename_i hc
    rw [if_pos hc]
    split at h2
    · rename_i fr hf
      obtain ⟨n, hn⟩ := z2S h _ hf
      rw [hn n (Nat.le_refl _)]
      exact h2
    · rename_i fr hf
      obtain ⟨n, hn⟩ := z2S h _ hf
      rw [hn n (Nat.le_refl _)]
      exact h2
    · cases h2
  · split
    · unfold zf9
      intro h2
      split at h2
      case isFalse => cases h2
      rename_i hc
      rw [if_pos hc]
      split at h2
      · rename_i fr hf
        obtain ⟨n, hn⟩ := z2S h _ hf
        rw [hn n (Nat.le_refl _)]
        exact h2
      · rename_i fr hf
        obtain ⟨n, hn⟩ := z2S h _ hf
        rw [hn n (Nat.le_refl _)]
        exact h2
      · cases h2
    · exact id⟩
end
end Go.Proofs.Ytcjljokldnpgfaa
section
namespace Go.Proofs
open Go.Shelf
def Try.lays128_ren : Go.Shelf.Ren := ⟨fun | 128 => 53 | n => n, fun | 51 => 57 | 3 => 3 | 4 => 4 | 46 => 43 | 5 => 5 | 9 => 9 | n => n, fun | n => n⟩
theorem Try.lays128 : Go.Proofs.Lays.n128 Try.prog Try.lays128_ren := {
  mixed := by kernel_rfl
  f128 := Try.func53.trans (congrArg some (by kernel_rfl))
  t3 := Try.underlying3
  a3 := Try.isAgg3
  z3 := Try.sizeOf3
  v3 := Try.zeroValue3
  t4 := Try.underlying4
  a4 := Try.isAgg4
  z4 := Try.sizeOf4
  v4 := Try.zeroValue4
  t5 := Try.underlying5
  a5 := Try.isAgg5
  z5 := Try.sizeOf5
  v5 := Try.zeroValue5
  t9 := Try.underlying9
  a9 := Try.isAgg9
  z9 := Try.sizeOf9
  v9 := Try.zeroValue9
  t46 := Try.underlying43
  a46 := Try.isAgg43
  z46 := Try.sizeOf43
  v46 := Try.zeroValue43
  t51 := Try.underlying57
  a51 := Try.isAgg57
  z51 := Try.sizeOf57
  v51 := Try.zeroValue57 }
theorem Try.bits_Len32 (x : Int) (w : World) (h0 : 0 <= x) (h1 : x <= 4294967295) :
    Calls Try.prog 53 #[.int .u32 x] w fun e w' => e = .returned (.int .i64 (Lib.bitLen x.toNat)) /\ w' = w := Any.bits_Len32 Try.lays128 x w h0 h1
def Try.lays125_ren : Go.Shelf.Ren := ⟨fun | 125 => 40 | 128 => 53 | 129 => 54 | n => n, fun | 46 => 43 | 3 => 3 | 51 => 57 | 53 => 59 | 4 => 4 | 5 => 5 | 9 => 9 | n => n, fun | n => n⟩
theorem Try.lays125 : Go.Proofs.Lays.n125 Try.prog Try.lays125_ren := {
  mixed := by kernel_rfl
  f125 := Try.func40.trans (congrArg some (by kernel_rfl))
  f128 := Try.func53.trans (congrArg some (by kernel_rfl))
  f129 := Try.func54.trans (congrArg some (by kernel_rfl))
  t3 := Try.underlying3
  a3 := Try.isAgg3
  z3 := Try.sizeOf3
  v3 := Try.zeroValue3
  t4 := Try.underlying4
  a4 := Try.isAgg4
  z4 := Try.sizeOf4
  v4 := Try.zeroValue4
  t5 := Try.underlying5
  a5 := Try.isAgg5
  z5 := Try.sizeOf5
  v5 := Try.zeroValue5
  t9 := Try.underlying9
  a9 := Try.isAgg9
  z9 := Try.sizeOf9
  v9 := Try.zeroValue9
  t46 := Try.underlying43
  a46 := Try.isAgg43
  z46 := Try.sizeOf43
  v46 := Try.zeroValue43
  t51 := Try.underlying57
  a51 := Try.isAgg57
  z51 := Try.sizeOf57
  v51 := Try.zeroValue57
  t53 := Try.underlying59
  a53 := Try.isAgg59
  z53 := Try.sizeOf59
  v53 := Try.zeroValue59 }
theorem Try.bits_Len (x : Int) (w : World) (h0 : 0 <= x) (h1 : x <= 18446744073709551615) :
    Calls Try.prog 40 #[.int .u64 x] w fun e w' => e = .returned (.int .i64 (Lib.bitLen x.toNat)) /\ w' = w := Any.bits_Len Try.lays125 x w h0 h1
def Try.lays213_ren : Go.Shelf.Ren := ⟨fun | 213 => 37 | 265 => 43 | n => n, fun | 9 => 9 | 3 => 3 | n => n, fun | n => n⟩
theorem Try.lays213 : Go.Proofs.Lays.n213 Try.prog Try.lays213_ren := {
  mixed := by kernel_rfl
  f213 := Try.func37.trans (congrArg some (by kernel_rfl))
  f265 := Try.func43.trans (congrArg some (by kernel_rfl))
  t3 := Try.underlying3
  a3 := Try.isAgg3
  z3 := Try.sizeOf3
  v3 := Try.zeroValue3
  t9 := Try.underlying9
  a9 := Try.isAgg9
  z9 := Try.sizeOf9
  v9 := Try.zeroValue9 }
open Go.RowKit in
theorem Try.bytealg_CompareString (a b : ByteArray) (w : World) :
    Calls Try.prog 37 #[.string a, .string b] w fun e w' => e = .returned (.int .i64 (Lib.compareBytes a.data.toList b.data.toList)) /\ w' = w := Any.bytealg_CompareString Try.lays213 a b w
def Try.lays106_ren : Go.Shelf.Ren := ⟨fun | 106 => 26 | 213 => 37 | 265 => 43 | n => n, fun | 9 => 9 | 3 => 3 | n => n, fun | n => n⟩
theorem Try.lays106 : Go.Proofs.Lays.n106 Try.prog Try.lays106_ren := {
  mixed := by kernel_rfl
  f106 := Try.func26.trans (congrArg some (by kernel_rfl))
  f213 := Try.func37.trans (congrArg some (by kernel_rfl))
  f265 := Try.func43.trans (congrArg some (by kernel_rfl))
  t3 := Try.underlying3
  a3 := Try.isAgg3
  z3 := Try.sizeOf3
  v3 := Try.zeroValue3
  t9 := Try.underlying9
  a9 := Try.isAgg9
  z9 := Try.sizeOf9
  v9 := Try.zeroValue9 }
open Go.RowKit in
theorem Try.strings_Compare (a b : ByteArray) (w : World) :
    Calls Try.prog 26 #[.string a, .string b] w fun e w' => e = .returned (.int .i64 (Lib.compareBytes a.data.toList b.data.toList)) /\ w' = w := Any.strings_Compare Try.lays106 a b w
def Try.lays215_ren : Go.Shelf.Ren := ⟨fun | 215 => 36 | n => n, fun | 3 => 3 | 4 => 4 | n => n, fun | n => n⟩
theorem Try.lays215 : Go.Proofs.Lays.n215 Try.prog Try.lays215_ren := {
  mixed := by kernel_rfl
  f215 := Try.func36.trans (congrArg some (by kernel_rfl))
  t3 := Try.underlying3
  a3 := Try.isAgg3
  z3 := Try.sizeOf3
  v3 := Try.zeroValue3
  t4 := Try.underlying4
  a4 := Try.isAgg4
  z4 := Try.sizeOf4
  v4 := Try.zeroValue4 }
open Go.RowKit in
theorem Try.cmp_isNaN_int (x : Int) (w : World) :
    Calls Try.prog 36 #[.int .i64 x] w fun e w' => e = .returned (.bool false) /\ w' = w := Any.cmp_isNaN_int Try.lays215 x w
def Try.lays122_ren : Go.Shelf.Ren := ⟨fun | 122 => 25 | 215 => 36 | n => n, fun | 3 => 3 | 4 => 4 | n => n, fun | n => n⟩
theorem Try.lays122 : Go.Proofs.Lays.n122 Try.prog Try.lays122_ren := {
  mixed := by kernel_rfl
  f122 := Try.func25.trans (congrArg some (by kernel_rfl))
  f215 := Try.func36.trans (congrArg some (by kernel_rfl))
  t3 := Try.underlying3
  a3 := Try.isAgg3
  z3 := Try.sizeOf3
  v3 := Try.zeroValue3
  t4 := Try.underlying4
  a4 := Try.isAgg4
  z4 := Try.sizeOf4
  v4 := Try.zeroValue4 }
open Go.RowKit in
theorem Try.cmp_Compare_int (x y : Int) (w : World) :
    Calls Try.prog 25 #[.int .i64 x, .int .i64 y] w fun e w' => e = .returned (.int .i64 (Lib.compareInt x y)) /\ w' = w := Any.cmp_Compare_int Try.lays122 x y w
def Try.lays129_ren : Go.Shelf.Ren := ⟨fun | 129 => 54 | n => n, fun | 53 => 59 | 3 => 3 | 4 => 4 | 46 => 43 | 5 => 5 | 9 => 9 | n => n, fun | n => n⟩
theorem Try.lays129 : Go.Proofs.Lays.n129 Try.prog Try.lays129_ren := {
  mixed := by kernel_rfl
  f129 := Try.func54.trans (congrArg some (by kernel_rfl))
  t3 := Try.underlying3
  a3 := Try.isAgg3
  z3 := Try.sizeOf3
  v3 := Try.zeroValue3
  t4 := Try.underlying4
  a4 := Try.isAgg4
  z4 := Try.sizeOf4
  v4 := Try.zeroValue4
  t5 := Try.underlying5
  a5 := Try.isAgg5
  z5 := Try.sizeOf5
  v5 := Try.zeroValue5
  t9 := Try.underlying9
  a9 := Try.isAgg9
  z9 := Try.sizeOf9
  v9 := Try.zeroValue9
  t46 := Try.underlying43
  a46 := Try.isAgg43
  z46 := Try.sizeOf43
  v46 := Try.zeroValue43
  t53 := Try.underlying59
  a53 := Try.isAgg59
  z53 := Try.sizeOf59
  v53 := Try.zeroValue59 }
theorem Try.bits_Len64 (x : Int) (w : World) (h0 : 0 <= x) (h1 : x <= 18446744073709551615) :
    Calls Try.prog 54 #[.int .u64 x] w fun e w' => e = .returned (.int .i64 (Lib.bitLen x.toNat)) /\ w' = w := Any.bits_Len64 Try.lays129 x w h0 h1
def Try.lays190_ren : Go.Shelf.Ren := ⟨fun | 190 => 28 | 125 => 40 | 258 => 39 | 128 => 53 | 129 => 54 | 302 => 44 | 303 => 45 | 304 => 46 | 305 => 47 | 306 => 48 | 307 => 49 | 308 => 50 | 309 => 51 | 310 => 52 | 333 => 63 | 329 => 64 | 330 => 65 | 334 => 66 | 335 => 67 | 336 => 68 | 344 => 72 | n => n, fun | 31 => 23 | 9 => 9 | 3 => 3 | 46 => 43 | 0 => 0 | 51 => 57 | 53 => 59 | 4 => 4 | 183 => 68 | 182 => 67 | 131 => 52 | 5 => 5 | 218 => 78 | 222 => 82 | 228 => 86 | 229 => 87 | n => n, fun | n => n⟩
theorem Try.lays190 : Go.Proofs.Lays.n190 Try.prog Try.lays190_ren := {
  mixed := by kernel_rfl
  f125 := Try.func40.trans (congrArg some (by kernel_rfl))
  f128 := Try.func53.trans (congrArg some (by kernel_rfl))
  f129 := Try.func54.trans (congrArg some (by kernel_rfl))
  f190 := Try.func28.trans (congrArg some (by kernel_rfl))
  f258 := Try.func39.trans (congrArg some (by kernel_rfl))
  f302 := Try.func44.trans (congrArg some (by kernel_rfl))
  f303 := Try.func45.trans (congrArg some (by kernel_rfl))
  f304 := Try.func46.trans (congrArg some (by kernel_rfl))
  f305 := Try.func47.trans (congrArg some (by kernel_rfl))
  f306 := Try.func48.trans (congrArg some (by kernel_rfl))
  f307 := Try.func49.trans (congrArg some (by kernel_rfl))
  f308 := Try.func50.trans (congrArg some (by kernel_rfl))
  f309 := Try.func51.trans (congrArg some (by kernel_rfl))
  f310 := Try.func52.trans (congrArg some (by kernel_rfl))
  f329 := Try.func64.trans (congrArg some (by kernel_rfl))
  f330 := Try.func65.trans (congrArg some (by kernel_rfl))
  f333 := Try.func63.trans (congrArg some (by kernel_rfl))
  f334 := Try.func66.trans (congrArg some (by kernel_rfl))
  f335 := Try.func67.trans (congrArg some (by kernel_rfl))
  f336 := Try.func68.trans (congrArg some (by kernel_rfl))
  f344 := Try.func72.trans (congrArg some (by kernel_rfl))
  t0 := Try.underlying0
  a0 := Try.isAgg0
  z0 := Try.sizeOf0
  v0 := Try.zeroValue0
  t3 := Try.underlying3
  a3 := Try.isAgg3
  z3 := Try.sizeOf3
  v3 := Try.zeroValue3
  t4 := Try.underlying4
  a4 := Try.isAgg4
  z4 := Try.sizeOf4
  v4 := Try.zeroValue4
  t5 := Try.underlying5
  a5 := Try.isAgg5
  z5 := Try.sizeOf5
  v5 := Try.zeroValue5
  t9 := Try.underlying9
  a9 := Try.isAgg9
  z9 := Try.sizeOf9
  v9 := Try.zeroValue9
  t31 := Try.underlying23
  a31 := Try.isAgg23
  z31 := Try.sizeOf23
  v31 := Try.zeroValue23
  t46 := Try.underlying43
  a46 := Try.isAgg43
  z46 := Try.sizeOf43
  v46 := Try.zeroValue43
  t51 := Try.underlying57
  a51 := Try.isAgg57
  z51 := Try.sizeOf57
  v51 := Try.zeroValue57
  t53 := Try.underlying59
  a53 := Try.isAgg59
  z53 := Try.sizeOf59
  v53 := Try.zeroValue59
  t131 := Try.underlying52
  a131 := Try.isAgg52
  z131 := Try.sizeOf52
  v131 := Try.zeroValue52
  t182 := Try.underlying67
  a182 := Try.isAgg67
  z182 := Try.sizeOf67
  v182 := Try.zeroValue67
  t183 := Try.underlying68
  a183 := Try.isAgg68
  z183 := Try.sizeOf68
  v183 := Try.zeroValue68
  t218 := Try.underlying78
  a218 := Try.isAgg78
  z218 := Try.sizeOf78
  v218 := Try.zeroValue78
  t222 := Try.underlying82
  a222 := Try.isAgg82
  z222 := Try.sizeOf82
  v222 := Try.zeroValue82
  t228 := Try.underlying86
  a228 := Try.isAgg86
  z228 := Try.sizeOf86
  v228 := Try.zeroValue86
  t229 := Try.underlying87
  a229 := Try.isAgg87
  z229 := Try.sizeOf87
  v229 := Try.zeroValue87 }
open Go.Sort Go.RowKit in
theorem Try.slices_Sort_string (blk off cap : Nat) (ss : List (List UInt8)) (w : World) (hH : Holds encStr w blk off ss.toArray) (hblk : blk < w.heap.size) (hsz : ss.length < 4611686018427387904) :
    Calls Try.prog 28 #[.slice (some ⟨blk, off, none⟩) ss.length cap] w fun e w' =>
      e = .returned (.tuple #[]) /\ ∃ n os, w' = grow (putRow encStr (Sort.ahead w n) blk off (ss.mergeSort fun x y => decide (x <= y)).toArray) os := Any.slices_Sort_string Try.lays190 blk off cap ss w hH hblk hsz
open Go.RowKit Go.Sort in
theorem Try.slices_Sort_string_none (p : Option Addr) (cap : Nat) (w : World) :
    Calls Try.prog 28 #[.slice p 0 cap] w fun e w' => e = .returned (.tuple #[]) /\ w' = w := Any.slices_Sort_string_none Try.lays190 p cap w
def Try.laysSlF20_f55_ren : Go.Shelf.Ren := ⟨fun | 20 => 55 | n => n, fun | 24 => 9 | 22 => 23 | 3 => 3 | 25 => 30 | 4 => 4 | 0 => 0 | n => n, fun | n => n⟩
theorem Try.laysSlF20_f55 : Go.Proofs.SlLaysF.n20 Try.prog Try.laysSlF20_f55_ren := {
  mixed := by kernel_rfl
  f20 := ⟨Try.f55.name, by decide, Try.func55.trans (congrArg some (by kernel_rfl))⟩
  t0 := Try.underlying0
  a0 := Try.isAgg0
  z0 := Try.sizeOf0
  v0 := Try.zeroValue0
  t3 := Try.underlying3
  a3 := Try.isAgg3
  z3 := Try.sizeOf3
  v3 := Try.zeroValue3
  t4 := Try.underlying4
  a4 := Try.isAgg4
  z4 := Try.sizeOf4
  v4 := Try.zeroValue4
  t22 := Try.underlying23
  a22 := Try.isAgg23
  z22 := Try.sizeOf23
  v22 := Try.zeroValue23
  a24 := Try.isAgg9
  z24 := Try.sizeOf9
  t25 := Try.underlying30
  a25 := Try.isAgg30
  z25 := Try.sizeOf30
  v25 := Try.zeroValue30 }
open Go.RowKit Go.Lib Go.Sort in
theorem Try.insertionSortCmpFunc_one {α : Type} [Inhabited α] (enc : α -> Value) (hO : OneCell enc) (cf : α -> α -> Int) (g : Nat) (cb : Array Value) (blk off cap a b : Nat) (d : Array α) (w : World) (eg : ∀ args w, (callFunc g args).run Try.prog w = .ok (.enter g args) w) (hcmp : CmpReads Try.prog g cb enc cf blk off d.size w) (hH : Holds enc w blk off d) (hab : a <= b) (hb : b <= d.size) (hsz : d.size < 4611686018427387904) :
    Calls Try.prog 55 #[.slice (some ⟨blk, off, none⟩) d.size cap, .int .i64 a, .int .i64 b, .func (.func g) #[] cb] w fun e w' =>
      e = .returned (.tuple #[]) /\ ∃ n, w' = (putRow enc w blk off (Sort.insertionSort (ltOf cf) d a b)).drewN n := Any.insertionSortCmpFunc_one Try.laysSlF20_f55 enc hO cf g cb blk off cap a b d w eg hcmp hH hab hb hsz
def Try.laysSlF46_f69_ren : Go.Shelf.Ren := ⟨fun | 46 => 69 | n => n, fun | 24 => 9 | 22 => 23 | 3 => 3 | 25 => 30 | 4 => 4 | 0 => 0 | n => n, fun | n => n⟩
theorem Try.laysSlF46_f69 : Go.Proofs.SlLaysF.n46 Try.prog Try.laysSlF46_f69_ren := {
  mixed := by kernel_rfl
  f46 := ⟨Try.f69.name, by decide, Try.func69.trans (congrArg some (by kernel_rfl))⟩
  t0 := Try.underlying0
  a0 := Try.isAgg0
  z0 := Try.sizeOf0
  v0 := Try.zeroValue0
  t3 := Try.underlying3
  a3 := Try.isAgg3
  z3 := Try.sizeOf3
  v3 := Try.zeroValue3
  t4 := Try.underlying4
  a4 := Try.isAgg4
  z4 := Try.sizeOf4
  v4 := Try.zeroValue4
  t22 := Try.underlying23
  a22 := Try.isAgg23
  z22 := Try.sizeOf23
  v22 := Try.zeroValue23
  a24 := Try.isAgg9
  z24 := Try.sizeOf9
  t25 := Try.underlying30
  a25 := Try.isAgg30
  z25 := Try.sizeOf30
  v25 := Try.zeroValue30 }
open Go.RowKit Go.Lib Go.Sort in
theorem Try.siftDownCmpFunc {α : Type} [Inhabited α] (enc : α -> Value) (cf : α -> α -> Int) (g : Nat) (cb : Array Value) (blk off cap lo hi first : Nat) (d0 d : Array α) (w0 w : World) (eg : ∀ args w, (callFunc g args).run Try.prog w = .ok (.enter g args) w) (hcmp : CmpLays1 Try.prog g cb enc cf blk off d0.size w0) (R : Row1 enc w0 blk off d0) (hs : d0.size = d.size) (S : SW enc w0 blk off d w) (hlo : lo <= hi) (hb : first + hi <= d.size) (hsz : d.size < 4611686018427387904) :
    Calls Try.prog 69 #[.slice (some ⟨blk, off, none⟩) d.size cap, .int .i64 lo, .int .i64 hi, .int .i64 first, .func (.func g) #[] cb] w fun e w' =>
      e = .returned (.tuple #[]) /\ SW enc w0 blk off (siftDown (ltOf cf) hi first lo d) w' := Any.siftDownCmpFunc Try.laysSlF46_f69 enc cf g cb blk off cap lo hi first d0 d w0 w eg hcmp R hs S hlo hb hsz
def Try.laysSlF21_f56_ren : Go.Shelf.Ren := ⟨fun | 21 => 56 | 46 => 69 | n => n, fun | 24 => 9 | 22 => 23 | 3 => 3 | 25 => 30 | 4 => 4 | 0 => 0 | n => n, fun | n => n⟩
theorem Try.laysSlF21_f56 : Go.Proofs.SlLaysF.n21 Try.prog Try.laysSlF21_f56_ren := {
  mixed := by kernel_rfl
  f21 := ⟨Try.f56.name, by decide, Try.func56.trans (congrArg some (by kernel_rfl))⟩
  f46 := ⟨Try.f69.name, by decide, Try.func69.trans (congrArg some (by kernel_rfl))⟩
  t0 := Try.underlying0
  a0 := Try.isAgg0
  z0 := Try.sizeOf0
  v0 := Try.zeroValue0
  t3 := Try.underlying3
  a3 := Try.isAgg3
  z3 := Try.sizeOf3
  v3 := Try.zeroValue3
  t4 := Try.underlying4
  a4 := Try.isAgg4
  z4 := Try.sizeOf4
  v4 := Try.zeroValue4
  t22 := Try.underlying23
  a22 := Try.isAgg23
  z22 := Try.sizeOf23
  v22 := Try.zeroValue23
  a24 := Try.isAgg9
  z24 := Try.sizeOf9
  t25 := Try.underlying30
  a25 := Try.isAgg30
  z25 := Try.sizeOf30
  v25 := Try.zeroValue30 }
open Go.RowKit Go.Lib Go.Sort in
theorem Try.heapSortCmpFunc {α : Type} [Inhabited α] (enc : α -> Value) (cf : α -> α -> Int) (g : Nat) (cb : Array Value) (blk off cap a b : Nat) (d0 d : Array α) (w0 w : World) (eg : ∀ args w, (callFunc g args).run Try.prog w = .ok (.enter g args) w) (hcmp : CmpLays1 Try.prog g cb enc cf blk off d0.size w0) (R : Row1 enc w0 blk off d0) (hs : d0.size = d.size) (S : SW enc w0 blk off d w) (hab : a <= b) (hb : b <= d.size) (hsz : d.size < 4611686018427387904) :
    Calls Try.prog 56 #[.slice (some ⟨blk, off, none⟩) d.size cap, .int .i64 a, .int .i64 b, .func (.func g) #[] cb] w fun e w' =>
      e = .returned (.tuple #[]) /\ SW enc w0 blk off (heapSort (ltOf cf) d a b) w' := Any.heapSortCmpFunc Try.laysSlF21_f56 enc cf g cb blk off cap a b d0 d w0 w eg hcmp R hs S hab hb hsz
open Go.RowKit Go.Lib Go.Sort in
theorem Try.insertionSortCmpFunc_s {α : Type} [Inhabited α] (enc : α -> Value) (cf : α -> α -> Int) (g : Nat) (cb : Array Value) (blk off cap a b : Nat) (d0 d : Array α) (w0 w : World) (eg : ∀ args w, (callFunc g args).run Try.prog w = .ok (.enter g args) w) (hcmp : CmpLays1 Try.prog g cb enc cf blk off d0.size w0) (R : Row1 enc w0 blk off d0) (hs : d0.size = d.size) (S : SW enc w0 blk off d w) (hab : a <= b) (hb : b <= d.size) (hsz : d.size < 4611686018427387904) :
    Calls Try.prog 55 #[.slice (some ⟨blk, off, none⟩) d.size cap, .int .i64 a, .int .i64 b, .func (.func g) #[] cb] w fun e w' => e = .returned (.tuple #[]) /\ SW enc w0 blk off (Sort.insertionSort (ltOf cf) d a b) w' := Any.insertionSortCmpFunc_s Try.laysSlF20_f55 enc cf g cb blk off cap a b d0 d w0 w eg hcmp R hs S hab hb hsz
def Try.laysSlF57_f73_ren : Go.Shelf.Ren := ⟨fun | 57 => 73 | n => n, fun | 24 => 9 | 22 => 23 | 3 => 3 | 70 => 82 | 25 => 30 | 0 => 0 | 4 => 4 | n => n, fun | n => n⟩
theorem Try.laysSlF57_f73 : Go.Proofs.SlLaysF.n57 Try.prog Try.laysSlF57_f73_ren := {
  mixed := by kernel_rfl
  f57 := ⟨Try.f73.name, by decide, Try.func73.trans (congrArg some (by kernel_rfl))⟩
  t0 := Try.underlying0
  a0 := Try.isAgg0
  z0 := Try.sizeOf0
  v0 := Try.zeroValue0
  t3 := Try.underlying3
  a3 := Try.isAgg3
  z3 := Try.sizeOf3
  v3 := Try.zeroValue3
  t4 := Try.underlying4
  a4 := Try.isAgg4
  z4 := Try.sizeOf4
  v4 := Try.zeroValue4
  t22 := Try.underlying23
  a22 := Try.isAgg23
  z22 := Try.sizeOf23
  v22 := Try.zeroValue23
  a24 := Try.isAgg9
  z24 := Try.sizeOf9
  t25 := Try.underlying30
  a25 := Try.isAgg30
  z25 := Try.sizeOf30
  v25 := Try.zeroValue30
  t70 := Try.underlying82
  a70 := Try.isAgg82
  z70 := Try.sizeOf82
  v70 := Try.zeroValue82 }
open Go.RowKit Go.Lib Go.Sort in
theorem Try.order2CmpFunc {α : Type} [Inhabited α] (enc : α -> Value) (cf : α -> α -> Int) (g : Nat) (cb : Array Value) (blk off cap a b c s : Nat) (d0 d : Array α) (w0 W : World) (eg : ∀ args w, (callFunc g args).run Try.prog w = .ok (.enter g args) w) (hcmp : CmpLays1 Try.prog g cb enc cf blk off d0.size w0) (R : Row1 enc w0 blk off d0) (hs : d0.size = d.size) (C : Cnt1 enc w0 blk off d c s W) (ha : a < d.size) (hb : b < d.size) (hsz : d.size < 4611686018427387904) (hss : s < 4611686018427387904) :
    Calls Try.prog 73 #[.slice (some ⟨blk, off, none⟩) d.size cap, .int .i64 a, .int .i64 b, .pointer (some ⟨c, 0, none⟩), .func (.func g) #[] cb] W fun e w' =>
      e = .returned (.tuple #[.int .i64 (order2 (ltOf cf) d a b s).1, .int .i64 (order2 (ltOf cf) d a b s).2.1]) /\ Cnt1 enc w0 blk off d c (order2 (ltOf cf) d a b s).2.2 w' := Any.order2CmpFunc Try.laysSlF57_f73 enc cf g cb blk off cap a b c s d0 d w0 W eg hcmp R hs C ha hb hsz hss
def Try.laysSlF50_f71_ren : Go.Shelf.Ren := ⟨fun | 50 => 71 | 57 => 73 | n => n, fun | 24 => 9 | 22 => 23 | 3 => 3 | 70 => 82 | 25 => 30 | 77 => 87 | 0 => 0 | 4 => 4 | n => n, fun | n => n⟩
theorem Try.laysSlF50_f71 : Go.Proofs.SlLaysF.n50 Try.prog Try.laysSlF50_f71_ren := {
  mixed := by kernel_rfl
  f50 := ⟨Try.f71.name, by decide, Try.func71.trans (congrArg some (by kernel_rfl))⟩
  f57 := ⟨Try.f73.name, by decide, Try.func73.trans (congrArg some (by kernel_rfl))⟩
  t0 := Try.underlying0
  a0 := Try.isAgg0
  z0 := Try.sizeOf0
  v0 := Try.zeroValue0
  t3 := Try.underlying3
  a3 := Try.isAgg3
  z3 := Try.sizeOf3
  v3 := Try.zeroValue3
  t4 := Try.underlying4
  a4 := Try.isAgg4
  z4 := Try.sizeOf4
  v4 := Try.zeroValue4
  t22 := Try.underlying23
  a22 := Try.isAgg23
  z22 := Try.sizeOf23
  v22 := Try.zeroValue23
  a24 := Try.isAgg9
  z24 := Try.sizeOf9
  t25 := Try.underlying30
  a25 := Try.isAgg30
  z25 := Try.sizeOf30
  v25 := Try.zeroValue30
  t70 := Try.underlying82
  a70 := Try.isAgg82
  z70 := Try.sizeOf82
  v70 := Try.zeroValue82
  t77 := Try.underlying87
  a77 := Try.isAgg87
  z77 := Try.sizeOf87
  v77 := Try.zeroValue87 }
open Go.RowKit Go.Lib Go.Sort in
theorem Try.medianCmpFunc {α : Type} [Inhabited α] (enc : α -> Value) (cf : α -> α -> Int) (g : Nat) (cb : Array Value) (blk off cap a b c' c s : Nat) (d0 d : Array α) (w0 W : World) (eg : ∀ args w, (callFunc g args).run Try.prog w = .ok (.enter g args) w) (hcmp : CmpLays1 Try.prog g cb enc cf blk off d0.size w0) (R : Row1 enc w0 blk off d0) (hs : d0.size = d.size) (C : Cnt1 enc w0 blk off d c s W) (ha : a < d.size) (hb : b < d.size) (hc : c' < d.size) (hsz : d.size < 4611686018427387904) (hss : s + 3 < 4611686018427387904) :
    Calls Try.prog 71 #[.slice (some ⟨blk, off, none⟩) d.size cap, .int .i64 a, .int .i64 b, .int .i64 c', .pointer (some ⟨c, 0, none⟩), .func (.func g) #[] cb] W fun e w' =>
      e = .returned (.int .i64 (median (ltOf cf) d a b c' s).1) /\ Cnt1 enc w0 blk off d c (median (ltOf cf) d a b c' s).2 w' := Any.medianCmpFunc Try.laysSlF50_f71 enc cf g cb blk off cap a b c' c s d0 d w0 W eg hcmp R hs C ha hb hc hsz hss
def Try.laysSlF49_f70_ren : Go.Shelf.Ren := ⟨fun | 49 => 70 | 50 => 71 | 57 => 73 | n => n, fun | 24 => 9 | 22 => 23 | 3 => 3 | 70 => 82 | 25 => 30 | 77 => 87 | 0 => 0 | 4 => 4 | n => n, fun | n => n⟩
theorem Try.laysSlF49_f70 : Go.Proofs.SlLaysF.n49 Try.prog Try.laysSlF49_f70_ren := {
  mixed := by kernel_rfl
  f49 := ⟨Try.f70.name, by decide, Try.func70.trans (congrArg some (by kernel_rfl))⟩
  f50 := ⟨Try.f71.name, by decide, Try.func71.trans (congrArg some (by kernel_rfl))⟩
  f57 := ⟨Try.f73.name, by decide, Try.func73.trans (congrArg some (by kernel_rfl))⟩
  t0 := Try.underlying0
  a0 := Try.isAgg0
  z0 := Try.sizeOf0
  v0 := Try.zeroValue0
  t3 := Try.underlying3
  a3 := Try.isAgg3
  z3 := Try.sizeOf3
  v3 := Try.zeroValue3
  t4 := Try.underlying4
  a4 := Try.isAgg4
  z4 := Try.sizeOf4
  v4 := Try.zeroValue4
  t22 := Try.underlying23
  a22 := Try.isAgg23
  z22 := Try.sizeOf23
  v22 := Try.zeroValue23
  a24 := Try.isAgg9
  z24 := Try.sizeOf9
  t25 := Try.underlying30
  a25 := Try.isAgg30
  z25 := Try.sizeOf30
  v25 := Try.zeroValue30
  t70 := Try.underlying82
  a70 := Try.isAgg82
  z70 := Try.sizeOf82
  v70 := Try.zeroValue82
  t77 := Try.underlying87
  a77 := Try.isAgg87
  z77 := Try.sizeOf87
  v77 := Try.zeroValue87 }
open Go.RowKit Go.Lib Go.Sort in
theorem Try.medianAdjacentCmpFunc {α : Type} [Inhabited α] (enc : α -> Value) (cf : α -> α -> Int) (g : Nat) (cb : Array Value) (blk off cap a c s : Nat) (d0 d : Array α) (w0 W : World) (eg : ∀ args w, (callFunc g args).run Try.prog w = .ok (.enter g args) w) (hcmp : CmpLays1 Try.prog g cb enc cf blk off d0.size w0) (R : Row1 enc w0 blk off d0) (hs : d0.size = d.size) (C : Cnt1 enc w0 blk off d c s W) (ha1 : 1 <= a) (ha2 : a + 1 < d.size) (hsz : d.size < 4611686018427387904) (hss : s + 3 < 4611686018427387904) :
    Calls Try.prog 70 #[.slice (some ⟨blk, off, none⟩) d.size cap, .int .i64 a, .pointer (some ⟨c, 0, none⟩), .func (.func g) #[] cb] W fun e w' =>
      e = .returned (.int .i64 (medianAdjacent (ltOf cf) d a s).1) /\ Cnt1 enc w0 blk off d c (medianAdjacent (ltOf cf) d a s).2 w' := Any.medianAdjacentCmpFunc Try.laysSlF49_f70 enc cf g cb blk off cap a c s d0 d w0 W eg hcmp R hs C ha1 ha2 hsz hss
def Try.laysSlF23_f58_ren : Go.Shelf.Ren := ⟨fun | 23 => 58 | 49 => 70 | 50 => 71 | 57 => 73 | n => n, fun | 24 => 9 | 22 => 23 | 3 => 3 | 25 => 30 | 45 => 67 | 0 => 0 | 4 => 4 | 70 => 82 | 77 => 87 | n => n, fun | n => n⟩
theorem Try.laysSlF23_f58 : Go.Proofs.SlLaysF.n23 Try.prog Try.laysSlF23_f58_ren := {
  mixed := by kernel_rfl
  f23 := ⟨Try.f58.name, by decide, Try.func58.trans (congrArg some (by kernel_rfl))⟩
  f49 := ⟨Try.f70.name, by decide, Try.func70.trans (congrArg some (by kernel_rfl))⟩
  f50 := ⟨Try.f71.name, by decide, Try.func71.trans (congrArg some (by kernel_rfl))⟩
  f57 := ⟨Try.f73.name, by decide, Try.func73.trans (congrArg some (by kernel_rfl))⟩
  t0 := Try.underlying0
  a0 := Try.isAgg0
  z0 := Try.sizeOf0
  v0 := Try.zeroValue0
  t3 := Try.underlying3
  a3 := Try.isAgg3
  z3 := Try.sizeOf3
  v3 := Try.zeroValue3
  t4 := Try.underlying4
  a4 := Try.isAgg4
  z4 := Try.sizeOf4
  v4 := Try.zeroValue4
  t22 := Try.underlying23
  a22 := Try.isAgg23
  z22 := Try.sizeOf23
  v22 := Try.zeroValue23
  a24 := Try.isAgg9
  z24 := Try.sizeOf9
  t25 := Try.underlying30
  a25 := Try.isAgg30
  z25 := Try.sizeOf30
  v25 := Try.zeroValue30
  t45 := Try.underlying67
  a45 := Try.isAgg67
  z45 := Try.sizeOf67
  v45 := Try.zeroValue67
  t70 := Try.underlying82
  a70 := Try.isAgg82
  z70 := Try.sizeOf82
  v70 := Try.zeroValue82
  t77 := Try.underlying87
  a77 := Try.isAgg87
  z77 := Try.sizeOf87
  v77 := Try.zeroValue87 }
open Go.RowKit Go.Lib Go.Sort in
theorem Try.choosePivotCmpFunc {α : Type} [Inhabited α] (enc : α -> Value) (cf : α -> α -> Int) (g : Nat) (cb : Array Value) (blk off cap a b : Nat) (d0 d : Array α) (w0 W : World) (eg : ∀ args w, (callFunc g args).run Try.prog w = .ok (.enter g args) w) (hcmp : CmpLays1 Try.prog g cb enc cf blk off d0.size w0) (R : Row1 enc w0 blk off d0) (hs : d0.size = d.size) (S : SW enc w0 blk off d W) (hab : a < b) (hb : b <= d.size) (hsz : d.size < 4611686018427387904) :
    Calls Try.prog 58 #[.slice (some ⟨blk, off, none⟩) d.size cap, .int .i64 a, .int .i64 b, .func (.func g) #[] cb] W fun e w' =>
      e = .returned (.tuple #[.int .i64 (choosePivot (ltOf cf) d a b).1, .int .i64 (hintCode (choosePivot (ltOf cf) d a b).2)]) /\ SW enc w0 blk off d w' := Any.choosePivotCmpFunc Try.laysSlF23_f58 enc cf g cb blk off cap a b d0 d w0 W eg hcmp R hs S hab hb hsz
def Try.laysSlF24_f59_ren : Go.Shelf.Ren := ⟨fun | 24 => 59 | n => n, fun | 24 => 9 | 22 => 23 | 3 => 3 | 25 => 30 | 4 => 4 | 0 => 0 | n => n, fun | n => n⟩
theorem Try.laysSlF24_f59 : Go.Proofs.SlLaysF.n24 Try.prog Try.laysSlF24_f59_ren := {
  mixed := by kernel_rfl
  f24 := ⟨Try.f59.name, by decide, Try.func59.trans (congrArg some (by kernel_rfl))⟩
  t0 := Try.underlying0
  a0 := Try.isAgg0
  z0 := Try.sizeOf0
  v0 := Try.zeroValue0
  t3 := Try.underlying3
  a3 := Try.isAgg3
  z3 := Try.sizeOf3
  v3 := Try.zeroValue3
  t4 := Try.underlying4
  a4 := Try.isAgg4
  z4 := Try.sizeOf4
  v4 := Try.zeroValue4
  t22 := Try.underlying23
  a22 := Try.isAgg23
  z22 := Try.sizeOf23
  v22 := Try.zeroValue23
  a24 := Try.isAgg9
  z24 := Try.sizeOf9
  t25 := Try.underlying30
  a25 := Try.isAgg30
  z25 := Try.sizeOf30
  v25 := Try.zeroValue30 }
open Go.RowKit Go.Lib Go.Sort in
theorem Try.reverseRangeCmpFunc {α : Type} [Inhabited α] (enc : α -> Value) (g : Nat) (cb : Array Value) (blk off cap a b : Nat) (d0 d : Array α) (w0 w : World) (R : Row1 enc w0 blk off d0) (hs : d0.size = d.size) (S : SW enc w0 blk off d w) (hab : a <= b) (hb : b <= d.size) (hsz : d.size < 4611686018427387904) :
    Calls Try.prog 59 #[.slice (some ⟨blk, off, none⟩) d.size cap, .int .i64 a, .int .i64 b, .func (.func g) #[] cb] w fun e w' => e = .returned (.tuple #[]) /\ SW enc w0 blk off (reverseRange d a b) w' := Any.reverseRangeCmpFunc Try.laysSlF24_f59 enc g cb blk off cap a b d0 d w0 w R hs S hab hb hsz
def Try.laysSlF25_f60_ren : Go.Shelf.Ren := ⟨fun | 25 => 60 | n => n, fun | 24 => 9 | 22 => 23 | 3 => 3 | 25 => 30 | 4 => 4 | 0 => 0 | n => n, fun | n => n⟩
theorem Try.laysSlF25_f60 : Go.Proofs.SlLaysF.n25 Try.prog Try.laysSlF25_f60_ren := {
  mixed := by kernel_rfl
  f25 := ⟨Try.f60.name, by decide, Try.func60.trans (congrArg some (by kernel_rfl))⟩
  t0 := Try.underlying0
  a0 := Try.isAgg0
  z0 := Try.sizeOf0
  v0 := Try.zeroValue0
  t3 := Try.underlying3
  a3 := Try.isAgg3
  z3 := Try.sizeOf3
  v3 := Try.zeroValue3
  t4 := Try.underlying4
  a4 := Try.isAgg4
  z4 := Try.sizeOf4
  v4 := Try.zeroValue4
  t22 := Try.underlying23
  a22 := Try.isAgg23
  z22 := Try.sizeOf23
  v22 := Try.zeroValue23
  a24 := Try.isAgg9
  z24 := Try.sizeOf9
  t25 := Try.underlying30
  a25 := Try.isAgg30
  z25 := Try.sizeOf30
  v25 := Try.zeroValue30 }
open Go.RowKit Go.Lib Go.Sort in
theorem Try.partialInsertionSortCmpFunc {α : Type} [Inhabited α] (enc : α -> Value) (cf : α -> α -> Int) (g : Nat) (cb : Array Value) (blk off cap a b : Nat) (d0 d : Array α) (w0 w : World) (eg : ∀ args w, (callFunc g args).run Try.prog w = .ok (.enter g args) w) (hcmp : CmpLays1 Try.prog g cb enc cf blk off d0.size w0) (R : Row1 enc w0 blk off d0) (hs : d0.size = d.size) (S : SW enc w0 blk off d w) (hab : a < b) (hb : b <= d.size) (hsz : d.size < 4611686018427387904) :
    Calls Try.prog 60 #[.slice (some ⟨blk, off, none⟩) d.size cap, .int .i64 a, .int .i64 b, .func (.func g) #[] cb] w fun e w' =>
      e = .returned (.bool (Sort.partialInsertionSort (ltOf cf) d a b).2) /\ SW enc w0 blk off (Sort.partialInsertionSort (ltOf cf) d a b).1 w' := Any.partialInsertionSortCmpFunc Try.laysSlF25_f60 enc cf g cb blk off cap a b d0 d w0 w eg hcmp R hs S hab hb hsz
def Try.laysSlF26_f61_ren : Go.Shelf.Ren := ⟨fun | 26 => 61 | n => n, fun | 24 => 9 | 22 => 23 | 3 => 3 | 25 => 30 | 0 => 0 | 4 => 4 | n => n, fun | n => n⟩
theorem Try.laysSlF26_f61 : Go.Proofs.SlLaysF.n26 Try.prog Try.laysSlF26_f61_ren := {
  mixed := by kernel_rfl
  f26 := ⟨Try.f61.name, by decide, Try.func61.trans (congrArg some (by kernel_rfl))⟩
  t0 := Try.underlying0
  a0 := Try.isAgg0
  z0 := Try.sizeOf0
  v0 := Try.zeroValue0
  t3 := Try.underlying3
  a3 := Try.isAgg3
  z3 := Try.sizeOf3
  v3 := Try.zeroValue3
  t4 := Try.underlying4
  a4 := Try.isAgg4
  z4 := Try.sizeOf4
  v4 := Try.zeroValue4
  t22 := Try.underlying23
  a22 := Try.isAgg23
  z22 := Try.sizeOf23
  v22 := Try.zeroValue23
  a24 := Try.isAgg9
  z24 := Try.sizeOf9
  t25 := Try.underlying30
  a25 := Try.isAgg30
  z25 := Try.sizeOf30
  v25 := Try.zeroValue30 }
open Go.RowKit Go.Lib Go.Sort in
theorem Try.partitionEqualCmpFunc {α : Type} [Inhabited α] (enc : α -> Value) (cf : α -> α -> Int) (g : Nat) (cb : Array Value) (blk off cap a b pivot : Nat) (d0 d : Array α) (w0 w : World) (eg : ∀ args w, (callFunc g args).run Try.prog w = .ok (.enter g args) w) (hcmp : CmpLays1 Try.prog g cb enc cf blk off d0.size w0) (R : Row1 enc w0 blk off d0) (hs : d0.size = d.size) (S : SW enc w0 blk off d w) (hap : a <= pivot) (hpb : pivot < b) (hb : b <= d.size) (hsz : d.size < 4611686018427387904) :
    Calls Try.prog 61 #[.slice (some ⟨blk, off, none⟩) d.size cap, .int .i64 a, .int .i64 b, .int .i64 pivot, .func (.func g) #[] cb] w fun e w' =>
      e = .returned (.int .i64 (Sort.partitionEqual (ltOf cf) d a b pivot).1) /\ SW enc w0 blk off (Sort.partitionEqual (ltOf cf) d a b pivot).2 w' := Any.partitionEqualCmpFunc Try.laysSlF26_f61 enc cf g cb blk off cap a b pivot d0 d w0 w eg hcmp R hs S hap hpb hb hsz
def Try.laysSlF27_f62_ren : Go.Shelf.Ren := ⟨fun | 27 => 62 | n => n, fun | 24 => 9 | 22 => 23 | 3 => 3 | 25 => 30 | 4 => 4 | 0 => 0 | n => n, fun | n => n⟩
theorem Try.laysSlF27_f62 : Go.Proofs.SlLaysF.n27 Try.prog Try.laysSlF27_f62_ren := {
  mixed := by kernel_rfl
  f27 := ⟨Try.f62.name, by decide, Try.func62.trans (congrArg some (by kernel_rfl))⟩
  t0 := Try.underlying0
  a0 := Try.isAgg0
  z0 := Try.sizeOf0
  v0 := Try.zeroValue0
  t3 := Try.underlying3
  a3 := Try.isAgg3
  z3 := Try.sizeOf3
  v3 := Try.zeroValue3
  t4 := Try.underlying4
  a4 := Try.isAgg4
  z4 := Try.sizeOf4
  v4 := Try.zeroValue4
  t22 := Try.underlying23
  a22 := Try.isAgg23
  z22 := Try.sizeOf23
  v22 := Try.zeroValue23
  a24 := Try.isAgg9
  z24 := Try.sizeOf9
  t25 := Try.underlying30
  a25 := Try.isAgg30
  z25 := Try.sizeOf30
  v25 := Try.zeroValue30 }
open Go.RowKit Go.Lib Go.Sort in
theorem Try.partitionCmpFunc {α : Type} [Inhabited α] (enc : α -> Value) (cf : α -> α -> Int) (g : Nat) (cb : Array Value) (blk off cap a b pivot : Nat) (d0 d : Array α) (w0 w : World) (eg : ∀ args w, (callFunc g args).run Try.prog w = .ok (.enter g args) w) (hcmp : CmpLays1 Try.prog g cb enc cf blk off d0.size w0) (R : Row1 enc w0 blk off d0) (hs : d0.size = d.size) (S : SW enc w0 blk off d w) (hap : a <= pivot) (hpb : pivot < b) (hb : b <= d.size) (hsz : d.size < 4611686018427387904) :
    Calls Try.prog 62 #[.slice (some ⟨blk, off, none⟩) d.size cap, .int .i64 a, .int .i64 b, .int .i64 pivot, .func (.func g) #[] cb] w fun e w' =>
      e = .returned (.tuple #[.int .i64 (Sort.partition (ltOf cf) d a b pivot).1, .bool (Sort.partition (ltOf cf) d a b pivot).2.1]) /\ SW enc w0 blk off (Sort.partition (ltOf cf) d a b pivot).2.2 w' := Any.partitionCmpFunc Try.laysSlF27_f62 enc cf g cb blk off cap a b pivot d0 d w0 w eg hcmp R hs S hap hpb hb hsz
def Try.laysSlF14_f42_ren : Go.Shelf.Ren := ⟨fun | 14 => 42 | 20 => 55 | 21 => 56 | 22 => 57 | 23 => 58 | 24 => 59 | 25 => 60 | 26 => 61 | 27 => 62 | 46 => 69 | 47 => 64 | 48 => 65 | 49 => 70 | 50 => 71 | 15 => 40 | 57 => 73 | 28 => 53 | 29 => 54 | n => n, fun | 24 => 9 | 22 => 23 | 3 => 3 | 25 => 30 | 4 => 4 | 0 => 0 | 46 => 68 | 45 => 67 | 50 => 52 | 66 => 78 | 39 => 43 | 55 => 59 | 70 => 82 | 76 => 86 | 77 => 87 | 53 => 57 | 5 => 5 | 9 => 9 | n => n, fun | n => n⟩
theorem Try.laysSlF14_f42 : Go.Proofs.SlLaysF.n14 Try.prog Try.laysSlF14_f42_ren := {
  mixed := by kernel_rfl
  f14 := ⟨Try.f42.name, by decide, Try.func42.trans (congrArg some (by kernel_rfl))⟩
  f15 := Try.func40.trans (congrArg some (by kernel_rfl))
  f20 := ⟨Try.f55.name, by decide, Try.func55.trans (congrArg some (by kernel_rfl))⟩
  f21 := ⟨Try.f56.name, by decide, Try.func56.trans (congrArg some (by kernel_rfl))⟩
  f22 := ⟨Try.f57.name, by decide, Try.func57.trans (congrArg some (by kernel_rfl))⟩
  f23 := ⟨Try.f58.name, by decide, Try.func58.trans (congrArg some (by kernel_rfl))⟩
  f24 := ⟨Try.f59.name, by decide, Try.func59.trans (congrArg some (by kernel_rfl))⟩
  f25 := ⟨Try.f60.name, by decide, Try.func60.trans (congrArg some (by kernel_rfl))⟩
  f26 := ⟨Try.f61.name, by decide, Try.func61.trans (congrArg some (by kernel_rfl))⟩
  f27 := ⟨Try.f62.name, by decide, Try.func62.trans (congrArg some (by kernel_rfl))⟩
  f28 := Try.func53.trans (congrArg some (by kernel_rfl))
  f29 := Try.func54.trans (congrArg some (by kernel_rfl))
  f46 := ⟨Try.f69.name, by decide, Try.func69.trans (congrArg some (by kernel_rfl))⟩
  f47 := Try.func64.trans (congrArg some (by kernel_rfl))
  f48 := Try.func65.trans (congrArg some (by kernel_rfl))
  f49 := ⟨Try.f70.name, by decide, Try.func70.trans (congrArg some (by kernel_rfl))⟩
  f50 := ⟨Try.f71.name, by decide, Try.func71.trans (congrArg some (by kernel_rfl))⟩
  f57 := ⟨Try.f73.name, by decide, Try.func73.trans (congrArg some (by kernel_rfl))⟩
  t0 := Try.underlying0
  a0 := Try.isAgg0
  z0 := Try.sizeOf0
  v0 := Try.zeroValue0
  t3 := Try.underlying3
  a3 := Try.isAgg3
  z3 := Try.sizeOf3
  v3 := Try.zeroValue3
  t4 := Try.underlying4
  a4 := Try.isAgg4
  z4 := Try.sizeOf4
  v4 := Try.zeroValue4
  t5 := Try.underlying5
  a5 := Try.isAgg5
  z5 := Try.sizeOf5
  v5 := Try.zeroValue5
  t9 := Try.underlying9
  a9 := Try.isAgg9
  z9 := Try.sizeOf9
  v9 := Try.zeroValue9
  t22 := Try.underlying23
  a22 := Try.isAgg23
  z22 := Try.sizeOf23
  v22 := Try.zeroValue23
  a24 := Try.isAgg9
  z24 := Try.sizeOf9
  t25 := Try.underlying30
  a25 := Try.isAgg30
  z25 := Try.sizeOf30
  v25 := Try.zeroValue30
  t39 := Try.underlying43
  a39 := Try.isAgg43
  z39 := Try.sizeOf43
  v39 := Try.zeroValue43
  t45 := Try.underlying67
  a45 := Try.isAgg67
  z45 := Try.sizeOf67
  v45 := Try.zeroValue67
  t46 := Try.underlying68
  a46 := Try.isAgg68
  z46 := Try.sizeOf68
  v46 := Try.zeroValue68
  t50 := Try.underlying52
  a50 := Try.isAgg52
  z50 := Try.sizeOf52
  v50 := Try.zeroValue52
  t53 := Try.underlying57
  a53 := Try.isAgg57
  z53 := Try.sizeOf57
  v53 := Try.zeroValue57
  t55 := Try.underlying59
  a55 := Try.isAgg59
  z55 := Try.sizeOf59
  v55 := Try.zeroValue59
  t66 := Try.underlying78
  a66 := Try.isAgg78
  z66 := Try.sizeOf78
  v66 := Try.zeroValue78
  t70 := Try.underlying82
  a70 := Try.isAgg82
  z70 := Try.sizeOf82
  v70 := Try.zeroValue82
  t76 := Try.underlying86
  a76 := Try.isAgg86
  z76 := Try.sizeOf86
  v76 := Try.zeroValue86
  t77 := Try.underlying87
  a77 := Try.isAgg87
  z77 := Try.sizeOf87
  v77 := Try.zeroValue87 }
open Go.RowKit Go.Lib Go.Sort in
theorem Try.pdqsortCmpFunc_all {α : Type} [Inhabited α] (enc : α -> Value) (cf : α -> α -> Int) (g : Nat) (cb : Array Value) (hO : SWO (ltOf cf)) (blk off cap : Nat) (d0 : Array α) (w0 : World) (eg : ∀ args w, (callFunc g args).run Try.prog w = .ok (.enter g args) w) (hcmp : CmpLays1 Try.prog g cb enc cf blk off d0.size w0) (R : Row1 enc w0 blk off d0) :
    ∀ (N a b limit : Nat) (d : Array α) (w : World), b - a < N -> d0.size = d.size -> SW enc w0 blk off d w -> a <= b -> b <= d.size -> d.size < 4611686018427387904 -> limit < 4611686018427387904 -> Below (ltOf cf) a b d ->
    Calls Try.prog 42 #[.slice (some ⟨blk, off, none⟩) d.size cap, .int .i64 a, .int .i64 b, .int .i64 limit, .func (.func g) #[] cb] w fun e w' => e = .returned (.tuple #[]) /\ SW enc w0 blk off (pdq (ltOf cf) d a b limit true true) w' := Any.pdqsortCmpFunc_all Try.laysSlF14_f42 enc cf g cb hO blk off cap d0 w0 eg hcmp R
def Try.laysSlF6_f34_ren : Go.Shelf.Ren := ⟨fun | 6 => 34 | 15 => 40 | 14 => 42 | 28 => 53 | 29 => 54 | 20 => 55 | 21 => 56 | 22 => 57 | 23 => 58 | 24 => 59 | 25 => 60 | 26 => 61 | 27 => 62 | 46 => 69 | 47 => 64 | 48 => 65 | 49 => 70 | 50 => 71 | 57 => 73 | n => n, fun | 22 => 23 | 24 => 9 | 25 => 30 | 3 => 3 | 39 => 43 | 0 => 0 | 53 => 57 | 55 => 59 | 4 => 4 | 46 => 68 | 45 => 67 | 50 => 52 | 5 => 5 | 9 => 9 | 66 => 78 | 70 => 82 | 76 => 86 | 77 => 87 | n => n, fun | n => n⟩
theorem Try.laysSlF6_f34 : Go.Proofs.SlLaysF.n6 Try.prog Try.laysSlF6_f34_ren := {
  mixed := by kernel_rfl
  f6 := ⟨Try.f34.name, by decide, Try.func34.trans (congrArg some (by kernel_rfl))⟩
  f14 := ⟨Try.f42.name, by decide, Try.func42.trans (congrArg some (by kernel_rfl))⟩
  f15 := Try.func40.trans (congrArg some (by kernel_rfl))
  f20 := ⟨Try.f55.name, by decide, Try.func55.trans (congrArg some (by kernel_rfl))⟩
  f21 := ⟨Try.f56.name, by decide, Try.func56.trans (congrArg some (by kernel_rfl))⟩
  f22 := ⟨Try.f57.name, by decide, Try.func57.trans (congrArg some (by kernel_rfl))⟩
  f23 := ⟨Try.f58.name, by decide, Try.func58.trans (congrArg some (by kernel_rfl))⟩
  f24 := ⟨Try.f59.name, by decide, Try.func59.trans (congrArg some (by kernel_rfl))⟩
  f25 := ⟨Try.f60.name, by decide, Try.func60.trans (congrArg some (by kernel_rfl))⟩
  f26 := ⟨Try.f61.name, by decide, Try.func61.trans (congrArg some (by kernel_rfl))⟩
  f27 := ⟨Try.f62.name, by decide, Try.func62.trans (congrArg some (by kernel_rfl))⟩
  f28 := Try.func53.trans (congrArg some (by kernel_rfl))
  f29 := Try.func54.trans (congrArg some (by kernel_rfl))
  f46 := ⟨Try.f69.name, by decide, Try.func69.trans (congrArg some (by kernel_rfl))⟩
  f47 := Try.func64.trans (congrArg some (by kernel_rfl))
  f48 := Try.func65.trans (congrArg some (by kernel_rfl))
  f49 := ⟨Try.f70.name, by decide, Try.func70.trans (congrArg some (by kernel_rfl))⟩
  f50 := ⟨Try.f71.name, by decide, Try.func71.trans (congrArg some (by kernel_rfl))⟩
  f57 := ⟨Try.f73.name, by decide, Try.func73.trans (congrArg some (by kernel_rfl))⟩
  t0 := Try.underlying0
  a0 := Try.isAgg0
  z0 := Try.sizeOf0
  v0 := Try.zeroValue0
  t3 := Try.underlying3
  a3 := Try.isAgg3
  z3 := Try.sizeOf3
  v3 := Try.zeroValue3
  t4 := Try.underlying4
  a4 := Try.isAgg4
  z4 := Try.sizeOf4
  v4 := Try.zeroValue4
  t5 := Try.underlying5
  a5 := Try.isAgg5
  z5 := Try.sizeOf5
  v5 := Try.zeroValue5
  t9 := Try.underlying9
  a9 := Try.isAgg9
  z9 := Try.sizeOf9
  v9 := Try.zeroValue9
  t22 := Try.underlying23
  a22 := Try.isAgg23
  z22 := Try.sizeOf23
  v22 := Try.zeroValue23
  a24 := Try.isAgg9
  z24 := Try.sizeOf9
  t25 := Try.underlying30
  a25 := Try.isAgg30
  z25 := Try.sizeOf30
  v25 := Try.zeroValue30
  t39 := Try.underlying43
  a39 := Try.isAgg43
  z39 := Try.sizeOf43
  v39 := Try.zeroValue43
  t45 := Try.underlying67
  a45 := Try.isAgg67
  z45 := Try.sizeOf67
  v45 := Try.zeroValue67
  t46 := Try.underlying68
  a46 := Try.isAgg68
  z46 := Try.sizeOf68
  v46 := Try.zeroValue68
  t50 := Try.underlying52
  a50 := Try.isAgg52
  z50 := Try.sizeOf52
  v50 := Try.zeroValue52
  t53 := Try.underlying57
  a53 := Try.isAgg57
  z53 := Try.sizeOf57
  v53 := Try.zeroValue57
  t55 := Try.underlying59
  a55 := Try.isAgg59
  z55 := Try.sizeOf59
  v55 := Try.zeroValue59
  t66 := Try.underlying78
  a66 := Try.isAgg78
  z66 := Try.sizeOf78
  v66 := Try.zeroValue78
  t70 := Try.underlying82
  a70 := Try.isAgg82
  z70 := Try.sizeOf82
  v70 := Try.zeroValue82
  t76 := Try.underlying86
  a76 := Try.isAgg86
  z76 := Try.sizeOf86
  v76 := Try.zeroValue86
  t77 := Try.underlying87
  a77 := Try.isAgg87
  z77 := Try.sizeOf87
  v77 := Try.zeroValue87 }
open Go.RowKit Go.Lib Go.Sort in
theorem Try.slices_SortFunc_eq {α : Type} [Inhabited α] (enc : α -> Value) (h1 : OneCell enc) (cf : α -> α -> Int) (hO : SWO (ltOf cf)) (g : Nat) (cb : Array Value) (blk off cap : Nat) (d : Array α) (w : World) (eg : ∀ args w, (callFunc g args).run Try.prog w = .ok (.enter g args) w) (hcmp : CmpLays1 Try.prog g cb enc cf blk off d.size w) (hH : Holds enc w blk off d) (hblk : blk < w.heap.size) (hsz : d.size < 4611686018427387904) :
    Calls Try.prog 34 #[.slice (some ⟨blk, off, none⟩) d.size cap, .func (.func g) #[] cb] w fun e w' =>
      e = .returned (.tuple #[]) /\ ∃ n os, w' = sortWorld enc w blk off n (pdq (ltOf cf) d 0 d.size (Lib.bitLen d.size) true true) os := Any.slices_SortFunc_eq Try.laysSlF6_f34 enc h1 cf hO g cb blk off cap d w eg hcmp hH hblk hsz
open Go.RowKit Go.Lib Go.Sort in
theorem Try.slices_SortFunc {α : Type} [Inhabited α] (enc : α -> Value) (h1 : OneCell enc) (cf : α -> α -> Int) (hO : SWO (ltOf cf)) (g : Nat) (cb : Array Value) (blk off cap : Nat) (d : Array α) (w : World) (eg : ∀ args w, (callFunc g args).run Try.prog w = .ok (.enter g args) w) (hcmp : CmpLays1 Try.prog g cb enc cf blk off d.size w) (hH : Holds enc w blk off d) (hblk : blk < w.heap.size) (hsz : d.size < 4611686018427387904) :
    Calls Try.prog 34 #[.slice (some ⟨blk, off, none⟩) d.size cap, .func (.func g) #[] cb] w fun e w' =>
      e = .returned (.tuple #[]) /\ ∃ d' n os, PermIn 0 d.size d d' /\ SortedIn (ltOf cf) 0 d.size d' /\ w' = sortWorld enc w blk off n d' os := Any.slices_SortFunc Try.laysSlF6_f34 enc h1 cf hO g cb blk off cap d w eg hcmp hH hblk hsz
def Try.laysSlF020_f55_ren : Go.Shelf.Ren := ⟨fun | 20 => 55 | n => n, fun | 24 => 9 | 22 => 23 | 3 => 3 | 25 => 30 | 4 => 4 | 0 => 0 | n => n, fun | n => n⟩
theorem Try.laysSlF020_f55 : Go.Proofs.SlLaysF0.n20 Try.prog Try.laysSlF020_f55_ren := {
  mixed := by kernel_rfl
  f20 := ⟨Try.f55.name, by decide, Try.func55.trans (congrArg some (by kernel_rfl))⟩
  t0 := Try.underlying0
  a0 := Try.isAgg0
  z0 := Try.sizeOf0
  v0 := Try.zeroValue0
  t3 := Try.underlying3
  a3 := Try.isAgg3
  z3 := Try.sizeOf3
  v3 := Try.zeroValue3
  t4 := Try.underlying4
  a4 := Try.isAgg4
  z4 := Try.sizeOf4
  v4 := Try.zeroValue4
  t22 := Try.underlying23
  a22 := Try.isAgg23
  z22 := Try.sizeOf23
  v22 := Try.zeroValue23
  t25 := Try.underlying30
  a25 := Try.isAgg30
  z25 := Try.sizeOf30
  v25 := Try.zeroValue30 }
open Go.RowKit Go.Lib Go.Sort in
theorem Try.insertionSortCmpFunc_none {α : Type} [Inhabited α] (p : Option Addr) (cap : Nat) (fv : Value) (w : World) :
    Calls Try.prog 55 #[.slice p 0 cap, .int .i64 0, .int .i64 0, fv] w fun e w' => e = .returned (.tuple #[]) /\ w' = w := AnyF.insertionSortCmpFunc_none Try.laysSlF020_f55 p cap fv w
def Try.laysSlF014_f42_ren : Go.Shelf.Ren := ⟨fun | 14 => 42 | 20 => 55 | 21 => 56 | 22 => 57 | 23 => 58 | 24 => 59 | 25 => 60 | 26 => 61 | 27 => 62 | 46 => 69 | 47 => 64 | 48 => 65 | 49 => 70 | 50 => 71 | 15 => 40 | 57 => 73 | 28 => 53 | 29 => 54 | n => n, fun | 24 => 9 | 22 => 23 | 3 => 3 | 25 => 30 | 4 => 4 | 0 => 0 | 46 => 68 | 45 => 67 | 50 => 52 | 66 => 78 | 39 => 43 | 55 => 59 | 70 => 82 | 76 => 86 | 77 => 87 | 53 => 57 | 5 => 5 | 9 => 9 | n => n, fun | n => n⟩
theorem Try.laysSlF014_f42 : Go.Proofs.SlLaysF0.n14 Try.prog Try.laysSlF014_f42_ren := {
  mixed := by kernel_rfl
  f14 := ⟨Try.f42.name, by decide, Try.func42.trans (congrArg some (by kernel_rfl))⟩
  f15 := Try.func40.trans (congrArg some (by kernel_rfl))
  f20 := ⟨Try.f55.name, by decide, Try.func55.trans (congrArg some (by kernel_rfl))⟩
  f21 := ⟨Try.f56.name, by decide, Try.func56.trans (congrArg some (by kernel_rfl))⟩
  f22 := ⟨Try.f57.name, by decide, Try.func57.trans (congrArg some (by kernel_rfl))⟩
  f23 := ⟨Try.f58.name, by decide, Try.func58.trans (congrArg some (by kernel_rfl))⟩
  f24 := ⟨Try.f59.name, by decide, Try.func59.trans (congrArg some (by kernel_rfl))⟩
  f25 := ⟨Try.f60.name, by decide, Try.func60.trans (congrArg some (by kernel_rfl))⟩
  f26 := ⟨Try.f61.name, by decide, Try.func61.trans (congrArg some (by kernel_rfl))⟩
  f27 := ⟨Try.f62.name, by decide, Try.func62.trans (congrArg some (by kernel_rfl))⟩
  f28 := Try.func53.trans (congrArg some (by kernel_rfl))
  f29 := Try.func54.trans (congrArg some (by kernel_rfl))
  f46 := ⟨Try.f69.name, by decide, Try.func69.trans (congrArg some (by kernel_rfl))⟩
  f47 := Try.func64.trans (congrArg some (by kernel_rfl))
  f48 := Try.func65.trans (congrArg some (by kernel_rfl))
  f49 := ⟨Try.f70.name, by decide, Try.func70.trans (congrArg some (by kernel_rfl))⟩
  f50 := ⟨Try.f71.name, by decide, Try.func71.trans (congrArg some (by kernel_rfl))⟩
  f57 := ⟨Try.f73.name, by decide, Try.func73.trans (congrArg some (by kernel_rfl))⟩
  t0 := Try.underlying0
  a0 := Try.isAgg0
  z0 := Try.sizeOf0
  v0 := Try.zeroValue0
  t3 := Try.underlying3
  a3 := Try.isAgg3
  z3 := Try.sizeOf3
  v3 := Try.zeroValue3
  t4 := Try.underlying4
  a4 := Try.isAgg4
  z4 := Try.sizeOf4
  v4 := Try.zeroValue4
  t5 := Try.underlying5
  a5 := Try.isAgg5
  z5 := Try.sizeOf5
  v5 := Try.zeroValue5
  t9 := Try.underlying9
  a9 := Try.isAgg9
  z9 := Try.sizeOf9
  v9 := Try.zeroValue9
  t22 := Try.underlying23
  a22 := Try.isAgg23
  z22 := Try.sizeOf23
  v22 := Try.zeroValue23
  t25 := Try.underlying30
  a25 := Try.isAgg30
  z25 := Try.sizeOf30
  v25 := Try.zeroValue30
  t39 := Try.underlying43
  a39 := Try.isAgg43
  z39 := Try.sizeOf43
  v39 := Try.zeroValue43
  t45 := Try.underlying67
  a45 := Try.isAgg67
  z45 := Try.sizeOf67
  v45 := Try.zeroValue67
  t46 := Try.underlying68
  a46 := Try.isAgg68
  z46 := Try.sizeOf68
  v46 := Try.zeroValue68
  t50 := Try.underlying52
  a50 := Try.isAgg52
  z50 := Try.sizeOf52
  v50 := Try.zeroValue52
  t53 := Try.underlying57
  a53 := Try.isAgg57
  z53 := Try.sizeOf57
  v53 := Try.zeroValue57
  t55 := Try.underlying59
  a55 := Try.isAgg59
  z55 := Try.sizeOf59
  v55 := Try.zeroValue59
  t66 := Try.underlying78
  a66 := Try.isAgg78
  z66 := Try.sizeOf78
  v66 := Try.zeroValue78
  t70 := Try.underlying82
  a70 := Try.isAgg82
  z70 := Try.sizeOf82
  v70 := Try.zeroValue82
  t76 := Try.underlying86
  a76 := Try.isAgg86
  z76 := Try.sizeOf86
  v76 := Try.zeroValue86
  t77 := Try.underlying87
  a77 := Try.isAgg87
  z77 := Try.sizeOf87
  v77 := Try.zeroValue87 }
open Go.RowKit Go.Lib Go.Sort in
theorem Try.pdqsortCmpFunc_none {α : Type} [Inhabited α] (p : Option Addr) (cap : Nat) (lim : Int) (fv : Value) (w : World) :
    Calls Try.prog 42 #[.slice p 0 cap, .int .i64 0, .int .i64 0, .int .i64 lim, fv] w fun e w' => e = .returned (.tuple #[]) /\ w' = w := AnyF.pdqsortCmpFunc_none Try.laysSlF014_f42 p cap lim fv w
def Try.laysSlF06_f34_ren : Go.Shelf.Ren := ⟨fun | 6 => 34 | 15 => 40 | 14 => 42 | 28 => 53 | 29 => 54 | 20 => 55 | 21 => 56 | 22 => 57 | 23 => 58 | 24 => 59 | 25 => 60 | 26 => 61 | 27 => 62 | 46 => 69 | 47 => 64 | 48 => 65 | 49 => 70 | 50 => 71 | 57 => 73 | n => n, fun | 22 => 23 | 24 => 9 | 25 => 30 | 3 => 3 | 39 => 43 | 0 => 0 | 53 => 57 | 55 => 59 | 4 => 4 | 46 => 68 | 45 => 67 | 50 => 52 | 5 => 5 | 9 => 9 | 66 => 78 | 70 => 82 | 76 => 86 | 77 => 87 | n => n, fun | n => n⟩
theorem Try.laysSlF06_f34 : Go.Proofs.SlLaysF0.n6 Try.prog Try.laysSlF06_f34_ren := {
  mixed := by kernel_rfl
  f6 := ⟨Try.f34.name, by decide, Try.func34.trans (congrArg some (by kernel_rfl))⟩
  f14 := ⟨Try.f42.name, by decide, Try.func42.trans (congrArg some (by kernel_rfl))⟩
  f15 := Try.func40.trans (congrArg some (by kernel_rfl))
  f20 := ⟨Try.f55.name, by decide, Try.func55.trans (congrArg some (by kernel_rfl))⟩
  f21 := ⟨Try.f56.name, by decide, Try.func56.trans (congrArg some (by kernel_rfl))⟩
  f22 := ⟨Try.f57.name, by decide, Try.func57.trans (congrArg some (by kernel_rfl))⟩
  f23 := ⟨Try.f58.name, by decide, Try.func58.trans (congrArg some (by kernel_rfl))⟩
  f24 := ⟨Try.f59.name, by decide, Try.func59.trans (congrArg some (by kernel_rfl))⟩
  f25 := ⟨Try.f60.name, by decide, Try.func60.trans (congrArg some (by kernel_rfl))⟩
  f26 := ⟨Try.f61.name, by decide, Try.func61.trans (congrArg some (by kernel_rfl))⟩
  f27 := ⟨Try.f62.name, by decide, Try.func62.trans (congrArg some (by kernel_rfl))⟩
  f28 := Try.func53.trans (congrArg some (by kernel_rfl))
  f29 := Try.func54.trans (congrArg some (by kernel_rfl))
  f46 := ⟨Try.f69.name, by decide, Try.func69.trans (congrArg some (by kernel_rfl))⟩
  f47 := Try.func64.trans (congrArg some (by kernel_rfl))
  f48 := Try.func65.trans (congrArg some (by kernel_rfl))
  f49 := ⟨Try.f70.name, by decide, Try.func70.trans (congrArg some (by kernel_rfl))⟩
  f50 := ⟨Try.f71.name, by decide, Try.func71.trans (congrArg some (by kernel_rfl))⟩
  f57 := ⟨Try.f73.name, by decide, Try.func73.trans (congrArg some (by kernel_rfl))⟩
  t0 := Try.underlying0
  a0 := Try.isAgg0
  z0 := Try.sizeOf0
  v0 := Try.zeroValue0
  t3 := Try.underlying3
  a3 := Try.isAgg3
  z3 := Try.sizeOf3
  v3 := Try.zeroValue3
  t4 := Try.underlying4
  a4 := Try.isAgg4
  z4 := Try.sizeOf4
  v4 := Try.zeroValue4
  t5 := Try.underlying5
  a5 := Try.isAgg5
  z5 := Try.sizeOf5
  v5 := Try.zeroValue5
  t9 := Try.underlying9
  a9 := Try.isAgg9
  z9 := Try.sizeOf9
  v9 := Try.zeroValue9
  t22 := Try.underlying23
  a22 := Try.isAgg23
  z22 := Try.sizeOf23
  v22 := Try.zeroValue23
  t25 := Try.underlying30
  a25 := Try.isAgg30
  z25 := Try.sizeOf30
  v25 := Try.zeroValue30
  t39 := Try.underlying43
  a39 := Try.isAgg43
  z39 := Try.sizeOf43
  v39 := Try.zeroValue43
  t45 := Try.underlying67
  a45 := Try.isAgg67
  z45 := Try.sizeOf67
  v45 := Try.zeroValue67
  t46 := Try.underlying68
  a46 := Try.isAgg68
  z46 := Try.sizeOf68
  v46 := Try.zeroValue68
  t50 := Try.underlying52
  a50 := Try.isAgg52
  z50 := Try.sizeOf52
  v50 := Try.zeroValue52
  t53 := Try.underlying57
  a53 := Try.isAgg57
  z53 := Try.sizeOf57
  v53 := Try.zeroValue57
  t55 := Try.underlying59
  a55 := Try.isAgg59
  z55 := Try.sizeOf59
  v55 := Try.zeroValue59
  t66 := Try.underlying78
  a66 := Try.isAgg78
  z66 := Try.sizeOf78
  v66 := Try.zeroValue78
  t70 := Try.underlying82
  a70 := Try.isAgg82
  z70 := Try.sizeOf82
  v70 := Try.zeroValue82
  t76 := Try.underlying86
  a76 := Try.isAgg86
  z76 := Try.sizeOf86
  v76 := Try.zeroValue86
  t77 := Try.underlying87
  a77 := Try.isAgg87
  z77 := Try.sizeOf87
  v77 := Try.zeroValue87 }
open Go.RowKit Go.Lib Go.Sort in
theorem Try.slices_SortFunc_none {α : Type} [Inhabited α] (p : Option Addr) (cap : Nat) (fv : Value) (w : World) :
    Calls Try.prog 34 #[.slice p 0 cap, fv] w fun e w' => e = .returned (.tuple #[]) /\ w' = w := AnyF.slices_SortFunc_none Try.laysSlF06_f34 p cap fv w
open Go.RowKit Go.Lib Go.Sort in
theorem Try.slices_SortFunc_total {α : Type} [Inhabited α] (enc : α -> Value) (h1 : OneCell enc) (cf : α -> α -> Int) (hO : SWO (ltOf cf)) (g : Nat) (cb : Array Value) (blk off cap : Nat) (d : Array α) (w : World) (eg : ∀ args w, (callFunc g args).run Try.prog w = .ok (.enter g args) w) (hcmp : CmpLays1 Try.prog g cb enc cf blk off d.size w) (hH : Holds enc w blk off d) (hblk : blk < w.heap.size) (hsz : d.size < 4611686018427387904) (hT : ∀ x y, (ltOf cf) x y = false -> (ltOf cf) y x = false -> x = y) :
    Calls Try.prog 34 #[.slice (some ⟨blk, off, none⟩) d.size cap, .func (.func g) #[] cb] w fun e w' =>
      e = .returned (.tuple #[]) /\ ∃ n os, w' = sortWorld enc w blk off n (d.toList.mergeSort fun x y => !(ltOf cf) y x).toArray os := Any.slices_SortFunc_total Try.laysSlF6_f34 enc h1 cf hO g cb blk off cap d w eg hcmp hH hblk hsz hT
def Try.keys24_ren : Go.Shelf.Ren := ⟨fun | 7 => 24 | 10 => 35 | n => n, fun | 23 => 42 | 26 => 9 | 3 => 4 | 28 => 37 | 0 => 0 | 27 => 36 | 33 => 54 | 4 => 4 | n => n, fun | n => n⟩
theorem Try.keys24 : Go.Proofs.SlLaysZ.n7 Try.prog Try.keys24_ren := {
  mixed := by kernel_rfl
  f7 := ⟨Try.f24.name, by decide, Try.func24.trans (congrArg some (by kernel_rfl))⟩
  f10 := ⟨Try.f35.name, by decide, Try.func35.trans (congrArg some (by kernel_rfl))⟩
  t0 := Try.underlying0
  a0 := Try.isAgg0
  z0 := Try.sizeOf0
  v0 := Try.zeroValue0
  t4 := Try.underlying4
  a4 := Try.isAgg4
  z4 := Try.sizeOf4
  v4 := Try.zeroValue4
  t23 := Try.underlying42
  a23 := Try.isAgg42
  z23 := Try.sizeOf42
  v23 := Try.zeroValue42
  t26 := Try.underlying9
  a26 := Try.isAgg9
  z26 := Try.sizeOf9
  v26 := Try.zeroValue9
  t27 := Try.underlying36
  a27 := Try.isAgg36
  z27 := Try.sizeOf36
  v27 := Try.zeroValue36
  t28 := Try.underlying37
  a28 := Try.isAgg37
  z28 := Try.sizeOf37
  v28 := Try.zeroValue37
  t33 := Try.underlying54
  a33 := Try.isAgg54
  z33 := Try.sizeOf54
  v33 := Try.zeroValue54 }
def Try.sorted17_ren : Go.Shelf.Ren := ⟨fun | 6 => 17 | 8 => 27 | 9 => 28 | 11 => 38 | 13 => 40 | 12 => 39 | 23 => 53 | 24 => 54 | 14 => 44 | 15 => 45 | 16 => 46 | 17 => 47 | 18 => 48 | 19 => 49 | 20 => 50 | 21 => 51 | 22 => 52 | 25 => 63 | 26 => 64 | 27 => 65 | 28 => 66 | 29 => 67 | 30 => 68 | 31 => 72 | n => n, fun | 26 => 9 | 28 => 37 | 24 => 23 | 0 => 0 | 3 => 3 | 37 => 43 | 48 => 57 | 50 => 59 | 4 => 4 | 40 => 68 | 39 => 67 | 45 => 52 | 5 => 5 | 9 => 9 | 51 => 78 | 55 => 82 | 57 => 86 | 58 => 87 | 33 => 54 | n => n, fun | n => n⟩
theorem Try.sorted17 : Go.Proofs.SlLaysZ.n6 Try.prog Try.sorted17_ren := {
  mixed := by kernel_rfl
  f6 := ⟨Try.f17.name, by decide, Try.func17.trans (congrArg some (by kernel_rfl))⟩
  f8 := ⟨Try.f27.name, by decide, Try.func27.trans (congrArg some (by kernel_rfl))⟩
  f11 := ⟨Try.f38.name, by decide, Try.func38.trans (congrArg some (by kernel_rfl))⟩
  t0 := Try.underlying0
  a0 := Try.isAgg0
  z0 := Try.sizeOf0
  v0 := Try.zeroValue0
  t24 := Try.underlying23
  a24 := Try.isAgg23
  z24 := Try.sizeOf23
  v24 := Try.zeroValue23
  t26 := Try.underlying9
  a26 := Try.isAgg9
  z26 := Try.sizeOf9
  v26 := Try.zeroValue9
  t28 := Try.underlying37
  a28 := Try.isAgg37
  z28 := Try.sizeOf37
  v28 := Try.zeroValue37
  i26 := by kernel_rfl }
end Go.Proofs
end
namespace Go.Proofs.Ytcjljokldnpgfaa
section
open Go Go.RowKit Go.Sort Go.Maps
set_option maxRecDepth 100000
set_option maxHeartbeats 4000000
theorem z0D (a b : ByteArray) : z1E b a = - z1E a b := zcr _ _
theorem z1e (a b : ByteArray) : z1E a b = 0 ↔ a = b := by
  unfold z1E
  rw [zcq]
  constructor
  · intro h
    obtain ⟨⟨a⟩⟩ := a
    obtain ⟨⟨b⟩⟩ := b
    simp at h
    subst h
    rfl
  · rintro rfl; rfl
theorem z7v (a b c : ByteArray) : leW a b = true -> leW b c = true -> leW a c = true := by
  simp only [leW, decide_eq_true_eq]
  exact z2T _ _ _
theorem z7w (a b : ByteArray) : (leW a b || leW b a) = true := by
  simp only [leW, Bool.or_eq_true, decide_eq_true_eq]
  have := z0D a b
  omega
theorem z4i {a b : ByteArray} (h1 : leW a b = true) (h2 : leW b a = true) : a = b := by
  simp only [leW, decide_eq_true_eq] at h1 h2
  have := z0D a b
  exact (z1e a b).1 (by omega)
theorem z2r (l : List ByteArray) : (z4P l).Pairwise (fun a b => leW a b = true) := List.pairwise_mergeSort z7v z7w l
theorem z2K (l : List ByteArray) : (z4P l).Perm l := List.mergeSort_perm l leW
theorem zad {l l' : List ByteArray} (h : l.Perm l') : z4P l = z4P l' :=
  List.Perm.eq_of_pairwise (le := fun a b => leW a b = true) (fun a b _ _ => z4i) (z2r l) (z2r l') (((z2K l).trans h).trans (z2K l').symm)
theorem z8h {a b : Int} (h : a = b) : Ending.returned (.int .i64 a) = .returned (.int .i64 b) := by rw [h]
theorem zcs {u v : ByteArray} (h : u.size < v.size) : z1E u v = -1 := by
  have : u.data.toList.length < v.data.toList.length := h
  simp only [z1E, zaT, if_pos this]
theorem zct {u v : ByteArray} (h : v.size < u.size) : z1E u v = 1 := by
  have h1 : v.data.toList.length < u.data.toList.length := h
  have h2 : ¬ u.data.toList.length < v.data.toList.length := by omega
  simp only [z1E, zaT, if_neg h2, if_pos h1]
theorem z5p {u v : ByteArray} (h : u.size = v.size) : z1E u v = Lib.compareBytes u.data.toList v.data.toList := by
  have h1 : u.data.toList.length = v.data.toList.length := h
  simp only [z1E, zaT, h1, Nat.lt_irrefl, if_false]
theorem z8I (u v : ByteArray) (w : World) (hu : u.size <= maxLen) (hv : v.size <= maxLen) :
    Calls Try.prog 15 #[.string u, .string v] w fun e w' => e = .returned (.int .i64 (z1E u v)) /\ w = w' := by
  unfold maxLen at hu hv
  rcases Nat.lt_trichotomy u.size v.size with h | h | h
  · have H := Lib.hid (zcs h)
    have hc := Lib.hid (show Lib.compareInt (u.size : Int) (v.size : Int) = -1 by unfold Lib.compareInt; rw [if_pos (by omega)])
    have hb : ((u.size : Int) == (v.size : Int)) = false := by simp; omega
    have hb2 : ((u.size : Int) != (v.size : Int)) = true := by simp; omega
    go_enter Try.func15, Try.ntmps15
    go_wp2_with (go_at_call 25; refine (Try.cmp_Compare_int _ _ _).mono ?_; rintro e w' ⟨rfl, rfl⟩)
    go_ret
    exact ⟨z8h (by rw [H.out, hc.out]), rfl⟩
  · have H := Lib.hid (z5p h)
    have hb : ((u.size : Int) == (v.size : Int)) = true := by simp; omega
    have hb2 : ((u.size : Int) != (v.size : Int)) = false := by simp; omega
    have h' := Lib.hid h
    clear h
    go_enter Try.func15, Try.ntmps15
    go_wp2_with (go_at_call 26; refine (Try.strings_Compare _ _ _).mono ?_; rintro e w' ⟨rfl, rfl⟩)
    go_ret
    exact ⟨z8h (by rw [H.out]), rfl⟩
  · have H := Lib.hid (zct h)
    have hc := Lib.hid (show Lib.compareInt (u.size : Int) (v.size : Int) = 1 by unfold Lib.compareInt; rw [if_neg (by omega), if_pos (by omega)])
    have hb : ((u.size : Int) == (v.size : Int)) = false := by simp; omega
    have hb2 : ((u.size : Int) != (v.size : Int)) = true := by simp; omega
    go_enter Try.func15, Try.ntmps15
    go_wp2_with (go_at_call 25; refine (Try.cmp_Compare_int _ _ _).mono ?_; rintro e w' ⟨rfl, rfl⟩)
    go_ret
    exact ⟨z8h (by rw [H.out, hc.out]), rfl⟩
def mkB (l : List UInt8) : ByteArray := ⟨⟨l⟩⟩
end
section
open Go Go.RowKit Go.Sort Go.Maps Go.Shelf
set_option maxRecDepth 100000
set_option maxHeartbeats 4000000
def z7Z {H : Type} (D0 : DataW H) (p : Int × List UInt8) : Prop := ∀ zd, D0.atKey (.int .i64 p.1) zd = .lit (.string p.2)
theorem z4g {H : Type} {P : Program} {e : TypeId} (he : P.underlying e = some .string) {v : Value} {z : DataW H × List MemPlace} (h : plainElem P e v = some z) : ∃ a : List UInt8, v = encStr a /\ z = (.lit (.string a), []) := by
  unfold plainElem at h
  rw [he] at h
  cases v <;> simp at h
  rename_i s
  obtain ⟨hs, rfl⟩ := h
  exact ⟨s.data.toList, by simp [encStr], rfl⟩
theorem za6 {H : Type} (n : Nat) (hn : 1 <= n) (l Bm b nn : Nat) (D0 : DataW H) (J : List (List UInt8) -> World -> Prop)
    (hY : ∀ pre x W, J pre W -> pre.length < Maps.size D0 -> YieldAt Fence.wide (n - 1) Try.prog l #[encStr x] W fun e W' => e = .returned (.bool true) /\ J (pre ++ [x]) W' /\ KeepsWalks W W')
    (W : World) (hJ : AbidesFrom W.heap.size J) (hm : W.cell? ⟨Bm, 0, none⟩ = some (.map (some b))) (hown : W.ownsMap Try.prog 3 (plainElem Try.prog 9) b nn D0) (h0 : J [] W) :
    CallsIn Fence.wide n Try.prog 29 #[.func (.yield l) #[] #[], .pointer (some ⟨Bm, 0, none⟩)] W fun e W' => (∃ v, e = .returned v) /\ ∃ ps : List (Int × List UInt8), (ps.map (·.1)).Perm (intKeys D0) /\ (∀ p ∈ ps, z7Z D0 p) /\ J (ps.map (·.2)) W' := by
  have t3 := Try.underlying3; have t9 := Try.underlying9; have t32 := Try.underlying32
  refine callsIn_of_wp Try.func29 rfl trivial ?_ rfl
  simp only [Try.ntmps29, List.size_toArray, List.length_cons, List.length_nil, Nat.reduceAdd, Nat.reduceSub, Array.replicate_succ, Array.replicate_zero, List.push_toArray, List.append_toArray, List.nil_append, List.cons_append]
  gi_wp2_with (first
    | (gi_at_range; refine wpListIn_range_own _ rfl _ 32 rfl 3 9 (int_keyed t3) t32 _ b nn _ rfl hown ?_; intro w0 hrg0 hg0 hs0)
    | gi_in)
  go_frame
  gi_loopw [4] (fun _ wr => ∃ (left : Lit -> Bool) (cnt : Nat) (ps : List (Int × List UInt8)), wr.ranges Try.prog 3 (plainElem Try.prog 9) b W.heap.size nn D0 left cnt /\ ps.length + cnt <= Maps.size D0 /\ CollectedI D0 left (ps.map (·.1)) /\ (∀ p ∈ ps, z7Z D0 p) /\ J (ps.map (·.2)) wr)
    (fun _ wr => wr.rangeLeft b W.heap.size)
  case atStart =>
    exact ⟨_, _, [], hrg0, by simp, CollectedI.start D0, by simp, hJ [] W w0 none h0 hg0 (fun r e => by cases e)⟩
  case round =>
    obtain ⟨left, cnt, ps, hrg, hcs, hC, hV, hJs⟩ := hrel
    gi_wp2_with (first
      | (gi_at_next; refine wpListIn_next_ranges _ rfl _ rfl 3 (int_keyed t3) (plainElem Try.prog 9) encZ encStr (fun key kl hk => by obtain ⟨x, hx, _⟩ := Maps.keyOf_i64 t3 hk; exact ⟨x, hx⟩) (fun v y hv => by obtain ⟨c, rfl, _⟩ := z4g t9 hv; exact ⟨c, rfl⟩) b W.heap.size nn _ _ _ rfl hrg ?_ ?_)
      | gi_in)
    · intro hc0 hl0
      gi_wp2
      go_end0
      exact ⟨⟨_, rfl⟩, ps, hC.perm hown (int_keyed t3) t3 hl0, hV, hJs⟩
    · intro x c kl yd yp w2 cnt2 hkey hlk hv hat hrg2 hlt hg2 hs2 hen
      obtain ⟨x', ex, rfl, _⟩ := Maps.keyOf_i64 t3 hkey
      obtain rfl : x = x' := encZ_inj ex
      obtain ⟨c', ec, ez⟩ := z4g t9 hv
      obtain rfl : c = c' := encStr_inj ec
      obtain rfl : yd = .lit (.string c) := (Prod.mk.inj ez).1
      have hJ2 : J (ps.map (·.2)) w2 := hJ _ wr w2 (some W.heap.size) hJs hg2 (fun r e => by cases e; exact ⟨Nat.le_refl _, hrg.iter_walk⟩)
      obtain ⟨fn, tmps, assign, body, hy, hR⟩ := hY (ps.map (·.2)) c w2 hJ2 (by simp; omega)
      clear hs2
      gi_wp2
      refine hR.mono ?_
      have hC2 : CollectedI D0 (fun z => left z && !z.sameKey (.int .i64 x)) ((ps ++ [(x, c)]).map (·.1)) := by simpa using hC.step hlk hat
      have hV2 : ∀ p ∈ ps ++ [(x, c)], z7Z D0 p := fun p hp => (List.mem_append.1 hp).elim (hV p) (fun e => by simp at e; subst e; exact hat)
      rintro e W3 ⟨rfl, hJ3, hk3⟩
      gi_wp2
      have hrg3 := hrg2.of_walks hk3
      go_roundw
      case rel => exact ⟨_, cnt2, ps ++ [(x, c)], hrg3, by simp; omega, hC2, hV2, by simpa using hJ3⟩
      case measure => rw [hrg3.left_eq, hrg.left_eq]; exact hlt
end
section
def z9G (P : Program) (t : TypeId) (f : Nat) : Option (Nat × Nat × Bool) :=
  match z0t P t with
  | some ⟨.struct fields, _, _, _⟩ => match fields[f]? with
    | none => none
    | some fd => match z0t P fd.type with
      | none => none
      | some ti => some (fd.offset, ti.size, z0U ti.u)
  | _ => none
theorem z6D (P : Program) (t : TypeId) (e : E) (f : Nat) : z2b P t e f = match z9G P t f with
    | some (off, size, _) => if size = 0 then none else match e with
      | .one (.a id p o) => some (.one (.a id p (o + off)))
      | .one (.ea dep cs o) => some (.one (.ea dep cs (o + off)))
      | _ => none
    | none => none := by
  unfold z2b z9G
  cases z0t P t with
  | none => rfl
  | some i =>
    obtain ⟨u, s, b, z⟩ := i
    cases u with
    | struct fields =>
      simp only
      cases fields[f]? with
      | none => rfl
      | some fd =>
        simp only
        cases z0t P fd.type with
        | none => rfl
        | some ti => rfl
    | _ => rfl
theorem zcj (P : Program) (fr : Fr) (t : TypeId) (e : E) (f : Nat) : z7I P fr t e f = match z9G P t f with
    | some (off, size, agg) => zam fr agg size off e
    | none => none := by
  unfold z7I z9G
  cases z0t P t with
  | none => rfl
  | some i =>
    obtain ⟨u, s, b, z⟩ := i
    cases u with
    | struct fields =>
      simp only
      cases fields[f]? with
      | none => rfl
      | some fd =>
        simp only
        cases z0t P fd.type with
        | none => rfl
        | some ti => rfl
    | _ => rfl
abbrev hE (id : Nat) : E := .one (.h id [])
theorem z5Y : ∀ l : List UInt8, z3f (l.map fun b => .sc (.int .u8 b.toNat)) = some l
  | [] => rfl
  | b :: l => by simp [z3f, z5Y l]
theorem z8e (b : UInt8) : IntKind.u8.wrap (b.toNat : Int) = b.toNat := by
  have := b.toNat_lt
  rw [IntKind.wrap_u8]; omega
@[simp] theorem range_1 : List.range 1 = [0] := rfl
@[simp] theorem range_2 : List.range 2 = [0, 1] := rfl
@[simp] theorem range_3 : List.range 3 = [0, 1, 2] := rfl
@[simp] theorem range_4 : List.range 4 = [0, 1, 2, 3] := rfl
@[simp] theorem range_5 : List.range 5 = [0, 1, 2, 3, 4] := rfl
@[simp] theorem range_6 : List.range 6 = [0, 1, 2, 3, 4, 5] := rfl
@[simp] theorem range_7 : List.range 7 = [0, 1, 2, 3, 4, 5, 6] := rfl
@[simp] theorem range_8 : List.range 8 = [0, 1, 2, 3, 4, 5, 6, 7] := rfl
@[simp] theorem range_9 : List.range 9 = [0, 1, 2, 3, 4, 5, 6, 7, 8] := rfl
@[simp] theorem range_10 : List.range 10 = [0, 1, 2, 3, 4, 5, 6, 7, 8, 9] := rfl
@[simp] theorem range_11 : List.range 11 = [0, 1, 2, 3, 4, 5, 6, 7, 8, 9, 10] := rfl
@[simp] theorem range_12 : List.range 12 = [0, 1, 2, 3, 4, 5, 6, 7, 8, 9, 10, 11] := rfl
@[simp] theorem zaZ (t : T) : ∀ n, z2V n [t] = List.replicate n t
  | 0 => rfl
  | n + 1 => by simp [z2V, zaZ t n, List.replicate_succ]
@[simp] theorem zez {α : Type} (g : α -> Value) : ∀ l : List α, z5z (l.map fun x => T.sc (g x)) = false
  | [] => rfl
  | x :: l => by simp [z5z, opn, zez g l]
@[simp] theorem bits_u64 : IntKind.u64.bits = 64 := rfl
@[simp] theorem bits_i64 : IntKind.i64.bits = 64 := rfl
@[simp] theorem int_beq (a b : Int) : (a == b) = decide (a = b) := rfl
@[simp] theorem int_bne (a b : Int) : (a != b) = !decide (a = b) := rfl
@[simp] theorem wrap_0 : IntKind.i64.wrap 0 = 0 := by decide
@[simp] theorem wrap_1 : IntKind.i64.wrap 1 = 1 := by decide
@[simp] theorem wrap_2 : IntKind.i64.wrap 2 = 2 := by decide
@[simp] theorem wrap_3 : IntKind.i64.wrap 3 = 3 := by decide
@[simp] theorem wrap_m1 : IntKind.i64.wrap (-1) = -1 := by decide
end
section
def z1V {σ ρ : Type} (b : σ -> Option (σ ⊕ ρ)) : Nat -> σ -> Option ρ
  | 0, _ => none
  | n + 1, s => match b s with
    | none => none
    | some (.inl s') => z1V b n s'
    | some (.inr r) => some r
def z3A {σ ρ : Type} (s : σ) : Option (σ ⊕ ρ) := some (.inl s)
def z2z {σ ρ : Type} (x : Option ρ) : Option (σ ⊕ ρ) := x.map .inr
def chk {α : Type} (p : Prop) [Decidable p] (x : Option α) : Option α := if p then x else none
def atI {α : Type} (xs : List α) (i : Int) : Option α := if 0 <= i then xs[i.toNat]? else none
def zaX (s : ByteArray) (i : Int) : Option Int := if 0 <= i then (s[i.toNat]?).map fun b => (b.toNat : Int) else none
def z1f {α : Type} (xs : List α) (l h : Int) : Option (List α) := if 0 <= l /\ l <= h /\ h <= xs.length then some ((xs.drop l.toNat).take (h.toNat - l.toNat)) else none
def z3y (s : ByteArray) (l h : Int) : Option ByteArray := if 0 <= l /\ l <= h /\ h <= s.size then some (s.extract l.toNat h.toNat) else none
def z2Z (bytes n : Nat) : Prop := n * bytes <= 140737488355328 /\ n <= 4611686018427387904
instance (b n : Nat) : Decidable (z2Z b n) := by unfold z2Z; exact inferInstance
def z4h (bytes l : Int) : Prop := 0 <= l /\ l <= 140737488355328 /\ bytes * l <= 140737488355328
instance (b n : Int) : Decidable (z4h b n) := by unfold z4h; exact inferInstance
def zaV (a b : ByteArray) : Prop := ((a.size : Int) + b.size) <= 9223372036854775807
instance (a b : ByteArray) : Decidable (zaV a b) := by unfold zaV; exact inferInstance
def zf4 (l : List Int) : ByteArray := ⟨(l.map fun z => UInt8.ofNat z.toNat).toArray⟩
def zg1 (s : ByteArray) : List Int := s.data.toList.map fun b => (b.toNat : Int)
def z4D {κ ν : Type} [DecidableEq κ] (k : κ) : List (κ × ν) -> Option ν
  | [] => none
  | (a, v) :: r => if a = k then some v else z4D k r
def z3t {κ ν : Type} [DecidableEq κ] (k : κ) (v : ν) : List (κ × ν) -> List (κ × ν)
  | [] => [(k, v)]
  | (a, u) :: r => if a = k then (k, v) :: r else (a, u) :: z3t k v r
def zif (k : IntKind) (a b : Int) : Int := k.wrap (BitVec.ofInt k.bits a &&& BitVec.ofInt k.bits b).toNat
def orI (k : IntKind) (a b : Int) : Int := k.wrap (BitVec.ofInt k.bits a ||| BitVec.ofInt k.bits b).toNat
def zhA (k : IntKind) (a b : Int) : Int := k.wrap (BitVec.ofInt k.bits a ^^^ BitVec.ofInt k.bits b).toNat
def zf7 (k : IntKind) (a b : Int) : Int := k.wrap (BitVec.ofInt k.bits a &&& ~~~ BitVec.ofInt k.bits b).toNat
theorem zbm : ∃ f : IntKind -> Int -> Int -> Int, ∀ k a b, f k a b = k.wrap (a * 2 ^ (min b.toNat k.bits)) := ⟨_, fun _ _ _ => rfl⟩
noncomputable def zht : IntKind -> Int -> Int -> Int := Classical.choose zbm
theorem zek (k : IntKind) (a b : Int) : zht k a b = k.wrap (a * 2 ^ (min b.toNat k.bits)) := Classical.choose_spec zbm k a b
def zhE (k : IntKind) (a b : Int) : Int := a.fdiv (2 ^ (min b.toNat k.bits))
def zhL (k : IntKind) (a b : Int) : Int := k.wrap (a.tdiv b)
def zbf (a b : ByteArray) : Bool := Go.Op.bytesLess a.toList b.toList
theorem z3J {α : Type} {p : Prop} [Decidable p] {x : Option α} {r : α} (h : chk p x = some r) : p /\ x = some r := by
  unfold chk at h; split at h
  · exact ⟨by assumption, h⟩
  · cases h
theorem z1F {α β : Type} {x : Option α} {f : α -> Option β} {r : β} (h : x.bind f = some r) : ∃ v, x = some v /\ f v = some r := by
  cases x with
  | none => cases h
  | some v => exact ⟨v, rfl, h⟩
theorem z7J {σ ρ : Type} {x : Option ρ} {o : σ ⊕ ρ} (h : z2z x = some o) : ∃ r, x = some r /\ o = .inr r := by
  unfold z2z at h
  cases x with
  | none => cases h
  | some v => cases h; exact ⟨v, rfl, rfl⟩
theorem zbP {σ ρ : Type} {s : σ} {o : σ ⊕ ρ} (h : z3A s = some o) : o = .inl s := by cases h; rfl
theorem z9U {α : Type} {xs : List α} {i : Int} {v : α} (h : atI xs i = some v) : 0 <= i /\ i < xs.length /\ i.toNat + 1 <= xs.length /\ xs[i.toNat]? = some v /\ ∀ hh : i.toNat < xs.length, xs[i.toNat]'hh = v := by
  unfold atI at h
  split at h
  · have := (List.getElem?_eq_some_iff.1 h).1
    exact ⟨by assumption, by omega, this, h, fun _ => (List.getElem?_eq_some_iff.1 h).2⟩
  · cases h
theorem zaW {s : ByteArray} {i v : Int} (h : zaX s i = some v) : 0 <= i /\ i < s.size /\ ∃ b, s[i.toNat]? = some b /\ v = (b.toNat : Int) /\ ∀ hh : i.toNat < s.size, ((s[i.toNat]'hh).toNat : Int) = v := by
  unfold zaX at h
  split at h
  · simp only [Option.map_eq_some_iff] at h
    obtain ⟨b, hb, rfl⟩ := h
    have : i.toNat < s.size := by
      rcases Nat.lt_or_ge i.toNat s.size with h' | h'
      · exact h'
      · rw [getElem?_neg s i.toNat (by omega)] at hb; cases hb
    exact ⟨by assumption, by omega, b, hb, rfl, fun hh => by rw [getElem?_pos s i.toNat hh] at hb; cases hb; rfl⟩
  · cases h
theorem zdL {α β : Type} {xs : List α} {i : Int} {f : α -> Option β} {r : β} (h : (atI xs i).bind f = some r) : ∃ v, (0 <= i /\ i < xs.length /\ i.toNat + 1 <= xs.length /\ xs[i.toNat]? = some v /\ ∀ hh : i.toNat < xs.length, xs[i.toNat]'hh = v) /\ f v = some r := by
  obtain ⟨v, h1, h2⟩ := z1F h
  exact ⟨v, z9U h1, h2⟩
theorem zdK {α β : Type} {xs : List α} {i : Nat} {f : α -> Option β} {r : β} (h : (atI xs (i : Int)).bind f = some r) : ∃ v, (i < xs.length /\ i + 1 <= xs.length /\ xs[i]? = some v /\ ∀ hh : i < xs.length, xs[i]'hh = v) /\ f v = some r := by
  obtain ⟨v, h1, h2⟩ := z1F h
  obtain ⟨a, b, c, d, e⟩ := z9U h1
  simp only [Int.toNat_natCast] at c d e
  exact ⟨v, ⟨by omega, c, d, e⟩, h2⟩
theorem z1l {α : Type} {xs ys : List α} {l h : Int} (e : z1f xs l h = some ys) : 0 <= l /\ l <= h /\ h <= xs.length /\ ys = (xs.drop l.toNat).take (h.toNat - l.toNat) /\ ys.length = h.toNat - l.toNat := by
  unfold z1f at e
  split at e
  · cases e
    refine ⟨by omega, by omega, by omega, rfl, ?_⟩
    simp; omega
  · cases e
theorem z8n {s t : ByteArray} {l h : Int} (e : z3y s l h = some t) : 0 <= l /\ l <= h /\ h <= s.size /\ t = s.extract l.toNat h.toNat := by
  unfold z3y at e
  split at e
  · cases e; exact ⟨by omega, by omega, by omega, rfl⟩
  · cases e
theorem z1I {σ ρ : Type} {b : σ -> Option (σ ⊕ ρ)} (I : σ -> Prop) (m : σ -> Nat) (Post : ρ -> Prop) (step : ∀ s, I s -> (∃ s', b s = some (.inl s') /\ I s' /\ m s' < m s) ∨ (∃ r, b s = some (.inr r) /\ Post r)) :
    ∀ (n : Nat) (s : σ), I s -> m s < n -> ∃ r, z1V b n s = some r /\ Post r
  | 0, s, _, h => by omega
  | n + 1, s, hI, hm => by
    rcases step s hI with ⟨s', e, hI', hm'⟩ | ⟨r, e, hr⟩
    · obtain ⟨r, h1, h2⟩ := z1I I m Post step n s' hI' (by omega)
      exact ⟨r, by simp only [z1V, e]; exact h1, h2⟩
    · exact ⟨r, by simp only [z1V, e], hr⟩
theorem zgM {P : Program} {C : z0b} {cf : Cfg} {LF : Nat} {c : Code} {fr : Fr} {Q : X -> Fr -> Prop} {o : Operand} (ho : cdO c = some o) (hv : rdV (opE fr o) = some (.bool true)) (h : wpC P C cf LF (cdA c) fr Q) : wpC P C cf LF c fr Q :=
  zhv ho fun Q1 Q2 h1 h2 => by rw [hv, z6R]; exact ⟨fun _ => h1.out h, fun e => by cases e⟩
theorem zgN {P : Program} {C : z0b} {cf : Cfg} {LF : Nat} {c : Code} {fr : Fr} {Q : X -> Fr -> Prop} {o : Operand} (ho : cdO c = some o) (hv : rdV (opE fr o) = some (.bool false)) (h : wpC P C cf LF (cdB c) fr Q) : wpC P C cf LF c fr Q :=
  zhv ho fun Q1 Q2 h1 h2 => by rw [hv, z6R]; exact ⟨(fun e => by cases e), fun _ => h2.out h⟩
def z3v {σ ρ : Type} (H : σ -> Fr) (cn : Fr -> Fr) (o : σ ⊕ ρ) (Q : X -> Fr -> Prop) : X -> Fr -> Prop
  | .n, fr => ∃ s', o = .inl s' /\ cn fr = H s'
  | .x i, fr => (∃ r, o = .inr r) /\ Q (.x i) fr
  | .r, fr => (∃ r, o = .inr r) /\ Q .r fr
theorem zd9 {σ ρ : Type} {H : σ -> Fr} {cn : Fr -> Fr} {o : σ ⊕ ρ} {Q : X -> Fr -> Prop} {fr : Fr} {s : σ} (ho : o = .inl s) (h : cn fr = H s) : z3v H cn o Q .n fr := ⟨s, ho, h⟩
theorem zd7 {σ ρ : Type} {H : σ -> Fr} {cn : Fr -> Fr} {o : σ ⊕ ρ} {Q : X -> Fr -> Prop} {fr : Fr} {i : Nat} {r : ρ} (ho : o = .inr r) (h : Q (.x i) fr) : z3v H cn o Q (.x i) fr := ⟨⟨r, ho⟩, h⟩
theorem zd8 {σ ρ : Type} {H : σ -> Fr} {cn : Fr -> Fr} {o : σ ⊕ ρ} {Q : X -> Fr -> Prop} {fr : Fr} {r : ρ} (ho : o = .inr r) (h : Q .r fr) : z3v H cn o Q .r fr := ⟨⟨r, ho⟩, h⟩
theorem z5R {σ ρ : Type} {B : Fr -> Option (X × Fr)} {cn : Fr -> Fr} {body : σ -> Option (σ ⊕ ρ)} {H : σ -> Fr} {r : ρ} {Q : X -> Fr -> Prop}
    (round : ∀ s o, body s = some o -> (∀ r', o = .inr r' -> r' = r) -> ∃ x fr', B (H s) = some (x, fr') /\ z3v H cn o Q x fr') :
    ∀ (n : Nat) (s : σ) (fr : Fr), z1V body n s = some r -> cn fr = H s -> ∃ x fr', z3H B cn n fr = some (x, fr') /\ Q x fr'
  | 0, s, fr, h, _ => by cases h
  | n + 1, s, fr, h, h0 => by
    simp only [z1V] at h
    split at h
    · cases h
    · rename_i s' e
      obtain ⟨x, fr', e1, e2⟩ := round s _ e (fun r' h' => by cases h')
      cases x with
      | n =>
        obtain ⟨s2, e3, e4⟩ := e2
        cases e3
        obtain ⟨x2, fr2, e5, e6⟩ := z5R round n s' fr' h e4
        exact ⟨x2, fr2, by simp only [z3H, h0, e1]; exact e5, e6⟩
      | x i => obtain ⟨⟨r', e3⟩, _⟩ := e2; cases e3
      | r => obtain ⟨⟨r', e3⟩, _⟩ := e2; cases e3
    · rename_i r0 e
      cases h
      obtain ⟨x, fr', e1, e2⟩ := round s _ e (fun r' h' => by cases h'; rfl)
      cases x with
      | n => obtain ⟨s2, e3, _⟩ := e2; cases e3
      | x i => exact ⟨_, _, by simp only [z3H, h0, e1], e2.2⟩
      | r => exact ⟨_, _, by simp only [z3H, h0, e1], e2.2⟩
theorem zer {P : Program} {C : z0b} {cf : Cfg} {LF : Nat} {c : Code} {fr : Fr} {Q : X -> Fr -> Prop} {σ ρ : Type} {lv : List Nat} {body : σ -> Option (σ ⊕ ρ)} {s0 : σ} {r : ρ} (h : z1V body LF s0 = some r) (H : σ -> Fr) (hk : z4p c = 5) (hv : cf.live (z3d (lpC c)) = some lv)
    (h0 : z3e (some lv) fr = H s0) (round : ∀ s o, body s = some o -> (∀ r', o = .inr r' -> r' = r) -> wpC P C cf LF (lpC c) (H s) (z3v H (z3e (some lv)) o Q)) : wpC P C cf LF c fr Q := by
  cases c with
  | loop b =>
    obtain ⟨x, fr', e1, e2⟩ := z5R (B := fun fr => z0k P C cf LF b fr) (cn := z3e (some lv)) (H := H) (body := body) (r := r) (Q := Q) (fun s o h1 h2 => by have := round s o h1 h2; unfold wpC at this; exact this) LF s0 fr h h0
    unfold wpC
    refine ⟨x, fr', ?_, e2⟩
    simp only [z0k]
    simp only [lpC] at hv
    rw [hv]
    exact e1
  | _ => cases hk
theorem zaH (k : IntKind) (a b : Int) : z1h .add k a b = some (.int k (k.wrap (a + b))) := rfl
theorem zaw (k : IntKind) (a b : Int) : z1h .sub k a b = some (.int k (k.wrap (a - b))) := rfl
theorem zaA (k : IntKind) (a b : Int) : z1h .mul k a b = some (.int k (k.wrap (a * b))) := rfl
theorem zay (k : IntKind) (a b : Int) : z1h .quo k a b = if b = 0 then none else some (.int k (zhL k a b)) := rfl
theorem zax (k : IntKind) (a b : Int) : z1h .rem k a b = if b = 0 then none else some (.int k (a.tmod b)) := rfl
theorem zaG (k : IntKind) (a b : Int) : z1h .and k a b = some (.int k (zif k a b)) := Eq.trans rfl rfl
theorem zc4 (k : IntKind) (a b : Int) : z1h .or k a b = some (.int k (orI k a b)) := Eq.trans rfl rfl
theorem zav (k : IntKind) (a b : Int) : z1h .xor k a b = some (.int k (zhA k a b)) := Eq.trans rfl rfl
theorem z6u (k : IntKind) (a b : Int) : z1h .andNot k a b = some (.int k (zf7 k a b)) := Eq.trans rfl rfl
theorem zaF (k : IntKind) (a b : Int) : z1h .eql k a b = some (.bool (decide (a = b))) := rfl
theorem zaz (k : IntKind) (a b : Int) : z1h .neq k a b = some (.bool (!decide (a = b))) := rfl
theorem zaB (k : IntKind) (a b : Int) : z1h .lss k a b = some (.bool (decide (a < b))) := rfl
theorem zaC (k : IntKind) (a b : Int) : z1h .leq k a b = some (.bool (decide (a <= b))) := rfl
theorem zaD (k : IntKind) (a b : Int) : z1h .gtr k a b = some (.bool (decide (b < a))) := rfl
theorem zaE (k : IntKind) (a b : Int) : z1h .geq k a b = some (.bool (decide (b <= a))) := rfl
theorem toList_inj {a b : ByteArray} : a.toList = b.toList ↔ a = b := by
  constructor
  · intro h
    have h1 : a.data.toList = b.data.toList := by simpa [ByteArray.toList_eq] using h
    obtain ⟨⟨x⟩⟩ := a
    obtain ⟨⟨y⟩⟩ := b
    simp at h1
    rw [h1]
  · intro h; rw [h]
theorem zab (a b : ByteArray) : z3b .eql a b = some (.bool (decide (a = b))) := by
  simp only [z3b]
  congr 2
  rw [Bool.eq_iff_iff]; simp [toList_inj]
theorem za8 (a b : ByteArray) : z3b .neq a b = some (.bool (!decide (a = b))) := by
  simp only [z3b]
  congr 3
  rw [Bool.eq_iff_iff]; simp [toList_inj]
theorem za9 (a b : ByteArray) : z3b .lss a b = some (.bool (zbf a b)) := rfl
theorem zaa (a b : ByteArray) : z3b .geq a b = some (.bool (!zbf a b)) := rfl
theorem zac (a b : ByteArray) : z3b .add a b = if zaV a b then some (.string (a ++ b)) else none := by
  have hm : IntKind.i64.max = 9223372036854775807 := by decide
  show (if ((a.size + b.size : Nat) : Int) > IntKind.i64.max then none else some (Value.string (a ++ b))) = _
  rw [hm]
  by_cases h : zaV a b
  · rw [if_pos h]
    unfold zaV at h
    rw [if_neg (by omega)]
  · rw [if_neg h]
    unfold zaV at h
    rw [if_pos (by omega)]
theorem zdI (op : BinOp) (u : Option TyI) (k k' : IntKind) (a b : Int) : zfn op u (.int k a) (.int k' b) = match op with
    | .shl => if b < 0 then none else some (.int k (zht k a b))
    | .shr => if b < 0 then none else some (.int k (zhE k a b))
    | _ => if k = k' then z1h op k a b else none := by
  cases op
  case shl => simp only [zek]; rfl
  all_goals rfl
theorem zdH (op : BinOp) (u : Option TyI) (a b : ByteArray) : zfn op u (.string a) (.string b) = z3b op a b := rfl
theorem zcG (op : BinOp) (u : Option TyI) (a b : Bool) : zfn op u (.bool a) (.bool b) = match u with
    | some ⟨.bool, _, _, _⟩ => (match op with | .eql => some (.bool (a == b)) | .neq => some (.bool (!(a == b))) | _ => none)
    | _ => none := rfl
theorem z9Q : ∀ l : List Int, z3f (l.map fun z => .sc (.int .u8 z)) = some (l.map fun z => UInt8.ofNat z.toNat)
  | [] => rfl
  | z :: l => by simp [z3f, z9Q l]
theorem z5i {α β : Type} {g : α -> List β} {m : Nat} (hg : ∀ x, (g x).length = m) : ∀ (xs : List α) (i : Nat), (xs.flatMap g).drop (i * m) = (xs.drop i).flatMap g
  | xs, 0 => by simp
  | [], i + 1 => by simp
  | x :: xs, i + 1 => by
    have := z5i hg xs i
    rw [List.flatMap_cons, List.drop_succ_cons, ← this, List.drop_append, List.drop_eq_nil_of_le (by rw [hg, Nat.add_mul]; omega), List.nil_append, hg]
    congr 1
    rw [Nat.add_mul]; omega
theorem z7E {α β : Type} {g : α -> List β} {m : Nat} (hg : ∀ x, (g x).length = m) : ∀ (xs : List α) (i : Nat), (xs.flatMap g).take (i * m) = (xs.take i).flatMap g
  | xs, 0 => by simp
  | [], i + 1 => by simp
  | x :: xs, i + 1 => by
    have := z7E hg xs i
    rw [List.flatMap_cons, List.take_succ_cons, List.flatMap_cons, ← this, List.take_append, List.take_of_length_le (by rw [hg, Nat.add_mul]; omega), hg]
    congr 2
    rw [Nat.add_mul]; omega
theorem z5h {α β : Type} {g : α -> List β} {m : Nat} (hg : ∀ x, (g x).length = m) {xs : List α} {i : Nat} {v : α} (h : xs[i]? = some v) :
    i * m + m <= xs.length * m /\ ((xs.flatMap g).drop (i * m)).take m = g v /\ (∀ j, j < m -> (xs.flatMap g)[i * m + j]? = (g v)[j]?) /\ ∀ j c, (g v)[j]? = some c -> ∀ hh : i * m + j < (xs.flatMap g).length, (xs.flatMap g)[i * m + j]'hh = c := by
  obtain ⟨hi, hv⟩ := List.getElem?_eq_some_iff.1 h
  have hd : xs.drop i = v :: xs.drop (i + 1) := by rw [← hv]; exact List.drop_eq_getElem_cons hi
  have h2 : ((xs.flatMap g).drop (i * m)) = g v ++ (xs.drop (i + 1)).flatMap g := by rw [z5i hg, hd, List.flatMap_cons]
  have key : ∀ j, j < m -> (xs.flatMap g)[i * m + j]? = (g v)[j]? := fun j hj => by
    rw [← List.getElem?_drop, h2, List.getElem?_append_left (by rw [hg]; exact hj)]
  refine ⟨?_, ?_, key, fun j c hc hh => ?_⟩
  · calc i * m + m = (i + 1) * m := by rw [Nat.add_mul, Nat.one_mul]
      _ <= _ := Nat.mul_le_mul_right _ hi
  · rw [h2, List.take_append_of_le_length (by rw [hg]; exact Nat.le_refl _), List.take_of_length_le (by rw [hg]; exact Nat.le_refl _)]
  · have hj : j < m := by rw [← hg v]; exact (List.getElem?_eq_some_iff.1 hc).1
    have := key j hj
    rw [hc, List.getElem?_eq_getElem hh] at this
    exact Option.some.inj this
theorem zal {α β : Type} {g : α -> β} {xs ys : List α} {l h : Int} (e : z1f xs l h = some ys) : ((xs.map g).drop l.toNat).take (h.toNat - l.toNat) = ys.map g := by
  obtain ⟨_, _, _, e2, _⟩ := z1l e
  rw [e2, List.map_take, List.map_drop]
theorem z8p {α β : Type} {g : α -> List β} {m : Nat} (hg : ∀ x, (g x).length = m) {xs ys : List α} {l h : Int} (e : z1f xs l h = some ys) : ((xs.flatMap g).drop (l.toNat * m)).take ((h.toNat - l.toNat) * m) = ys.flatMap g := by
  obtain ⟨_, _, _, e2, _⟩ := z1l e
  rw [e2, z5i hg, z7E hg]
theorem zaj {α : Type} {xs ys : List α} {l h : Int} (e : z1f xs l h = some ys) (f : α -> T) : T.sl (h.toNat - l.toNat) (ys.map f) = T.sl ys.length (ys.map f) := by
  obtain ⟨_, _, _, _, e2⟩ := z1l e
  rw [e2]
theorem zak {α : Type} {xs ys : List α} {l h : Int} (e : z1f xs l h = some ys) (f : α -> List T) : T.sl (h.toNat - l.toNat) (ys.flatMap f) = T.sl ys.length (ys.flatMap f) := by
  obtain ⟨_, _, _, _, e2⟩ := z1l e
  rw [e2]
theorem z6g {l h : Int} (a : 0 <= l) (b : l <= h) : 0 <= h /\ l <= (h.toNat : Int) := by omega
theorem z4X : ∀ a b : List T, z5z (a ++ b) = (z5z a || z5z b)
  | [], b => by simp [z5z]
  | t :: a, b => by simp [z5z, z4X a b, Bool.or_assoc]
theorem z9h {α : Type} (g : α -> T) : ∀ l : List α, z5z (l.map g) = l.any fun x => opn (g x)
  | [] => rfl
  | x :: l => by simp [z5z, z9h g l]
theorem z7n {α : Type} (g : α -> List T) : ∀ l : List α, z5z (l.flatMap g) = l.any fun x => z5z (g x)
  | [] => rfl
  | x :: l => by simp [z4X, z7n g l]
theorem z9A (k : ByteArray) (kd : IntKind) : ∀ m : List (ByteArray × Int), z0N (.string k) (m.map fun p => (Value.string p.1, Value.int kd p.2)) = (z4D k m).map (Value.int kd)
  | [] => rfl
  | (a, v) :: m => by
    simp only [List.map_cons, z0N, z4D, z0w, z9A k kd m]
    by_cases h : a = k <;> simp [h]
theorem z9B (k : ByteArray) : ∀ m : List (ByteArray × Bool), z0N (.string k) (m.map fun p => (Value.string p.1, Value.bool p.2)) = (z4D k m).map Value.bool
  | [] => rfl
  | (a, v) :: m => by
    simp only [List.map_cons, z0N, z4D, z0w, z9B k m]
    by_cases h : a = k <;> simp [h]
theorem z9E (k : Int) (kk kd : IntKind) : ∀ m : List (Int × Int), z0N (.int kk k) (m.map fun p => (Value.int kk p.1, Value.int kd p.2)) = (z4D k m).map (Value.int kd)
  | [] => rfl
  | (a, v) :: m => by
    simp only [List.map_cons, z0N, z4D, z0w, z9E k kk kd m]
    by_cases h : a = k <;> simp [h]
theorem z9F (k : Int) (kk : IntKind) : ∀ m : List (Int × Bool), z0N (.int kk k) (m.map fun p => (Value.int kk p.1, Value.bool p.2)) = (z4D k m).map Value.bool
  | [] => rfl
  | (a, v) :: m => by
    simp only [List.map_cons, z0N, z4D, z0w, z9F k kk m]
    by_cases h : a = k <;> simp [h]
theorem zbo (k : ByteArray) (kd : IntKind) (v : Int) : ∀ m : List (ByteArray × Int), z4Q (.string k) (.int kd v) (m.map fun p => (Value.string p.1, Value.int kd p.2)) = (z3t k v m).map fun p => (Value.string p.1, Value.int kd p.2)
  | [] => rfl
  | (a, u) :: m => by
    simp only [List.map_cons, z4Q, z3t, z0w, zbo k kd v m]
    by_cases h : a = k <;> simp [h]
theorem zbp (k : ByteArray) (v : Bool) : ∀ m : List (ByteArray × Bool), z4Q (.string k) (.bool v) (m.map fun p => (Value.string p.1, Value.bool p.2)) = (z3t k v m).map fun p => (Value.string p.1, Value.bool p.2)
  | [] => rfl
  | (a, u) :: m => by
    simp only [List.map_cons, z4Q, z3t, z0w, zbp k v m]
    by_cases h : a = k <;> simp [h]
theorem zbs (k : Int) (kk kd : IntKind) (v : Int) : ∀ m : List (Int × Int), z4Q (.int kk k) (.int kd v) (m.map fun p => (Value.int kk p.1, Value.int kd p.2)) = (z3t k v m).map fun p => (Value.int kk p.1, Value.int kd p.2)
  | [] => rfl
  | (a, u) :: m => by
    simp only [List.map_cons, z4Q, z3t, z0w, zbs k kk kd v m]
    by_cases h : a = k <;> simp [h]
theorem zbt (k : Int) (kk : IntKind) (v : Bool) : ∀ m : List (Int × Bool), z4Q (.int kk k) (.bool v) (m.map fun p => (Value.int kk p.1, Value.bool p.2)) = (z3t k v m).map fun p => (Value.int kk p.1, Value.bool p.2)
  | [] => rfl
  | (a, u) :: m => by
    simp only [List.map_cons, z4Q, z3t, z0w, zbt k kk v m]
    by_cases h : a = k <;> simp [h]
theorem z9D (k : Int) (kk : IntKind) : ∀ m : List (Int × ByteArray), z0N (.int kk k) (m.map fun p => (Value.int kk p.1, Value.string p.2)) = (z4D k m).map Value.string
  | [] => rfl
  | (a, v) :: m => by
    simp only [List.map_cons, z0N, z4D, z0w, z9D k kk m]
    by_cases h : a = k <;> simp [h]
theorem zbr (k : Int) (kk : IntKind) (v : ByteArray) : ∀ m : List (Int × ByteArray), z4Q (.int kk k) (.string v) (m.map fun p => (Value.int kk p.1, Value.string p.2)) = (z3t k v m).map fun p => (Value.int kk p.1, Value.string p.2)
  | [] => rfl
  | (a, u) :: m => by
    simp only [List.map_cons, z4Q, z3t, z0w, zbr k kk v m]
    by_cases h : a = k <;> simp [h]
theorem z9C (x y : Int) (kd : IntKind) : ∀ m : List ((Int × Int) × Int), z0N (.agg #[.int .i64 x, .int .i64 y]) (m.map fun p => (Value.agg #[.int .i64 p.1.1, .int .i64 p.1.2], Value.int kd p.2)) = (z4D (x, y) m).map (Value.int kd)
  | [] => rfl
  | ((a, b), v) :: m => by
    simp only [List.map_cons, z0N, z4D, z0w, z5N, z9C x y kd m]
    by_cases h : a = x /\ b = y
    · simp [h]
    · rw [if_neg (by simpa using h), if_neg (by simpa using h)]
theorem zbq (x y : Int) (kd : IntKind) (v : Int) : ∀ m : List ((Int × Int) × Int), z4Q (.agg #[.int .i64 x, .int .i64 y]) (.int kd v) (m.map fun p => (Value.agg #[.int .i64 p.1.1, .int .i64 p.1.2], Value.int kd p.2)) = (z3t (x, y) v m).map fun p => (Value.agg #[.int .i64 p.1.1, .int .i64 p.1.2], Value.int kd p.2)
  | [] => rfl
  | ((a, b), u) :: m => by
    simp only [List.map_cons, z4Q, z3t, z0w, z5N, zbq x y kd v m]
    by_cases h : a = x /\ b = y
    · simp [h]
    · rw [if_neg (by simpa using h), if_neg (by simpa using h)]; rfl
def zaK {κ ν : Type} [DecidableEq κ] (k : κ) : List (κ × ν) -> Option (κ × ν)
  | [] => none
  | (a, v) :: m => if a = k then some (a, v) else zaK k m
theorem z5e {κ ν : Type} [DecidableEq κ] (k : κ) : ∀ m : List (κ × ν), (zaK k m).map (·.2) = z4D k m
  | [] => rfl
  | (a, v) :: m => by
    simp only [zaK, z4D]
    split
    · rfl
    · exact z5e k m
theorem zca {κ ν : Type} [DecidableEq κ] (k : κ) (m : List (κ × ν)) : (zaK k m).isSome = (z4D k m).isSome := by rw [← z5e, Option.isSome_map]
theorem zcg {α : Type} (k : ByteArray) (g : ByteArray × α -> T) : ∀ m : List (ByteArray × α), z2o (.string k) (m.map fun p => Value.string p.1) (m.map g) = (zaK k m).map g
  | [] => rfl
  | (a, v) :: m => by
    simp only [List.map_cons, z2o, zaK, z0w, zcg k g m]
    by_cases h : a = k <;> simp [h]
theorem zch {α : Type} (k : Int) (kk : IntKind) (g : Int × α -> T) : ∀ m : List (Int × α), z2o (.int kk k) (m.map fun p => Value.int kk p.1) (m.map g) = (zaK k m).map g
  | [] => rfl
  | (a, v) :: m => by
    simp only [List.map_cons, z2o, zaK, z0w, zch k kk g m]
    by_cases h : a = k <;> simp [h]
theorem zbu (k : Value) (t : T) : z3g k t [] [] = ([k], [t]) := rfl
theorem zd0 (k v : Value) : z4Q k v [] = [(k, v)] := rfl
theorem zd1 {κ ν : Type} [DecidableEq κ] (k : κ) (v : ν) : z3t k v [] = [(k, v)] := rfl
theorem zds (kd : IntKind) (z : Int) (o : Option Int) : (o.map (Value.int kd)).getD (.int kd z) = .int kd (o.getD z) := by cases o <;> rfl
theorem zcc (z : Bool) (o : Option Bool) : (o.map Value.bool).getD (.bool z) = .bool (o.getD z) := by cases o <;> rfl
@[simp] theorem oneNil : (Value.slice none 0 0).oneCell' = true := rfl
@[simp] theorem bszL (a : Array UInt8) : ByteArray.size ⟨a⟩ = a.size := rfl
@[simp] theorem bempty : (⟨#[]⟩ : ByteArray) = ByteArray.empty := rfl
@[simp] theorem voG0 (p l : List T) : (p ++ l)[p.length]? = l[0]? := by rw [List.getElem?_append_right (Nat.le_refl _), Nat.sub_self]
@[simp] theorem voG (p l : List T) (j : Nat) : (p ++ l)[p.length + j]? = l[j]? := by rw [List.getElem?_append_right (by omega), Nat.add_sub_cancel_left]
@[simp] theorem voSet0 (p l : List T) (x : T) : (p ++ l).set p.length x = p ++ l.set 0 x := by rw [List.set_append_right _ _ (Nat.le_refl _), Nat.sub_self]
@[simp] theorem voSet (p l : List T) (j : Nat) (x : T) : (p ++ l).set (p.length + j) x = p ++ l.set j x := by rw [List.set_append_right _ _ (by omega), Nat.add_sub_cancel_left]
section
variable {P : Program} {C : z0b} {cf : Cfg} {LF : Nat} {c : Code} {fr fr1 : Fr} {Q : X -> Fr -> Prop}
theorem zr {l : List Oper} (hl : rgL c = some l) (hd : rgD c = false) (hz : cf.fz (rgI c) = none) (hf : z8j P C cf.wio l.toArray l fr = some fr1) (h : Q .n fr1) : wpC P C cf LF c fr Q :=
  zdb hl hd hz fun Q' hQ => by rw [hf, z7X]; exact hQ.out _ h
theorem zq (hk : z4p c = 2) (h : wpC P C cf LF (zfe c) fr (z8g (fun fr' => wpC P C cf LF (zfd c) fr' Q) Q)) : wpC P C cf LF c fr Q := zgK hk h
theorem zb (hk : z4p c = 4) (h : wpC P C cf LF (blC c) fr (z1T (blI c) Q)) : wpC P C cf LF c fr Q := zeu hk h
end
@[simp] theorem voLe (a j k n : Nat) : (a + j + k <= a + n) = (j + k <= n) := by simp only [eq_iff_iff]; omega
end
section
open Go
theorem z9k {σ ρ : Type} {b : σ -> Option (σ ⊕ ρ)} {x : Option ρ} : ∀ (n : Nat) (f : Nat -> σ) (m : Nat), n < m -> (∀ k, k < n -> b (f k) = z3A (f (k + 1))) -> b (f n) = z2z x -> z1V b m (f 0) = x
  | 0, f, m + 1, _, _, hl => by
    simp only [z1V, hl]
    cases x <;> rfl
  | n + 1, f, m + 1, hm, hs, hl => by
    simp only [z1V, hs 0 (by omega), z3A]
    exact z9k n (fun k => f (k + 1)) m (by omega) (fun k hk => hs (k + 1) (by omega)) hl
theorem zbR {σ ρ : Type} {b : σ -> Option (σ ⊕ ρ)} {x : Option ρ} (n : Nat) (f : Nat -> σ) {s : σ} (h0 : s = f 0) (hn : n < LFm) (step : ∀ k, k < n -> b (f k) = z3A (f (k + 1))) (last : b (f n) = z2z x) : z1V b LFm s = x := by
  subst h0; exact z9k n f LFm hn step last
theorem za4 {k : Nat} (h : k < 4611686018427387904) : IntKind.i64.wrap ((k : Int) + 1) = ((k + 1 : Nat) : Int) := by
  rw [IntWalk.i64_in _ (by omega)]; omega
theorem z8f {x : Int} (h : -9223372036854775808 <= x) (h2 : x < 9223372036854775808) : IntKind.i64.wrap x = x := IntWalk.i64_in _ (by omega)
theorem z2J {α : Type} {xs : List α} {k : Nat} (h : k < xs.length) : atI xs (k : Int) = some xs[k] := by
  unfold atI; rw [if_pos (by omega), Int.toNat_natCast, List.getElem?_eq_getElem h]
theorem zcE {s : ByteArray} {k : Nat} (h : k < s.size) : zaX s (k : Int) = some (s[k].toNat : Int) := by
  unfold zaX; rw [if_pos (by omega), Int.toNat_natCast, getElem?_pos s k h]; rfl
theorem zbE {α : Type} {xs : List α} {k : Nat} (h : k <= xs.length) : z1f xs 0 (k : Int) = some (xs.take k) := by
  unfold z1f; rw [if_pos (by omega)]; simp
theorem z8o {α : Type} {xs : List α} {k : Nat} (h : k <= xs.length) : z1f xs (k : Int) (xs.length : Int) = some (xs.drop k) := by
  unfold z1f; rw [if_pos (by omega)]; simp [List.take_of_length_le]
theorem z5r {α : Type} {p : Prop} [Decidable p] (x : Option α) (h : p) : chk p x = x := by unfold chk; rw [if_pos h]
end
section
structure Run {ρ : Type} (x : Option ρ) (K : ρ -> Prop) : Prop where
  out : ∃ v, x = some v /\ K v
structure RK {σ ρ : Type} (o : σ ⊕ ρ) (K : ρ -> Prop) (o' : σ ⊕ ρ) : Prop where
  eq : o' = o
  k : ∀ r, o' = .inr r -> K r
class Head {σ ρ : Type} (b : σ -> Option (σ ⊕ ρ)) where
  H : σ -> Fr
class Ok {ρ : Type} (x : Option ρ) (S : outParam (ρ -> Prop)) : Prop where
  ok : ∀ r, x = some r -> S r
section
variable {G : Prop} {ρ : Type} {K : ρ -> Prop}
theorem zfN {b n : Nat} {x : Option ρ} (k : n * b <= 140737488355328 -> n <= 4611686018427387904 -> Run x K -> G) (h : Run (chk (z2Z b n) x) K) : G := by
  obtain ⟨v, e, hk⟩ := h
  obtain ⟨⟨a, c⟩, e⟩ := z3J e
  exact k a c ⟨v, e, hk⟩
theorem zfM {n : Nat} {x : Option ρ} (k : n <= 140737488355328 -> n <= 4611686018427387904 -> Run x K -> G) (h : Run (chk (z2Z 1 n) x) K) : G := zfN (fun a b => k (by omega) b) h
theorem zhw {b l : Int} {x : Option ρ} (k : 0 <= l -> l <= 140737488355328 -> b * l <= 140737488355328 -> max l 0 = l -> Run x K -> G) (h : Run (chk (z4h b l) x) K) : G := by
  obtain ⟨v, e, hk⟩ := h
  obtain ⟨⟨a, c, d⟩, e⟩ := z3J e
  exact k a c d (by omega) ⟨v, e, hk⟩
theorem zgR {l : Int} {x : Option ρ} (k : 0 <= l -> l <= 140737488355328 -> max l 0 = l -> Run x K -> G) (h : Run (chk (z4h 1 l) x) K) : G := zhw (fun a b _ d => k a b d) h
theorem zgP {i : Int} {n : Nat} {x : Option ρ} (k : 0 <= i -> i < (n : Int) -> i.toNat < n -> i.toNat + 1 <= n -> Run x K -> G) (h : Run (chk (0 <= i /\ i < (n : Int)) x) K) : G := by
  obtain ⟨v, e, hk⟩ := h
  obtain ⟨⟨a, c⟩, e⟩ := z3J e
  exact k a c (by omega) (by omega) ⟨v, e, hk⟩
theorem zfI {i n : Int} {x : Option ρ} (k : 0 <= i -> i < n -> i.toNat < n.toNat -> i.toNat + 1 <= n.toNat -> Run x K -> G) (h : Run (chk (0 <= i /\ i < n) x) K) : G := by
  obtain ⟨v, e, hk⟩ := h
  obtain ⟨⟨a, c⟩, e⟩ := z3J e
  exact k a c (by omega) (by omega) ⟨v, e, hk⟩
theorem zgX {p : Prop} [Decidable p] {x : Option ρ} (k : p -> Run x K -> G) (h : Run (chk p x) K) : G := by
  obtain ⟨v, e, hk⟩ := h
  obtain ⟨a, e⟩ := z3J e
  exact k a ⟨v, e, hk⟩
theorem zgQ {α : Type} {xs : List α} {i : Nat} {f : α -> Option ρ} (k : ∀ v, i < xs.length -> i + 1 <= xs.length -> xs[i]? = some v -> (∀ hh : i < xs.length, xs[i]'hh = v) -> Run (f v) K -> G) (h : Run ((atI xs (i : Int)).bind f) K) : G := by
  obtain ⟨r, e, hk⟩ := h
  obtain ⟨v, ⟨a, b, c, d⟩, e⟩ := zdK e
  exact k v a b c d ⟨r, e, hk⟩
theorem zhN {α : Type} {xs : List α} {i : Int} {f : α -> Option ρ} (k : ∀ v, 0 <= i -> i < xs.length -> i.toNat + 1 <= xs.length -> xs[i.toNat]? = some v -> (∀ hh : i.toNat < xs.length, xs[i.toNat]'hh = v) -> Run (f v) K -> G) (h : Run ((atI xs i).bind f) K) : G := by
  obtain ⟨r, e, hk⟩ := h
  obtain ⟨v, ⟨a, b, c, d, d2⟩, e⟩ := zdL e
  exact k v a b c d d2 ⟨r, e, hk⟩
theorem zfP {s : ByteArray} {i : Int} {f : Int -> Option ρ} (k : ∀ v, 0 <= i -> i < s.size -> (∃ b, s[i.toNat]? = some b /\ v = (b.toNat : Int)) -> (∀ hh : i.toNat < s.size, ((s[i.toNat]'hh).toNat : Int) = v) -> Run (f v) K -> G) (h : Run ((zaX s i).bind f) K) : G := by
  obtain ⟨r, e, hk⟩ := h
  obtain ⟨v, e1, e2⟩ := z1F e
  obtain ⟨a, b, c, d1, d2, d3⟩ := zaW e1
  exact k v a b ⟨c, d1, d2⟩ d3 ⟨r, e2, hk⟩
theorem zex {α : Type} {xs : List α} {i : Int} {v : α} {f : α -> Option ρ} (hv : xs[i.toNat]? = some v) (hi : 0 <= i) (k : Run (f v) K -> G) (h : Run ((atI xs i).bind f) K) : G := by
  obtain ⟨r, e, hk⟩ := h
  unfold atI at e
  rw [if_pos hi, hv] at e
  exact k ⟨r, e, hk⟩
theorem zfK {α : Type} {xs : List α} {i : Nat} {v : α} {f : α -> Option ρ} (hv : xs[i]? = some v) (k : Run (f v) K -> G) (h : Run ((atI xs (i : Int)).bind f) K) : G := zex (i := (i : Int)) hv (Int.natCast_nonneg i) k h
theorem zhO {α : Type} {xs : List α} {v : α} {f : α -> Option ρ} (hv : xs[0]? = some v) (k : Run (f v) K -> G) (h : Run ((atI xs 0).bind f) K) : G := zex (i := 0) hv (Int.le_refl 0) k h
theorem zev {α : Type} {e : Option α} {v : α} {f : α -> Option ρ} (hv : e = some v) (k : Run (f v) K -> G) (h : Run (e.bind f) K) : G := by subst hv; exact k h
theorem zfO {α : Type} {e : Option α} {S : α -> Prop} [Ok e S] {f : α -> Option ρ} (k : ∀ v, e = some v -> S v -> Run (f v) K -> G) (h : Run (e.bind f) K) : G := by
  obtain ⟨r, e1, hk⟩ := h
  obtain ⟨v, e2, e3⟩ := z1F e1
  exact k v e2 (Ok.ok v e2) ⟨r, e3, hk⟩
theorem zhM {p : Prop} [Decidable p] {x y : Option ρ} (k : (p = True) -> Run x K -> G) (k2 : (p = False) -> Run y K -> G) (h : Run (if p then x else y) K) : G := by
  by_cases c : p
  · rw [if_pos c] at h; exact k (eq_true c) h
  · rw [if_neg c] at h; exact k2 (eq_false c) h
theorem p_0 {α : Type} {xs : List α} {f : α -> Option ρ} (k : ∀ v, 0 < xs.length -> xs ≠ [] -> xs[0]? = some v -> (∀ hh : 0 < xs.length, xs[0]'hh = v) -> Run (f v) K -> G) (h : Run ((atI xs 0).bind f) K) : G := by
  obtain ⟨r, e, hk⟩ := h
  obtain ⟨v, ⟨b, c, d, d2⟩, e⟩ := zdK (i := 0) e
  exact k v b (List.length_pos_iff.1 b) d d2 ⟨r, e, hk⟩
theorem zgS {α : Type} {xs : List α} {i : Nat} {f : α -> Option ρ} (k : ∀ v, (OfNat.ofNat i : Nat) < xs.length -> xs ≠ [] -> xs[(OfNat.ofNat i : Nat)]? = some v -> (∀ hh : (OfNat.ofNat i : Nat) < xs.length, xs[(OfNat.ofNat i : Nat)]'hh = v) -> Run (f v) K -> G) (h : Run ((atI xs (OfNat.ofNat i : Int)).bind f) K) : G := by
  obtain ⟨r, e, hk⟩ := h
  obtain ⟨v, ⟨b, c, d, d2⟩, e⟩ := zdK (i := i) e
  exact k v b (List.length_pos_iff.1 (Nat.lt_of_le_of_lt (Nat.zero_le _) b)) d d2 ⟨r, e, hk⟩
class IsS (α : Type) : Prop
theorem zgZ {α : Type} [IsS α] {xs : List α} {i : Int} {f : α -> Option ρ} (k : ∀ v, 0 <= i -> i < xs.length -> i.toNat + 1 <= xs.length -> xs[i.toNat]? = some v -> (∀ m, i.toNat * m + m <= xs.length * m) -> (∀ (g : α -> List T) (m : Nat), (∀ x, (g x).length = m) -> ((xs.flatMap g).drop (i.toNat * m)).take m = g v) ->
    (∀ (g : α -> List T) (m j : Nat), (∀ x, (g x).length = m) -> j < m -> (xs.flatMap g)[i.toNat * m + j]? = (g v)[j]?) -> (∀ (g : α -> List T) (m : Nat), (∀ x, (g x).length = m) -> 0 < m -> (xs.flatMap g)[i.toNat * m]? = (g v)[0]?) -> Run (f v) K -> G) (h : Run ((atI xs i).bind f) K) : G := by
  obtain ⟨r, e, hk⟩ := h
  obtain ⟨v, ⟨a, b, c, d, d2⟩, e⟩ := zdL e
  refine k v a b c d (fun m => ?_) (fun g m hg => (z5h hg d).2.1) (fun g m j hg hj => (z5h hg d).2.2.1 j hj) (fun g m hg hj => (z5h hg d).2.2.1 0 hj) ⟨r, e, hk⟩
  calc i.toNat * m + m = (i.toNat + 1) * m := by rw [Nat.add_mul, Nat.one_mul]
    _ <= _ := Nat.mul_le_mul_right _ c
theorem z5S {α : Type} {xs : List α} {v : α} (h : xs[0]? = some v) (g : α -> List T) : ∃ r, xs.flatMap g = g v ++ r := by
  cases xs with
  | nil => cases h
  | cons a l =>
    simp at h; subst h
    exact ⟨l.flatMap g, List.flatMap_cons ..⟩
theorem zfQ {α : Type} [IsS α] {xs : List α} {f : α -> Option ρ} (k : ∀ v, 0 < xs.length -> xs ≠ [] -> xs[0]? = some v -> (∀ (g : α -> List T) (j : Nat), j < (g v).length -> (xs.flatMap g)[j]? = (g v)[j]?) -> (∀ (g : α -> List T) (m : Nat), m = (g v).length -> (xs.flatMap g).take m = g v) -> Run (f v) K -> G) (h : Run ((atI xs 0).bind f) K) : G := by
  obtain ⟨r, e, hk⟩ := h
  obtain ⟨v, ⟨b, c, d, d2⟩, e⟩ := zdK (i := 0) e
  refine k v b (List.length_pos_iff.1 b) d (fun g j hj => ?_) (fun g m hm => ?_) ⟨r, e, hk⟩
  · obtain ⟨q, hq⟩ := z5S d g
    rw [hq, List.getElem?_append_left hj]
  · obtain ⟨q, hq⟩ := z5S d g
    subst hm
    rw [hq, List.take_left]
theorem zgY {α : Type} {l : List α} {j : Nat} {a : α} {i : Int} {f : α -> Option ρ} (k : ∀ v, 0 <= i -> i < l.length -> i.toNat + 1 <= l.length -> (∀ (g : α -> T) hh, ((l.map g).set j (g a))[i.toNat]'hh = g v) -> (∀ (g : α -> T), ((l.map g).set j (g a))[i.toNat]? = some (g v)) -> Run (f v) K -> G) (h : Run ((atI (l.set j a) i).bind f) K) : G := by
  obtain ⟨r, e, hk⟩ := h
  obtain ⟨v, ⟨x, b, c, d, d2⟩, e⟩ := zdL e
  rw [List.length_set] at b c
  have key : ∀ (g : α -> T), ((l.map g).set j (g a))[i.toNat]? = some (g v) := fun g => by rw [← List.map_set, List.getElem?_map, d]; rfl
  exact k v x b c (fun g hh => (List.getElem?_eq_some_iff.1 (key g)).2) key ⟨r, e, hk⟩
theorem zh0 {α : Type} {l : List α} {a : α} {i : Int} {f : α -> Option ρ} (k : ∀ v, 0 <= i -> i < (l.length : Int) + 1 -> i.toNat <= l.length -> (∀ (g : α -> T) hh, (l.map g ++ [g a])[i.toNat]'hh = g v) -> (∀ g : α -> T, (l.map g ++ [g a])[i.toNat]? = some (g v)) -> Run (f v) K -> G) (h : Run ((atI (l ++ [a]) i).bind f) K) : G := by
  obtain ⟨r, e, hk⟩ := h
  obtain ⟨v, ⟨x, b, c, d, d2⟩, e⟩ := zdL e
  rw [List.length_append, List.length_singleton] at b c
  have key : ∀ (g : α -> T), (l.map g ++ [g a])[i.toNat]? = some (g v) := fun g => by
    have := congrArg (Option.map g) d
    rwa [← List.getElem?_map, List.map_append] at this
  exact k v x (by omega) (by omega) (fun g hh => (List.getElem?_eq_some_iff.1 (key g)).2) key ⟨r, e, hk⟩
theorem zdd {α : Type} {xs : List α} {l u : Int} {f : List α -> Option ρ} (k : ∀ v : List α, 0 <= l -> l <= u -> u <= xs.length -> 0 <= u -> l <= (u.toNat : Int) -> l <= max u 0 -> (∀ g : α -> T, ((xs.map g).drop l.toNat).take (u.toNat - l.toNat) = v.map g) -> (∀ g : α -> T, T.sl (u.toNat - l.toNat) (v.map g) = T.sl v.length (v.map g)) -> Run (f v) K -> G) (h : Run ((z1f xs l u).bind f) K) : G := by
  obtain ⟨r, e, hk⟩ := h
  obtain ⟨v, e1, e2⟩ := z1F e
  obtain ⟨a, b, c, -⟩ := z1l e1
  obtain ⟨d, g⟩ := z6g a b
  exact k v a b c d g (by omega) (fun g => zal e1) (fun g => zaj e1 g) ⟨r, e2, hk⟩
theorem zde {α : Type} [IsS α] {xs : List α} {l u : Int} {f : List α -> Option ρ} (k : ∀ v : List α, 0 <= l -> l <= u -> u <= xs.length -> 0 <= u -> l <= (u.toNat : Int) -> l <= max u 0 -> (∀ (g : α -> List T) (m : Nat), (∀ x, (g x).length = m) -> ((xs.flatMap g).drop (l.toNat * m)).take ((u.toNat - l.toNat) * m) = v.flatMap g) -> (∀ g : α -> List T, T.sl (u.toNat - l.toNat) (v.flatMap g) = T.sl v.length (v.flatMap g)) -> Run (f v) K -> G) (h : Run ((z1f xs l u).bind f) K) : G := by
  obtain ⟨r, e, hk⟩ := h
  obtain ⟨v, e1, e2⟩ := z1F e
  obtain ⟨a, b, c, -⟩ := z1l e1
  obtain ⟨d, g⟩ := z6g a b
  exact k v a b c d g (by omega) (fun g m hg => z8p hg e1) (fun g => zak e1 g) ⟨r, e2, hk⟩
theorem zdc {s : ByteArray} {l u : Int} {f : ByteArray -> Option ρ} (k : ∀ v, 0 <= l -> l <= u -> u <= s.size -> 0 <= u -> l <= (u.toNat : Int) -> l <= max u 0 -> s.extract l.toNat u.toNat = v -> Run (f v) K -> G) (h : Run ((z3y s l u).bind f) K) : G := by
  obtain ⟨r, e, hk⟩ := h
  obtain ⟨v, e1, e2⟩ := z1F e
  obtain ⟨a, b, c, d⟩ := z8n e1
  obtain ⟨d1, g⟩ := z6g a b
  exact k v a b c d1 g (by omega) d.symm ⟨r, e2, hk⟩
theorem zew {α β : Type} {e : Option (α ⊕ β)} {S : α ⊕ β -> Prop} [Ok e S] {f : α ⊕ β -> Option ρ} (k : ∀ v, S (.inl v) -> Run (f (.inl v)) K -> G) (k2 : ∀ v, S (.inr v) -> Run (f (.inr v)) K -> G) (h : Run (e.bind f) K) : G := by
  obtain ⟨r, e1, hk⟩ := h
  obtain ⟨v, e2, e3⟩ := z1F e1
  cases v with
  | inl v => exact k v (Ok.ok _ e2) ⟨r, e3, hk⟩
  | inr v => exact k2 v (Ok.ok _ e2) ⟨r, e3, hk⟩
theorem zgU {α : Type} {m : Option α} {x y : Option ρ} (k : m.isSome = true -> Run x K -> G) (k2 : m = none -> Run y K -> G) (h : Run (if m.isSome = true then x else y) K) : G := by
  cases m with
  | some v => exact k rfl (by simpa using h)
  | none => exact k2 rfl (by simpa using h)
theorem zgV {b : Bool} {x y : Option ρ} (k : b = true -> Run x K -> G) (k2 : b = false -> Run y K -> G) (h : Run (if b = true then x else y) K) : G := by
  cases b with
  | true => exact k rfl (by simpa using h)
  | false => exact k2 rfl (by simpa using h)
theorem zgW {α : Type} {xs : List α} {x y : Option ρ} (k : ((xs.length : Int) = 0) = True -> xs = [] -> Run x K -> G) (k2 : ((xs.length : Int) = 0) = False -> xs ≠ [] -> Run y K -> G) (h : Run (if (xs.length : Int) = 0 then x else y) K) : G := by
  by_cases c : (xs.length : Int) = 0
  · rw [if_pos c] at h; exact k (eq_true c) (List.eq_nil_of_length_eq_zero (by omega)) h
  · rw [if_neg c] at h; exact k2 (eq_false c) (fun e => c (by rw [e]; rfl)) h
theorem zgT {α : Type} {xs : List α} {x y : Option ρ} (k : ((0 : Int) < (xs.length : Int)) = True -> xs ≠ [] -> 0 < xs.length -> Run x K -> G) (k2 : ((0 : Int) < (xs.length : Int)) = False -> xs = [] -> Run y K -> G) (h : Run (if (0 : Int) < (xs.length : Int) then x else y) K) : G := by
  by_cases c : (0 : Int) < (xs.length : Int)
  · rw [if_pos c] at h; exact k (eq_true c) (fun e => by subst e; simp at c) (by omega) h
  · rw [if_neg c] at h; exact k2 (eq_false c) (List.eq_nil_of_length_eq_zero (by omega)) h
theorem zfL {κ ν : Type} [DecidableEq κ] {q : κ} {m : List (κ × ν)} {f : ν -> Option ρ} {y : Option ρ} (k : ∀ v, z4D q m = some v -> zaK q m = some (q, v) -> Run (f v) K -> G) (k2 : z4D q m = none -> zaK q m = none -> Run y K -> G) (h : Run ((z4D q m).elim y f) K) : G := by
  have e := z5e q m
  have hk : ∀ l : List (κ × ν), ∀ p, zaK q l = some p -> p.1 = q := by
    intro l
    induction l with
    | nil => intro p hp; cases hp
    | cons a l ih =>
      intro p hp
      simp only [zaK] at hp
      split at hp
      · rename_i ha; cases hp; exact ha
      · exact ih p hp
  cases hp : zaK q m with
  | none =>
    rw [hp] at e
    rw [← e] at h
    exact k2 e.symm hp h
  | some p =>
    rw [hp] at e
    rw [← e] at h
    have h1 := hk m p hp
    exact k p.2 e.symm (by rw [hp, ← h1]) h
theorem zfH {v : ρ} (k : K v -> G) (h : Run (some v) K) : G := by
  obtain ⟨r, e, hk⟩ := h
  cases e; exact k hk
theorem zfJ (h : Run none K) : G := by
  obtain ⟨r, e, hk⟩ := h
  cases e
theorem zcP {x : Option ρ} {r : ρ} (h : x = some r) : Run x (· = r) := ⟨r, h, rfl⟩
theorem zah {α β : Type} {P : α × β -> Prop} (h : ∀ a, ∀ b, P (a, b)) : ∀ s : α × β, P s := fun s => h s.1 s.2
end
theorem zbd {α β : Type} {P : α ⊕ β -> Prop} (h1 : ∀ a, P (.inl a)) (h2 : ∀ b, P (.inr b)) : ∀ s : α ⊕ β, P s := fun s => by
  cases s with
  | inl a => exact h1 a
  | inr b => exact h2 b
theorem zbI {α : Type} {P : Option α -> Prop} (h1 : ∀ _ : Unit, P none) (h2 : ∀ a, P (some a)) : ∀ s : Option α, P s := fun s => by
  cases s with
  | none => exact h1 ()
  | some a => exact h2 a
section
variable {P : Program} {C : z0b} {cf : Cfg} {LF : Nat} {c : Code} {fr : Fr} {Q : X -> Fr -> Prop} {σ ρ : Type} {K : ρ -> Prop} {o : σ ⊕ ρ} {H : σ -> Fr} {cn : Fr -> Fr}
theorem zhK {s : σ} (h : Run (z3A s : Option (σ ⊕ ρ)) (RK o K)) (e : cn fr = H s) : z3v H cn o Q .n fr := by
  obtain ⟨r, e1, e2⟩ := h
  have := zbP e1
  exact zd9 (e2.eq.symm.trans this) e
theorem zhI {i : Nat} {x : Option ρ} (k : Run x K -> Q (.x i) fr) (h : Run (z2z x : Option (σ ⊕ ρ)) (RK o K)) : z3v H cn o Q (.x i) fr := by
  obtain ⟨r, e1, e2⟩ := h
  obtain ⟨v, e3, rfl⟩ := z7J e1
  exact zd7 (e2.eq.symm) (k ⟨v, e3, e2.k _ rfl⟩)
theorem zhJ {x : Option ρ} (k : Run x K -> Q .r fr) (h : Run (z2z x : Option (σ ⊕ ρ)) (RK o K)) : z3v H cn o Q .r fr := by
  obtain ⟨r, e1, e2⟩ := h
  obtain ⟨v, e3, rfl⟩ := z7J e1
  exact zd8 (e2.eq.symm) (k ⟨v, e3, e2.k _ rfl⟩)
end
def zfx {α : Type} (k : Nat) (v : α) : List (Nat × α) -> List (Nat × α)
  | [] => []
  | (j, u) :: r => if j = k then (j, v) :: r else (j, u) :: zfx k v r
def zfc {α : Type} : List (Nat × α) -> List (Nat × α) -> List (Nat × α)
  | [], l => l
  | (k, v) :: r, l => zfc r (zfx k v l)
def ze9 (x : List (Nat × E) × List (Nat × T)) (fr : Fr) : Fr := { fr with tm := zfc x.1 fr.tm, ob := zfc x.2 fr.ob }
class Hd {σ ρ : Type} (b : σ -> Option (σ ⊕ ρ)) where
  H : σ -> List (Nat × E) × List (Nat × T)
section
variable {P : Program} {C : z0b} {cf : Cfg} {LF : Nat} {c : Code} {fr fr0 : Fr} {Q : X -> Fr -> Prop} {σ ρ : Type} {K : ρ -> Prop}
theorem zeq {lv : List Nat} {body : σ -> Option (σ ⊕ ρ)} [hd : Hd body] {s0 : σ} (hk : z4p c = 5) (hv : cf.live (z3d (lpC c)) = some lv) (h : Run (z1V body LF s0) K)
    (hf : z3e (some lv) fr = fr0) (h0 : fr0 = ze9 (Hd.H body s0) fr0) (round : ∀ s, ∀ o, Run (body s) (RK o K) -> wpC P C cf LF (lpC c) (ze9 (Hd.H body s) fr0) (z3v (fun s => ze9 (Hd.H body s) fr0) (z3e (some lv)) o Q)) : wpC P C cf LF c fr Q := by
  obtain ⟨r, e, hk2⟩ := h
  exact zer e (fun s => ze9 (Hd.H body s) fr0) hk hv (hf.trans h0) fun s o h1 h2 => round s o ⟨o, h1, rfl, fun r' e' => by rw [h2 r' e']; exact hk2⟩
end
@[simp] theorem zcY {α : Type} (c : Nat) : ∀ l : List α, (l.map fun _ => c).sum = l.length * c
  | [] => by simp
  | x :: l => by simp only [List.map_cons, List.sum_cons, zcY c l, List.length_cons, Nat.add_mul]; omega
abbrev xI (x : Int) : E := .one (.t none (.sc (.int .i64 x)))
theorem zhF {a b : Fr} (h : z4n a b) : z4n a b := h
section
variable {P : Program} {C : z0b} {cf : Cfg} {LF : Nat} {c : Code} {fr : Fr}
theorem zhs {Q : X -> Fr -> Prop} {id i : Nat} (h : z1T id Q (.x i) fr) : z1T id Q (.x i) fr := h
theorem zgC {Q : X -> Fr -> Prop} (h : wpC P C cf LF c fr Q) : wpC P C cf LF c fr Q := h
theorem zh7 {wio : FuncId -> Nat -> Bool} {M : List Nat} {ops : Array Oper} {l : List (Nat × Nat)} {Q : Fr -> Prop} (h : z2c P C wio M ops l fr Q) : z2c P C wio M ops l fr Q := h
theorem zgG {l : List Oper} {Q : Fr -> Prop} (h : ∃ fr2, z1k P l fr = some fr2 /\ Q fr2) : ∃ fr2, z1k P l fr = some fr2 /\ Q fr2 := h
theorem tpN {i : Nat} {t : SchT} {Q : Fr -> Prop} (e : t = .nil) (h : Q fr) : z1v P C cf c i t fr Q := by subst e; exact zft h
theorem tpA {i : Nat} {t a b : SchT} {Q : Fr -> Prop} (e : t = .alt a b) (h : z1v P C cf c i a fr (fun x => z1v P C cf c i b fr (fun y => z4n x y) /\ Q x)) : z1v P C cf c i t fr Q := by subst e; exact zec h
theorem tpO {i k m : Nat} {t rest : SchT} {o : Oper} {fr1 : Fr} {Q : Fr -> Prop} (e : t = .op k m rest) (ho : zbK c k = some o) (hg : o.guard = none) (hs : z6T P C cf.wio (cf.wr i).isEmpty (cf.wr i).contains fr o m = some fr1) (h : z1v P C cf c i rest fr1 Q) : z1v P C cf c i t fr Q := by subst e; exact zgD ho hg hs h
theorem tpT {i k m : Nat} {t rest : SchT} {o : Oper} {g : Option (Option Nat × Bool)} {fr1 : Fr} {Q : Fr -> Prop} (e : t = .op k m rest) (ho : zbK c k = some o) (hg : zeN c o = some g) (hv : zdY g fr = some true) (hs : z6T P C cf.wio (cf.wr i).isEmpty (cf.wr i).contains fr o m = some fr1) (h : z1v P C cf c i rest fr1 Q) : z1v P C cf c i t fr Q := by subst e; exact zgE ho hg hv hs h
theorem tpF {i k m : Nat} {t rest : SchT} {o : Oper} {g : Option (Option Nat × Bool)} {fr1 : Fr} {Q : Fr -> Prop} (e : t = .op k m rest) (ho : zbK c k = some o) (hg : zeN c o = some g) (hv : zdY g fr = some false) (hs : nrmO? (putF fr o.dst (.one (.k undef))) = some fr1) (h : z1v P C cf c i rest fr1 Q) : z1v P C cf c i t fr Q := by subst e; exact zgF ho hg hv hs h
theorem zh9 {i : Nat} {t : SchT} {Q : Fr -> Prop} (h : z1v P C cf c i t fr Q) : z1v P C cf c i t fr Q := h
end
theorem z4K {G : Prop} (g : G := by
  repeat' (first
    | with_reducible refine zef ?_
    | with_reducible refine zed ?_
    | with_reducible refine zee ?_
    | with_reducible refine zdG ?_
    | ((with_reducible refine zhs ?_); first | refine z8Q rfl ?_ | refine z8P rfl ?_)
    | with_reducible refine zdF ?_
    | (revert h; with_reducible refine zhI fun h => ?_)
    | (revert h; with_reducible refine zhJ fun h => ?_)
    | ((with_reducible refine zhK h ?_); simp [*, ze9, zfc, zfx, Hd.H]; done)
    | (revert h; first
      | with_reducible refine zfJ
      | with_reducible refine zfM fun _ _ h => ?_
      | with_reducible refine zfN fun _ _ h => ?_
      | with_reducible refine zgR fun _ _ _ h => ?_
      | with_reducible refine zhw fun _ _ _ _ h => ?_
      | with_reducible refine zgP fun _ _ _ _ h => ?_
      | with_reducible refine zfI fun _ _ _ _ h => ?_
      | with_reducible refine zgX fun _ h => ?_
      | with_reducible refine zex (by assumption) (by assumption) fun h => ?_
      | with_reducible refine zfK (by assumption) fun h => ?_
      | with_reducible refine zhO (by assumption) fun h => ?_
      | with_reducible refine zev (by assumption) fun h => ?_
      | with_reducible refine zfQ fun _ _ _ _ k k1 h => ?_
      | with_reducible refine zgZ fun _ _ _ _ _ _ k k1 k2 h => ?_
      | with_reducible refine zgY fun _ _ _ _ k k1 h => ?_
      | with_reducible refine zh0 fun _ _ _ _ k k1 h => ?_
      | with_reducible refine p_0 fun _ _ _ _ _ h => ?_
      | with_reducible refine zgS fun _ _ _ _ _ h => ?_
      | with_reducible refine zgQ fun _ _ _ _ _ h => ?_
      | with_reducible refine zhN fun _ _ _ _ _ _ h => ?_
      | with_reducible refine zfP fun _ _ _ _ _ h => ?_
      | ((with_reducible refine zde fun _ _ _ _ _ _ _ k k2 h => ?_); try simp at k; try simp only [Int.reduceToNat, Int.toNat_natCast, Nat.sub_zero] at k2)
      | ((with_reducible refine zdd fun _ _ _ _ _ _ _ k k2 h => ?_); try simp at k; try simp only [Int.reduceToNat, Int.toNat_natCast, Nat.sub_zero] at k2)
      | ((with_reducible refine zdc fun _ _ _ _ _ _ _ k h => ?_); try simp only [Int.reduceToNat, Int.toNat_natCast] at k)
      | ((with_reducible refine zew (fun _ k h => ?_) fun _ k h => ?_) <;> (try simp at k))
      | ((with_reducible refine zfO fun _ _ k h => ?_); try simp at k))
    | ((with_reducible refine zgC ?_); first
      | refine zq rfl ?_
      | refine zb rfl ?_
      | refine zep rfl ?_
      | refine zfD rfl ?_
      | refine zes rfl ?_
      | refine zfE rfl ?_
      | refine zgL rfl ?_
      | refine zr rfl rfl rfl (by simp [*]; with_reducible rfl) ?_
      | refine zet rfl rfl rfl rfl ?_
      | refine zfC rfl rfl rfl rfl ?_
      | refine zgM rfl (by first | (simp [*]; done) | fail) ?_
      | refine zgN rfl (by first | (simp [*]; done) | fail) ?_
      | refine zgO rfl rfl (by simp [*]; rfl) ?_
      | (refine zeq rfl rfl h (by simp [*]; rfl) (by first | (simp [*, ze9, zfc, zfx, Hd.H]; done) | fail) ?_; clear h; (repeat' (first | refine zah fun _ => ?_ | refine zbd ?_ ?_ | refine zbI ?_ ?_)); all_goals (intro _ _ h; simp only [ze9, zfc, zfx, Hd.H, Nat.reduceEqDiff, if_true, if_false])))
    | ((with_reducible refine zh7 ?_); first
      | (refine zag rfl rfl fun Q' hQ => ?_; simp [*]; refine hQ.out _ ?_; clear hQ; clear Q')
      | (refine z6d rfl rfl fun Q1 Q2 h1 h2 => ?_; simp [*, zba]; (first | refine h1.out ?_ | refine h2.out ?_); clear h1 h2; clear Q1 Q2; intro Q' hQ; simp [*]; refine hQ.out _ ?_; clear hQ; clear Q')
      | (refine z8k rfl fun Q' hQ => ?_; simp [*]; refine hQ.out _ ?_; clear hQ; clear Q'))
    | ((with_reducible refine zh9 ?_); first
      | refine tpN rfl ?_
      | refine tpA rfl ?_
      | refine tpO rfl rfl rfl (by simp [*, z6T, z4O]; rfl) ?_
      | refine tpT rfl rfl rfl (by first | (simp [*]; done) | fail) (by simp [*, z6T, z4O]; rfl) ?_
      | refine tpF rfl rfl rfl (by first | (simp [*]; done) | fail) (by simp [*]; rfl) ?_)
    | ((with_reducible refine zgG ?_); refine zfu rfl (by simp [*]; rfl) ?_)
    | ((with_reducible refine And.intro ?_ ?_); rotate_left)
    | ((with_reducible refine zhF ?_); simp [*, z4n]; done)
    | (revert h; with_reducible refine zfL (fun _ _ _ h => ?_) fun _ _ h => ?_)
    | (revert h; first
      | with_reducible refine zgU (fun _ h => ?_) fun _ h => ?_
      | with_reducible refine zgV (fun _ h => ?_) fun _ h => ?_
      | with_reducible refine zgW (fun _ _ h => ?_) fun _ _ h => ?_
      | with_reducible refine zgT (fun _ _ _ h => ?_) fun _ _ h => ?_
      | with_reducible refine zhM (fun _ h => ?_) fun _ h => ?_
      | ((with_reducible refine zfH fun h => ?_); cases h; simp [*]; done)))) : G := g
end
section
open Go
structure Tape where
  l : List Int
  at_ : Int
deriving Inhabited
structure DFA where
  letters : Int
  start : Int
  final : List Bool
  next : List (List Int)
deriving Inhabited
structure Imgs where
  sets : List Int
  class_ : List Int
  height : List Int
  tiles : List (List Int)
  words : List ByteArray
  back : List ByteArray
deriving Inhabited
structure Dgm where
  sets : List Int
  next : List (List Int)
  below : List (List Bool)
deriving Inhabited
structure Hol where
  set : Int
  tiles : List Int
  words : List ByteArray
  perms : List (List Int)
deriving Inhabited
instance : IsS Hol := ⟨⟩
end
section
attribute [simp] undef scB ext z0l z0q Function.comp_def z5Y z8e z4q z8a nav sub upd z0z z1N z0n z4t z0i z7O z0X zfY z1m z2C z4j z8H onA kill z0B z5M z3N z0Z z3q z3R zeQ z0Q z3S z3x zdq z3k z4s setT moveT moveR mvA zai z9f plugL' zaO zaq z1w zfW zfV zdW zg3 zg2 nrmO? plugL putR z2G explode cellsE z0U rdV scE zdI z9i zh1 zdH zcG zaH zaw zaA zay zax zaG zc4 zav z6u zaF zaz zaB zaC zaD zaE zab za8 za9 zaa zac z9A z9B z9E z9F zbo zbp zbs z9D zbr z9C zbq zan z5N rdK zbt zds zcc zd0 zd1 List.map_flatMap z9h z7n z9Q zf4 zg1 unS zh2 zh3 z9L opE zfm z6G zau zam zbC zhU z2O z9q zcS z9a z4F zgm z3f zc2 zdB zf3 z2t z2x z2W z1U z4r zcR zdk z9X zgv z5B zc0 z2w z5n z2V z0R z0E z1H zbh z6S z4n zcH z6K zhx zfb zbG zc1 z5v z6L zeP z2U z6M zeL zdn z9R zgt z8N zgc opn z5z z1g z8V zf6 zcL zgw z0x z5F z2n z5g clB ioF zgH zgk z3L z2u putF opF z8S z1O zdY z8j z3a z3d onE ids z5D z5C z2k zaJ z3e z1k z2A z1Q z1A z0V zfz zby z6W z2Y z4f zfT zao z7m z6t zbH zgn zfS z7V zfR z3m z9J zfG z6t z7X zhR zhT zhQ zhS zh8 z2B z4O wrF z3z noM zgx frz1 zg5 zfk z3F zfA z6r z6o z3j z6m zc8 z4A zfs zdp z7y zdo zfh z4B z4y z4x z3C z4z z5b z6q z6n zcg zch zca zbu zgb zcz zgu zcA z7N z3D z3n z8u z7L z5X zeY zeX Option.map_some z6D zcj
end
section
open Go
set_option maxRecDepth 100000
@[simp] theorem ty3 : z0t Try.prog 3 = some ⟨.int .i64, 1, 8, (some [(.sc (.int .i64 0))])⟩ := by kernel_rfl
@[simp] theorem ty4 : z0t Try.prog 4 = some ⟨.bool, 1, 1, (some [(.sc (.bool false))])⟩ := by kernel_rfl
@[simp] theorem ty5 : z0t Try.prog 5 = some ⟨.int .u8, 1, 1, (some [(.sc (.int .u8 0))])⟩ := by kernel_rfl
@[simp] theorem ty9 : z0t Try.prog 9 = some ⟨.string, 1, 16, (some [(.sc (.string ByteArray.empty))])⟩ := by kernel_rfl
@[simp] theorem ty23 : z0t Try.prog 23 = some ⟨.slice 9, 1, 24, (some [(.os 1 0 [])])⟩ := by kernel_rfl
@[simp] theorem ty32 : z0t Try.prog 32 = some ⟨.map 3 9, 1, 8, (some [(.sc (.map none))])⟩ := by kernel_rfl
@[simp] theorem mt32 : z3B Try.prog 32 = some ((some .i64), 9) := by kernel_rfl
@[simp] theorem zv32 : z8b Try.prog 9 = some (.string ByteArray.empty) := by kernel_rfl
@[simp] theorem ty33 : z0t Try.prog 33 = some ⟨.slice 3, 1, 24, (some [(.os 1 0 [])])⟩ := by kernel_rfl
@[simp] theorem ty42 : z0t Try.prog 42 = some ⟨.map 9 4, 1, 8, (some [(.sc (.map none))])⟩ := by kernel_rfl
@[simp] theorem mt42 : z3B Try.prog 42 = some (none, 4) := by kernel_rfl
@[simp] theorem zv42 : z8b Try.prog 4 = some (.bool false) := by kernel_rfl
@[simp] theorem ty43 : z0t Try.prog 43 = some ⟨.int .u64, 1, 8, (some [(.sc (.int .u64 0))])⟩ := by kernel_rfl
@[simp] theorem ty45 : z0t Try.prog 45 = some ⟨.slice 5, 1, 24, (some [(.os 1 0 [])])⟩ := by kernel_rfl
@[simp] theorem ty50 : z0t Try.prog 50 = some ⟨.map 51 3, 1, 8, (some [(.sc (.map none))])⟩ := by kernel_rfl
@[simp] theorem mt50 : z3B Try.prog 50 = some ((some .i8), 3) := by kernel_rfl
@[simp] theorem zv50 : z8b Try.prog 3 = some (.int .i64 0) := by kernel_rfl
@[simp] theorem zhB : z0t Try.prog 51 = some ⟨.array 2 3, 2, 16, (some [(.sc (.int .i64 0)), (.sc (.int .i64 0))])⟩ := by kernel_rfl
@[simp] theorem ty57 : z0t Try.prog 57 = some ⟨.int .u32, 1, 4, (some [(.sc (.int .u32 0))])⟩ := by kernel_rfl
@[simp] theorem ty59 : z0t Try.prog 59 = some ⟨.int .u64, 1, 8, (some [(.sc (.int .u64 0))])⟩ := by kernel_rfl
def cf3 : Cfg := { wio := fun f i => (f == 999999 && (i == 0)), live := fun r => none, dr := fun r => none }
@[simp] theorem wio3 : cf3.wio = fun f i => (f == 999999 && (i == 0)) := rfl
@[simp] theorem live3 : cf3.live = fun r => none := rfl
@[simp] theorem wr3 : cf3.wr = fun _ => [] := rfl
def cf6 : Cfg := { wio := fun f i => (f == 999999 && (i == 0)), live := fun r => none, dr := fun r => none }
@[simp] theorem wio6 : cf6.wio = fun f i => (f == 999999 && (i == 0)) := rfl
@[simp] theorem live6 : cf6.live = fun r => none := rfl
@[simp] theorem wr6 : cf6.wr = fun _ => [] := rfl
def cf8 : Cfg := { wio := fun f i => (f == 999999 && (i == 0)), live := fun r => none, dr := fun r => none }
@[simp] theorem wio8 : cf8.wio = fun f i => (f == 999999 && (i == 0)) := rfl
@[simp] theorem live8 : cf8.live = fun r => none := rfl
@[simp] theorem wr8 : cf8.wr = fun _ => [] := rfl
def cf9 : Cfg := { wio := fun f i => (f == 999999 && (i == 0)), live := fun r => if r = 4 then some [0, 1, 12, 13] else none, dr := fun r => if r = 6 then some [(0, 0), (1, 0), (2, 0), (3, 0), (4, 0), (5, 0), (6, 0), (7, 0), (8, 0)] else none }
@[simp] theorem wio9 : cf9.wio = fun f i => (f == 999999 && (i == 0)) := rfl
@[simp] theorem live9 : cf9.live = fun r => if r = 4 then some [0, 1, 12, 13] else none := rfl
@[simp] theorem wr9 : cf9.wr = fun _ => [] := rfl
def cf10 : Cfg := { wio := fun f i => (f == 999999 && (i == 0)), live := fun r => if r = 3 then some [0, 1, 5, 6] else none, dr := fun r => none, fz := fun r => if r = 2 then some [5] else if r = 999998 then some [] else none }
@[simp] theorem wio10 : cf10.wio = fun f i => (f == 999999 && (i == 0)) := rfl
@[simp] theorem live10 : cf10.live = fun r => if r = 3 then some [0, 1, 5, 6] else none := rfl
@[simp] theorem wr10 : cf10.wr = fun _ => [] := rfl
def cf12 : Cfg := { wio := fun f i => (f == 999999 && (i == 0)), live := fun r => if r = 3 then some [0, 1, 5, 6] else if r = 7 then some [0, 1, 5, 6, 18, 19, 20] else none, dr := fun r => none, fz := fun r => if r = 2 then some [5] else if r = 999998 then some [] else none }
@[simp] theorem wio12 : cf12.wio = fun f i => (f == 999999 && (i == 0)) := rfl
@[simp] theorem live12 : cf12.live = fun r => if r = 3 then some [0, 1, 5, 6] else if r = 7 then some [0, 1, 5, 6, 18, 19, 20] else none := rfl
@[simp] theorem wr12 : cf12.wr = fun _ => [] := rfl
def cf13 : Cfg := { wio := fun f i => (f == 999999 && (i == 0)), live := fun r => if r = 3 then some [0, 1, 5, 6] else none, dr := fun r => if r = 5 then some [(0, 0), (1, 0), (2, 0), (3, 0), (4, 0), (5, 0), (6, 0)] else none }
@[simp] theorem wio13 : cf13.wio = fun f i => (f == 999999 && (i == 0)) := rfl
@[simp] theorem live13 : cf13.live = fun r => if r = 3 then some [0, 1, 5, 6] else none := rfl
@[simp] theorem wr13 : cf13.wr = fun _ => [] := rfl
def cf15 : Cfg := { wio := fun f i => (f == 999999 && (i == 0)), live := fun r => none, dr := fun r => none }
@[simp] theorem wio15 : cf15.wio = fun f i => (f == 999999 && (i == 0)) := rfl
@[simp] theorem live15 : cf15.live = fun r => none := rfl
@[simp] theorem wr15 : cf15.wr = fun _ => [] := rfl
def cf16 : Cfg := { wio := fun f i => (f == 999999 && (i == 0)), live := fun r => if r = 3 then some [0, 1, 5, 19, 20] else if r = 8 then some [1, 5, 7] else if r = 13 then some [1, 5, 7, 8, 9, 10, 46, 47] else none, dr := fun r => if r = 15 then some [(0, 0), (1, 0), (2, 0), (3, 0), (4, 0), (5, 0), (6, 0), (7, 0), (8, 0), (9, 0), (10, 0), (11, 1), (12, 2)] else none, fz := fun r => if r = 999998 then some [] else none }
@[simp] theorem wio16 : cf16.wio = fun f i => (f == 999999 && (i == 0)) := rfl
@[simp] theorem live16 : cf16.live = fun r => if r = 3 then some [0, 1, 5, 19, 20] else if r = 8 then some [1, 5, 7] else if r = 13 then some [1, 5, 7, 8, 9, 10, 46, 47] else none := rfl
@[simp] theorem wr16 : cf16.wr = fun _ => [] := rfl
def cf19 : Cfg := { wio := fun f i => (f == 999999 && (i == 0)), live := fun r => if r = 6 then some [0, 1, 6] else none, dr := fun r => none }
@[simp] theorem wio19 : cf19.wio = fun f i => (f == 999999 && (i == 0)) := rfl
@[simp] theorem live19 : cf19.live = fun r => if r = 6 then some [0, 1, 6] else none := rfl
@[simp] theorem wr19 : cf19.wr = fun _ => [] := rfl
def cf20 : Cfg := { wio := fun f i => (f == 999999 && (i == 0)), live := fun r => if r = 4 then some [0, 1, 18, 19] else none, dr := fun r => none }
@[simp] theorem wio20 : cf20.wio = fun f i => (f == 999999 && (i == 0)) := rfl
@[simp] theorem live20 : cf20.live = fun r => if r = 4 then some [0, 1, 18, 19] else none := rfl
@[simp] theorem wr20 : cf20.wr = fun _ => [] := rfl
def cf21 : Cfg := { wio := fun f i => (f == 999999 && (i == 0)), live := fun r => if r = 2 then some [0, 1, 5] else none, dr := fun r => none, fz := fun r => if r = 999998 then some [] else none, dt := fun r => if r = 6 then some (.op 1 0 (.op 2 0 (.op 3 0 (.op 5 3 (.op 8 3 (.op 9 3 (.op 10 3 (.alt (.op 0 1 (.alt (.op 4 2 (.op 6 1 (.op 7 2 (.op 11 2 (.op 12 0 .nil))))) (.op 6 1 (.op 4 2 (.op 7 2 (.op 11 2 (.op 12 0 .nil))))))) (.op 6 1 (.op 0 1 (.op 4 2 (.op 7 2 (.op 11 2 (.op 12 0 .nil)))))))))))))) else none }
@[simp] theorem wio21 : cf21.wio = fun f i => (f == 999999 && (i == 0)) := rfl
@[simp] theorem live21 : cf21.live = fun r => if r = 2 then some [0, 1, 5] else none := rfl
@[simp] theorem wr21 : cf21.wr = fun _ => [] := rfl
def cf22 : Cfg := { wio := fun f i => (f == 999999 && (i == 0)), live := fun r => none, dr := fun r => none }
@[simp] theorem wio22 : cf22.wio = fun f i => (f == 999999 && (i == 0)) := rfl
@[simp] theorem live22 : cf22.live = fun r => none := rfl
@[simp] theorem wr22 : cf22.wr = fun _ => [] := rfl
def cf30 : Cfg := { wio := fun f i => (f == 41 && (i == 0)) || (f == 999999 && (i == 0)), live := fun r => none, dr := fun r => none }
@[simp] theorem wio30 : cf30.wio = fun f i => (f == 41 && (i == 0)) || (f == 999999 && (i == 0)) := rfl
@[simp] theorem live30 : cf30.live = fun r => none := rfl
@[simp] theorem wr30 : cf30.wr = fun _ => [] := rfl
def cf31 : Cfg := { wio := fun f i => (f == 999999 && (i == 0)), live := fun r => none, dr := fun r => none }
@[simp] theorem wio31 : cf31.wio = fun f i => (f == 999999 && (i == 0)) := rfl
@[simp] theorem live31 : cf31.live = fun r => none := rfl
@[simp] theorem wr31 : cf31.wr = fun _ => [] := rfl
def cf33 : Cfg := { wio := fun f i => (f == 999999 && (i == 0)), live := fun r => none, dr := fun r => none }
@[simp] theorem wio33 : cf33.wio = fun f i => (f == 999999 && (i == 0)) := rfl
@[simp] theorem live33 : cf33.live = fun r => none := rfl
@[simp] theorem wr33 : cf33.wr = fun _ => [] := rfl
def cf41 : Cfg := { wio := fun f i => (f == 999999 && (i == 0)), live := fun r => if r = 1 then some [0, 2, 3] else none, dr := fun r => if r = 3 then some [(0, 0), (1, 0), (2, 3), (3, 3), (4, 0), (5, 0), (6, 0), (7, 0), (8, 0), (9, 0), (10, 0), (11, 0), (12, 0), (13, 2), (14, 0), (15, 2)] else none }
@[simp] theorem wio41 : cf41.wio = fun f i => (f == 999999 && (i == 0)) := rfl
@[simp] theorem live41 : cf41.live = fun r => if r = 1 then some [0, 2, 3] else none := rfl
@[simp] theorem wr41 : cf41.wr = fun _ => [] := rfl
def z2F (f : FuncId) : Option Cfg :=
  if f = 3 then some cf3 else
  if f = 6 then some cf6 else
  if f = 8 then some cf8 else
  if f = 9 then some cf9 else
  if f = 10 then some cf10 else
  if f = 12 then some cf12 else
  if f = 13 then some cf13 else
  if f = 15 then some cf15 else
  if f = 16 then some cf16 else
  if f = 19 then some cf19 else
  if f = 20 then some cf20 else
  if f = 21 then some cf21 else
  if f = 22 then some cf22 else
  if f = 30 then some cf30 else
  if f = 31 then some cf31 else
  if f = 33 then some cf33 else
  if f = 41 then some cf41 else none
theorem zi5 : z2F 3 = some cf3 := rfl
theorem zi4 : z2F 6 = some cf6 := rfl
theorem zi3 : z2F 9 = some cf9 := rfl
theorem zhq : z2F 10 = some cf10 := rfl
theorem zhp : z2F 16 = some cf16 := rfl
theorem zho : z2F 21 = some cf21 := rfl
theorem zhn : z2F 31 = some cf31 := rfl
theorem fn3 : Try.prog.funcs[3]? = some Try.f3 := by kernel_rfl
theorem fn6 : Try.prog.funcs[6]? = some Try.f6 := by kernel_rfl
theorem fn9 : Try.prog.funcs[9]? = some Try.f9 := by kernel_rfl
theorem zhY : Try.prog.funcs[10]? = some Try.f10 := by kernel_rfl
theorem zhX : Try.prog.funcs[16]? = some Try.f16 := by kernel_rfl
theorem zhW : Try.prog.funcs[21]? = some Try.f21 := by kernel_rfl
theorem zhV : Try.prog.funcs[31]? = some Try.f31 := by kernel_rfl
noncomputable def cd3 : Code := match Try.f3.body with | some c => c | none => .skip
theorem bd3 : Try.f3.body = some cd3 := by kernel_rfl
noncomputable def cd6 : Code := match Try.f6.body with | some c => c | none => .skip
theorem bd6 : Try.f6.body = some cd6 := by kernel_rfl
noncomputable def cd9 : Code := match Try.f9.body with | some c => c | none => .skip
theorem bd9 : Try.f9.body = some cd9 := by kernel_rfl
noncomputable def zia : Code := match Try.f10.body with | some c => c | none => .skip
theorem zie : Try.f10.body = some zia := by kernel_rfl
noncomputable def zi9 : Code := match Try.f16.body with | some c => c | none => .skip
theorem zid : Try.f16.body = some zi9 := by kernel_rfl
noncomputable def zi8 : Code := match Try.f21.body with | some c => c | none => .skip
theorem zic : Try.f21.body = some zi8 := by kernel_rfl
noncomputable def zi7 : Code := match Try.f31.body with | some c => c | none => .skip
theorem zib : Try.f31.body = some zi7 := by kernel_rfl
noncomputable def xt : z0b -> z0b := xtF
noncomputable def L : z0b := Lim Try.prog xt z2F
theorem zge {f : FuncId} {c : Cfg} {fn : Func} {args : List T} {o : T × List T} (hc : z2F f = some c) (hfn : Try.prog.funcs[f]? = some fn) (h : z6O Try.prog L c LFm fn args = some o) : L f args = some o := zbS hc hfn h
end
section
open Go
theorem zgz {f : FuncId} {cf : Cfg} {fn : Func} {c : Code} {args : List T} {r : T} {outs : List T} (hc : z2F f = some cf) (hfn : Try.prog.funcs[f]? = some fn) (hb : fn.body = some c) (ha : args.length <= fn.ntmps /\ (args.filter z1g).length <= 1 := by exact ⟨of_decide_eq_true rfl, of_decide_eq_true rfl⟩) (hz : cf.fz 999998 = none := by rfl) (g : wpC Try.prog L cf LFm c (z0V fn.ntmps args) (zeY Try.prog fn args r outs) := by simp only [z0V, z1Q, z1A, z2A, z1g]; exact z4K) : L f args = some (r, outs) := zge hc hfn (zem hb ha g hz)
theorem zf8 {f : FuncId} {cf : Cfg} {fn : Func} {c : Code} {args : List T} {r : T} {outs : List T} (hc : z2F f = some cf) (hfn : Try.prog.funcs[f]? = some fn) (hb : fn.body = some c) (ha : args.length <= fn.ntmps /\ (args.filter z1g).length <= 1 := by exact ⟨of_decide_eq_true rfl, of_decide_eq_true rfl⟩) (hz : (cf.fz 999998).isSome = true := by rfl) (g : wpC Try.prog L cf LFm c (z0V fn.ntmps args) (zeX Try.prog fn args r outs) := by simp only [z0V, z1Q, z1A, z2A, z1g]; exact z4K) : L f args = some (r, outs) := zge hc hfn (zd5 hb ha hz g)
end
section
open Go
theorem ze8 {a0 a1 : ByteArray} {r : Int} (h : zgj a0 a1 = some r) : L 26 [.sc (.string a0), .sc (.string a1)] = some (.sc (.int .i64 r), [.dead, .dead]) := by
  refine z8y rfl fun C => ?_
  simp only [xt, xtF, xtC, Nat.reduceEqDiff, if_true, if_false, zgh, h, Option.map_some]
instance {a0 a1 : ByteArray} : Ok (zgj a0 a1) (fun r => L 26 [.sc (.string a0), .sc (.string a1)] = some (.sc (.int .i64 r), [.dead, .dead])) := ⟨fun _ h => ze8 h⟩
theorem zcW {a0 a1 : Int} {r : Int} (h : zcX a0 a1 = some r) : L 25 [.sc (.int .i64 a0), .sc (.int .i64 a1)] = some (.sc (.int .i64 r), [.dead, .dead]) := by
  refine z8y rfl fun C => ?_
  simp only [xt, xtF, xtC, Nat.reduceEqDiff, if_true, if_false, zcT, h, Option.map_some]
instance {a0 a1 : Int} : Ok (zcX a0 a1) (fun r => L 25 [.sc (.int .i64 a0), .sc (.int .i64 a1)] = some (.sc (.int .i64 r), [.dead, .dead])) := ⟨fun _ h => zcW h⟩
theorem ze6 {a0 a1 : ByteArray} {a2 r : Int} (h : zgi a0 a1 a2 = some r) : L 14 [.sc (.string a0), .sc (.string a1), .sc (.int .i64 a2)] = some (.sc (.int .i64 r), [.dead, .dead, .dead]) := by
  refine z8y rfl fun C => ?_
  simp only [xt, xtF, xtC, Nat.reduceEqDiff, if_true, if_false, zgg, h, Option.map_some]
instance {a0 a1 : ByteArray} {a2 : Int} : Ok (zgi a0 a1 a2) (fun r => L 14 [.sc (.string a0), .sc (.string a1), .sc (.int .i64 a2)] = some (.sc (.int .i64 r), [.dead, .dead, .dead])) := ⟨fun _ h => ze6 h⟩
end
section
open Go
noncomputable section
set_option maxRecDepth 100000
set_option maxHeartbeats 6000000
def z1Y (a0 : ByteArray) (a1 : Int) : Option (ByteArray) :=
  (z3y a0 0 (if a1 < (a0.size : Int) then a1 else (a0.size : Int))).bind fun v2 =>
  some v2
theorem z7x {a0 : ByteArray} {a1 : Int} {r : ByteArray} (h : z1Y a0 a1 = some r) : L 6 [.sc (.string a0), .sc (.int .i64 a1)] = some (.sc (.string r), [.dead, .dead]) := by
  have h := zcP h; unfold z1Y at h; exact zgz zi4 fn6 bd6
abbrev z1C (a0 : List ByteArray) (a1 : List ByteArray) : Int -> Option (Int ⊕ Bool)
  | w10 =>
  if w10 < (a0.length : Int) then
    (atI a0 w10).bind fun v13 =>
    (atI a1 w10).bind fun v14 =>
    if v13 = v14 then
      z3A (IntKind.i64.wrap (w10 + 1))
    else
      z2z <|
      some false
  else
    z2z <|
    some true
instance {a0 : List ByteArray} {a1 : List ByteArray} : Hd (z1C a0 a1) := ⟨fun w10 => ([(13, xI w10)], [])⟩
def z1X (a0 : List ByteArray) (a1 : List ByteArray) : Option (Bool) :=
  if (a0.length : Int) = (a1.length : Int) then
    z1V (z1C a0 a1) LFm 0
  else
    some false
instance ref01_Same_ok {a0 : List ByteArray} {a1 : List ByteArray} : Ok (z1X a0 a1) (fun r => L 9 [.sl a0.length (a0.map fun x0 => .sc (.string x0)), .sl a1.length (a1.map fun x0 => .sc (.string x0))] = some (.sc (.bool r), [.dead, .dead])) := ⟨fun r h => by have h := zcP h; unfold z1X at h; exact zgz zi3 fn9 bd9⟩
def z1c (a0 : ByteArray) (a1 : ByteArray) : Option (Int) :=
  if a0.size < a1.size then
    some (-1)
  else
    if (a0.size : Int) = (a1.size : Int) then
      if (zbf a0 a1) = true then
        some (-1)
      else
        if a0 = a1 then
          some 0
        else
          some 1
    else
      if a0 = a1 then
        some 0
      else
        some 1
instance ref01_Compare_ok {a0 : ByteArray} {a1 : ByteArray} : Ok (z1c a0 a1) (fun r => L 31 [.sc (.string a0), .sc (.string a1)] = some (.sc (.int .i64 r), [.dead, .dead])) := ⟨fun r h => by have h := zcP h; unfold z1c at h; exact zgz zhn zhV zib⟩
end
end
section
theorem zhG (a b : Nat) : (a + 1 + b = a + (b + 1)) = True := by simp only [eq_iff_iff, iff_true]; omega
end
section
open Go
noncomputable section
set_option maxRecDepth 100000
set_option maxHeartbeats 6000000
attribute [local simp] zhG
abbrev z1b (a0 : List ByteArray) (a1 : ByteArray) : Int -> Option (Int ⊕ List ByteArray)
  | w15 =>
  if 0 < w15 then
    (atI a0 (IntKind.i64.wrap (w15 - 1))).bind fun v18 =>
    (z1c a1 v18).bind fun v19 =>
    if v19 < 0 then
      z3A (IntKind.i64.wrap (w15 - 1))
    else
      z2z <|
      if v18 = a1 then
        some a0
      else
        (z1f a0 0 w15).bind fun v21 =>
        (z1f a0 w15 (a0.length : Int)).bind fun v22 =>
        chk (z2Z 16 (v21.length)) <|
        chk (z2Z 16 (v21.length + 1)) <|
        chk (z2Z 16 (v21.length + 1 + v22.length)) <|
        some ((v21 ++ [a1]) ++ v22)
  else
    z2z <|
    (z1f a0 0 w15).bind fun v23 =>
    (z1f a0 w15 (a0.length : Int)).bind fun v24 =>
    chk (z2Z 16 (v23.length)) <|
    chk (z2Z 16 (v23.length + 1)) <|
    chk (z2Z 16 (v23.length + 1 + v24.length)) <|
    some ((v23 ++ [a1]) ++ v24)
instance {a0 : List ByteArray} {a1 : ByteArray} : Hd (z1b a0 a1) := ⟨fun w15 => ([(5, xI w15)], [])⟩
def z1s (a0 : List ByteArray) (a1 : ByteArray) : Option (List ByteArray) :=
  z1V (z1b a0 a1) LFm (a0.length : Int)
instance ref01_Insert_ok {a0 : List ByteArray} {a1 : ByteArray} : Ok (z1s a0 a1) (fun r => L 21 [.sl a0.length (a0.map fun x0 => .sc (.string x0)), .sc (.string a1)] = some (.sl r.length (r.map fun x0 => .sc (.string x0)), [.dead, .dead])) := ⟨fun r h => by have h := zcP h; unfold z1s at h; exact zf8 zho zhW zic⟩
abbrev z0P (a0 : ByteArray) (a1 : Int) : List ByteArray × Int -> Option ((List ByteArray × Int) ⊕ List ByteArray)
  | (w11, w12) =>
  if (IntKind.i64.wrap (w12 + a1)) <= (a0.size : Int) then
    (z3y a0 w12 (IntKind.i64.wrap (w12 + a1))).bind fun v15 =>
    (z1s w11 v15).bind fun v16 =>
    z3A (v16, IntKind.i64.wrap (w12 + 1))
  else
    z2z <|
    some w11
instance {a0 : ByteArray} {a1 : Int} : Hd (z0P a0 a1) := ⟨fun (w11, w12) => ([(5, .one (.t none (.sl w11.length (w11.map fun x0 => .sc (.string x0))))), (6, xI w12)], [])⟩
def z0H (a0 : ByteArray) (a1 : Int) : Option (List ByteArray) :=
  z1V (z0P a0 a1) LFm ([], 0)
instance ref01_Factors_ok {a0 : ByteArray} {a1 : Int} : Ok (z0H a0 a1) (fun r => L 10 [.sc (.string a0), .sc (.int .i64 a1)] = some (.sl r.length (r.map fun x0 => .sc (.string x0)), [.dead, .dead])) := ⟨fun r h => by have h := zcP h; unfold z0H at h; exact zf8 zhq zhY zie⟩
end
end
section
open Go
theorem z5W {a b c : ByteArray} (h1 : z1E a b < 0) (h2 : z1E b c < 0) : z1E a c < 0 := by
  have h3 : z1E a c <= 0 := z2T _ _ _ (Int.le_of_lt h1) (Int.le_of_lt h2)
  rcases Int.lt_or_eq_of_le h3 with h | h
  · exact h
  · have e := (z1e a c).1 h
    subst e
    have := z0D a b
    omega
theorem zgB {k : Nat} (h : k < 4611686018427387904) (h0 : 0 < k) : IntKind.i64.wrap ((k : Int) - 1) = ((k - 1 : Nat) : Int) := by
  rw [IntKind.wrap_i64]; omega
theorem zcZ (a b : ByteArray) : zbf a b = decide (Lib.compareBytes a.data.toList b.data.toList = -1) := by
  unfold zbf
  rw [ByteArray.toList_eq, ByteArray.toList_eq]
  exact zcx _ _
theorem zbB (a b : ByteArray) : z1c a b = some (z1E a b) := by
  unfold z1c
  rcases Nat.lt_trichotomy a.size b.size with h | h | h
  · rw [if_pos h, zcs h]
  · rw [if_neg (by omega), if_pos (by omega), zcZ, z5p h]
    rcases z9N a.data.toList b.data.toList with h1 | h1 | h1
    · rw [h1, if_pos (by simp)]
    · rw [h1, if_neg (by simp), if_pos]
      exact (z1e a b).1 (by rw [z5p h, h1])
    · rw [h1, if_neg (by simp), if_neg]
      rintro rfl
      have := (z1e a a).2 rfl
      rw [z5p h, h1] at this
      omega
  · have hne : ¬ a = b := by rintro rfl; omega
    rw [if_neg (by omega), if_neg (by omega), if_neg hne, zct h]
theorem zeM {E : List ByteArray} {x : ByteArray} (hs : E.Pairwise fun a b => z1E a b < 0) (hl : E.length <= 1000000) :
    ∃ F, z1s E x = some F /\ (F.Pairwise fun a b => z1E a b < 0) /\ (∀ e, e ∈ F ↔ e ∈ E ∨ e = x) /\ F.length <= E.length + 1 := by
  have build : ∀ k : Nat, k <= E.length -> (∀ j (hj : j < E.length), j < k -> z1E E[j] x < 0) -> (∀ j (hj : j < E.length), k <= j -> z1E x E[j] < 0) -> (((z1f E 0 (k : Int)).bind fun v23 => (z1f E (k : Int) (E.length : Int)).bind fun v24 => chk (z2Z 16 (v23.length)) <| chk (z2Z 16 (v23.length + 1)) <| chk (z2Z 16 (v23.length + 1 + v24.length)) <| some ((v23 ++ [x]) ++ v24)) = some ((E.take k ++ [x]) ++ E.drop k)) /\
      ((E.take k ++ [x] ++ E.drop k).Pairwise fun a b => z1E a b < 0) /\ (∀ e, e ∈ E.take k ++ [x] ++ E.drop k ↔ e ∈ E ∨ e = x) /\ (E.take k ++ [x] ++ E.drop k).length <= E.length + 1 := fun k hk hlo hhi => by
    have hmem : ∀ e, e ∈ E ↔ e ∈ E.take k ∨ e ∈ E.drop k := fun e => by rw [← List.mem_append, List.take_append_drop]
    have hlt : ∀ e ∈ E.take k, z1E e x < 0 := fun e he => by
      obtain ⟨j, hj, rfl⟩ := List.getElem_of_mem he
      rw [List.length_take] at hj
      rw [List.getElem_take]; exact hlo j (by omega) (by omega)
    have hgt : ∀ e ∈ E.drop k, z1E x e < 0 := fun e he => by
      obtain ⟨j, hj, rfl⟩ := List.getElem_of_mem he
      rw [List.length_drop] at hj
      rw [List.getElem_drop]; exact hhi (k + j) (by omega) (by omega)
    refine ⟨?_, ?_, fun e => ?_, ?_⟩
    · rw [zbE hk, Option.bind_some, z8o hk, Option.bind_some]
      have e1 : (E.take k).length = k := by rw [List.length_take]; omega
      have e2 : (E.drop k).length = E.length - k := List.length_drop ..
      rw [z5r _ (by unfold z2Z; omega), z5r _ (by unfold z2Z; omega), z5r _ (by unfold z2Z; omega)]
    · rw [List.pairwise_append, List.pairwise_append]
      refine ⟨⟨hs.sublist (List.take_sublist _ _), by simp, fun a ha b hb => ?_⟩, hs.sublist (List.drop_sublist _ _), fun a ha b hb => ?_⟩
      · obtain rfl := List.mem_singleton.1 hb; exact hlt a ha
      · rcases List.mem_append.1 ha with ha | ha
        · exact z5W (hlt a ha) (hgt b hb)
        · obtain rfl := List.mem_singleton.1 ha; exact hgt b hb
    · rw [List.mem_append, List.mem_append, List.mem_singleton, hmem]
      constructor
      · rintro ((h | h) | h)
        · exact .inl (.inl h)
        · exact .inr h
        · exact .inl (.inr h)
      · rintro ((h | h) | h)
        · exact .inl (.inl h)
        · exact .inr h
        · exact .inl (.inr h)
    · simp only [List.length_append, List.length_take, List.length_drop, List.length_singleton]; omega
  unfold z1s
  refine Exists.elim (z1I (b := z1b E x) (fun z => ∃ k : Nat, z = (k : Int) /\ k <= E.length /\ ∀ j (hj : j < E.length), k <= j -> z1E x E[j] < 0) (fun z => z.toNat)
    (fun F => (F.Pairwise fun a b => z1E a b < 0) /\ (∀ e, e ∈ F ↔ e ∈ E ∨ e = x) /\ F.length <= E.length + 1) ?_ LFm (E.length : Int) ⟨E.length, rfl, Nat.le_refl _, fun j hj h => by omega⟩ (by simp only [LFm]; omega)) fun F h => ⟨F, h.1, h.2⟩
  rintro z ⟨k, rfl, hk, hhi⟩
  simp only [z1b]
  by_cases k0 : k = 0
  · subst k0
    right
    rw [if_neg (by omega)]
    obtain ⟨b1, b2⟩ := build 0 (by omega) (fun j hj h => by omega) hhi
    exact ⟨_, by unfold z2z; rw [b1]; rfl, b2⟩
  · have hk1 : k - 1 < E.length := by omega
    rw [if_pos (by omega), zgB (by omega) (by omega), z2J hk1, Option.bind_some, zbB, Option.bind_some]
    by_cases hc : z1E x E[k - 1] < 0
    · left
      rw [if_pos hc]
      refine ⟨_, rfl, ⟨k - 1, rfl, by omega, fun j hj h => ?_⟩, by omega⟩
      by_cases e : j = k - 1
      · subst e; exact hc
      · exact hhi j hj (by omega)
    · right
      rw [if_neg hc]
      by_cases he : E[k - 1] = x
      · rw [if_pos he]
        have hm : x ∈ E := he ▸ List.getElem_mem hk1
        exact ⟨E, rfl, hs, fun e => ⟨fun h => .inl h, fun h => h.elim id fun h => h ▸ hm⟩, Nat.le_succ _⟩
      · rw [if_neg he]
        have hlt : z1E E[k - 1] x < 0 := by
          have h1 := z0D x E[k - 1]
          have h2 : z1E x E[k - 1] ≠ 0 := fun h => he ((z1e _ _).1 h).symm
          omega
        have hlo : ∀ j (hj : j < E.length), j < k -> z1E E[j] x < 0 := fun j hj h => by
          by_cases e : j = k - 1
          · subst e; exact hlt
          · exact z5W (List.pairwise_iff_getElem.1 hs j (k - 1) hj hk1 (by omega)) hlt
        obtain ⟨b1, b2⟩ := build k hk hlo hhi
        exact ⟨_, by unfold z2z; rw [b1]; rfl, b2⟩
theorem zbe {a b : List ByteArray} (ha : a.Pairwise fun x y => z1E x y < 0) (hb : b.Pairwise fun x y => z1E x y < 0) (h : ∀ x, x ∈ a ↔ x ∈ b) : a = b := by
  have nd : ∀ {l : List ByteArray}, (l.Pairwise fun x y => z1E x y < 0) -> l.Nodup := fun h => h.imp fun {x y} hxy e => by
    subst e
    have := (z1e x x).2 rfl
    omega
  refine List.Perm.eq_of_pairwise (le := fun x y => z1E x y < 0) (fun x y _ _ h1 h2 => ?_) ha hb ((List.perm_ext_iff_of_nodup (nd ha) (nd hb)).2 h)
  have := z0D x y
  omega
theorem zbw (l : List ByteArray) (h : l.length < 4611686018427387904) : z1X l l = some true := by
  unfold z1X
  rw [if_pos rfl]
  refine zbR l.length (fun k => (k : Int)) rfl (by simp only [LFm]; omega) (fun k hk => ?_) ?_
  · simp only [z1C]
    rw [if_pos (by omega), z2J hk, Option.bind_some, Option.bind_some, if_pos rfl, za4 (by omega)]
  · simp only [z1C]
    rw [if_neg (by omega)]
end
section
open Go
theorem z6l (a : List UInt8) : (mkB a).size = a.length := rfl
theorem zeH {a b : List UInt8} (h : mkB a = mkB b) : a = b := by
  have := congrArg (fun s : ByteArray => s.data.toList) h
  exact this
theorem z6h {s : ByteArray} {a n : Nat} (h : a + n <= s.size) : z3y s (a : Int) ((a + n : Nat) : Int) = some (mkB ((s.data.toList.drop a).take n)) := by
  unfold z3y
  rw [if_pos (by omega), Int.toNat_natCast, Int.toNat_natCast]
  congr 1
  apply ByteArray.ext
  apply Array.toList_inj.1
  simp only [ByteArray.data_extract, Array.toList_extract, List.extract, mkB]
  rw [show a + n - a = n by omega]
end
section
open Go
noncomputable section
set_option maxRecDepth 100000
set_option maxHeartbeats 6000000
attribute [local simp] zhr
end
end
section
open Go
set_option maxRecDepth 100000
def cnt (c : Nat) : Nat := (List.range 11).countP fun q => c.testBit q
end
section
open Go
set_option maxRecDepth 100000
end
section
open Go
noncomputable section
set_option maxRecDepth 100000
set_option maxHeartbeats 6000000
@[local simp] theorem ba51 (fr : Fr) (parts : List (Nat × Operand)) : z7U Try.prog fr 51 parts = match z5n fr (fun i => some (i * 1, 1, false)) ([.sc (.int .i64 0), .sc (.int .i64 0)].map (A.t none)) parts with | some xs => some (E.ag xs) | none => none := by unfold z7U; rw [zhB]; simp only [ty3]; rfl
abbrev z0o (a1 : Int) (w69 : Int) (w70 : List Int) : Int × List Int × (List ((Int × Int) × Int)) -> Option ((Int × List Int × (List ((Int × Int) × Int))) ⊕ ((Int × List Int) ⊕ List Int))
  | (w86, w87, w88) =>
  if w86 < (IntKind.i64.wrap ((w70.length : Int) - (if (IntKind.i64.wrap (a1 - w69)) < w69 then (IntKind.i64.wrap (a1 - w69)) else w69))) then
    (atI w70 w86).bind fun v93 =>
    (atI w70 (IntKind.i64.wrap (w86 + (if (IntKind.i64.wrap (a1 - w69)) < w69 then (IntKind.i64.wrap (a1 - w69)) else w69)))).bind fun v94 =>
    if ((z4D (v93, v94) w88).isSome) = true then
      (atI w87 w86).bind fun v95 =>
      z3A (IntKind.i64.wrap (w86 + 1), (w87.set w86.toNat ((z4D (v93, v94) w88).getD 0)), w88)
    else
      (atI w87 w86).bind fun v96 =>
      z3A (IntKind.i64.wrap (w86 + 1), (w87.set w86.toNat (w88.length : Int)), z3t (v93, v94) (w88.length : Int) w88)
  else
    z2z <|
    z3A (IntKind.i64.wrap (w69 + (if (IntKind.i64.wrap (a1 - w69)) < w69 then (IntKind.i64.wrap (a1 - w69)) else w69)), w87)
instance {a1 : Int} {w69 : Int} {w70 : List Int} : Hd (z0o a1 w69 w70) := ⟨fun (w86, w87, w88) => ([(47, xI w86)], [(9, .os 1 w87.length (w87.map fun x0 => .sc (.int .i64 x0))), (10, .mp (some .i8) (w88.map fun x0 => (.agg #[.int .i64 x0.1.1, .int .i64 x0.1.2], .int .i64 x0.2)))])⟩
abbrev z0h (a1 : Int) : Int × List Int -> Option ((Int × List Int) ⊕ List Int)
  | (w69, w70) =>
  if w69 < a1 then
    chk (z4h 8 (IntKind.i64.wrap ((w70.length : Int) - (if (IntKind.i64.wrap (a1 - w69)) < w69 then (IntKind.i64.wrap (a1 - w69)) else w69)))) <|
    z1V (z0o a1 w69 w70) LFm (0, List.replicate (IntKind.i64.wrap ((w70.length : Int) - (if (IntKind.i64.wrap (a1 - w69)) < w69 then (IntKind.i64.wrap (a1 - w69)) else w69))).toNat (0 : Int), ([] : List ((Int × Int) × Int)))
  else
    z2z <|
    some w70
instance {a1 : Int} : Hd (z0h a1) := ⟨fun (w69, w70) => ([(7, xI w69)], [(5, .os 1 w70.length (w70.map fun x0 => .sc (.int .i64 x0)))])⟩
abbrev z0m (a0 : ByteArray) (a1 : Int) : Int × List Int -> Option ((Int × List Int) ⊕ List Int)
  | (w50, w51) =>
  if w50 < (a0.size : Int) then
    (zaX a0 w50).bind fun v54 =>
    (atI w51 w50).bind fun v55 =>
    z3A (IntKind.i64.wrap (w50 + 1), (w51.set w50.toNat (IntKind.i64.wrap v54)))
  else
    z2z <|
    z1V (z0h a1) LFm (1, w51)
instance {a0 : ByteArray} {a1 : Int} : Hd (z0m a0 a1) := ⟨fun (w50, w51) => ([(20, xI w50)], [(5, .os 1 w51.length (w51.map fun x0 => .sc (.int .i64 x0)))])⟩
def z0r (a0 : ByteArray) (a1 : Int) : Option (List Int) :=
  chk (z4h 8 (a0.size : Int)) <|
  z1V (z0m a0 a1) LFm (0, List.replicate (a0.size : Int).toNat (0 : Int))
instance word_factorNumbers_ok {a0 : ByteArray} {a1 : Int} : Ok (z0r a0 a1) (fun r => L 16 [.sc (.string a0), .sc (.int .i64 a1)] = some (.sl r.length (r.map fun x0 => .sc (.int .i64 x0)), [.dead, .dead])) := ⟨fun r h => by have h := zcP h; unfold z0r at h; exact zf8 zhp zhX zid⟩
end
end
section
open Go
def z2p (l : List UInt8) (n i : Nat) : List UInt8 := (l.drop i).take n
theorem z6E {l : List UInt8} {n i : Nat} (h : i + n <= l.length) : (z2p l n i).length = n := by
  unfold z2p; rw [List.length_take, List.length_drop]; omega
theorem z4E {l : List UInt8} {n i j : Nat} (hi : i + n <= l.length) (hj : j + n <= l.length) : z2p l n i = z2p l n j ↔ ∀ k, k < n -> l.getD (i + k) 0 = l.getD (j + k) 0 := by
  have g : ∀ {i : Nat}, i + n <= l.length -> ∀ k, k < n -> (z2p l n i)[k]? = some (l.getD (i + k) 0) := fun {i} hi k hk => by
    unfold z2p
    rw [List.getElem?_take_of_lt hk, List.getElem?_drop, List.getElem?_eq_getElem (by omega), List.getD, List.getElem?_eq_getElem (by omega)]
    rfl
  constructor
  · intro h k hk
    have h1 := g hi k hk
    rw [h, g hj k hk] at h1
    exact (Option.some.inj h1).symm
  · intro h
    refine List.ext_getElem? fun k => ?_
    by_cases hk : k < n
    · rw [g hi k hk, g hj k hk, h k hk]
    · rw [List.getElem?_eq_none (by rw [z6E hi]; omega), List.getElem?_eq_none (by rw [z6E hj]; omega)]
theorem zdv {l : List UInt8} {n s i j : Nat} (hs : s <= n) (hi : i + (n + s) <= l.length) (hj : j + (n + s) <= l.length) : z2p l (n + s) i = z2p l (n + s) j ↔ z2p l n i = z2p l n j /\ z2p l n (i + s) = z2p l n (j + s) := by
  rw [z4E hi hj, z4E (by omega) (by omega), z4E (by omega) (by omega)]
  constructor
  · intro h
    refine ⟨fun k hk => h k (by omega), fun k hk => ?_⟩
    have := h (s + k) (by omega)
    rw [← Nat.add_assoc, ← Nat.add_assoc] at this
    exact this
  · rintro ⟨h1, h2⟩ k hk
    by_cases c : k < n
    · exact h1 k c
    · have := h2 (k - s) (by omega)
      rw [Nat.add_assoc, Nat.add_assoc, show s + (k - s) = k by omega] at this
      exact this
def mpK : List (Int × Int) -> Nat -> List ((Int × Int) × Int)
  | [], _ => []
  | k :: l, c => (k, (c : Int)) :: mpK l (c + 1)
theorem zbQ : ∀ (l : List (Int × Int)) (c : Nat), (mpK l c).length = l.length
  | [], _ => rfl
  | k :: l, c => by simp [mpK, zbQ l (c + 1)]
theorem z9t {k : Int × Int} : ∀ (l : List (Int × Int)) (c : Nat), z4D k (mpK l c) = if k ∈ l then some ((c + l.idxOf k : Nat) : Int) else none
  | [], _ => by simp [mpK, z4D]
  | a :: l, c => by
    simp only [mpK, z4D]
    by_cases h : a = k
    · subst h; simp
    · rw [if_neg h, z9t l (c + 1)]
      by_cases hm : k ∈ l
      · rw [if_pos hm, if_pos (List.mem_cons_of_mem _ hm), List.idxOf_cons, show (a == k) = false by simpa using h]
        simp; omega
      · rw [if_neg hm, if_neg (by simp only [List.mem_cons, not_or]; exact ⟨fun e => h e.symm, hm⟩)]
theorem z9b {k : Int × Int} : ∀ (l : List (Int × Int)) (c : Nat), k ∉ l -> z3t k ((c + l.length : Nat) : Int) (mpK l c) = mpK (l ++ [k]) c
  | [], c, _ => by simp [mpK, z3t]
  | a :: l, c, h => by
    simp only [List.mem_cons, not_or] at h
    simp only [mpK, z3t, List.cons_append]
    rw [if_neg (fun e => h.1 e.symm), ← z9b l (c + 1) h.2, List.length_cons, show c + 1 + l.length = c + (l.length + 1) by omega]
theorem zc6 {α : Type} [BEq α] [LawfulBEq α] {l : List α} {x y : α} (hx : x ∈ l) (h : l.idxOf x = l.idxOf y) : x = y := by
  have h1 : l.idxOf x < l.length := List.idxOf_lt_length_iff.2 hx
  have h2 : l.idxOf y < l.length := h ▸ h1
  have e1 := List.getElem_idxOf h1
  have e2 := List.getElem_idxOf h2
  rw [← e1, ← e2]
  simp only [h]
theorem zeT {l : List UInt8} {a n : Nat} (ha : 1 <= a) (han : a < n) (hn : n <= l.length) (hsz : l.length <= 1000) {V : List Int} (hV : V.length = l.length - a + 1) (hI : ∀ i j, i < V.length -> j < V.length -> (V.getD i 0 = V.getD j 0 ↔ z2p l a i = z2p l a j)) :
    ∃ (b : Nat) (V' : List Int), z0h (n : Int) ((a : Int), V) = z3A ((b : Int), V') /\ a < b /\ b <= n /\ V'.length = l.length - b + 1 /\ (∀ i j, i < V'.length -> j < V'.length -> (V'.getD i 0 = V'.getD j 0 ↔ z2p l b i = z2p l b j)) /\ ∀ i, i < V'.length -> 0 <= V'.getD i 0 /\ V'.getD i 0 < 2000 := by
  obtain ⟨s, hs⟩ : ∃ s, s = min a (n - a) := ⟨_, rfl⟩
  have e1 : (if (IntKind.i64.wrap ((n : Int) - (a : Int))) < (a : Int) then (IntKind.i64.wrap ((n : Int) - (a : Int))) else (a : Int)) = (s : Int) := by
    rw [z8f (by omega) (by omega)]
    split <;> omega
  have e2 : IntKind.i64.wrap ((V.length : Int) - (s : Int)) = ((V.length - s : Nat) : Int) := by
    rw [z8f (by omega) (by omega)]; omega
  obtain ⟨M, hM⟩ : ∃ M, M = V.length - s := ⟨_, rfl⟩
  have e3 : IntKind.i64.wrap ((a : Int) + (s : Int)) = ((a + s : Nat) : Int) := by
    rw [z8f (by omega) (by omega)]; omega
  simp only [z0h]
  rw [if_pos (by omega), e1, e2, ← hM, z5r _ (by unfold z4h; omega), Int.toNat_natCast]
  refine Exists.elim (z1I (b := z0o (n : Int) (a : Int) V) (fun z => ∃ (k : Nat) (ks : List (Int × Int)), z.1 = (k : Int) /\ k <= M /\ z.2.1.length = M /\ z.2.2 = mpK ks 0 /\ ks.length <= k /\ ∀ i, i < k -> (V.getD i 0, V.getD (i + s) 0) ∈ ks /\ z.2.1.getD i 0 = ((ks.idxOf (V.getD i 0, V.getD (i + s) 0) : Nat) : Int)) (fun z => M - z.1.toNat)
    (fun r => ∃ W, r = Sum.inl (((a + s : Nat) : Int), W) /\ W.length = M /\ (∀ i j, i < M -> j < M -> (W.getD i 0 = W.getD j 0 ↔ (V.getD i 0, V.getD (i + s) 0) = (V.getD j 0, V.getD (j + s) 0))) /\ ∀ i, i < M -> 0 <= W.getD i 0 /\ W.getD i 0 < 2000) ?_ LFm (0, List.replicate M (0 : Int), []) ⟨0, [], rfl, Nat.zero_le _, by simp, rfl, by simp, fun i hi => by omega⟩ (by simp only [LFm]; omega)) fun r h => ?_
  · rintro ⟨z, W, K⟩ ⟨k, ks, hz, hk, hW, hK, hkl, hi⟩
    simp only at hz hW hK hi
    subst hz hK
    simp only [z0o]
    rw [e1, e2, ← hM]
    by_cases c1 : k < M
    · left
      have e4 : IntKind.i64.wrap ((k : Int) + (s : Int)) = ((k + s : Nat) : Int) := by rw [z8f (by omega) (by omega)]; omega
      have hk1 : k < V.length := by omega
      have hk2 : k + s < V.length := by omega
      have hk3 : k < W.length := by omega
      have g1 : V[k] = V.getD k 0 := by rw [List.getD, List.getElem?_eq_getElem hk1]; rfl
      have g2 : V[k + s] = V.getD (k + s) 0 := by rw [List.getD, List.getElem?_eq_getElem hk2]; rfl
      rw [if_pos (by omega), e4, z2J hk1, Option.bind_some, z2J hk2, Option.bind_some, z9t, g1, g2]
      by_cases hm : (V.getD k 0, V.getD (k + s) 0) ∈ ks
      · rw [if_pos hm, if_pos (show (some ((0 + ks.idxOf (V.getD k 0, V.getD (k + s) 0) : Nat) : Int)).isSome = true from rfl), z2J hk3, Option.bind_some, za4 (by omega), Int.toNat_natCast]
        refine ⟨_, rfl, ⟨k + 1, ks, rfl, by omega, by simpa using hW, rfl, by omega, fun i hi' => ?_⟩, by simp only; omega⟩
        simp only [List.getD, List.getElem?_set]
        by_cases e : k = i
        · subst e
          rw [if_pos rfl, if_pos hk3]
          exact ⟨by simpa [List.getD] using hm, by simp [List.getD]⟩
        · rw [if_neg e]
          exact hi i (by omega)
      · rw [if_neg hm, if_neg (by simp), z2J hk3, Option.bind_some, za4 (by omega), Int.toNat_natCast, zbQ]
        have hset := z9b ks 0 hm
        rw [Nat.zero_add] at hset
        rw [hset]
        refine ⟨_, rfl, ⟨k + 1, _, rfl, by omega, by simpa using hW, rfl, by simp; omega, fun i hi' => ?_⟩, by simp only; omega⟩
        simp only
        by_cases e : k = i
        · subst e
          refine ⟨by simp, ?_⟩
          have : (W.set k (ks.length : Int)).getD k 0 = (ks.length : Int) := by simp [List.getD, List.getElem?_set, hk3]
          rw [this, List.idxOf_append, if_neg hm]
          simp
        · obtain ⟨h1, h2⟩ := hi i (by omega)
          refine ⟨List.mem_append_left _ h1, ?_⟩
          have : (W.set k (ks.length : Int)).getD i 0 = W.getD i 0 := by simp [List.getD, List.getElem?_set, e]
          rw [this, h2, List.idxOf_append, if_pos h1]
    · right
      have hkM : k = M := by omega
      subst hkM
      rw [if_neg (by omega), e3]
      refine ⟨_, rfl, W, rfl, hW, fun i j h1 h2 => ?_, fun i h1 => ?_⟩
      · obtain ⟨a1, a2⟩ := hi i h1
        obtain ⟨b1, b2⟩ := hi j h2
        rw [a2, b2]
        constructor
        · intro h
          exact zc6 a1 (by omega)
        · intro h; rw [h]
      · obtain ⟨a1, a2⟩ := hi i h1
        have := List.idxOf_lt_length_iff.2 a1
        omega
  · obtain ⟨h1, W, rfl, h2, h3, h4⟩ := h
    refine ⟨a + s, W, h1, by omega, by omega, by omega, fun i j hi hj => ?_, fun i hi => h4 i (by omega)⟩
    rw [h2] at hi hj
    rw [h3 i j hi hj, zdv (by omega) (by omega) (by omega), Prod.mk.injEq, hI i j (by omega) (by omega), hI (i + s) (j + s) (by omega) (by omega)]
theorem zck {w : ByteArray} {n : Nat} (h1 : 1 <= n) (h2 : n <= w.size) (hsz : w.size <= 1000) :
    ∃ V, z0r w (n : Int) = some V /\ V.length = w.size - n + 1 /\ (∀ i j, i < V.length -> j < V.length -> (V.getD i 0 = V.getD j 0 ↔ z2p w.data.toList n i = z2p w.data.toList n j)) /\ ∀ i, i < V.length -> 0 <= V.getD i 0 /\ V.getD i 0 < 2000 := by
  have hl : w.data.toList.length = w.size := by rw [Array.length_toList]; rfl
  unfold z0r
  rw [z5r _ (by unfold z4h; omega), Int.toNat_natCast]
  have hfirst : z1V (z0m w (n : Int)) LFm (0, List.replicate w.size (0 : Int)) = z1V (z0h (n : Int)) LFm (1, w.data.toList.map fun b => (b.toNat : Int)) := by
    refine zbR (s := ((0 : Int), List.replicate w.size (0 : Int))) w.size (fun k => ((k : Int), (w.data.toList.take k).map (fun b : UInt8 => (b.toNat : Int)) ++ List.replicate (w.size - k) (0 : Int))) (by simp) (by simp only [LFm]; omega) (fun k hk => ?_) ?_
    · have hkl : k < w.data.toList.length := by omega
      have hlen : ((w.data.toList.take k).map (fun b : UInt8 => (b.toNat : Int))).length = k := by rw [List.length_map, List.length_take]; omega
      have hk3 : k < ((w.data.toList.take k).map (fun b : UInt8 => (b.toNat : Int)) ++ List.replicate (w.size - k) (0 : Int)).length := by rw [List.length_append, hlen, List.length_replicate]; omega
      simp only [z0m]
      rw [if_pos (by omega), zcE hk, Option.bind_some, z2J hk3, Option.bind_some, za4 (by omega), Int.toNat_natCast]
      have hb : w[k].toNat < 256 := w[k].toNat_lt
      rw [z8f (by omega) (by omega), List.set_append_right _ _ (by omega), hlen, Nat.sub_self, List.take_succ_eq_append_getElem hkl, List.map_append, List.append_assoc, show w.size - k = (w.size - (k + 1)) + 1 by omega, List.replicate_succ, List.set_cons_zero]
      have : w[k] = w.data.toList[k] := by rw [Array.getElem_toList]; rfl
      rw [this]
      simp
    · simp only [z0m]
      rw [if_neg (by omega), ← hl, List.take_length, Nat.sub_self, List.replicate_zero, List.append_nil]
  rw [hfirst]
  have hstart : ∀ i j, i < (w.data.toList.map fun b => (b.toNat : Int)).length -> j < (w.data.toList.map fun b => (b.toNat : Int)).length -> ((w.data.toList.map fun b => (b.toNat : Int)).getD i 0 = (w.data.toList.map fun b => (b.toNat : Int)).getD j 0 ↔ z2p w.data.toList 1 i = z2p w.data.toList 1 j) := by
    intro i j hi hj
    simp only [List.length_map] at hi hj
    rw [z4E (by omega) (by omega)]
    have g : ∀ i, i < w.data.toList.length -> (w.data.toList.map fun b => (b.toNat : Int)).getD i 0 = ((w.data.toList.getD i 0).toNat : Int) := fun i hi => by
      simp [List.getD, List.getElem?_eq_getElem hi]
    rw [g i hi, g j hj]
    constructor
    · intro h k hk
      obtain rfl : k = 0 := by omega
      exact UInt8.toNat_inj.1 (by exact_mod_cast h)
    · intro h
      have := h 0 (by omega)
      rw [Nat.add_zero, Nat.add_zero] at this
      rw [this]
  have hbnd : ∀ i, i < (w.data.toList.map fun b => (b.toNat : Int)).length -> 0 <= (w.data.toList.map fun b => (b.toNat : Int)).getD i 0 /\ (w.data.toList.map fun b => (b.toNat : Int)).getD i 0 < 2000 := by
    intro i hi
    simp only [List.length_map] at hi
    have h1 := (w.data.toList[i]).toNat_lt
    have h2 : (w.data.toList.map fun b => (b.toNat : Int)).getD i 0 = ((w.data.toList[i]).toNat : Int) := by simp [List.getD, List.getElem?_eq_getElem hi]
    omega
  have hlen : (w.data.toList.map fun b => (b.toNat : Int)).length = w.size - 1 + 1 := by rw [List.length_map]; omega
  generalize (w.data.toList.map fun b => (b.toNat : Int)) = V0 at hstart hbnd hlen ⊢
  have hinit : ∃ a : Nat, (1 : Int) = (a : Int) /\ 1 <= a /\ a <= n /\ V0.length = w.size - a + 1 /\ (∀ i j, i < V0.length -> j < V0.length -> (V0.getD i 0 = V0.getD j 0 ↔ z2p w.data.toList a i = z2p w.data.toList a j)) /\ ∀ i, i < V0.length -> 0 <= V0.getD i 0 /\ V0.getD i 0 < 2000 := ⟨1, rfl, by omega, h1, hlen, hstart, hbnd⟩
  have hrule := z1I (b := z0h (n : Int)) (fun z => ∃ a : Nat, z.1 = (a : Int) /\ 1 <= a /\ a <= n /\ z.2.length = w.size - a + 1 /\ (∀ i j, i < z.2.length -> j < z.2.length -> (z.2.getD i 0 = z.2.getD j 0 ↔ z2p w.data.toList a i = z2p w.data.toList a j)) /\ ∀ i, i < z.2.length -> 0 <= z.2.getD i 0 /\ z.2.getD i 0 < 2000) (fun z => n - z.1.toNat)
    (fun V => V.length = w.size - n + 1 /\ (∀ i j, i < V.length -> j < V.length -> (V.getD i 0 = V.getD j 0 ↔ z2p w.data.toList n i = z2p w.data.toList n j)) /\ ∀ i, i < V.length -> 0 <= V.getD i 0 /\ V.getD i 0 < 2000) (fun s hs => ?_) LFm (1, V0) hinit (show n - (1 : Int).toNat < LFm by simp only [LFm]; omega)
  · obtain ⟨V, h⟩ := hrule
    exact ⟨V, h.1, h.2.1, h.2.2.1, h.2.2.2⟩
  · obtain ⟨z, V⟩ := s
    obtain ⟨a, hz, ha, han, hV, hI, hB⟩ := hs
    simp only at hz hV hI hB
    subst hz
    by_cases c : a < n
    · left
      obtain ⟨b, V', e, b1, b2, b3, b4, b5⟩ := zeT (l := w.data.toList) ha c (by omega) (by omega) (by omega) hI
      exact ⟨_, e, ⟨b, rfl, by omega, b2, by simp only; omega, b4, b5⟩, by simp only; omega⟩
    · right
      have : a = n := by omega
      subst this
      simp only [z0h]
      rw [if_neg (by omega)]
      exact ⟨V, rfl, hV, hI, hB⟩
end
section
open Go
noncomputable section
set_option maxRecDepth 100000
set_option maxHeartbeats 6000000
attribute [local simp] zf2
abbrev z9H (a0 : ByteArray) (a1 : Int) (v22 : List Int) : Int × List (Int × ByteArray) -> Option ((Int × List (Int × ByteArray)) ⊕ List (Int × ByteArray))
  | (w24, w5) =>
  if w24 < (v22.length : Int) then
    (atI v22 w24).bind fun v28 =>
    (z3y a0 w24 (IntKind.i64.wrap (w24 + a1))).bind fun v36 =>
    z3A (IntKind.i64.wrap (w24 + 1), z3t v28 v36 w5)
  else
    z2z <|
    some w5
instance {a0 : ByteArray} {a1 : Int} {v22 : List Int} : Hd (z9H a0 a1 v22) := ⟨fun (w24, w5) => ([(24, xI w24)], [(5, .mp (some .i64) (w5.map fun x0 => (.int .i64 x0.1, .string x0.2)))])⟩
def zg6 (a0 : ByteArray) (a1 : Int) : Option (List (Int × ByteArray)) :=
  if a1 < 0 then
    none
  else
    if (a0.size : Int) < a1 then
      none
    else
      if a1 = 0 then
        none
      else
        (z0r a0 a1).bind fun v22 =>
        z1V (z9H a0 a1 v22) LFm (0, ([] : List (Int × ByteArray)))
def zgp (a0 : ByteArray) (a1 : Int) : Option Unit :=
  if a1 < 0 then
    some ()
  else
    if (a0.size : Int) < a1 then
      some ()
    else
      none
def zgo (a0 : ByteArray) (a1 : Int) : Option Unit :=
  if a1 < 0 then
    none
  else
    if (a0.size : Int) < a1 then
      none
    else
      if a1 = 0 then some () else none
theorem zeV {a0 : ByteArray} {a1 : Int} {mp : List (Int × ByteArray)} (h : zg6 a0 a1 = some mp) : wpC Try.prog L zf2 LFm (zaR 5 z4a) (z0V 41 [.sc (.string a0), .sc (.int .i64 a1)]) (fun x fr => x = .n /\ z0n fr.tm 5 = .one (.h 5 []) /\ z0i fr.ob 5 = some (.mp (some .i64) (mp.map fun x0 => (.int .i64 x0.1, .string x0.2))) /\ fr.nt = 41) := by
  have h := zcP h
  unfold zg6 at h
  simp only [z0V, z1Q, z1A, z2A, z1g]
  exact z4K
theorem zeU {a0 : ByteArray} {a1 : Int} (h : zgp a0 a1 = some ()) : wpC Try.prog L zf2 LFm (zaR 5 z4a) (z0V 41 [.sc (.string a0), .sc (.int .i64 a1)]) (fun x fr => x = .r /\ z3m Try.prog Try.f7 [] fr = some (.os 1 0 [], [])) := by
  have h := zcP h
  unfold zgp at h
  simp only [z0V, z1Q, z1A, z2A, z1g]
  exact z4K
theorem zeS {a0 : ByteArray} {a1 : Int} (h : zgo a0 a1 = some ()) : wpC Try.prog L zf2 LFm (zaR 5 z4a) (z0V 41 [.sc (.string a0), .sc (.int .i64 a1)]) (fun x fr => x = .r /\ z3m Try.prog Try.f7 [] fr = some (.os 1 1 [.sc (.string ByteArray.empty)], [])) := by
  have h := zcP h
  unfold zgo at h
  simp only [z0V, z1Q, z1A, z2A, z1g]
  exact z4K
def zcO (a0 : ByteArray) (a1 : Int) : Option (List ByteArray) :=
  if a1 < 0 ∨ (a0.size : Int) < a1 then some [] else
  if a1 = 0 then some [ByteArray.empty] else
  (zg6 a0 a1).bind fun mp => if (mp.map (·.1)).Nodup /\ (∀ p ∈ mp, (Lit.int .i64 p.1).wf = true /\ p.2.size <= maxLen) /\ mp.length * 16 <= 140737488355328 then some (z2g (mp.map (·.2))) else none
theorem z6V (l : List ByteArray) : (z2g l).length = l.length := by
  unfold z2g
  rw [List.length_map, (List.mergeSort_perm _ _).length_eq, List.length_map]
theorem zdZ {a0 : ByteArray} {a1 : Int} {fr : Fr} {t : T} {n : Nat} (hn : ∀ m, n <= m -> z0k Try.prog (z0A Try.prog xt z2F m) zf2 LFm (zaR 5 z4a) (z0V 41 [.sc (.string a0), .sc (.int .i64 a1)]) = some (.r, fr)) (hex : z3m Try.prog Try.f7 [] fr = some (t, [])) : L 7 [.sc (.string a0), .sc (.int .i64 a1)] = some (z0l t, [.dead, .dead]) := by
  refine z6s rfl ⟨n, fun m hm => ?_⟩
  show xtF (z0A Try.prog xt z2F m) _ _ = _
  unfold xtF
  rw [if_neg (by decide), if_pos rfl]
  unfold zf9
  rw [if_pos ⟨by simp, by simp [z1g]⟩, hn m hm]
  simp only [hex, Option.bind_some, if_true]
  simp
instance vFac_okI {a0 : ByteArray} {a1 : Int} : Ok (zcO a0 a1) (fun r => L 7 [.sc (.string a0), .sc (.int .i64 a1)] = some (.sl r.length (r.map fun x0 => .sc (.string x0)), [.dead, .dead])) := ⟨fun r h => by
  unfold zcO at h
  split at h
  · rename_i hc
    cases h
    have hE : zgp a0 a1 = some () := by
      unfold zgp
      split
      · rfl
      · rename_i hn
        rcases hc with hc | hc
        · exact absurd hc hn
        · rw [if_pos hc]
    have hA := zeU hE
    unfold wpC at hA
    obtain ⟨x, fr, hco, hx, hex⟩ := hA
    subst hx
    obtain ⟨n, hn⟩ := z2D _ hco
    exact (zdZ hn hex).trans (by simp [z0l])
  · rename_i hc
    split at h
    · rename_i hz
      cases h
      have hE : zgo a0 a1 = some () := by
        unfold zgo
        rw [if_neg (fun h => hc (.inl h)), if_neg (fun h => hc (.inr h)), if_pos hz]
      have hA := zeS hE
      unfold wpC at hA
      obtain ⟨x, fr, hco, hx, hex⟩ := hA
      subst hx
      obtain ⟨n, hn⟩ := z2D _ hco
      exact (zdZ hn hex).trans (by simp [z0l])
    · obtain ⟨mp, h1, h2⟩ := z1F h
      split at h2
      case isFalse => cases h2
      rename_i hc
      obtain ⟨hnd, hsz, hby⟩ := hc
      have hr : z2g (mp.map (·.2)) = r := Option.some.inj h2
      have hA := zeV h1
      unfold wpC at hA
      obtain ⟨x, fr, hco, hx, h5, ho, hnt⟩ := hA
      subst hx
      obtain ⟨n, hn⟩ := z2D _ hco
      refine z6s rfl ⟨n, fun m hm => ?_⟩
      show xtF (z0A Try.prog xt z2F m) _ _ = _
      unfold xtF
      rw [if_neg (by decide), if_pos rfl]
      unfold zf9
      rw [if_pos ⟨by simp, by simp [z1g]⟩, hn m hm]
      have e : mp.map (fun x : Int × ByteArray => (x.1, x.2)) = mp := List.map_id mp
      simp only [h5, ho, zbY, e]
      rw [if_pos ⟨hnd, hsz, hby, hnt⟩, hr]
      have hl : r.length = mp.length := by rw [← hr, z6V, List.length_map]
      rw [hl]
      rfl⟩
end
end
section
open Go
theorem z9d {α β : Type} [DecidableEq α] {k : α} {v : β} : ∀ mp : List (α × β), (k ∈ mp.map (·.1) /\ (z3t k v mp).map (·.1) = mp.map (·.1)) ∨ (k ∉ mp.map (·.1) /\ (z3t k v mp).map (·.1) = mp.map (·.1) ++ [k])
  | [] => .inr ⟨by simp, rfl⟩
  | (a, u) :: mp => by
    unfold z3t
    by_cases h : a = k
    · subst h; rw [if_pos rfl]; exact .inl ⟨by simp, rfl⟩
    · rw [if_neg h]
      rcases z9d (k := k) (v := v) mp with ⟨h1, h2⟩ | ⟨h1, h2⟩
      · exact .inl ⟨List.mem_cons_of_mem _ h1, by rw [List.map_cons, h2]; rfl⟩
      · refine .inr ⟨fun h3 => ?_, by rw [List.map_cons, h2]; rfl⟩
        rcases List.mem_cons.1 h3 with e | e
        · exact h e.symm
        · exact h1 e
theorem z9c {α β : Type} [DecidableEq α] {k : α} {v : β} : ∀ mp : List (α × β), (∀ p, p ∈ z3t k v mp -> p = (k, v) ∨ p ∈ mp) /\ (k, v) ∈ z3t k v mp /\ ∀ p ∈ mp, p.1 ≠ k -> p ∈ z3t k v mp
  | [] => ⟨fun p h => .inl (by simpa [z3t] using h), by simp [z3t], fun p h => by cases h⟩
  | (a, u) :: mp => by
    obtain ⟨h1, h2, h3⟩ := z9c (k := k) (v := v) mp
    unfold z3t
    by_cases h : a = k
    · rw [if_pos h]
      refine ⟨fun p hp => ?_, List.mem_cons_self .., fun p hp hne => ?_⟩
      · rcases List.mem_cons.1 hp with e | e
        · exact .inl e
        · exact .inr (List.mem_cons_of_mem _ e)
      · rcases List.mem_cons.1 hp with e | e
        · subst e; exact absurd h hne
        · exact List.mem_cons_of_mem _ e
    · rw [if_neg h]
      refine ⟨fun p hp => ?_, List.mem_cons_of_mem _ h2, fun p hp hne => ?_⟩
      · rcases List.mem_cons.1 hp with e | e
        · exact .inr (e ▸ List.mem_cons_self ..)
        · exact (h1 p e).imp id (List.mem_cons_of_mem _)
      · rcases List.mem_cons.1 hp with e | e
        · exact e ▸ List.mem_cons_self ..
        · exact List.mem_cons_of_mem _ (h3 p e hne)
theorem z7j {w : ByteArray} {n k : Nat} (hk : k + n <= w.size) (hsz : w.size <= 1000) : z3y w (k : Int) (IntKind.i64.wrap ((k : Int) + (n : Int))) = some (mkB (z2p w.data.toList n k)) := by
  have e : IntKind.i64.wrap ((k : Int) + (n : Int)) = ((k + n : Nat) : Int) := by rw [z8f (by omega) (by omega)]; omega
  rw [e, z6h hk]
  rfl
def zgA (l : List UInt8) (n : Nat) (e : ByteArray) : Prop := ∃ i, i + n <= l.length /\ e = mkB (z2p l n i)
theorem zfq {x : Int} (hb : 0 <= x /\ x < 2000) : (Lit.int .i64 x).wf = true := by
  simp only [Lit.wf, IntKind.min, IntKind.max, Bool.and_eq_true, decide_eq_true_eq]; constructor <;> simp [IntKind.signed, IntKind.bits] <;> omega
theorem zeW {w : ByteArray} {n : Nat} (h1 : 1 <= n) (h2 : n <= w.size) (hsz : w.size <= 1000) : ∃ mp, zg6 w (n : Int) = some mp /\ (mp.map (·.1)).Nodup /\ (mp.map (·.2)).Nodup /\ (∀ e, e ∈ mp.map (·.2) ↔ zgA w.data.toList n e) /\ mp.length <= 1000 /\ ∀ p ∈ mp, (Lit.int .i64 p.1).wf = true /\ p.2.size = n := by
  have hl : w.data.toList.length = w.size := by rw [Array.length_toList]; rfl
  obtain ⟨V, v1, v2, v3, v4⟩ := zck h1 h2 hsz
  unfold zg6
  rw [if_neg (by omega), if_neg (by omega), if_neg (by omega), v1, Option.bind_some]
  have hrule := z1I (b := z9H w (n : Int) V) (fun z => ∃ k : Nat, z.1 = (k : Int) /\ k <= V.length /\ (z.2.map (·.1)).Nodup /\ (∀ p ∈ z.2, ∃ i, i < k /\ p = (V.getD i 0, mkB (z2p w.data.toList n i))) /\ (∀ i, i < k -> (V.getD i 0, mkB (z2p w.data.toList n i)) ∈ z.2) /\ z.2.length <= k) (fun z => V.length - z.1.toNat)
    (fun mp => (mp.map (·.1)).Nodup /\ (∀ p ∈ mp, ∃ i, i < V.length /\ p = (V.getD i 0, mkB (z2p w.data.toList n i))) /\ (∀ i, i < V.length -> (V.getD i 0, mkB (z2p w.data.toList n i)) ∈ mp) /\ mp.length <= V.length) (fun s hs => ?_) LFm (0, ([] : List (Int × ByteArray))) ⟨0, rfl, Nat.zero_le _, by simp, by simp, fun i hi => by omega, by simp⟩ (show V.length - (0 : Int).toNat < LFm by simp only [LFm]; omega)
  · obtain ⟨mp, m1, m2, m3, m4, m5⟩ := hrule
    refine ⟨mp, m1, m2, ?_, fun e => ?_, by omega, fun p hp => ?_⟩
    · have hmap : mp.map (·.1) = mp.map fun p => p.1 := rfl
      refine List.pairwise_map.2 ((List.pairwise_map.1 m2).imp_of_mem fun {p q} hp hq hne e => hne ?_)
      obtain ⟨i, i1, rfl⟩ := m3 p hp
      obtain ⟨j, j1, rfl⟩ := m3 q hq
      exact (v3 i j i1 j1).2 (zeH e)
    · rw [List.mem_map]
      constructor
      · rintro ⟨p, hp, rfl⟩
        obtain ⟨i, i1, rfl⟩ := m3 p hp
        exact ⟨i, by omega, rfl⟩
      · rintro ⟨i, i1, rfl⟩
        exact ⟨_, m4 i (by omega), rfl⟩
    · obtain ⟨i, i1, rfl⟩ := m3 p hp
      have hb := v4 i i1
      refine ⟨zfq hb, ?_⟩
      rw [z6l]
      exact z6E (by omega)
  · obtain ⟨z, mp⟩ := s
    obtain ⟨k, hz, hk, m1, m2, m3, m4⟩ := hs
    simp only at hz m1 m2 m3 m4
    subst hz
    simp only [z9H]
    by_cases c : k < V.length
    · left
      have g1 : V[k] = V.getD k 0 := by rw [List.getD, List.getElem?_eq_getElem c]; rfl
      rw [if_pos (by omega), z2J c, Option.bind_some, z7j (by omega) hsz, Option.bind_some, za4 (by omega), g1]
      obtain ⟨s1, s2, s3⟩ := z9c (k := V.getD k 0) (v := mkB (z2p w.data.toList n k)) mp
      have s0 := z9d (k := V.getD k 0) (v := mkB (z2p w.data.toList n k)) mp
      generalize z3t (V.getD k 0) (mkB (z2p w.data.toList n k)) mp = mp' at s0 s1 s2 s3
      refine ⟨_, rfl, ⟨k + 1, rfl, by omega, ?_, fun p hp => ?_, fun i hi => ?_, ?_⟩, by simp only; omega⟩
      · rcases s0 with ⟨_, e⟩ | ⟨hn, e⟩
        · show (mp'.map (·.1)).Nodup
          rw [e]; exact m1
        · show (mp'.map (·.1)).Nodup
          rw [e]
          exact List.nodup_append.2 ⟨m1, by simp, fun a ha b hb => by rw [List.mem_singleton] at hb; subst hb; rintro rfl; exact hn ha⟩
      · rcases s1 p hp with e | e
        · exact ⟨k, by omega, e⟩
        · obtain ⟨i, i1, i2⟩ := m2 p e
          exact ⟨i, by omega, i2⟩
      · by_cases e : V.getD i 0 = V.getD k 0
        · by_cases ek : i = k
          · subst ek; exact s2
          · have := (v3 i k (by omega) c).1 e
            rw [e, this]; exact s2
        · have : i ≠ k := fun h => e (by rw [h])
          exact s3 _ (m3 i (by omega)) e
      · show mp'.length <= k + 1
        rcases s0 with ⟨_, e⟩ | ⟨_, e⟩
        · have := congrArg List.length e
          rw [List.length_map, List.length_map] at this
          omega
        · have := congrArg List.length e
          rw [List.length_map, List.length_append, List.length_map, List.length_singleton] at this
          omega
    · right
      have : k = V.length := by omega
      subst this
      rw [if_neg (by omega)]
      exact ⟨mp, rfl, m1, m2, m3, m4⟩
theorem zga : ∀ a b : List UInt8, a < b -> Lib.compareBytes a b = -1
  | [], [], h => absurd h (List.lt_irrefl _)
  | [], _ :: _, _ => rfl
  | _ :: _, [], h => absurd h (by simp)
  | a :: x, b :: y, h => by
    rw [List.cons_lt_cons_iff] at h
    unfold Lib.compareBytes
    rcases h with h | ⟨rfl, h⟩
    · rw [if_pos h]
    · rw [if_neg (by simp), if_neg (by simp), zga x y h]
theorem z6U {l : List ByteArray} {n : Nat} (h : l.Nodup) (hn : ∀ s ∈ l, s.size = n) : (z2g l).Pairwise (fun x y => z1E x y < 0) /\ (∀ e, e ∈ z2g l ↔ e ∈ l) := by
  have hperm : (((l.map fun s => s.data.toList).mergeSort fun x y => decide (x <= y))).Perm (l.map fun s => s.data.toList) := List.mergeSort_perm _ _
  have hmem : ∀ e, e ∈ z2g l ↔ e ∈ l := fun e => by
    unfold z2g
    rw [List.mem_map]
    constructor
    · rintro ⟨x, hx, rfl⟩
      obtain ⟨s, hs, rfl⟩ := List.mem_map.1 (hperm.mem_iff.1 hx)
      have : (⟨⟨s.data.toList⟩⟩ : ByteArray) = s := by obtain ⟨⟨l⟩⟩ := s; rfl
      rw [this]; exact hs
    · intro he
      exact ⟨e.data.toList, hperm.mem_iff.2 (List.mem_map.2 ⟨e, he, rfl⟩), by obtain ⟨⟨l⟩⟩ := e; rfl⟩
  refine ⟨?_, hmem⟩
  have hsort : (((l.map fun s => s.data.toList).mergeSort fun x y => decide (x <= y))).Pairwise (fun x y => decide (x <= y) = true) :=
    List.pairwise_mergeSort (fun a b c h1 h2 => by simp only [decide_eq_true_eq] at *; exact List.le_trans h1 h2) (fun a b => by simp only [Bool.or_eq_true, decide_eq_true_eq]; exact List.le_total a b) _
  have hnd : (((l.map fun s => s.data.toList).mergeSort fun x y => decide (x <= y))).Nodup := hperm.nodup_iff.2 (List.pairwise_map.2 (h.imp fun {a b} hne e => hne (by obtain ⟨⟨a⟩⟩ := a; obtain ⟨⟨b⟩⟩ := b; simp at e; subst e; rfl)))
  have hlen : ∀ x ∈ (((l.map fun s => s.data.toList).mergeSort fun x y => decide (x <= y))), x.length = n := fun x hx => by
    obtain ⟨s, hs, rfl⟩ := List.mem_map.1 (hperm.mem_iff.1 hx)
    rw [Array.length_toList]; exact hn s hs
  unfold z2g
  refine List.pairwise_map.2 ((hsort.and hnd).imp_of_mem fun {a b} ha hb hab => ?_)
  obtain ⟨h1, h2⟩ := hab
  simp only [decide_eq_true_eq] at h1
  have e1 : z1E ⟨⟨a⟩⟩ ⟨⟨b⟩⟩ = Lib.compareBytes a b := z5p (by show a.length = b.length; rw [hlen a ha, hlen b hb])
  have hlt : a < b := by
    by_cases h : a < b
    · exact h
    · exact absurd (List.le_antisymm h1 (List.not_lt.1 h)) h2
  rw [e1, zga a b hlt]; decide
theorem ze7 {w : ByteArray} {n : Nat} (h2 : n <= w.size) (hsz : w.size <= 1000) : ∃ F, zcO w (n : Int) = some F /\ (F.Pairwise fun a b => z1E a b < 0) /\ (∀ e, e ∈ F ↔ zgA w.data.toList n e) /\ F.length <= 1000 := by
  unfold zcO
  rw [if_neg (by omega)]
  by_cases h0 : n = 0
  · subst h0
    rw [if_pos (show ((0 : Nat) : Int) = 0 from rfl)]
    refine ⟨_, rfl, by simp, fun e => ?_, by simp⟩
    rw [List.mem_singleton]
    constructor
    · rintro rfl; exact ⟨0, Nat.zero_le _, rfl⟩
    · rintro ⟨i, _, rfl⟩; rfl
  · obtain ⟨mp, m1, m2, m3, m4, m5, m6⟩ := zeW (w := w) (n := n) (by omega) h2 hsz
    rw [if_neg (by omega), m1, Option.bind_some, if_pos ⟨m2, fun p hp => ⟨(m6 p hp).1, by rw [(m6 p hp).2]; unfold maxLen; omega⟩, by omega⟩]
    obtain ⟨s1, s2⟩ := z6U m3 (n := n) (fun s hs => by obtain ⟨p, hp, rfl⟩ := List.mem_map.1 hs; exact (m6 p hp).2)
    exact ⟨_, rfl, s1, fun e => by rw [s2, m4], by rw [z6V, List.length_map]; exact m5⟩
theorem zbA {w : ByteArray} {n : Nat} (h2 : n <= w.size) (hsz : w.size <= 1000) : ∃ F, z0H w (n : Int) = some F /\ (F.Pairwise fun a b => z1E a b < 0) /\ ∀ e, e ∈ F ↔ zgA w.data.toList n e := by
  have hl : w.data.toList.length = w.size := by rw [Array.length_toList]; rfl
  unfold z0H
  have hrule := z1I (b := z0P w (n : Int)) (fun z => ∃ k : Nat, z.2 = (k : Int) /\ k + n <= w.size + 1 /\ (z.1.Pairwise fun a b => z1E a b < 0) /\ (∀ e, e ∈ z.1 ↔ ∃ i, i < k /\ e = mkB (z2p w.data.toList n i)) /\ z.1.length <= k) (fun z => w.size + 1 - z.2.toNat)
    (fun F => (F.Pairwise fun a b => z1E a b < 0) /\ ∀ e, e ∈ F ↔ zgA w.data.toList n e) (fun s hs => ?_) LFm (([] : List ByteArray), 0) ⟨0, rfl, by omega, by simp, fun e => by simp, by simp⟩ (show w.size + 1 - (0 : Int).toNat < LFm by simp only [LFm]; omega)
  · obtain ⟨F, h⟩ := hrule
    exact ⟨F, h.1, h.2.1, h.2.2⟩
  · obtain ⟨E, z⟩ := s
    obtain ⟨k, hz, hk, m1, m2, m3⟩ := hs
    simp only at hz m1 m2 m3
    subst hz
    have e : IntKind.i64.wrap ((k : Int) + (n : Int)) = ((k + n : Nat) : Int) := by rw [z8f (by omega) (by omega)]; omega
    simp only [z0P]
    by_cases c : k + n <= w.size
    · left
      rw [if_pos (by rw [e]; omega), z7j c hsz, Option.bind_some]
      obtain ⟨F, f1, f2, f3, f4⟩ := zeM (x := mkB (z2p w.data.toList n k)) m1 (by omega)
      rw [f1, Option.bind_some, za4 (by omega)]
      refine ⟨_, rfl, ⟨k + 1, rfl, by omega, f2, fun e => ?_, by simp only; omega⟩, by simp only; omega⟩
      rw [f3, m2]
      constructor
      · rintro (⟨i, i1, i2⟩ | h)
        · exact ⟨i, by omega, i2⟩
        · exact ⟨k, by omega, h⟩
      · rintro ⟨i, i1, i2⟩
        by_cases ek : i = k
        · subst ek; exact .inr i2
        · exact .inl ⟨i, by omega, i2⟩
    · right
      rw [if_neg (by rw [e]; omega)]
      refine ⟨E, rfl, m1, fun x => ?_⟩
      rw [m2]
      constructor
      · rintro ⟨i, i1, i2⟩; exact ⟨i, by omega, i2⟩
      · rintro ⟨i, i1, i2⟩; exact ⟨i, by omega, i2⟩
theorem zeR {w : ByteArray} {n : Nat} (h2 : n <= w.size) (hsz : w.size <= 1000) : ∃ F, zcO w (n : Int) = some F /\ z0H w (n : Int) = some F /\ F.length <= 1000 := by
  obtain ⟨F, a1, a2, a3, a4⟩ := ze7 h2 hsz
  obtain ⟨G, b1, b2, b3⟩ := zbA h2 hsz
  have e : F = G := zbe a2 b2 fun x => by rw [a3, b3]
  subst e
  exact ⟨F, a1, b1, a4⟩
end
end Go.Proofs.Ytcjljokldnpgfaa
