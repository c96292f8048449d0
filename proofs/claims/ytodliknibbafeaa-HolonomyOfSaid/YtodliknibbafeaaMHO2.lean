/- Proved here: a part of the proof of the law at hand, in one text: no condition. -/
import Derived.Test.YtodliknibbafeaaMHO1
import Derived.MapKept
import Derived.OrdersHeld
import Derived.Tactics
import Derived.Still
import Derived.Deep.Quiet
import Derived.Scope
set_option linter.unusedVariables false
set_option linter.unusedSimpArgs false
namespace Go.Proofs.Ytodliknibbafeaa
section
mutual
def opn : T -> Bool
  | .sc _ => false
  | .dead => false
  | .agg cs => zfA cs
  | .tup cs => zfA cs
  | .sl n cs => !(n == 0 && cs.isEmpty)
  | .os _ _ cs => zfA cs
  | .vr cs => zfA cs
  | .vo _ cs => zfA cs
  | .pr _ => true
  | .mp _ _ => false
  | .mr _ _ => true
  | .cl _ cs => zfA cs
def zfA : List T -> Bool
  | [] => false
  | t :: ts => opn t || zfA ts
end
theorem z9I : ∀ {cs : List T} {t : T} {j : Nat}, zfA cs = false -> cs[j]? = some t -> opn t = false
  | [], t, j, h, hj => by simp at hj
  | c :: cs, t, 0, h, hj => by
    simp only [zfA, Bool.or_eq_false_iff] at h
    simp at hj; subst hj; exact h.1
  | c :: cs, t, j + 1, h, hj => by
    simp only [zfA, Bool.or_eq_false_iff] at h
    exact z9I h.2 (by simpa using hj)
theorem TRep.moveC {w w' : World} {K K' : Nat -> z0g} {c : z0g} {v : Value} {t : T} (h : TRep w K c v t) : opn t = false -> ∀ {c' : z0g},
    (∀ b s, b < w.heap.size -> c ≠ [] -> K b = c ++ s -> K' b = c' ++ s /\ w'.heap[b]? = w.heap[b]?) -> (c = [] ↔ c' = []) -> w.heap.size <= w'.heap.size -> TRep w' K' c' v t := by
  induction h with
  | sc c v h => intro _ c' _ _ _; exact .sc c' v h
  | dead c v => intro _ c' _ _ _; exact .dead c' v
  | agg c vs cs F hl hF h ih =>
    intro ho c' h1 h3 h4
    refine .agg c' vs cs F hl hF (fun j t ht => ih j t ht (z9I ho ht) ?_ ?_ h4)
    · intro b s hb hc hK
      by_cases hc0 : c = []
      · subst hc0; exact absurd rfl hc
      · have hc0' : c' ≠ [] := fun e => hc0 (h3.2 e)
        rw [z5g hc0] at hK
        rw [z5g hc0']
        have := h1 b (j :: s) hb hc0 (by simpa using hK)
        exact ⟨by simpa using this.1, this.2⟩
    · cases c with
      | nil => have := h3.1 rfl; subst this; simp [ext]
      | cons a c => cases c' with
        | nil => have := h3.2 rfl; cases this
        | cons a' c' => simp [ext]
  | tup c vs cs F hl hF h ih =>
    intro ho c' h1 h3 h4
    refine .tup c' vs cs F hl hF (fun j t ht => ih j t ht (z9I ho ht) ?_ ?_ h4)
    · intro b s hb hc hK
      by_cases hc0 : c = []
      · subst hc0; exact absurd rfl hc
      · have hc0' : c' ≠ [] := fun e => hc0 (h3.2 e)
        rw [z5g hc0] at hK
        rw [z5g hc0']
        have := h1 b (j :: s) hb hc0 (by simpa using hK)
        exact ⟨by simpa using this.1, this.2⟩
    · cases c with
      | nil => have := h3.1 rfl; subst this; simp [ext]
      | cons a c => cases c' with
        | nil => have := h3.2 rfl; cases this
        | cons a' c' => simp [ext]
  | emp c a cap hc => intro _ c' _ _ _; exact .emp c' a cap hc
  | fro c g o n cap cs F hK hg hn hc hF h ih =>
    intro ho c' h1 h3 h4
    simp only [opn, Bool.not_eq_false', Bool.and_eq_true, beq_iff_eq, List.isEmpty_iff] at ho
    obtain ⟨rfl, rfl⟩ := ho
    exact .emp c' _ cap hc
  | nil c sz => intro _ c' _ _ _; exact .nil c' sz
  | own c g n cap size cs arr e fz F hfz hc0 hK hg hs hl hz hn hc hF h ih =>
    intro ho c' h1 h3 h4
    have hc0' : c' ≠ [] := fun e => hc0 (h3.2 e)
    obtain ⟨k1, k2⟩ := h1 g [] (z2x hg) hc0 (by simpa using hK)
    refine .own c' g n cap size cs arr e fz F hfz hc0' (by simpa using k1) (by rw [k2]; exact hg) hs hl hz hn hc hF (fun j t ht => ih j t ht (z9I ho ht) ?_ (by simp) h4)
    intro b s hb _ hK
    have := h1 b (j :: s) hb hc0 (by simpa using hK)
    exact ⟨by simpa using this.1, this.2⟩
  | vr c g cs arr e fz F hfz hc0 hK hg hl hF h ih =>
    intro ho c' h1 h3 h4
    have hc0' : c' ≠ [] := fun e => hc0 (h3.2 e)
    obtain ⟨k1, k2⟩ := h1 g [] (z2x hg) hc0 (by simpa using hK)
    refine .vr c' g cs arr e fz F hfz hc0' (by simpa using k1) (by rw [k2]; exact hg) hl hF (fun j t ht => ih j t ht (z9I ho ht) ?_ (by simp) h4)
    intro b s hb _ hK
    have := h1 b (j :: s) hb hc0 (by simpa using hK)
    exact ⟨by simpa using this.1, this.2⟩
  | vo c g off cs h ih => intro ho c' h1 h3 h4; exact .vo c' g off cs (ih ho h1 h3 h4)
  | pr => intro ho; cases ho
  | mr => intro ho; cases ho
  | mp c g kk es ents clock hc0 hK hg hh =>
    intro ho c' h1 h3 h4
    obtain ⟨k1, k2⟩ := h1 g [] (z2x hg) hc0 (by simpa using hK)
    exact .mp c' g kk es ents clock (fun e => hc0 (h3.2 e)) (by simpa using k1) (by rw [k2]; exact hg) hh
  | cl c f vs cs F hl hF h ih =>
    intro ho c' h1 h3 h4
    exact .cl c' f vs cs F hl hF (fun j t ht => ih j t ht (z9I ho ht) (fun _ _ _ hc => absurd rfl hc) Iff.rfl h4)
def z6z : T -> Bool
  | .vr _ => true
  | .os _ _ _ => true
  | .vo _ _ => true
  | _ => false
def zho (w : World) (K : Nat -> z0g) (i : Nat) (v : Value) (t : T) : Prop := TRep w K (if z6z t then col i else []) v t
structure EnvS (I : World -> (Nat -> z0g) -> Prop) : Prop where
  keep : ∀ {w K w' K'}, I w K -> w.heap.size <= w'.heap.size -> (∀ b, b < w.heap.size -> K b = [] -> K' b = [] /\ w'.heap[b]? = w.heap[b]?) -> I w' K'
theorem EnvS.step {I : World -> (Nat -> z0g) -> Prop} (h : EnvS I) {w w' : World} {K K' : Nat -> z0g} (hi : I w K) (s : Step w K w' K') : I w' K' :=
  h.keep hi s.size fun b hb e => by
    obtain ⟨a1, a2⟩ := s.old b hb (.inl e)
    exact ⟨a1.trans e, a2⟩
theorem EnvS.none : EnvS (fun _ _ => True) := ⟨fun _ _ _ => trivial⟩
structure CallOk (P : Program) (I : World -> (Nat -> z0g) -> Prop) (f : FuncId) (args : List T) (res : T) (outs : List T) : Prop where
  enter : ∀ (vals : Array Value) (w : World), (callFunc f vals).run P w = .ok (.enter f vals) w
  calls : ∀ (w : World) (K : Nat -> z0g) (vals : Array Value), vals.size = args.length -> (∀ i t, args[i]? = some t -> zho w K i (vals.getD i undef) t) -> I w K ->
    Calls P f vals w fun e w' => ∃ v K', e = .returned v /\ TRep w' K' [0] v res /\ (∀ i t, args[i]? = some t -> z6z t = true -> ∃ t', outs[i]? = some t' /\ TRep w' K' (col i) (vals.getD i undef) t') /\ Step w K w' K'
abbrev z0q := FuncId -> List T -> Option (T × List T)
def zaD (P : Program) (I : World -> (Nat -> z0g) -> Prop) (C : z0q) : Prop := ∀ f args r outs, C f args = some (r, outs) -> CallOk P I f args r outs
def zmX : T -> T
  | .os _ n cs => .sl n cs
  | .vr _ => .dead
  | .vo _ _ => .dead
  | x => x
abbrev zo6 := List (Nat × List Nat)
def zvP (fr : Fr) : A -> Option (T × zo6)
  | .k v => some (znO false v, [])
  | .t none x => some (zmX x, [])
  | .t (some i) x => some (zmX x, [(i, [])])
  | .h id p => match z1V fr.ob id with
    | none => none
    | some root => match sub root p with
      | some t => if zb1 t then some (t, []) else some (z2T t, [(id, p)])
      | none => none
  | _ => none
def zsJ (fr : Fr) : List A -> Option (List T × zo6)
  | [] => some ([], [])
  | x :: xs => match zvP fr x, zsJ fr xs with
    | some (t, d), some (ts, ds) => if z6z t then none else some (t :: ts, d ++ ds)
    | _, _ => none
def zxH (fr : Fr) (io : Bool) : E -> Option (T × zo6 × Option Nat)
  | .ag xs => (match zsJ fr xs with | some (ts, d) => some (.agg ts, d, none) | none => none)
  | .one (.a id [] off) => (match z1V fr.ob id with | some (.vr cs) => if off = 0 then some (.vr cs, [], some id) else none | some (.os _ _ cs) => if io then some (.vo off cs, [], some id) else none | _ => none)
  | .one (.h id []) =>
    if io then (match z1V fr.ob id with | some (.os sz n cs) => some (.os sz n cs, [], some id) | _ => none)
    else (match zvP fr (.h id []) with | some (t, d) => if z6z t then none else some (t, d, none) | none => none)
  | .one x => (match zvP fr x with | some (t, d) => if z6z t then none else some (t, d, none) | none => none)
def z3P (deps : zo6) (h : Nat) (q : List Nat) : Bool := deps.any fun x => decide (h = x.1 + 2) && (z4f x.2 q).isSome
def zsv (deps : zo6) (io : Option (Nat × Nat)) : z0g -> z0g
  | [] => []
  | h :: q => if z3P deps h q then [] else match io with
    | some (i, id) => if h = id + 2 then (i + 2) :: q else [1]
    | none => [1]
theorem TRep.top {w : World} {K : Nat -> z0g} {v : Value} {t : T} (h : TRep w K [] v t) : TRep w K [] v (zmX t) := by
  cases h with
  | sc _ _ h => exact .sc _ _ h
  | dead => exact .dead _ _
  | agg c vs cs F hl hF h => exact .agg _ vs cs F hl hF h
  | tup c vs cs F hl hF h => exact .tup _ vs cs F hl hF h
  | emp c a cap hc => exact .emp _ a cap hc
  | fro c g o n cap cs F hK hg hn hc hF h => exact .fro _ g o n cap cs F hK hg hn hc hF h
  | nil => exact .emp _ none 0 (by decide)
  | own _ _ _ _ _ _ _ _ _ _ _ hc0 => exact absurd rfl hc0
  | vr _ _ _ _ _ _ _ _ hc0 => exact absurd rfl hc0
  | vo _ _ _ _ h => exact absurd rfl h.vr_ne
  | pr _ g o cs F hK hg hF h => exact .pr _ g o cs F hK hg hF h
  | mr _ g kk es ents clock hK hg hh => exact .mr _ g kk es ents clock hK hg hh
  | mp _ _ _ _ _ _ hc0 => exact absurd rfl hc0
  | cl _ f vs cs F hl hF h => exact .cl _ f vs cs F hl hF h
theorem zql (w : World) (K : Nat -> z0g) (own : Bool) (v : Value) : TRep w K [] v (znO own v) := by
  unfold znO
  split
  · rename_i vs
    refine .agg _ vs _ (fun j => vs.getD j undef) (by simp) (fun j hj => z4A _ _ (by simpa using hj)) (fun j t hj => ?_)
    simp only [List.getElem?_map, Option.map_eq_some_iff, Array.getElem?_toList] at hj
    obtain ⟨v, hv, rfl⟩ := hj
    have : vs.getD j undef = v := by simp [Array.getD_eq_getD_getElem?, hv]
    rw [this]
    exact z6O _ _ _ _ _
  · exact z6O _ _ _ _ _
theorem zo0 {w : World} {K K0 : Nat -> z0g} {R G : Nat -> Value} {fr : Fr} {a : Act} {x : A} {u : Value} {t : T} {deps : zo6} (h : FRep w K R G fr a) (hx : ARep w K R fr.ob x u) (ha : zvP fr x = some (t, deps))
    (h0 : ∀ b, K b = [] -> K0 b = []) (hd : ∀ b hh q, K b = hh :: q -> z3P deps hh q = true -> K0 b = []) : TRep w K0 [] u t := by
  unfold zvP at ha
  split at ha
  · cases ha
    obtain rfl : u = _ := hx
    exact zql _ _ _ _
  · cases ha
    exact (TRep.fz hx.1 (fun b _ e => ⟨h0 b e, rfl⟩) (Nat.le_refl _)).top
  · rename_i i x
    cases ha
    refine (TRep.fz hx.1 (fun b _ e => ⟨?_, rfl⟩) (Nat.le_refl _)).top
    simp only [frz] at e
    split at e
    · rename_i hh
      cases hk : K b with
      | nil => exact h0 b hk
      | cons a s =>
        rw [hk] at hh; simp at hh; subst hh
        exact hd b _ s hk (by simp [z3P, z4f])
    · exact h0 b e
  · rename_i id p
    split at ha
    case h_1 => cases ha
    case h_2 root hroot =>
    split at ha
    · rename_i t' hsub
      obtain ⟨n1, _⟩ := hx
      obtain ⟨v', m1, hrep⟩ := (h.ob id root hroot).sub (z1T id) hsub
      rw [n1] at m1; cases m1
      split at ha
      · rename_i hp
        cases ha
        exact TRep.fz (hrep.free hp []) (fun b _ e => ⟨h0 b e, rfl⟩) (Nat.le_refl _)
      · cases ha
        refine hrep.freeze (fun b s hb hc hK => ⟨?_, rfl⟩) (fun b _ e => ⟨h0 b e, rfl⟩) (Nat.le_refl _) []
        exact hd b (id + 2) (p ++ s) (by simpa [col] using hK) (by simp [z3P, z7f])
    · cases ha
  · cases ha
theorem z4k (d1 d2 : zo6) (h : Nat) (q : List Nat) : z3P (d1 ++ d2) h q = (z3P d1 h q || z3P d2 h q) := by simp [z3P]
theorem zkK {w : World} {K K0 : Nat -> z0g} {R G : Nat -> Value} {fr : Fr} {a : Act} (h : FRep w K R G fr a) (h0 : ∀ b, K b = [] -> K0 b = []) : ∀ {xs : List A} {F : Nat -> Value} {ts : List T} {deps : zo6}, (∀ j x, xs[j]? = some x -> ARep w K R fr.ob x (F j)) ->
    zsJ fr xs = some (ts, deps) -> (∀ b hh q, K b = hh :: q -> z3P deps hh q = true -> K0 b = []) -> ts.length = xs.length /\ ∀ j t, ts[j]? = some t -> TRep w K0 [] (F j) t
  | [], F, ts, deps, hx, ha, hd => by
    cases ha
    exact ⟨rfl, fun j t ht => by simp at ht⟩
  | x :: xs, F, ts, deps, hx, ha, hd => by
    simp only [zsJ] at ha
    split at ha
    · rename_i t d ts' ds h1 h2
      split at ha
      · cases ha
      · cases ha
        obtain ⟨r1, r2⟩ := zkK h h0 (xs := xs) (F := fun j => F (j + 1)) (fun j y hy => hx (j + 1) y (by simpa using hy)) h2 (fun b hh q e e2 => hd b hh q e (by rw [z4k, e2, Bool.or_true]))
        refine ⟨by simp [r1], fun j t' ht => ?_⟩
        match j, ht with
        | 0, ht =>
          simp at ht; subst ht
          exact zo0 h (hx 0 x rfl) h1 h0 (fun b hh q e e2 => hd b hh q e (by rw [z4k, e2, Bool.true_or]))
        | j + 1, ht => exact r2 j t' (by simpa using ht)
    · cases ha
def zsP (fr : Fr) (R : Nat -> Value) (id : Nat) (t : T) (u : Value) : Prop :=
  (z1V fr.ob id = some t /\ u = R id /\ ∀ off cs, t ≠ .vo off cs) ∨ ∃ sz n cs off g, z1V fr.ob id = some (.os sz n cs) /\ t = .vo off cs /\ z6j (R id) = some g /\ u = .pointer (some ⟨g, off, none⟩)
theorem znZ {w : World} {K K0 : Nat -> z0g} {R G : Nat -> Value} {fr : Fr} {a : Act} {e : E} {u : Value} {t : T} {deps : zo6} {io : Option Nat} {fl : Bool} (h : FRep w K R G fr a) (he : ERep w K R fr.ob e u) (ha : zxH fr fl e = some (t, deps, io))
    (h0 : ∀ b, K b = [] -> K0 b = []) (hd : ∀ b hh q, K b = hh :: q -> z3P deps hh q = true -> K0 b = []) :
    (io = none /\ z6z t = false /\ TRep w K0 [] u t) ∨ ∃ id, io = some id /\ z6z t = true /\ deps = [] /\ zsP fr R id t u := by
  have byval : ∀ x, e = .one x -> (match zvP fr x with | some (t, d) => if z6z t then none else some (t, d, none) | none => none) = some (t, deps, io) -> (io = none /\ z6z t = false /\ TRep w K0 [] u t) := fun x hxe hh => by
    subst hxe
    split at hh
    · rename_i t' d' h1
      split at hh
      · cases hh
      · rename_i hio
        cases hh
        exact ⟨rfl, by simpa using hio, zo0 h he h1 h0 hd⟩
    · cases hh
  unfold zxH at ha
  split at ha
  · rename_i xs
    split at ha
    · rename_i ts d h1
      cases ha
      obtain ⟨arr, rfl, e2, e3⟩ := he
      obtain ⟨r1, r2⟩ := zkK h h0 (F := fun j => arr.getD j undef) e3 h1 hd
      exact .inl ⟨rfl, rfl, .agg _ arr ts (fun j => arr.getD j undef) (by omega) (fun j hj => z4A _ _ (by omega)) r2⟩
    · cases ha
  · rename_i id off
    split at ha
    · rename_i cs hob
      split at ha
      case isFalse => cases ha
      case isTrue h0 =>
      subst h0
      cases ha
      obtain ⟨hv, g, n1, n4, n5, t0, n2, n3⟩ := he
      simp only [nav, Option.some.injEq] at n1
      refine .inr ⟨id, rfl, rfl, rfl, .inl ⟨hob, ?_, fun _ _ e => by cases e⟩⟩
      have hr := h.ob id _ hob
      rw [n5, n1]
      rw [n1] at hr
      cases hr with
      | vr c g' cs arr e fz F hfz hc0 hK hg hl hF hh =>
        simp only [z6j, Option.some.injEq] at n4
        rw [n4]
    · rename_i sz n cs hob
      split at ha
      case isFalse => cases ha
      case isTrue =>
      cases ha
      obtain ⟨hv, g, n1, n4, n5, t0, n2, n3⟩ := he
      simp only [nav, Option.some.injEq] at n1
      exact .inr ⟨id, rfl, rfl, rfl, .inr ⟨sz, n, cs, off, g, hob, rfl, by rw [n1]; exact n4, n5⟩⟩
    · cases ha
  · rename_i id
    split at ha
    · split at ha
      · rename_i sz n cs hob
        cases ha
        obtain ⟨n1, _⟩ := he
        simp only [nav, Option.some.injEq] at n1
        exact .inr ⟨id, rfl, rfl, rfl, .inl ⟨hob, n1.symm, fun _ _ e => by cases e⟩⟩
      · cases ha
    · exact .inl (byval _ rfl ha)
  · exact .inl (byval _ rfl ha)
def zfM (fr : Fr) (io : Nat -> Bool) : List E -> Nat -> Option (List T × zo6 × Option (Nat × Nat))
  | [], _ => some ([], [], none)
  | x :: xs, i => match zxH fr (io i) x, zfM fr io xs (i + 1) with
    | some (t, d, none), some (ts, ds, o) => some (t :: ts, d ++ ds, o)
    | some (t, d, some id), some (ts, ds, none) => some (t :: ts, d ++ ds, some (i, id))
    | _, _ => none
theorem TRep.toVo {w : World} {K : Nat -> z0g} {c : z0g} {v : Value} {sz n : Nat} {cs : List T} {g : Nat} (h : TRep w K c v (.os sz n cs)) (hb : z6j v = some g) (off : Nat) : TRep w K c (.pointer (some ⟨g, off, none⟩)) (.vo off cs) := by
  cases h with
  | nil => cases hb
  | own c g' n cap size cs arr e fz F hfz hc0 hK hg hs hl hz hn hc hF h =>
    simp only [z6j, Option.some.injEq] at hb
    subst hb
    exact .vo _ _ _ _ (.vr c g' cs arr e fz F hfz hc0 hK hg (by rw [hl, hs]; exact Nat.mul_le_mul_right _ hn) hF h)
theorem TRep.ofVo {w w' : World} {K K' : Nat -> z0g} {c c' : z0g} {v u : Value} {sz n g off o' : Nat} {cs cs' : List T} (h : TRep w K c v (.os sz n cs)) (hb : z6j v = some g) (hz : SzK w w') (hu : u = .pointer (some ⟨g, off, none⟩)) (h' : TRep w' K' c' u (.vo o' cs')) (hl' : cs'.length = cs.length) : TRep w' K' c' v (.os sz n cs') := by
  cases h with
  | nil => cases hb
  | own c g' n cap size cs arr e fz F hfz hc0 hK hg hs hl hz0 hn hc hF h =>
    simp only [z6j, Option.some.injEq] at hb
    subst hb
    cases h' with
    | vo _ g2 _ _ h2 =>
      simp only [Value.pointer.injEq, Option.some.injEq, Addr.mk.injEq] at hu
      obtain ⟨rfl, _, _⟩ := hu
      cases h2 with
      | vr _ _ _ arr2 e2 fz2 F2 hfz2 hc2 hK2 hg2 hl2 hF2 hh2 =>
        obtain ⟨a3, e3, f3, q1, q2⟩ := hz _ _ _ _ hg
        rw [hg2] at q1
        cases q1
        exact .own c' _ n cap sz cs' arr2 e2 fz2 F2 hfz2 hc2 hK2 hg2 (by rw [q2, hs]) (by rw [hl', hl]) hz0 hn hc hF2 hh2
def z8C (d : Nat) : A -> A
  | .h i q => if i = d /\ q ≠ [] then .dead else .h i q
  | .a i q off => if i = d /\ q ≠ [] then .dead else .a i q off
  | .t (some i) x => if i = d then .dead else .t (some i) x
  | .ea (some i) cs off => if i = d then .dead else .ea (some i) cs off
  | x => x
theorem FRep.renew {w w' : World} {K K' : Nat -> z0g} {R G : Nat -> Value} {fr : Fr} {a : Act} (h : FRep w K R G fr a) {d : Nat} {t' : T} (k : Keep w w' K K' (But d)) (ht : TRep w' K' (col d) (R d) t') :
    FRep w' K' R G { fr with tm := z7H (z8C d) fr.tm, ob := z6L fr.ob d t' } a := by
  have hR : ∀ i, i ≠ d -> R i = R i /\ z1V (z6L fr.ob d t') i = z1V fr.ob i := fun i hi => ⟨rfl, by rw [z0M, if_neg (fun e => hi e.symm)]⟩
  refine ⟨fun i => ?_, fun id t ht' => ?_, h.nt, h.df⟩
  · show ERep w' K' R (z6L fr.ob d t') (z2N (z7H (z8C d) fr.tm) i) _
    rw [z6H _ rfl]
    refine (h.tm i).map _ fun x u hx => ?_
    by_cases hxd : onA x = some d
    · cases x with
      | dead => trivial
      | k v => cases hxd
      | t dep x => simp only [onA] at hxd; subst hxd; simp only [z8C, if_true]; trivial
      | h i q =>
        simp only [onA, Option.some.injEq] at hxd; subst hxd
        by_cases hq : q = []
        · subst hq
          obtain ⟨n1, _⟩ := hx
          simp only [z8C]
          rw [if_neg (by simp)]
          exact ⟨n1, t', by simp [z0M], rfl⟩
        · rw [show z8C i (.h i q) = .dead by simp [z8C, hq]]; trivial
      | a i q off =>
        simp only [onA, Option.some.injEq] at hxd; subst hxd
        by_cases hq : q = []
        · subst hq
          obtain ⟨hv, g, n1, n4, n5, _⟩ := hx
          simp only [z8C]
          rw [if_neg (by simp)]
          exact ⟨hv, g, n1, n4, n5, t', by simp [z0M], rfl⟩
        · rw [show z8C i (.a i q off) = .dead by simp [z8C, hq]]; trivial
      | ea dep cs off => simp only [onA] at hxd; subst hxd; simp only [z8C, if_true]; trivial
    · have : z8C d x = x := by
        cases x with
        | dead => rfl
        | k v => rfl
        | t dep x => cases dep with
          | none => rfl
          | some i => simp only [z8C]; rw [if_neg (fun e => hxd (by simp [onA, e]))]
        | h i q => simp only [z8C]; rw [if_neg (fun e => hxd (by simp [onA, e.1]))]
        | a i q off => simp only [z8C]; rw [if_neg (fun e => hxd (by simp [onA, e.1]))]
        | ea dep cs off => cases dep with
          | none => rfl
          | some i => simp only [z8C]; rw [if_neg (fun e => hxd (by simp [onA, e]))]
      rw [this]
      exact hx.but h.ob k hR hxd
  · rw [z0M] at ht'
    split at ht'
    · rename_i e
      subst e
      cases ht'
      exact ht
    · rename_i hne
      have hne' : id ≠ d := fun e => hne e.symm
      exact (h.ob id t ht').keep k fun s _ => ⟨id, s, rfl, hne'⟩
end
section
def zff (fr : Fr) : zo6 -> Option Fr
  | [] => some fr
  | (id, p) :: l => match z5a fr id p with | some fr' => zff fr' l | none => none
theorem zqb {fr fr' : Fr} {id : Nat} {p : List Nat} (hs : z5a fr id p = some fr') : fr'.nt = fr.nt /\ ∀ i, i ≠ id -> z1V fr'.ob i = z1V fr.ob i := by
  unfold z5a at hs
  split at hs
  · cases hs
  · split at hs
    · cases hs
    · split at hs
      · cases hs
      · cases hs
        exact ⟨rfl, fun i hi => by rw [z0M, if_neg (fun e => hi e.symm)]⟩
theorem zfe {w : World} {R G : Nat -> Value} {a : Act} : ∀ {deps : zo6} {K : Nat -> z0g} {fr fr1 : Fr}, FRep w K R G fr a -> zff fr deps = some fr1 ->
    ∃ K1, FRep w K1 R G fr1 a /\ Step w K w K1 /\ (∀ b, K b = [] -> K1 b = []) /\ (∀ b h q, K b = h :: q -> z3P deps h q = true -> K1 b = []) /\ (∀ b h q, K b = h :: q -> K1 b = [] ∨ K1 b = K b) /\ (∀ b h q, K b = h :: q -> (∀ x ∈ deps, h ≠ x.1 + 2) -> K1 b = K b) /\
      (∀ i, (∀ x ∈ deps, x.1 ≠ i) -> z1V fr1.ob i = z1V fr.ob i) /\ fr1.nt = fr.nt
  | [], K, fr, fr1, h, hf => by
    cases hf
    exact ⟨K, h, Step.refl _ _, fun _ e => e, fun b hh q e hd => by simp [z3P] at hd, fun _ _ _ _ => .inr rfl, fun _ _ _ _ _ => rfl, fun _ _ => rfl, rfl⟩
  | (id, p) :: l, K, fr, fr1, h, hf => by
    simp only [zff] at hf
    split at hf
    · rename_i fr2 h2
      obtain ⟨a1, _⟩ := h.freeze h2
      obtain ⟨n1, n2⟩ := zqb h2
      obtain ⟨K1, b1, b2, b3, b4, b5, b6, b7, b8⟩ := zfe (deps := l) a1 hf
      have hz : ∀ b, fzK id p (K b) = [] ∨ fzK id p (K b) = K b := fun b => by
        cases hk : K b with
        | nil => left; rfl
        | cons hh q => simp only [fzK]; split <;> simp
      refine ⟨K1, b1, (zbh id p).trans b2, fun b e => b3 b (by show fzK id p (K b) = []; rw [e]; rfl), fun b hh q e hd => ?_, fun b hh q e => ?_, fun b hh q e hd => ?_, fun i hi => ?_, b8.trans n1⟩
      · rcases hz b with e1 | e1
        · exact b3 b e1
        · rw [show z3P ((id, p) :: l) hh q = (decide (hh = id + 2) && (z4f p q).isSome || z3P l hh q) from rfl, Bool.or_eq_true] at hd
          rcases hd with hd | hd
          · exfalso
            rw [e] at e1
            simp only [fzK] at e1
            simp only [Bool.and_eq_true, decide_eq_true_eq] at hd
            rw [if_pos hd] at e1
            cases e1
          · exact b4 b hh q (e1.trans e) hd
      · rcases hz b with e1 | e1
        · exact .inl (b3 b e1)
        · rcases b5 b hh q (e1.trans e) with e2 | e2
          · exact .inl e2
          · exact .inr (e2.trans e1)
      · have e1 : fzK id p (K b) = K b := by
          rw [e]; simp only [fzK]
          rw [if_neg (fun hc => hd (id, p) (by simp) hc.1)]
        rw [b6 b hh q (e1.trans e) (fun x hx => hd x (by simp [hx])), e1]
      · rw [b7 i (fun x hx => hi x (by simp [hx])), n2 i (fun e => hi (id, p) (by simp) e.symm)]
    · cases hf
theorem zfv {w : World} {K K0 : Nat -> z0g} {R G : Nat -> Value} {fr : Fr} {a : Act} (h : FRep w K R G fr a) {io : Nat -> Bool} (h0 : ∀ b, K b = [] -> K0 b = []) : ∀ {args : List E} {vs : List Value} {i0 : Nat} {ts : List T} {deps : zo6} {o : Option (Nat × Nat)}, zfM fr io args i0 = some (ts, deps, o) ->
    vs.length = args.length -> (∀ (j : Nat) (e : E) (v : Value), args[j]? = some e -> vs[j]? = some v -> ERep w K R fr.ob e v) -> (∀ b hh q, K b = hh :: q -> z3P deps hh q = true -> K0 b = []) ->
    ts.length = args.length /\ (∀ j t, ts[j]? = some t -> ∃ x, vs[j]? = some x /\ ((z6z t = false /\ TRep w K0 [] x t) ∨ (z6z t = true /\ ∃ id, o = some (i0 + j, id) /\ zsP fr R id t x))) /\
      (∀ i id, o = some (i, id) -> ∃ j t, i = i0 + j /\ ts[j]? = some t /\ z6z t = true)
  | [], vs, i0, ts, deps, o, ha, hl, hv, hd => by
    cases ha
    exact ⟨rfl, fun j t ht => by simp at ht, fun i id e => by cases e⟩
  | x :: xs, [], i0, ts, deps, o, ha, hl, hv, hd => by simp at hl
  | x :: xs, u :: us, i0, ts, deps, o, ha, hl, hv, hd => by
    have hl' : us.length = xs.length := by simpa using hl
    have hv' : ∀ (j : Nat) (e : E) (v : Value), xs[j]? = some e -> us[j]? = some v -> ERep w K R fr.ob e v := fun j e v h1 h2 => hv (j + 1) e v (by simpa using h1) (by simpa using h2)
    have hx : ERep w K R fr.ob x u := hv 0 x u rfl rfl
    simp only [zfM] at ha
    split at ha
    · rename_i t d ts' ds o' h1 h2
      cases ha
      obtain ⟨r1, r2, r3⟩ := zfv h h0 h2 hl' hv' (fun b hh q e e2 => hd b hh q e (by rw [z4k, e2, Bool.or_true]))
      refine ⟨by simp [r1], fun j t' ht => ?_, fun i id e => ?_⟩
      · match j, ht with
        | 0, ht =>
          simp at ht; subst ht
          rcases znZ h hx h1 h0 (fun b hh q e e2 => hd b hh q e (by rw [z4k, e2, Bool.true_or])) with ⟨-, e2, e3⟩ | ⟨id, e1, _⟩
          · exact ⟨u, rfl, .inl ⟨e2, e3⟩⟩
          · cases e1
        | j + 1, ht =>
          obtain ⟨y, y1, y2⟩ := r2 j t' (by simpa using ht)
          refine ⟨y, by simpa using y1, ?_⟩
          rcases y2 with y2 | ⟨y2, id, y3, y4⟩
          · exact .inl y2
          · exact .inr ⟨y2, id, by rw [y3]; congr 2; omega, y4⟩
      · obtain ⟨j, t', j1, j2, j3⟩ := r3 i id e
        exact ⟨j + 1, t', by omega, by simpa using j2, j3⟩
    · rename_i t d id ts' ds h1 h2
      cases ha
      obtain ⟨r1, r2, r3⟩ := zfv h h0 h2 hl' hv' (fun b hh q e e2 => hd b hh q e (by rw [z4k, e2, Bool.or_true]))
      rcases znZ h hx h1 h0 (fun b hh q e e2 => hd b hh q e (by rw [z4k, e2, Bool.true_or])) with ⟨e1, _⟩ | ⟨id', e1, e2, e3, e4⟩
      · cases e1
      · cases e1
        refine ⟨by simp [r1], fun j t' ht => ?_, fun i id2 e => ?_⟩
        · match j, ht with
          | 0, ht =>
            simp at ht; subst ht
            exact ⟨u, rfl, .inr ⟨e2, id, rfl, e4⟩⟩
          | j + 1, ht =>
            obtain ⟨y, y1, y2⟩ := r2 j t' (by simpa using ht)
            refine ⟨y, by simpa using y1, ?_⟩
            rcases y2 with y2 | ⟨y2, id, y3, y4⟩
            · exact .inl y2
            · cases y3
        · cases e
          exact ⟨0, t, by omega, rfl, e2⟩
    · cases ha
def clB (r : T) (outs : List T) (io : Option (Nat × Nat)) : Bool := opn r || (match io with | some (i, _) => (match outs[i]? with | some t => opn t | none => false) | none => false)
def zkJ (o : Option T) : T -> T
  | .vo _ cs' => (match o with | some (.os sz n cs) => if cs'.length = cs.length then .os sz n cs' else .dead | _ => .dead)
  | .vr cs' => (match o with | some (.os _ _ _) => .dead | _ => .vr cs')
  | .pr cs' => (match o with | some (.os _ _ _) => .dead | _ => .pr cs')
  | t => t
theorem zsG {w w' : World} {K K' : Nat -> z0g} {c c' : z0g} {R : Nat -> Value} {fr : Fr} {id : Nat} {t t' : T} {u : Value} (hh : zsP fr R id t u) (hob : ∀ t, z1V fr.ob id = some t -> TRep w K c (R id) t) (hz : SzK w w') (h' : TRep w' K' c' u t') : TRep w' K' c' (R id) (zkJ (z1V fr.ob id) t') := by
  rcases hh with ⟨z1, z2, z3⟩ | ⟨sz, n, cs, off, g, z1, z2, z3, z4⟩
  · rw [z2] at h'
    have hr := hob t z1
    rw [z1]
    cases t' with
    | vo o' cs' =>
      simp only [zkJ]
      split
      · rename_i sz n cs he
        cases he
        exfalso
        generalize R id = v at h' hr
        cases h' with
        | vo => cases hr
      · exact .dead _ _
    | vr cs' =>
      simp only [zkJ]
      split
      · exact .dead _ _
      · exact h'
    | pr cs' =>
      simp only [zkJ]
      split
      · exact .dead _ _
      · exact h'
    | _ => exact h'
  · rw [z1]
    have hr := hob _ z1
    subst z4
    cases h' with
    | dead => exact .dead _ _
    | sc _ _ hb => cases hb
    | vr => exact .dead _ _
    | pr => exact .dead _ _
    | vo _ _ _ cs' h2 =>
      simp only [zkJ]
      split
      · rename_i hl
        exact hr.ofVo z3 hz rfl (.vo _ g off cs' h2) hl
      · exact .dead _ _
def ioF (fr : Fr) (deps : zo6) (outs : List T) : Option (Nat × Nat) -> Option Fr
  | none => some fr
  | some (i, id) => if deps.any (fun x => decide (x.1 = id)) then none else match outs[i]? with
    | some t' => some { fr with tm := z7H (z8C id) fr.tm, ob := z6L fr.ob id (zkJ (z1V fr.ob id) t') }
    | none => none
def zxo (d : Nat) : T -> A
  | .vr _ => .a d [] 0
  | _ => .h d []
def zxP (fr : Fr) (dst : Option Nat) (r : T) (io : Option (Nat × Nat)) : Option Fr :=
  match dst with
  | none => some fr
  | some d => if d < fr.nt /\ (io.map (·.2)) ≠ some d then
      (if zb1 r then some { fr with tm := zhx fr.tm d (.one (.t none r)) } else some { fr with tm := zhx (z7H (kill d) fr.tm) d (.one (zxo d r)), ob := z6L fr.ob d r })
    else none
def zbm (C : z0q) (wio : FuncId -> Nat -> Bool) (fr : Fr) (f : FuncId) (args : List E) (dst : Option Nat) : Option Fr :=
  match zfM fr (wio f) args 0 with
  | none => none
  | some (ts, deps, io) => match C f ts with
    | none => none
    | some (r, outs) => match (if deps.isEmpty || (!clB r outs io && !wio 777777 f) then some fr else zff fr deps) with
      | none => none
      | some fr1 => match ioF fr1 deps outs io with
        | none => none
        | some fr2 => zxP fr2 dst r io
def zvZ (d : Nat) (io : Option (Nat × Nat)) : z0g -> z0g
  | [] => []
  | 0 :: s => (d + 2) :: s
  | 1 :: _ => [1]
  | (j + 2) :: s => match io with | some (i, id) => if j = i then (id + 2) :: s else [1] | none => [1]
def zav (io : Option (Nat × Nat)) (c : z0g) : Prop := ∃ i id s, io = some (i, id) /\ c = (id + 2) :: s
theorem z7Z (c : z0g) : ¬ zav none c := fun ⟨_, _, _, e, _⟩ => by cases e
theorem zmE {P : Program} {I : World -> (Nat -> z0g) -> Prop} {C : z0q} {wio : FuncId -> Nat -> Bool} {w : World} {K : Nat -> z0g} {R G : Nat -> Value} {fr fr' : Fr} {a : Act} {o : Oper} {f : FuncId} {args : List E} {vs : List Value} {next : Act -> World -> Prop} {Q : Exit -> Act -> World -> Prop}
    (hI : EnvS I) (hC : zaD P I C) (h : FRep w K R G fr a) (hIw : I w K) (hrun0 : (callFunc f vs.toArray).run P w = .ok (.enter f vs.toArray) w -> (execOp a.eval o).run P w = .ok (.enter f vs.toArray) w) (hvl : vs.length = args.length) (hvr : ∀ (j : Nat) (e : E) (v : Value), args[j]? = some e -> vs[j]? = some v -> ERep w K R fr.ob e v) (hf : zbm C wio fr f args o.dst = some fr')
    (hn : ∀ a' w' K' R', FRep w' K' R' G fr' a' -> Step w K w' K' -> (∀ ts deps io, zfM fr (wio f) args 0 = some (ts, deps, io) -> ∀ b, b < w.heap.size -> ¬ zav io (K b) -> (K' b = [] ∨ K' b = K b) /\ w'.heap[b]? = w.heap[b]?) -> next a' w') : o.wp P a w next Q := by
  unfold zbm at hf
  split at hf
  case h_1 => cases hf
  case h_2 ts deps io hargs =>
  split at hf
  case h_1 => cases hf
  case h_2 r outs hcf =>
  split at hf
  case h_1 => cases hf
  case h_2 fr1 hfz =>
  split at hf
  case h_1 => cases hf
  case h_2 fr2 hio =>
  have hok := hC f ts r outs hcf
  let vals : Array Value := vs.toArray
  have hrun : (execOp a.eval o).run P w = .ok (.enter f vals) w := hrun0 (hok.enter vals w)
  unfold Oper.wp
  rw [hrun]
  simp only [Oper.upon]
  obtain ⟨Kx, dx, x1, x2, x3, x4, x5, x6, x7, x8, x9, x10⟩ : ∃ Kx dx, FRep w Kx R G fr1 a /\ Step w K w Kx /\ (∀ b, K b = [] -> Kx b = []) /\ (∀ b hh q, K b = hh :: q -> z3P deps hh q = true -> Kx b = [] ∨ (Kx b = hh :: q /\ z3P dx hh q = true)) /\ (dx = [] ∨ clB r outs io = false) /\
      (∀ i, (∀ x ∈ deps, x.1 ≠ i) -> z1V fr1.ob i = z1V fr.ob i) /\ fr1.nt = fr.nt /\ (∀ b hh q, K b = hh :: q -> (∀ x ∈ deps, hh ≠ x.1 + 2) -> Kx b = K b) /\ (∀ x ∈ dx, x ∈ deps) /\ (∀ b, Kx b = [] ∨ Kx b = K b) := by
    split at hfz
    · rename_i hc
      cases hfz
      rw [Bool.or_eq_true] at hc
      rcases hc with hc | hc
      · have : deps = [] := by simpa using hc
        subst this
        exact ⟨K, [], h, Step.refl _ _, fun _ e => e, fun b hh q e hd => by simp [z3P] at hd, .inl rfl, fun _ _ => rfl, rfl, fun _ _ _ _ _ => rfl, fun _ h => h, fun _ => .inr rfl⟩
      · exact ⟨K, deps, h, Step.refl _ _, fun _ e => e, fun b hh q e hd => .inr ⟨e, hd⟩, .inr (by rw [Bool.and_eq_true] at hc; simpa using hc.1), fun _ _ => rfl, rfl, fun _ _ _ _ _ => rfl, fun _ h => h, fun _ => .inr rfl⟩
    · obtain ⟨K1, b1, b2, b3, b4, b5, b6, b7, b8⟩ := zfe h hfz
      have hz : ∀ b, K1 b = [] ∨ K1 b = K b := fun b => by
        cases hk : K b with
        | nil => exact .inl (b3 b hk)
        | cons hh q =>
          rw [← hk]
          exact b5 b hh q hk
      exact ⟨K1, [], b1, b2, b3, fun b hh q e hd => .inl (b4 b hh q e hd), .inl rfl, b7, b8, b6, fun _ h => (by cases h), hz⟩
  let K0 : Nat -> z0g := fun b => zsv dx io (Kx b)
  have k00 : ∀ b, Kx b = [] -> K0 b = [] := fun b e => by show zsv dx io (Kx b) = []; rw [e]; rfl
  have k01 : ∀ b, K b = [] -> K0 b = [] := fun b e => k00 b (x3 b e)
  have k02 : ∀ b hh q, K b = hh :: q -> z3P deps hh q = true -> K0 b = [] := fun b hh q e hd => by
    rcases x4 b hh q e hd with e1 | ⟨e1, e2⟩
    · exact k00 b e1
    · show zsv dx io (Kx b) = []
      rw [e1]; simp [zsv, e2]
  obtain ⟨g1, g2, g3⟩ := zfv (K0 := K0) h k01 hargs hvl hvr k02
  have hioid : ∀ i id, io = some (i, id) -> (∀ x ∈ deps, x.1 ≠ id) /\ (∃ t, outs[i]? = some t /\ fr2 = { fr1 with tm := z7H (z8C id) fr1.tm, ob := z6L fr1.ob id (zkJ (z1V fr1.ob id) t) }) := fun i id e => by
    subst e
    simp only [ioF] at hio
    split at hio
    · cases hio
    · rename_i hd
      split at hio
      · rename_i t' ht'
        cases hio
        exact ⟨fun x hx e => hd (List.any_eq_true.2 ⟨x, hx, by simpa using e⟩), t', ht', rfl⟩
      · cases hio
  have k03 : ∀ b i id s, io = some (i, id) -> Kx b = (id + 2) :: s -> K0 b = (i + 2) :: s := fun b i id s e e1 => by
    show zsv dx io (Kx b) = _
    rw [e1, e]
    have : z3P dx (id + 2) s = false := by
      cases hb : z3P dx (id + 2) s with
      | false => rfl
      | true =>
        simp only [z3P, List.any_eq_true, Bool.and_eq_true, decide_eq_true_eq] at hb
        obtain ⟨x, hx, hh, _⟩ := hb
        exact absurd (show x.1 = id by omega) ((hioid i id e).1 x (x9 x hx))
    simp [zsv, this]
  have k04 : ∀ b, ¬ zav io (Kx b) -> K0 b = [] ∨ K0 b = [1] := fun b hb => by
    show zsv dx io (Kx b) = [] ∨ zsv dx io (Kx b) = [1]
    cases hk : Kx b with
    | nil => left; rfl
    | cons hh q =>
      simp only [zsv]
      split
      · left; rfl
      · cases io with
        | none => right; rfl
        | some x =>
          obtain ⟨i, id⟩ := x
          simp only
          split
          · rename_i e
            exact absurd ⟨i, id, q, rfl, by rw [hk, e]⟩ hb
          · right; rfl
  have k05 : dx = [] -> ∀ b, ¬ zav io (Kx b) -> K0 b = [] -> Kx b = [] := fun hd b hb e => by
    cases hk : Kx b with
    | nil => rfl
    | cons hh q =>
      exfalso
      have e' : zsv dx io (Kx b) = [] := e
      rw [hk, hd] at e'
      simp only [zsv] at e'
      rw [if_neg (by simp [z3P])] at e'
      cases io with
      | none => cases e'
      | some x =>
        obtain ⟨i, id⟩ := x
        simp only at e'
        split at e' <;> cases e'
  refine (hok.calls w K0 vals (by simp [vals, g1, hvl]) (fun j t ht => ?_) (hI.keep hIw (Nat.le_refl _) fun b hb e => ⟨k01 b e, rfl⟩)).mono ?_
  · obtain ⟨x, y1, y2⟩ := g2 j t ht
    have hlt := (List.getElem?_eq_some_iff.1 y1).1
    have hv : vals.getD j undef = x := by
      simp [vals, Array.getD_eq_getD_getElem?, y1]
    rw [hv]
    unfold zho
    rcases y2 with ⟨z1, z2⟩ | ⟨z1, id, z2, z3⟩
    · rw [z1]; exact z2
    · rw [z1]
      simp only [if_true, Nat.zero_add] at z2 ⊢
      have hid := (hioid _ _ z2).1
      have hmv : ∀ t2, z1V fr.ob id = some t2 -> TRep w K0 (col j) (R id) t2 := fun t2 ht2 => by
        have hr := x1.ob id t2 (by rw [x6 id hid]; exact ht2)
        exact hr.move (fun b s hb hc hK => ⟨by simpa [col] using k03 b _ id s z2 (by simpa [col] using hK), rfl⟩) (fun b hb e => ⟨k00 b e, rfl⟩) (by simp [col]) (Nat.le_refl _)
      rcases z3 with ⟨q1, q2, _⟩ | ⟨sz, n, cs, off, g, q1, q2, q3, q4⟩
      · rw [q2]; exact hmv _ q1
      · rw [q2, q4]; exact (hmv _ q1).toVo q3 off
  · rintro e w' ⟨v, K', rfl, hres, hout, hst⟩
    simp only
    let d : Nat := o.dst.getD 0
    haveI hdec : ∀ b, Decidable (b < w.heap.size /\ ¬ zav io (Kx b)) := fun b => Classical.propDecidable _
    let K2 : Nat -> z0g := fun b => if b < w.heap.size /\ ¬ zav io (Kx b) then Kx b else zvZ d io (K' b)
    have e1 : ∀ b, b < w.heap.size -> ¬ zav io (Kx b) -> K2 b = Kx b /\ K' b = K0 b /\ w'.heap[b]? = w.heap[b]? := fun b hb hn => by
      obtain ⟨q1, q2⟩ := hst.old b hb (k04 b hn)
      refine ⟨?_, q1, q2⟩
      show (if b < w.heap.size /\ ¬ zav io (Kx b) then Kx b else zvZ d io (K' b)) = Kx b
      rw [if_pos ⟨hb, hn⟩]
    have e2 : ∀ b hh s, K' b = hh :: s -> hh ≠ 1 -> K2 b = zvZ d io (K' b) := fun b hh s he hne => by
      show (if b < w.heap.size /\ ¬ zav io (Kx b) then Kx b else zvZ d io (K' b)) = _
      rw [if_neg]
      rintro ⟨hb, hn⟩
      obtain ⟨_, q1, _⟩ := e1 b hb hn
      rcases k04 b hn with q | q <;> rw [q, he] at q1
      · cases q1
      · cases q1; exact hne rfl
    have e3 : dx = [] -> ∀ b, K' b = [] -> K2 b = [] := fun hd b he => by
      show (if b < w.heap.size /\ ¬ zav io (Kx b) then Kx b else zvZ d io (K' b)) = []
      split
      · rename_i hc
        obtain ⟨_, q1, _⟩ := e1 b hc.1 hc.2
        exact k05 hd b hc.2 (q1 ▸ he)
      · rw [he]; rfl
    have hnc : ∀ b, Kx b = [] ∨ Kx b = [1] -> ¬ zav io (Kx b) := fun b hb ⟨i, id, s, _, e⟩ => by rcases hb with hb | hb <;> rw [e] at hb <;> simp at hb
    have hstep : Step w Kx w' K2 := ⟨hst.os, hst.tape, hst.output, hst.size, fun b hb hc => ⟨(e1 b hb (hnc b hc)).1, (e1 b hb (hnc b hc)).2.2⟩, hst.sz⟩
    have hsame : ∀ ts' deps' io', zfM fr (wio f) args 0 = some (ts', deps', io') -> ∀ b, b < w.heap.size -> ¬ zav io' (K b) -> (K2 b = [] ∨ K2 b = K b) /\ w'.heap[b]? = w.heap[b]? := fun ts' deps' io' he b hb hn => by
      rw [hargs] at he
      cases he
      have hx : ¬ zav io (Kx b) := by
        rcases x10 b with e | e
        · exact hnc b (.inl e)
        · rw [e]; exact hn
      obtain ⟨q1, _, q3⟩ := e1 b hb hx
      rw [q1]
      exact ⟨x10 b, q3⟩
    have hmove : ∀ (c c' : z0g) (u : Value) (t : T), TRep w' K' c u t -> c ≠ [] -> c' ≠ [] -> (∀ b s, K' b = c ++ s -> K2 b = c' ++ s) -> (dx = [] ∨ opn t = false) -> TRep w' K2 c' u t := fun c c' u t hr hc hc' hk hcl => by
      rcases hcl with hcl | hcl
      · exact hr.move (fun b s _ _ e => ⟨hk b s e, rfl⟩) (fun b _ e => ⟨e3 hcl b e, rfl⟩) (by simp [hc, hc']) (Nat.le_refl _)
      · exact hr.moveC hcl (fun b s _ _ e => ⟨hk b s e, rfl⟩) (by simp [hc, hc']) (Nat.le_refl _)
    have hclr : dx = [] ∨ opn r = false := x5.imp id fun h => by
      unfold clB at h
      rw [Bool.or_eq_false_iff] at h
      exact h.1
    have hr1 : TRep w' K2 (col d) v r := hmove [0] (col d) v r hres (by simp) (z1T d) (fun b s e => by
      have e' : K' b = 0 :: s := by simpa using e
      rw [e2 b 0 s e' (by decide), e']; rfl) hclr
    have hfr2 : FRep w' K2 R G fr2 a := by
      cases io with
      | none =>
        simp only [ioF, Option.some.injEq] at hio
        subst hio
        have hk : Keep w w' Kx K2 (fun _ => True) := ⟨fun b hb e => ⟨(e1 b hb (z7Z _)).1.trans e, (e1 b hb (z7Z _)).2.2⟩, fun b hb _ => ⟨(e1 b hb (z7Z _)).1, (e1 b hb (z7Z _)).2.2⟩, hst.size⟩
        exact x1.keep hk
      | some x =>
        obtain ⟨i, id⟩ := x
        obtain ⟨m1, t', m2, m3⟩ := hioid i id rfl
        rw [m3]
        have hnio : ∀ b i' s, Kx b = (i' + 2) :: s -> i' ≠ id -> ¬ zav (some (i, id)) (Kx b) := fun b i' s e hne ⟨_, _, s', e2, e3⟩ => by
          cases e2
          rw [e] at e3; simp at e3; exact hne e3.1
        have hk : Keep w w' Kx K2 (But id) := ⟨fun b hb e => ⟨(e1 b hb (hnc b (.inl e))).1.trans e, (e1 b hb (hnc b (.inl e))).2.2⟩, fun b hb ⟨i', s, e, hne⟩ => ⟨(e1 b hb (hnio b i' s e hne)).1, (e1 b hb (hnio b i' s e hne)).2.2⟩, hst.size⟩
        refine x1.renew hk ?_
        obtain ⟨j, t, j1, j2, j3⟩ := g3 i id rfl
        obtain ⟨t2, p1, p2⟩ := hout j t j2 j3
        have hji : i = j := by omega
        subst hji
        rw [m2] at p1; cases p1
        obtain ⟨x, y1, y2⟩ := g2 i t j2
        have hv : vals.getD i undef = x := by
          simp [vals, Array.getD_eq_getD_getElem?, y1]
        rcases y2 with ⟨z1, z2⟩ | ⟨z1, id', z2, z3⟩
        · rw [z1] at j3; cases j3
        · rw [Nat.zero_add] at z2
          cases z2
          rw [hv] at p2
          have hid := (hioid _ _ rfl).1
          have z3' : zsP fr1 R id t x := by
            unfold zsP
            rw [x6 id hid]
            exact z3
          refine zsG (K := Kx) (c := col id) z3' (fun t2 ht2 => x1.ob id t2 ht2) hst.sz (hmove (col i) (col id) _ _ p2 (z1T _) (z1T _) (fun b s e => ?_) (x5.imp _root_.id fun h => ?_))
          · have e' : K' b = (i + 2) :: s := by simpa [col] using e
            rw [e2 b (i + 2) s e' (by omega), e']
            simp [zvZ, col]
          · unfold clB at h
            rw [Bool.or_eq_false_iff] at h
            simpa [m2] using h.2
    unfold zxP at hf
    split at hf
    · rename_i hdst
      cases hf
      rw [hdst]
      exact hn a w' K2 R hfr2 (x2.trans hstep) hsame
    · rename_i d' hdst
      have hdd : d = d' := by show o.dst.getD 0 = d'; rw [hdst]; rfl
      split at hf
      case isFalse => cases hf
      case isTrue hc =>
      rw [hdst]
      split at hf
      · rename_i hp
        cases hf
        refine hn _ w' K2 R (hfr2.put hc.1 ⟨?_, fun _ e => by cases e⟩) (x2.trans hstep) hsame
        have := hr1.free hp []
        exact this
      · cases hf
        subst hdd
        have h3 := hfr2.replace (d := d) (w' := w') (K' := K2) (v := v) (t := r) ⟨fun b hb e => ⟨e, rfl⟩, fun b hb _ => ⟨rfl, rfl⟩, Nat.le_refl _⟩ hr1
        refine hn _ w' K2 _ (h3.put (d := d) (x := .one (zxo d r)) (v := v) hc.1 ?_) (x2.trans hstep) hsame
        have hh : ARep w' K2 (z9h R d v) (z6L fr2.ob d r) (.h d []) v := ⟨by simp [z9h, nav], r, by simp [z0M], rfl⟩
        unfold zxo
        split
        · rename_i cs _
          cases hr1 with
          | vr c g arr2 arr e fz F hfz hc0 hK hg hl hF hh => exact ⟨.pointer (some ⟨g, 0, none⟩), g, by simp [z9h, nav], rfl, rfl, .vr cs, by simp [z0M], rfl⟩
        · exact hh
end
section
open Go.MapKept
def zwY : TypeDesc -> Option (Option IntKind)
  | .int k => some (some k)
  | .string => some none
  | _ => none
def zbd : Value -> Value -> Bool
  | .int _ a, .int _ b => decide (a = b)
  | .string a, .string b => decide (a = b)
  | _, _ => false
def z5q (k : Value) : List (Value × Value) -> Option Value
  | [] => none
  | (a, v) :: r => if zbd a k then some v else z5q k r
def zjO (k v : Value) : List (Value × Value) -> List (Value × Value)
  | [] => [(k, v)]
  | (a, u) :: r => if zbd a k then (k, v) :: r else (a, u) :: zjO k v r
theorem z7Y {d : TypeDesc} {kk : Option IntKind} {v : Value} (hd : zwY d = some kk) (hv : zno kk v = true) : IsKey d v := by
  unfold zwY at hd
  split at hd
  · cases hd
    cases v <;> simp_all [zno, IsKey]
  · cases hd
    cases v <;> simp_all [zno, IsKey]
  · cases hd
theorem zrU {kk : Option IntKind} {a b : Value} (ha : zno kk a = true) (hb : zno kk b = true) : zbd a b = true ↔ a = b := by
  cases kk <;> cases a <;> cases b <;> simp_all [zno, zbd]
theorem z9a {d : TypeDesc} {kk : Option IntKind} {k : Value} (hd : zwY d = some kk) (hk : zno kk k = true) : ∀ (l : List MapEntry) (i : Nat), (∀ x ∈ l, zno kk x.key = true) ->
    (Instr.findNow d k l i = some none /\ z5q k (l.map fun e => (e.key, e.val)) = none /\ ∀ v, zjO k v (l.map fun e => (e.key, e.val)) = (l.map fun e => (e.key, e.val)) ++ [(k, v)]) ∨
    ∃ j e, Instr.findNow d k l i = some (some (i + j, e.val)) /\ l[j]? = some e /\ e.key = k /\ z5q k (l.map fun e => (e.key, e.val)) = some e.val /\ ∀ v, zjO k v (l.map fun e => (e.key, e.val)) = (l.map fun e => (e.key, e.val)).set j (k, v)
  | [], i, h => .inl ⟨rfl, rfl, fun _ => rfl⟩
  | e :: es, i, h => by
    have he := h e (.head _)
    obtain ⟨r, hr, hiff⟩ := sameNow_of_keys (z7Y hd hk) (z7Y hd he)
    have hke := zrU he hk
    cases r with
    | true =>
      have e1 : e.key = k := (hiff.1 rfl).symm
      have e2 : zbd e.key k = true := hke.2 e1
      exact .inr ⟨0, e, by simp [Instr.findNow, hr], rfl, e1, by simp [z5q, e2], fun v => by simp [zjO, e2]⟩
    | false =>
      have e2 : zbd e.key k = false := by
        rw [← Bool.not_eq_true]; intro q; have := hiff.2 (hke.1 q).symm; cases this
      rcases z9a hd hk es (i + 1) (fun x hx => h x (.tail _ hx)) with ⟨h1, h2, h3⟩ | ⟨j, e', h1, h2, h3, h4, h5⟩
      · exact .inl ⟨by simp [Instr.findNow, hr, h1], by simp [z5q, e2, h2], fun v => by simp [zjO, e2, h3]⟩
      · exact .inr ⟨j + 1, e', by simp [Instr.findNow, hr, h1]; omega, by simpa using h2, h3, by simp [z5q, e2, h4], fun v => by simp [zjO, e2, h5]⟩
def zwu (fr : Fr) : E -> Option (Option Nat × Option IntKind × List (Value × Value))
  | .one (.t dep (.mr kk es)) => some (dep, kk, es)
  | .one (.h id p) => match z1V fr.ob id with
    | none => none
    | some root => match sub root p with
      | some (.mp kk es) => some (some id, kk, es)
      | some (.mr kk es) => some (none, kk, es)
      | _ => none
  | _ => none
theorem zjX {w : World} {K : Nat -> z0g} {R G : Nat -> Value} {fr : Fr} {a : Act} {e : E} {u : Value} {dep : Option Nat} {kk : Option IntKind} {es : List (Value × Value)} (h : FRep w K R G fr a) (he : ERep w K R fr.ob e u) (hr : zwu fr e = some (dep, kk, es)) :
    ∃ g ents clock, u = .map (some g) /\ frz K dep g = [] /\ w.heap[g]? = some (.map ents clock) /\ zqt kk ents es := by
  unfold zwu at hr
  split at hr
  · cases hr
    have h1 := he.1
    cases h1 with
    | mr _ g _ _ ents clock hK hg hh => exact ⟨g, ents, clock, rfl, hK, hg, hh⟩
  · rename_i id p
    split at hr
    case h_1 => cases hr
    case h_2 root hroot =>
    obtain ⟨n1, t, n2, n3⟩ := he
    split at hr
    · rename_i kk' es' hsub
      cases hr
      obtain ⟨v, e1, r⟩ := (h.ob id root hroot).sub (z1T id) hsub
      rw [n1] at e1; cases e1
      cases r with
      | mp _ g _ _ ents clock hc0 hK hg hh => exact ⟨g, ents, clock, rfl, by simp [frz, hK, col], hg, hh⟩
    · rename_i kk' es' hsub
      cases hr
      obtain ⟨v, e1, r⟩ := (h.ob id root hroot).sub (z1T id) hsub
      rw [n1] at e1; cases e1
      cases r with
      | mr _ g _ _ ents clock hK hg hh => exact ⟨g, ents, clock, rfl, hK, hg, hh⟩
    · cases hr
  · cases hr
def zo7 (P : Program) (t : TypeId) : Option Value := match P.info? t with | some i => i.zero | none => none
theorem zrl {P : Program} {t : TypeId} {z : Value} (h : zo7 P t = some z) (w : World) : (zeroValue t).run P w = .ok z w := by
  unfold zo7 at h
  split at h
  · rename_i i hi
    simp [zeroValue, typeInfo, hi, h, Sem.run]
  · cases h
def zhG (P : Program) (t : TypeId) : Option (Option IntKind × TypeId) :=
  match z2X P t with
  | some ⟨.map kt et, _, _, _⟩ => match z2X P kt with
    | some ki => match zwY ki.u with
      | some kk => some (kk, et)
      | none => none
    | none => none
  | _ => none
theorem z9K {P : Program} {t et : TypeId} {kk : Option IntKind} (h : zhG P t = some (kk, et)) : ∃ kt d, P.underlying t = some (.map kt et) /\ P.underlying kt = some d /\ zwY d = some kk := by
  unfold zhG at h
  split at h
  · rename_i kt et' s b z ht
    split at h
    · rename_i ki hki
      split at h
      · rename_i kk' hkk
        cases h
        exact ⟨kt, ki.u, (z4q ht).1, (z4q hki).1, hkk⟩
      · cases h
    · cases h
  · cases h
def zhL (P : Program) (M : Nat -> Bool) (fr : Fr) (t : TypeId) (x key : E) (ok : Bool) : Option E :=
  match zhG P t with
  | none => none
  | some (kk, et) => match zo7 P et with
    | none => none
    | some z => match zwu fr x with
      | none => none
      | some (dep, kk', es) => match rdV key with
        | none => none
        | some k => if kk = kk' /\ zno kk k = true /\ scB z = true /\ zmx dep M = false then
            (if ok then some (.one (.t none (.tup [.sc ((z5q k es).getD z), .sc (.bool (z5q k es).isSome)]))) else some (scE ((z5q k es).getD z)))
          else none
theorem zkx {k v : Value} : ∀ {es : List (Value × Value)}, z5q k es = some v -> ∃ x ∈ es, x.2 = v
  | [], h => by cases h
  | (a, u) :: r, h => by
    simp only [z5q] at h
    split at h
    · cases h; exact ⟨_, .head _, rfl⟩
    · obtain ⟨x, hx, e⟩ := zkx h
      exact ⟨x, .tail _ hx, e⟩
theorem zpO {P : Program} {w : World} {K : Nat -> z0g} {R G : Nat -> Value} {fr : Fr} {a : Act} {M : Nat -> Bool} {t : TypeId} {x key e : E} {u ku : Value} {ok : Bool} (h : FRep w K R G fr a) (hx : ERep w K R fr.ob x u) (hkey : ERep w K R fr.ob key ku) (hl : zhL P M fr t x key ok = some e) :
    ∃ v, ERep w K R fr.ob e v /\ ∀ w', Stay w w' K M -> (Instr.lookup t u ku ok).run P w' = .ok v w' := by
  unfold zhL at hl
  split at hl
  case h_1 => cases hl
  case h_2 kk et ht =>
  split at hl
  case h_1 => cases hl
  case h_2 z hz =>
  split at hl
  case h_1 => cases hl
  case h_2 dep kk' es hrd =>
  split at hl
  case h_1 => cases hl
  case h_2 k hk =>
  split at hl
  case isFalse => cases hl
  case isTrue hc =>
  obtain ⟨rfl, hkb, hzb, hdep⟩ := hc
  obtain ⟨kt, d, u1, u2, u3⟩ := z9K ht
  obtain ⟨rfl, -⟩ := z1v hkey hk
  obtain ⟨g, ents, clock, rfl, hKg, hg, hm1, hm2⟩ := zjX h hx hrd
  subst hm1
  have hks : ∀ x ∈ ents.toList, zno kk x.key = true := fun x hx => (hm2 (x.key, x.val) (List.mem_map.2 ⟨x, hx, rfl⟩)).1
  have hstay : ∀ w', Stay w w' K M -> w'.heap[g]? = some (.map ents clock) := fun w' hst => by
    have := hst.dep hdep (z2x hg) hKg
    rw [this]; exact hg
  have hfv : ∀ v, z5q ku (ents.toList.map fun e => (e.key, e.val)) = some v -> scB v = true := fun v hv => by
    obtain ⟨x, hx, rfl⟩ := zkx hv
    exact (hm2 x hx).2
  have hres : scB ((z5q ku (ents.toList.map fun e => (e.key, e.val))).getD z) = true := by
    cases hfd : z5q ku (ents.toList.map fun e => (e.key, e.val)) with
    | none => exact hzb
    | some v => exact hfv v hfd
  have hrun : ∀ w', Stay w w' K M -> (Instr.lookup t (.map (some g)) ku ok).run P w' = .ok (if ok then .tuple #[(z5q ku (ents.toList.map fun e => (e.key, e.val))).getD z, .bool (z5q ku (ents.toList.map fun e => (e.key, e.val))).isSome] else (z5q ku (ents.toList.map fun e => (e.key, e.val))).getD z) w' := fun w' hst => by
    have hb := hstay w' hst
    rcases z9a u3 hkb ents.toList 0 hks with ⟨h1, h2, -⟩ | ⟨j, e', h1, h2, h3, h4, -⟩
    · rw [h2]
      simp only [Instr.lookup, Sem.run_bind, run_underlying u1, Go.MapKept.run_getObj_map hb, Result.andThen_ok, Sem.run_pure]
      rw [run_checkKey u2 (z7Y u3 hkb) _ 9999]
      simp only [Result.andThen_ok, run_findKey u2 h1, zrl hz, Sem.run_bind, Sem.run_pure]
      rfl
    · rw [h4]
      simp only [Instr.lookup, Sem.run_bind, run_underlying u1, Go.MapKept.run_getObj_map hb, Result.andThen_ok, Sem.run_pure]
      rw [run_checkKey u2 (z7Y u3 hkb) _ 9999]
      simp only [Result.andThen_ok, run_findKey u2 h1, Sem.run_bind, Sem.run_pure]
      rfl
  cases ok with
  | true =>
    simp only [if_true, Option.some.injEq] at hl
    subst hl
    refine ⟨_, ⟨?_, fun _ e => by cases e⟩, hrun⟩
    refine .tup _ _ _ (fun j => if j = 0 then (z5q ku (ents.toList.map fun e => (e.key, e.val))).getD z else .bool (z5q ku (ents.toList.map fun e => (e.key, e.val))).isSome) rfl (fun j hj => ?_) (fun j t ht => ?_)
    · match j, hj with
      | 0, _ => rfl
      | 1, _ => rfl
    · match j, ht with
      | 0, ht => cases ht; exact .sc _ _ hres
      | 1, ht => cases ht; exact .sc _ _ rfl
  | false =>
    simp only [Bool.false_eq_true, if_false, Option.some.injEq] at hl
    subst hl
    exact ⟨_, z3s hres, fun w' hst => by simpa using hrun w' hst⟩
def zhH (P : Program) (M : Nat -> Bool) (fr : Fr) (t : TypeId) (x : E) : Option E :=
  match zhG P t with
  | none => none
  | some _ => match zwu fr x with
    | none => none
    | some (dep, _, es) => if zmx dep M = false then some (scE (.int .i64 es.length)) else none
theorem zpN {P : Program} {w : World} {K : Nat -> z0g} {R G : Nat -> Value} {fr : Fr} {a : Act} {M : Nat -> Bool} {t : TypeId} {x e : E} {u : Value} (h : FRep w K R G fr a) (hx : ERep w K R fr.ob x u) (hl : zhH P M fr t x = some e) :
    ∃ v, ERep w K R fr.ob e v /\ ∀ w', Stay w w' K M -> ∀ ty, (Builtin.len_ #[t] ty #[u]).run P w' = .ok v w' := by
  unfold zhH at hl
  split at hl
  case h_1 => cases hl
  case h_2 q ht =>
  split at hl
  case h_1 => cases hl
  case h_2 dep kk es hrd =>
  split at hl
  case isFalse => cases hl
  case isTrue hdep =>
  cases hl
  obtain ⟨kk', et⟩ := q
  obtain ⟨kt, d, u1, u2, u3⟩ := z9K ht
  obtain ⟨g, ents, clock, rfl, hKg, hg, hm1, hm2⟩ := zjX h hx hrd
  refine ⟨_, z3s rfl, fun w' hst ty => ?_⟩
  have hb : w'.heap[g]? = some (.map ents clock) := by rw [hst.dep hdep (z2x hg) hKg]; exact hg
  have hlen : es.length = ents.size := by rw [← hm1]; simp
  simp [Builtin.len_, Sem.run_bind, run_underlying u1, Go.MapKept.run_getObj_map hb, Result.andThen_ok, Sem.run_pure, goInt, hlen]
def zkm (id : Nat) : A -> A
  | .t (some i) x => if i = id then .dead else .t (some i) x
  | .ea (some i) cs o => if i = id then .dead else .ea (some i) cs o
  | x => x
theorem FRep.mapset {w w' : World} {K : Nat -> z0g} {R G : Nat -> Value} {fr : Fr} {a : Act} {id : Nat} {p : List Nat} {root root' : T} {kk : Option IntKind} {es es' : List (Value × Value)} {g : Nat} {ents ents' : Array MapEntry} {clock clock' : Nat}
    (h : FRep w K R G fr a) (hroot : z1V fr.ob id = some root) (hbox : sub root p = some (.mp kk es)) (hupd : upd root p (.mp kk es') = some root') (hnav : nav w (R id) p = some (.map (some g)))
    (hg : w.heap[g]? = some (.map ents clock)) (hg' : w'.heap[g]? = some (.map ents' clock')) (hh : zqt kk ents' es') (hsz : w'.heap.size = w.heap.size) (hoth : ∀ b, b ≠ g -> w'.heap[b]? = w.heap[b]?) :
    FRep w' K R G { fr with tm := z7H (zkm id) fr.tm, ob := z6L fr.ob id root' } a := by
  have hrt := h.ob id root hroot
  obtain ⟨hv2, hnav2, hrep⟩ := hrt.sub (z1T id) hbox
  rw [hnav] at hnav2; cases hnav2
  have hKg : K g = col id ++ p := by cases hrep with | mp _ g _ _ ents clock hc0 hK hg hh => exact hK
  have hne : ∀ b i s, K b = (i + 2) :: s -> i ≠ id -> b ≠ g := fun b i s e1 e2 e3 => by
    subst e3; rw [hKg] at e1; simp [col] at e1; exact e2 e1.1.symm
  have hne0 : ∀ b, K b = [] -> b ≠ g := fun b e1 e3 => by subst e3; rw [hKg] at e1; simp [col] at e1
  have hfro : ∀ b, b < w.heap.size -> K b = [] -> K b = [] /\ w'.heap[b]? = w.heap[b]? := fun b hb e1 => ⟨e1, hoth b (hne0 b e1)⟩
  have hcell : ∀ gb j, w'.cell? ⟨gb, j, none⟩ = w.cell? ⟨gb, j, none⟩ := fun gb j => by
    by_cases e1 : gb = g
    · subst e1; simp [World.cell?, hg, hg']
    · exact z1M (hoth gb e1) j
  have hway : ∀ i t q, z1V fr.ob i = some t -> (sub t q).isSome -> nav w' (R i) q = nav w (R i) q := fun i t q ho hs =>
    z7z (h.ob i t ho) (z1T i) hs fun r j s gb hq hKb hb => hcell gb j
  have hsub : ∀ q, (sub root q).isSome -> (sub root' q).isSome := fun q hs => by
    by_cases hp : p <+: q
    · obtain ⟨s, rfl⟩ := hp
      rw [z8q hupd]
      rw [z5i hbox] at hs
      cases s with
      | nil => simp [sub]
      | cons j s => simp [sub, zmg] at hs
    · exact z3T hupd hp hs
  have hdep : ∀ i, i ≠ id -> ∀ b, b < w.heap.size -> frz K (some i) b = [] -> frz K (some i) b = [] /\ w'.heap[b]? = w.heap[b]? := fun i hi b hb e1 => by
    refine ⟨e1, ?_⟩
    simp only [frz] at e1
    split at e1
    · rename_i hh
      obtain ⟨s, hs⟩ : ∃ s, K b = (i + 2) :: s := by
        cases hk : K b with
        | nil => rw [hk] at hh; cases hh
        | cons a s => rw [hk] at hh; simp at hh; subst hh; exact ⟨s, rfl⟩
      exact hoth b (hne b i s hs hi)
    · exact (hfro b hb e1).2
  have hobi : ∀ i, i ≠ id -> z1V (z6L fr.ob id root') i = z1V fr.ob i := fun i hi => by rw [z0M, if_neg (fun e => hi e.symm)]
  refine ⟨fun i => ?_, fun i t ho => ?_, h.nt, h.df⟩
  · show ERep w' K R (z6L fr.ob id root') (z2N (z7H (zkm id) fr.tm) i) _
    rw [z6H _ rfl]
    refine (h.tm i).map _ fun x u hx => ?_
    cases x with
    | dead => trivial
    | k v => exact hx
    | t dep x =>
      cases dep with
      | none => exact ⟨TRep.fz hx.1 hfro (by omega), fun _ e => by cases e⟩
      | some i =>
        by_cases hi : i = id
        · simp only [zkm, if_pos hi]; trivial
        · simp only [zkm, if_neg hi]
          exact ⟨TRep.fz hx.1 (fun b hb e1 => hdep i hi b hb e1) (by omega), fun _ e => by cases e; rw [hobi i hi]; exact hx.2 i rfl⟩
    | h i q =>
      obtain ⟨n1, t, n2, n3⟩ := hx
      refine ⟨by rw [hway i t q n2 n3]; exact n1, ?_⟩
      by_cases hi : i = id
      · subst hi
        rw [hroot] at n2; cases n2
        exact ⟨root', by simp [z0M], hsub q n3⟩
      · exact ⟨t, by rw [hobi i hi]; exact n2, n3⟩
    | a i q o =>
      obtain ⟨hv, g, n1, n4, n5, t, n2, n3⟩ := hx
      refine ⟨hv, g, by rw [hway i t q n2 n3]; exact n1, n4, n5, ?_⟩
      by_cases hi : i = id
      · subst hi
        rw [hroot] at n2; cases n2
        exact ⟨root', by simp [z0M], hsub q n3⟩
      · exact ⟨t, by rw [hobi i hi]; exact n2, n3⟩
    | ea dep cs o =>
      obtain ⟨g, o, F, e1, e2, e3, e4, e5, e6⟩ := hx
      cases dep with
      | none => exact ⟨g, o, F, e1, e2, by omega, fun j hj => by rw [hcell]; exact e4 j hj, fun j t ht => TRep.fz (e5 j t ht) hfro (by omega), fun _ e => by cases e⟩
      | some i =>
        by_cases hi : i = id
        · simp only [zkm, if_pos hi]; trivial
        · simp only [zkm, if_neg hi]
          exact ⟨g, o, F, e1, e2, by omega, fun j hj => by rw [hcell]; exact e4 j hj, fun j t ht => TRep.fz (e5 j t ht) (fun b hb e1 => hdep i hi b hb e1) (by omega), fun _ e => by cases e; rw [hobi i hi]; exact e6 i rfl⟩
  · rw [z0M] at ho
    split at ho
    · rename_i e1
      subst e1; cases ho
      refine TRep.upd hrt (z1T id) hnav hupd ⟨hfro, fun b hb ⟨s, e1, hs⟩ => ?_, by omega⟩ (.mp _ g kk es' ents' clock' (by simp [col]) hKg hg' hh)
      have hb' : b ≠ g := fun e2 => by subst e2; rw [hKg] at e1; exact hs (by rw [List.append_cancel_left e1]; exact List.prefix_rfl)
      exact ⟨rfl, hoth b hb'⟩
    · rename_i e1
      refine (h.ob i t ho).keep (D := But id) ⟨hfro, fun b hb ⟨j, s, e2, hj⟩ => ⟨rfl, hoth b (hne b j s e2 hj)⟩, by omega⟩ (fun s _ => ⟨i, s, rfl, fun e => e1 e.symm⟩)
def zf0 (P : Program) (fr : Fr) (t : TypeId) (m key val : E) : Option Fr :=
  match zhG P t with
  | none => none
  | some (kk, _) => match m with
    | .one (.h id p) => match z1V fr.ob id with
      | none => none
      | some root => match sub root p with
        | some (.mp kk' es) => match rdV key, rdV val with
          | some k, some v => if kk = kk' /\ zno kk k = true then (match upd root p (.mp kk (zjO k v es)) with
              | some root' => some { fr with tm := z7H (zkm id) fr.tm, ob := z6L fr.ob id root' }
              | none => none) else none
          | _, _ => none
        | _ => none
    | _ => none
theorem zha {P : Program} {w : World} {K : Nat -> z0g} {R G : Nat -> Value} {fr fr' : Fr} {a : Act} {t : TypeId} {m key val : E} {um uk uv : Value} (h : FRep w K R G fr a) (hm : ERep w K R fr.ob m um) (hk : ERep w K R fr.ob key uk) (hv : ERep w K R fr.ob val uv) (hf : zf0 P fr t m key val = some fr') :
    ∃ w', (Instr.mapUpdate t um uk uv).run P w = .ok () w' /\ FRep w' K R G fr' a /\ Step w K w' K /\ ∀ b i s, K b = (i + 2) :: s -> (∀ id p, m = .one (.h id p) -> i ≠ id) -> w'.heap[b]? = w.heap[b]? := by
  unfold zf0 at hf
  split at hf
  case h_1 => cases hf
  case h_2 kk et ht =>
  split at hf
  case h_2 => cases hf
  case h_1 id p =>
  split at hf
  case h_1 => cases hf
  case h_2 root hroot =>
  split at hf
  case h_2 => cases hf
  case h_1 kk' es hsub =>
  split at hf
  case h_2 => cases hf
  case h_1 k v hrk hrv =>
  split at hf
  case isFalse => cases hf
  case isTrue hc =>
  obtain ⟨rfl, hkb⟩ := hc
  split at hf
  case h_2 => cases hf
  case h_1 root' hupd =>
  cases hf
  obtain ⟨rfl, -⟩ := z1v hk hrk
  obtain ⟨rfl, hvb⟩ := z1v hv hrv
  obtain ⟨kt, d, u1, u2, u3⟩ := z9K ht
  obtain ⟨n1, t0, n2, n3⟩ := hm
  obtain ⟨v0, e1, r⟩ := (h.ob id root hroot).sub (z1T id) hsub
  rw [n1] at e1; cases e1
  obtain ⟨g, ents, clock, rfl, hKg, hg, hm1, hm2⟩ : ∃ g ents clock, um = .map (some g) /\ K g = col id ++ p /\ w.heap[g]? = some (.map ents clock) /\ zqt kk ents es := by
    cases r with
    | mp _ g _ _ ents clock hc0 hK hg hh => exact ⟨g, ents, clock, rfl, hK, hg, hh⟩
  have hks : ∀ x ∈ ents.toList, zno kk x.key = true := fun x hx => (hm2 (x.key, x.val) (by rw [← hm1]; exact List.mem_map.2 ⟨x, hx, rfl⟩)).1
  have hkey := z7Y u3 hkb
  have main : ∃ ents' clock', (Instr.mapUpdate t (.map (some g)) uk uv).run P w = .ok () { w with heap := w.heap.setIfInBounds g (.map ents' clock') } /\ zqt kk ents' (zjO uk uv es) := by
    rcases z9a u3 hkb ents.toList 0 hks with ⟨h1, h2, h3⟩ | ⟨j, e', h1, h2, h3, h4, h5⟩
    · refine ⟨ents.push { key := uk, val := uv, born := clock }, clock + 1, ?_, ?_, ?_⟩
      · simp only [Instr.mapUpdate, Sem.run_bind, run_underlying u1, Go.MapKept.run_getObj_map hg, Result.andThen_ok]
        rw [run_checkKey u2 hkey _ 9999]
        simp only [Result.andThen_ok, run_findKey u2 h1]
        exact run_setObj_map _ hg
      · rw [← hm1, h3]; simp
      · rw [← hm1, h3]
        intro x hx
        rcases List.mem_append.1 hx with hx | hx
        · exact hm2 x (by rw [← hm1]; exact hx)
        · simp at hx; subst hx; exact ⟨hkb, hvb⟩
    · have hj : ents[j]? = some e' := by simpa using h2
      refine ⟨ents.modify j fun e => { e with key := uk, val := uv }, clock, ?_, ?_, ?_⟩
      · simp only [Instr.mapUpdate, Sem.run_bind, run_underlying u1, Go.MapKept.run_getObj_map hg, Result.andThen_ok]
        rw [run_checkKey u2 hkey _ 9999]
        simp only [Result.andThen_ok, run_findKey u2 h1, Nat.zero_add, hj, Option.map_some, Option.getD_some, h3, Sem.run_bind, run_keyThatStays hkey]
        exact run_setObj_map _ hg
      · rw [← hm1, h5]
        apply List.ext_getElem?
        intro i
        simp only [List.getElem?_map, Array.getElem?_toList, Array.getElem?_modify, List.getElem?_set]
        by_cases e : j = i
        · subst e
          have : j < ents.size := (Array.getElem?_eq_some_iff.1 hj).1
          simp [hj, this]
        · simp [e]
      · rw [← hm1, h5]
        intro x hx
        rcases List.mem_or_eq_of_mem_set hx with hx | hx
        · exact hm2 x (by rw [← hm1]; exact hx)
        · subst hx; exact ⟨hkb, hvb⟩
  obtain ⟨ents', clock', hrun, hmi⟩ := main
  have hs := heap_set (o' := .map ents' clock') hg
  refine ⟨_, hrun, h.mapset hroot hsub hupd n1 hg hs.1 hmi (by simp) (fun b hb => hs.2 b hb), ⟨rfl, rfl, rfl, by simp, fun b hb hc => ⟨rfl, hs.2 b (fun e => ?_)⟩, fun b arr e fz hb => ⟨arr, e, fz, (hs.2 b (fun e => by subst e; rw [hg] at hb; cases hb)).trans hb, rfl⟩⟩, fun b i s hb hi => hs.2 b (fun e => ?_)⟩
  · subst e; rw [hKg] at hc; rcases hc with hc | hc <;> simp [col] at hc
  · subst e; rw [hKg] at hb; simp [col] at hb; exact hi id p rfl hb.1.symm
def zvu : Option E -> Bool
  | none => true
  | some e => match rdV e with | some (.int _ _) => true | _ => false
def zdf (P : Program) (fr : Fr) (t : TypeId) (r : Option E) (d : Nat) : Option Fr :=
  match zhG P t with
  | none => none
  | some (kk, _) => if d < fr.nt /\ zvu r = true then
      some { fr with tm := zhx (z7H (kill d) fr.tm) d (.one (.h d [])), ob := z6L fr.ob d (.mp kk []) } else none
theorem zmb {P : Program} {w : World} {K : Nat -> z0g} {R G : Nat -> Value} {fr fr' : Fr} {a : Act} {t : TypeId} {r : Option E} {ur : Option Value} {d : Nat} (h : FRep w K R G fr a) (hr : zvU w K R fr.ob r ur) (hf : zdf P fr t r d = some fr') :
    ∃ v w', (Instr.makeMap t ur).run P w = .ok v w' /\ (∃ K' R', FRep w' K' R' G fr' (a.put (some d) v) /\ Step w K w' K') /\ ∀ b, b < w.heap.size -> w'.heap[b]? = w.heap[b]? := by
  unfold zdf at hf
  split at hf
  case h_1 => cases hf
  case h_2 kk et ht =>
  split at hf
  case isFalse => cases hf
  case isTrue hc =>
  obtain ⟨hd, hc⟩ := hc
  cases hf
  obtain ⟨kt, dd, u1, u2, u3⟩ := z9K ht
  have hnew := NewB.alloc w (.map #[] 0)
  have hrun : (Instr.makeMap t ur).run P w = .ok (.map (some w.heap.size)) { w with heap := w.heap.push (.map #[] 0) } := by
    cases ur with
    | none => simp [Instr.makeMap, newObj, Sem.run]
    | some v =>
      cases r with
      | none => exact absurd hr id
      | some e =>
        simp only [zvu] at hc
        split at hc
        · rename_i k n he
          obtain ⟨rfl, -⟩ := z1v hr he
          have h2 : (asInt (.int k n)).run P w = .ok n w := by simp [asInt, asIntOf]
          simp only [Instr.makeMap, Sem.run_bind, run_underlying u1, Result.andThen_ok, h2]
          simp [newObj, Sem.run]
        · cases hc
  refine ⟨_, _, hrun, ?_, fun b hb => hnew.old hb⟩
  have h2 := h.keep (hnew.keep (c := col d))
  have h3 := h2.replace (d := d) (v := .map (some w.heap.size)) (t := .mp kk []) ⟨fun b hb e => ⟨e, rfl⟩, fun b hb _ => ⟨rfl, rfl⟩, Nat.le_refl _⟩ (.mp _ w.heap.size kk [] #[] 0 (z1T d) (by simp) hnew.new ⟨rfl, fun x hx => by cases hx⟩)
  refine ⟨_, _, h3.put (d := d) (x := .one (.h d [])) hd ⟨by simp [z9h, nav], .mp kk [], by simp [z0M], rfl⟩, hnew.step⟩
def zxF : E -> Option T
  | .one (.k v) => some (za2 false v)
  | .one (.t none x) => some x
  | .one (.ea none cs 0) => some (.pr cs)
  | _ => none
def zst (fr : Fr) : List Operand -> Option (List T)
  | [] => some []
  | x :: xs => match zxF (opE fr x), zst fr xs with | some t, some ts => some (t :: ts) | _, _ => none
def zb5 (fr : Fr) (fn : Fn) (first captured : List Operand) : Option E :=
  match fn, first with
  | .func f, [] => (match captured with
    | [] => some (scE (.func (.func f) #[] #[]))
    | _ => match zst fr captured with | some ts => some (.one (.t none (.cl f ts))) | none => none)
  | _, _ => none
theorem zu1 {w : World} {K : Nat -> z0g} {R : Nat -> Value} {ob : List (Nat × T)} {e : E} {u : Value} {t : T} (h : ERep w K R ob e u) (hc : zxF e = some t) : TRep w K [] u t := by
  unfold zxF at hc
  split at hc
  · cases hc
    rename_i v
    obtain rfl : u = v := h
    exact z6O _ _ _ _ _
  · cases hc; exact h.1
  · cases hc
    obtain ⟨g, o, F, h1, h2, h3, h4, h5, h6⟩ := h
    rw [h1]
    exact .pr [] g o _ F h2 h3 h4 h5
  · cases hc
theorem zkD {w : World} {K : Nat -> z0g} {R G : Nat -> Value} {fr : Fr} {a : Act} (h : FRep w K R G fr a) : ∀ {xs : List Operand} {ts : List T}, zst fr xs = some ts -> ts.length = xs.length /\ ∀ (j : Nat) (t : T), ts[j]? = some t -> ∃ x, xs[j]? = some x /\ TRep w K [] (a.eval x) t
  | [], ts, hc => by cases hc; exact ⟨rfl, fun j t ht => by simp at ht⟩
  | x :: xs, ts, hc => by
    simp only [zst] at hc
    split at hc
    · rename_i t ts' h1 h2
      cases hc
      obtain ⟨r1, r2⟩ := zkD h h2
      refine ⟨by simp [r1], fun j t' ht => ?_⟩
      match j, ht with
      | 0, ht => simp at ht; subst ht; exact ⟨x, rfl, zu1 (h.opE x) h1⟩
      | j + 1, ht => obtain ⟨y, y1, y2⟩ := r2 j t' (by simpa using ht); exact ⟨y, by simpa using y1, y2⟩
    · cases hc
theorem zkf {w : World} {K : Nat -> z0g} {R G : Nat -> Value} {fr : Fr} {a : Act} {fn : Fn} {first captured : List Operand} {e : E} (h : FRep w K R G fr a) (hf : zb5 fr fn first captured = some e) :
    ERep w K R fr.ob e (.func fn (first.map a.eval).toArray (captured.map a.eval).toArray) := by
  unfold zb5 at hf
  split at hf
  · rename_i f
    split at hf
    · cases hf; exact z3s rfl
    · split at hf
      · rename_i ts hts
        cases hf
        obtain ⟨r1, r2⟩ := zkD h hts
        refine ⟨.cl _ f _ _ (fun j => (captured.map a.eval).getD j undef) (by simp [r1]) (fun j hj => ?_) (fun j t ht => ?_), fun _ e => by cases e⟩
        · have : j < captured.length := by omega
          simp [List.getD, this]
        · obtain ⟨x, x1, x2⟩ := r2 j t ht
          have : (captured.map a.eval).getD j undef = a.eval x := by simp [List.getD, x1]
          rw [this]; exact x2
      · cases hf
  · cases hf
def zaA (fr : Fr) (x : Operand) : Option (FuncId × List T) :=
  match opE fr x with
  | .one (.t none (.sc (.func (.func f) fs cs))) => if fs.isEmpty && cs.isEmpty then some (f, []) else none
  | .one (.k (.func (.func f) fs cs)) => if fs.isEmpty && cs.isEmpty then some (f, []) else none
  | .one (.t none (.cl f ts)) => some (f, ts)
  | _ => none
theorem zkF {w : World} {K : Nat -> z0g} {R G : Nat -> Value} {fr : Fr} {a : Act} {x : Operand} {f : FuncId} {ts : List T} (h : FRep w K R G fr a) (hc : zaA fr x = some (f, ts)) :
    ∃ vs : List Value, a.eval x = .func (.func f) #[] vs.toArray /\ vs.length = ts.length /\ ∀ (j : Nat) (t : T) (v : Value), ts[j]? = some t -> vs[j]? = some v -> TRep w K [] v t := by
  have hx := h.opE x
  unfold zaA at hc
  split at hc
  · rename_i f' fs cs he
    rw [he] at hx
    split at hc
    · rename_i hb
      cases hc
      simp only [Bool.and_eq_true, Array.isEmpty_iff] at hb
      obtain ⟨rfl, rfl⟩ := hb
      have := hx.1.sc_eq
      exact ⟨[], this, rfl, fun j t v ht => by simp at ht⟩
    · cases hc
  · rename_i f' fs cs he
    rw [he] at hx
    split at hc
    · rename_i hb
      cases hc
      simp only [Bool.and_eq_true, Array.isEmpty_iff] at hb
      obtain ⟨rfl, rfl⟩ := hb
      exact ⟨[], hx, rfl, fun j t v ht => by simp at ht⟩
    · cases hc
  · rename_i f' ts' he
    rw [he] at hx
    cases hc
    obtain ⟨h1, -⟩ := hx
    generalize a.eval x = u at h1
    cases h1 with
    | cl _ _ vs _ F hl hF hh =>
      refine ⟨vs.toList, by simp, by simp [hl], fun j t v ht hv => ?_⟩
      have hlt := (List.getElem?_eq_some_iff.1 ht).1
      have e1 := hF j hlt
      rw [Array.getElem?_toList, e1] at hv
      cases hv
      exact hh j t ht
  · cases hc
end
section
def zma (P : Program) (M : Nat -> Bool) (fr : Fr) (c : Call) : Option E :=
  match c.callee, c.args.toList, c.argTypes.toList with
  | .builtin .len, [x], [t] => zhH P M fr t (opE fr x)
  | _, _, _ => none
def z8S (P : Program) (M : Nat -> Bool) (fr : Fr) (op : Op) : Option E :=
  match op with
  | .build t parts => za5 P fr t parts.toList
  | .lookup t x i ok => zhL P M fr t (opE fr x) (opE fr i) ok
  | .makeFunc fn first captured => zb5 fr fn first.toList captured.toList
  | .call c => (match z8R P M fr (.call c) with | some e => some e | none => zma P M fr c)
  | op => z8R P M fr op
theorem z9H {P : Program} {w : World} {K : Nat -> z0g} {R G : Nat -> Value} {fr : Fr} {a : Act} {M : Nat -> Bool} {o : Oper} {e : E} (h : FRep w K R G fr a) (hq : z8S P M fr o.op = some e) :
    ∃ v, ERep w K R fr.ob e v /\ ∀ w', Stay w w' K M -> (execOp a.eval o).run P w' = .ok (.value v) w' := by
  have lift : ∀ {s : Sem Value} {v : Value} {w' : World}, s.run P w' = .ok v w' -> (do pure (Next.value (← s)) : Sem Next).run P w' = .ok (.value v) w' := fun {s v w'} hs => by
    simp only [Sem.run_bind, hs, Result.andThen_ok, Sem.run_pure]
  unfold z8S at hq
  split at hq
  · rename_i t parts hop
    obtain ⟨v, h1, h2⟩ := zsx h hq
    refine ⟨v, h1, fun w' _ => ?_⟩
    have : parts.map (fun (x : Nat × Operand) => (x.1, a.eval x.2)) = (parts.toList.map fun (i, x) => (i, a.eval x)).toArray := by
      apply Array.ext'; simp
    simp only [execOp, hop]
    rw [this]
    simp only [Sem.run_bind, h2, Result.andThen_ok, Sem.run_pure]
  · rename_i t x i ok hop
    obtain ⟨v, h1, h2⟩ := zpO h (h.opE x) (h.opE i) hq
    exact ⟨v, h1, fun w' hst => by simp only [execOp, hop]; exact lift (h2 w' hst)⟩
  · rename_i fn first captured hop
    refine ⟨_, zkf h hq, fun w' _ => ?_⟩
    have e1 : (first.toList.map a.eval).toArray = first.map a.eval := by apply Array.ext'; simp
    have e2 : (captured.toList.map a.eval).toArray = captured.map a.eval := by apply Array.ext'; simp
    rw [e1, e2]
    simp only [execOp, hop, Instr.makeFunc, Sem.run_bind, Sem.run_pure, Result.andThen_ok]
  · rename_i c hop
    split at hq
    · rename_i e' he'
      cases hq
      exact zjZ h (by rw [hop]; exact he')
    · unfold zma at hq
      split at hq
      · rename_i x t hc hxs hts
        obtain ⟨v, h1, h2⟩ := zpN h (h.opE x) hq
        refine ⟨v, h1, fun w' hst => ?_⟩
        obtain ⟨callee, args, ats⟩ := c
        simp only at hc hxs hts
        subst hc
        obtain rfl : args = #[x] := by apply Array.ext'; simpa using hxs
        obtain rfl : ats = #[t] := by apply Array.ext'; simpa using hts
        simp only [execOp, hop, resolve, Sem.run_bind, Sem.run_pure, Result.andThen_ok, invoke, builtin]
        simp [h2 w' hst]
      · cases hq
  · exact zjZ h hq
def zmu (P : Program) (fr : Fr) (o : Oper) : Option Fr :=
  match o.op with
  | .makeMap t r => (match o.dst with | some d => zdf P fr t (r.map (opE fr)) d | none => none)
  | .mapUpdate t m k v => (match o.dst with | none => zf0 P fr t (opE fr m) (opE fr k) (opE fr v) | some _ => none)
  | .insert t m k v => (match o.dst with | none => zf0 P fr t (opE fr m) (opE fr k) (opE fr v) | some _ => none)
  | _ => zxD P fr o
def zhk (o : Oper) : Bool :=
  match o.op with
  | .mapUpdate _ _ _ _ => false
  | .insert _ _ _ _ => false
  | _ => zqp o
theorem zi3 {P : Program} {w : World} {K : Nat -> z0g} {R G : Nat -> Value} {fr fr' : Fr} {a : Act} {o : Oper} (h : FRep w K R G fr a) (hf : zmu P fr o = some fr') :
    ∃ r w', (execOp a.eval o).run P w = .ok r w' /\ ((∃ v, r = .value v /\ ∃ K' R', FRep w' K' R' G fr' (a.put o.dst v) /\ Step w K w' K') ∨ (r = .skip /\ o.dst = none /\ ∃ K' R', FRep w' K' R' G fr' a /\ Step w K w' K')) /\ (zhk o = true -> ∀ b, b < w.heap.size -> w'.heap[b]? = w.heap[b]?) := by
  have lift : ∀ {s : Sem Value} {v : Value} {w'}, s.run P w = .ok v w' -> (do pure (Next.value (← s)) : Sem Next).run P w = .ok (.value v) w' := fun {s v w'} hs => by
    simp only [Sem.run_bind, hs, Result.andThen_ok, Sem.run_pure]
  unfold zmu at hf
  split at hf
  · rename_i t r hop
    split at hf
    · rename_i d hd
      obtain ⟨v, w', h1, h2, h3⟩ := zmb h (zif h r) hf
      exact ⟨_, w', by simp only [execOp, hop]; exact lift h1, .inl ⟨v, rfl, by rw [hd]; exact h2⟩, fun _ => h3⟩
    · cases hf
  · rename_i t m k v hop
    split at hf
    · rename_i hd
      obtain ⟨w', h1, h2, h3, _⟩ := zha h (h.opE m) (h.opE k) (h.opE v) hf
      exact ⟨.skip, w', by simp only [execOp, hop, Sem.run_bind, h1, Result.andThen_ok, Sem.run_pure], .inr ⟨rfl, hd, K, R, h2, h3⟩, fun hc => by simp [zhk, hop] at hc⟩
    · cases hf
  · rename_i t m k v hop
    split at hf
    · rename_i hd
      obtain ⟨w', h1, h2, h3, _⟩ := zha h (h.opE m) (h.opE k) (h.opE v) hf
      exact ⟨.skip, w', by simp only [execOp, hop, Sem.run_bind, h1, Result.andThen_ok, Sem.run_pure], .inr ⟨rfl, hd, K, R, h2, h3⟩, fun hc => by simp [zhk, hop] at hc⟩
    · cases hf
  · rename_i h1 h2 h3
    obtain ⟨r, w', e1, e2, e3⟩ := zvD h hf
    refine ⟨r, w', e1, e2, fun hc => e3 ?_⟩
    unfold zhk at hc
    split at hc
    · cases hc
    · cases hc
    · exact hc
def putF (fr : Fr) (dst : Option Nat) (e : E) : Option Fr :=
  match dst with
  | none => some fr
  | some d => if d < fr.nt then some { fr with tm := zhx fr.tm d e } else none
theorem FRep.putF {w : World} {K : Nat -> z0g} {R G : Nat -> Value} {fr fr' : Fr} {a : Act} {dst : Option Nat} {e : E} {v : Value} (h : FRep w K R G fr a) (he : ERep w K R fr.ob e v) (hf : putF fr dst e = some fr') : FRep w K R G fr' (a.put dst v) := by
  unfold Proofs.Ytodliknibbafeaa.putF at hf
  split at hf
  · cases hf; exact h
  · split at hf
    · rename_i hd
      cases hf; exact h.put hd he
    · cases hf
def opF (P : Program) (C : z0q) (wio : FuncId -> Nat -> Bool) (fr : Fr) (o : Oper) : Option Fr :=
  match o.op with
  | .assign x => (match putF fr o.dst (opE fr x) with
    | some fr1 => (match o.dst with | some d => zxl P fr1 o.type d | none => some fr1)
    | none => none)
  | .call { callee := .value c, args, .. } => (match zaA fr c with | some (f, cs) => zbm C wio fr f (args.toList.map (opE fr) ++ cs.map fun t => .one (.t none t)) o.dst | none => none)
  | .store t ad x => if wio 999999 0 = true then (match o.dst with | none => zjK P true fr t (opE fr ad) (opE fr x) | some _ => none) else zmu P fr o
  | op => (match z8S P noM fr op with
    | some e => putF fr o.dst e
    | none => zmu P fr o)
theorem zcQ {P : Program} {w : World} {K : Nat -> z0g} {R G : Nat -> Value} {fr : Fr} {a : Act} {o : Oper} {c : Operand} {args : Array Operand} {ats : Array TypeId} {f : FuncId} {cs : List T} (h : FRep w K R G fr a) (hop : o.op = .call { callee := .value c, args := args, argTypes := ats }) (hc : zaA fr c = some (f, cs)) :
    ∃ vs : List Value, ((callFunc f vs.toArray).run P w = .ok (.enter f vs.toArray) w -> (execOp a.eval o).run P w = .ok (.enter f vs.toArray) w) /\ vs.length = (args.toList.map (opE fr) ++ cs.map fun t => E.one (.t none t)).length /\
      ∀ (j : Nat) (e : E) (v : Value), (args.toList.map (opE fr) ++ cs.map fun t => E.one (.t none t))[j]? = some e -> vs[j]? = some v -> ERep w K R fr.ob e v := by
  obtain ⟨us, u1, u2, u3⟩ := zkF h hc
  refine ⟨args.toList.map a.eval ++ us, fun hcall => ?_, by simp [u2], fun j e v he hv => ?_⟩
  · have ha : (args.toList.map a.eval ++ us).toArray = args.map a.eval ++ us.toArray := by apply Array.ext'; simp
    rw [ha] at hcall ⊢
    simp only [execOp, hop, resolve, u1, Deferred.ofValue, Sem.run_bind, Sem.run_pure, Result.andThen_ok, invoke]
    simpa using hcall
  · rcases Nat.lt_or_ge j args.toList.length with hj | hj
    · rw [List.getElem?_append_left (by simpa using hj)] at he hv
      simp only [List.getElem?_map, Option.map_eq_some_iff] at he hv
      obtain ⟨x, hx, rfl⟩ := he
      obtain ⟨y, hy, rfl⟩ := hv
      rw [hx] at hy; cases hy
      exact h.opE x
    · rw [List.getElem?_append_right (by simpa using hj)] at he hv
      simp only [List.length_map, List.getElem?_map, Option.map_eq_some_iff] at he hv
      obtain ⟨t, ht, rfl⟩ := he
      exact ⟨u3 _ t v ht hv, fun _ e => by cases e⟩
theorem zvb {P : Program} {I : World -> (Nat -> z0g) -> Prop} {C : z0q} {wio : FuncId -> Nat -> Bool} {w : World} {K : Nat -> z0g} {R G : Nat -> Value} {fr fr' : Fr} {a : Act} {o : Oper} {next : Act -> World -> Prop} {Q : Exit -> Act -> World -> Prop}
    (hI : EnvS I) (hC : zaD P I C) (h : FRep w K R G fr a) (hIw : I w K) (hf : opF P C wio fr o = some fr') (hn : ∀ a' w' K' R', FRep w' K' R' G fr' a' -> Step w K w' K' -> next a' w') : o.wp P a w next Q := by
  unfold opF at hf
  split at hf
  · rename_i x hop
    split at hf
    case h_2 => cases hf
    case h_1 fr1 h1 =>
    have h2 := h.putF (v := a.eval x) (h.opE x) h1
    have hrun : (execOp a.eval o).run P w = .ok (.value (a.eval x)) w := by simp [execOp, hop]
    unfold Oper.wp
    rw [hrun]
    simp only [Oper.upon]
    split at hf
    · rename_i d hd
      obtain ⟨K', R', e1, e2, e3, _⟩ := zsH h2 hf
      exact hn _ w K' R' e1 e2
    · cases hf
      exact hn _ w K R h2 (Step.refl _ _)
  · rename_i c args ats hop
    split at hf
    · rename_i f cs hc
      obtain ⟨vs, q1, q2, q3⟩ := zcQ (P := P) h hop hc
      exact zmE hI hC h hIw q1 q2 q3 hf fun a' w' K' R' h1 h2 _ => hn a' w' K' R' h1 h2
    · cases hf
  · rename_i t ad x hop
    have dflt : ∀ {fr'}, zmu P fr o = some fr' -> (∀ a' w' K' R', FRep w' K' R' G fr' a' -> Step w K w' K' -> next a' w') -> o.wp P a w next Q := fun {fr'} hf hn => by
      obtain ⟨r, w', h1, h2, _⟩ := zi3 h hf
      unfold Oper.wp
      rw [h1]
      rcases h2 with ⟨v, rfl, K', R', e1, e2⟩ | ⟨rfl, hd, K', R', e1, e2⟩
      · exact hn _ w' K' R' e1 e2
      · simp only [Oper.upon, hd]
        exact hn _ w' K' R' e1 e2
    split at hf
    · split at hf
      · rename_i hd
        obtain ⟨w', h1, ⟨K', R', e1, e2⟩, _⟩ := zh2 h (h.opE ad) (h.opE x) hf
        unfold Oper.wp
        have hrun : (execOp a.eval o).run P w = .ok .skip w' := by
          simp only [execOp, hop, Sem.run_bind, h1, Result.andThen_ok, Sem.run_pure]
        rw [hrun]
        simp only [Oper.upon, hd]
        exact hn _ w' K' R' e1 e2
      · cases hf
    · exact dflt hf hn
  · split at hf
    · rename_i e he
      obtain ⟨v, h1, h2⟩ := z9H h he
      unfold Oper.wp
      rw [h2 w (Stay.refl w K noM)]
      exact hn _ w K R (h.putF h1 hf) (Step.refl _ _)
    · obtain ⟨r, w', h1, h2, _⟩ := zi3 h hf
      unfold Oper.wp
      rw [h1]
      rcases h2 with ⟨v, rfl, K', R', e1, e2⟩ | ⟨rfl, hd, K', R', e1, e2⟩
      · exact hn _ w' K' R' e1 e2
      · simp only [Oper.upon, hd]
        exact hn _ w' K' R' e1 e2
def zmK : E -> Option (Option Bool)
  | .one (.k (.bool b)) => some (some b)
  | .one (.k _) => some none
  | .one (.t _ (.sc (.bool b))) => some (some b)
  | _ => none
def z6o (ops : Array Oper) (fr : Fr) (o : Oper) : Option Bool :=
  match o.guard with
  | none => some true
  | some (j, want) => match (ops[j]?).bind (·.dst) with
    | none => some false
    | some t => if t < fr.nt then (match zmK (z2N fr.tm t) with | some b => some (b == some want) | none => none) else none
theorem z8a {w : World} {K : Nat -> z0g} {R G : Nat -> Value} {fr : Fr} {a : Act} {ops : Array Oper} {o : Oper} {b : Bool} (h : FRep w K R G fr a) (hg : z6o ops fr o = some b) : Region.wanted o (yielded ops a.tmps) = b := by
  unfold z6o at hg
  unfold Region.wanted
  split at hg
  · rename_i hn
    rw [hn]; cases hg; rfl
  · rename_i j want hn
    rw [hn]
    simp only
    split at hg
    · rename_i hd
      cases hg
      simp [yielded, hd]
    · rename_i t hd
      split at hg
      · rename_i ht
        split at hg
        · rename_i y hy
          cases hg
          have hreg := h.tm t
          rw [z8O, if_pos (by rw [h.nt]; exact ht)] at hreg
          have htmp : a.tmps[t]? = some (a.tmps.getD t undef) := z4A _ _ (by rw [h.nt]; exact ht)
          have hyy : yielded ops a.tmps j = y := by
            simp only [yielded, hd, Option.bind_some, htmp]
            generalize a.tmps.getD t undef = u at hreg
            unfold zmK at hy
            split at hy
            · rename_i b' he
              cases hy
              rw [he] at hreg
              obtain rfl : u = .bool b' := hreg
              rfl
            · rename_i v hnb he
              cases hy
              rw [he] at hreg
              obtain rfl : u = v := hreg
              cases u <;> first | rfl | (exfalso; exact hnb _ rfl)
            · rename_i dep b' he
              cases hy
              rw [he] at hreg
              have := hreg.1.sc_eq
              subst this; rfl
            · cases hy
          rw [hyy]
        · cases hg
      · cases hg
def zlZ (P : Program) (C : z0q) (wio : FuncId -> Nat -> Bool) (ops : Array Oper) : List Oper -> Fr -> Option Fr
  | [], fr => some fr
  | o :: rest, fr => match z6o ops fr o with
    | none => none
    | some true => (match opF P C wio fr o with | some fr' => zlZ P C wio ops rest fr' | none => none)
    | some false => (match putF fr o.dst (.one (.k undef)) with | some fr' => zlZ P C wio ops rest fr' | none => none)
theorem zrs {P : Program} {I : World -> (Nat -> z0g) -> Prop} {C : z0q} {wio : FuncId -> Nat -> Bool} {ops : Array Oper} {Q : Exit -> Act -> World -> Prop} (hI : EnvS I) (hC : zaD P I C) : ∀ {l : List Oper} {w : World} {K : Nat -> z0g} {R G : Nat -> Value} {fr fr' : Fr} {a : Act}, FRep w K R G fr a -> I w K -> zlZ P C wio ops l fr = some fr' ->
    (∀ a' w' K' R', FRep w' K' R' G fr' a' -> Step w K w' K' -> Q .normal a' w') -> wpList P ops Q l a w
  | [], w, K, R, G, fr, fr', a, h, hIw, hf, hn => by
    cases hf
    exact wpList_nil (hn a w K R h (Step.refl _ _))
  | o :: rest, w, K, R, G, fr, fr', a, h, hIw, hf, hn => by
    simp only [zlZ] at hf
    split at hf
    · cases hf
    · rename_i hg
      split at hf
      · rename_i fr1 h1
        refine wpList_step fun Kk hK => ?_
        rw [z8a h hg]
        simp only [if_true]
        exact zvb hI hC h hIw h1 fun a' w' K' R' hr hs => hK a' w' (zrs hI hC hr (hI.step hIw hs) hf fun a2 w2 K2 R2 hr2 hs2 => hn a2 w2 K2 R2 hr2 (hs.trans hs2))
      · cases hf
    · rename_i hg
      split at hf
      · rename_i fr1 h1
        refine wpList_step fun Kk hK => ?_
        rw [z8a h hg]
        simp only [Bool.false_eq_true, if_false]
        exact hK _ _ (zrs hI hC (h.putF (v := undef) (e := .one (.k undef)) rfl h1) hIw hf hn)
      · cases hf
end
section
section
variable {P : Program} {ops : Array Oper} {Q : Exit -> Act -> World -> Prop} {md : Region.Mode}
def NoPz (Q : Exit -> Act -> World -> Prop) : Exit -> Act -> World -> Prop
  | .panic _, _, _ => False
  | e, a, w => Q e a w
theorem NoPz.imp {Q : Exit -> Act -> World -> Prop} : ∀ (e : Exit) (a : Act) (w : World), NoPz Q e a w -> Q e a w := fun e a w h => by
  cases e <;> first | exact h | exact (h : False).elim
def ShutL (md : Region.Mode) (ops : Array Oper) (L : Array Bool) : Prop :=
  L.size = ops.size /\ ∀ (i : Nat) (o : Oper), ops[i]? = some o -> L.getD i false = true -> ∀ e ∈ o.after, Region.binds md e = true -> L.getD e.on false = true
theorem ShutL.set {L : Array Bool} {j : Nat} (h : ShutL md ops L) (hj : j ∈ Region.ready md ops L) : ShutL md ops (L.setIfInBounds j true) := by
  obtain ⟨h1, h2⟩ := h
  obtain ⟨j1, o, j2, j3⟩ := mem_ready.1 hj
  refine ⟨by simpa using h1, fun i oi hi hl e he hb => ?_⟩
  have mono : ∀ k, L.getD k false = true -> (L.setIfInBounds j true).getD k false = true := fun k hk => by
    simp only [Array.getD_eq_getD_getElem?, Array.getElem?_setIfInBounds] at hk ⊢
    split
    · split <;> simp_all
    · exact hk
  by_cases e1 : i = j
  · subst e1
    rw [j2] at hi; cases hi
    exact mono _ (j3 e he hb)
  · refine mono _ (h2 i oi hi ?_ e he hb)
    simp only [Array.getD_eq_getD_getElem?, Array.getElem?_setIfInBounds] at hl ⊢
    rw [if_neg (fun e2 => e1 e2.symm)] at hl
    exact hl
def zww (md : Region.Mode) (ops : Array Oper) (l : List Nat) : List Nat := l.flatMap fun i => match ops[i]? with | some o => (o.after.toList.filter (Region.binds md)).map (·.on) | none => []
def zvR (md : Region.Mode) (ops : Array Oper) : Nat -> List Nat -> List Nat
  | 0, l => l
  | n + 1, l => zvR md ops n ((zww md ops l).foldl (fun acc x => if acc.contains x then acc else x :: acc) l)
theorem znf {x : Nat} : ∀ {m l : List Nat}, x ∈ m.foldl (fun acc x => if acc.contains x then acc else x :: acc) l -> x ∈ m ∨ x ∈ l
  | [], l, h => .inr h
  | a :: m, l, h => by
    simp only [List.foldl_cons] at h
    rcases znf h with h | h
    · exact .inl (.tail _ h)
    · split at h
      · exact .inr h
      · rcases List.mem_cons.1 h with h | h
        · subst h; exact .inl (.head _)
        · exact .inr h
theorem zcT {L : Array Bool} (hL : ShutL md ops L) : ∀ (n : Nat) (l : List Nat), (∀ i ∈ l, L.getD i false = true) -> ∀ i ∈ zvR md ops n l, L.getD i false = true
  | 0, l, h, i, hi => h i hi
  | n + 1, l, h, i, hi => by
    refine zcT hL n _ (fun k hk => ?_) i hi
    rcases znf hk with hk | hk
    · simp only [zww, List.mem_flatMap] at hk
      obtain ⟨j, hj, hk⟩ := hk
      split at hk
      · rename_i o ho
        simp only [List.mem_map, List.mem_filter, Array.mem_toList_iff] at hk
        obtain ⟨e, ⟨he, hb⟩, rfl⟩ := hk
        exact hL.2 j o ho (h j hj) e he hb
      · cases hk
    · exact h k hk
def z6n (P : Program) (md : Region.Mode) (ops : Array Oper) (Q : Exit -> Act -> World -> Prop) (S : Array Bool -> World -> Prop) : Nat -> Array Bool -> Act -> World -> Prop
  | 0, L, a, w => Region.ready md ops L = [] /\ Q .normal a w
  | n + 1, L, a, w =>
    (Region.ready md ops L = [] -> Q .normal a w) /\
    ∀ i ∈ Region.ready md ops L, wpOp P ops Q i (fun a' w' => S (L.setIfInBounds i true) w' /\ z6n P md ops Q S n (L.setIfInBounds i true) a' w') a w
theorem zbq {S : Array Bool -> World -> Prop} : ∀ (n : Nat) (L : Array Bool) (a : Act) (w : World), z6n P md ops Q S n L a w -> wpAny P md ops Q n L a w
  | 0, _, _, _, h => h
  | n + 1, _, _, _, h => ⟨h.1, fun i hi => wpOp_mono (fun a' w' h' => zbq n _ a' w' h'.2) (h.2 i hi)⟩
theorem z8i {S S' : Array Bool -> World -> Prop} (p : Array Bool -> Prop) (hp : ∀ L j, p L -> p (L.setIfInBounds j true)) (h : ∀ L w, p L -> S' L w -> S L w) : ∀ (n : Nat) (L : Array Bool) (a : Act) (w : World), p L -> z6n P md ops Q S' n L a w -> z6n P md ops Q S n L a w
  | 0, _, _, _, _, hh => hh
  | n + 1, L, a, w, hL, hh => ⟨hh.1, fun i hi => wpOp_mono (fun a' w' h3 => ⟨h _ _ (hp L i hL) h3.1, z8i p hp h n _ a' w' (hp L i hL) h3.2⟩) (hh.2 i hi)⟩
theorem zcU {S : Array Bool -> World -> Prop} {C : World -> Prop} {i : Nat} {oi : Oper} {v : Value} (hi : ops[i]? = some oi) (hsel : ∀ (j : Nat) (o : Oper) cs b, ops[j]? = some o -> o.op ≠ .select cs b)
    (hQ : ∀ c a w, Q (.panic c) (a.put oi.dst v) w -> Q (.panic c) a w) (hS : ∀ L w, S (L.setIfInBounds i true) w ↔ S L w) (hC : ∀ L w, ShutL md ops L -> L.getD i true = false -> S L w -> C w) :
    ∀ (n : Nat) (L : Array Bool) (a : Act) (w : World), ShutL md ops L ->
      (∀ j oj, ops[j]? = some oj -> j ≠ i -> L.getD j true = false -> (∀ e ∈ oj.after, Region.binds md e = true -> e.on ≠ i) -> oi.apart ops oj = true) ->
      i ∈ Region.ready md ops L -> YieldsIf P ops C oi v a -> S L w ->
      z6n P md ops Q S n (L.setIfInBounds i true) (a.put oi.dst v) w -> z6n P md ops Q S (n + 1) L a w := by
  intro n
  induction n with
  | zero =>
    intro L a w hsh _ hr hy hSw H
    have hun := (mem_ready.1 hr).1
    refine ⟨fun h => (by rw [h] at hr; cases hr), fun j hj => ?_⟩
    by_cases hji : j = i
    · subst hji; exact hy.wpOp hi (hC L w hsh hun hSw) ⟨(hS L w).2 hSw, H⟩
    · have := ready_mono hj hji
      rw [H.1] at this
      cases this
  | succ n ih =>
    intro L a w hsh hfree hr hy hSw H
    have hun := (mem_ready.1 hr).1
    refine ⟨fun h => (by rw [h] at hr; cases hr), fun j hj => ?_⟩
    by_cases hji : j = i
    · subst hji; exact hy.wpOp hi (hC L w hsh hun hSw) ⟨(hS L w).2 hSw, H⟩
    · have h1 := H.2 j (ready_mono hj hji)
      obtain ⟨hjun, oj, hoj, hall⟩ := mem_ready.1 hj
      have hnot : ∀ e ∈ oj.after, Region.binds md e = true -> e.on ≠ i := fun e he hb heq => by
        have h1 := hall e he hb
        have h0 := (mem_ready.1 hr).1
        rw [heq] at h1
        rcases Nat.lt_or_ge i L.size with h' | h'
        · simp [h'] at h0 h1; rw [h0] at h1; cases h1
        · simp [Array.getElem?_eq_none h'] at h1
      have h2 := wpOp_putIf hoj (hfree j oj hoj hji hjun hnot) (fun cs b => hsel i oi cs b hi) (fun cs b => hsel j oj cs b hoj) hQ hy h1
      have hfree' : ∀ k ok, ops[k]? = some ok -> k ≠ i -> (L.setIfInBounds j true).getD k true = false ->
          (∀ e ∈ ok.after, Region.binds md e = true -> e.on ≠ i) -> oi.apart ops ok = true := fun k ok hk hki hun hno => by
        refine hfree k ok hk hki ?_ hno
        by_cases hjk : j = k
        · subst hjk; exact hjun
        · rw [getD_set_ne true hjk] at hun; exact hun
      have hcomm : (L.setIfInBounds i true).setIfInBounds j true = (L.setIfInBounds j true).setIfInBounds i true := (Array.setIfInBounds_comm _ _ (Ne.symm hji))
      refine wpOp_mono (fun a' w' h3 => ?_) h2
      have hS' : S (L.setIfInBounds j true) w' := by
        have := h3.2.1
        rw [hcomm] at this
        exact (hS _ w').1 this
      refine ⟨hS', ih (L.setIfInBounds j true) a' w' (hsh.set hj) hfree' (ready_mono hr (Ne.symm hji)) h3.1 hS' ?_⟩
      have := h3.2.2
      rwa [hcomm] at this
def z8t : List (Nat × Oper × Nat) -> Option Nat
  | [] => none
  | (k, _, m) :: r => if m = 2 then some k else z8t r
def zuS (md : Region.Mode) (ops : Array Oper) (k : Nat) (rest : List (Nat × Oper × Nat)) : Bool := match z8t rest with | none => true | some z => (zvR md ops ops.size [z]).contains k
def z6Q (P : Program) (md : Region.Mode) (ops : Array Oper) (Q : Exit -> Act -> World -> Prop) : List (Nat × Oper × Nat) -> (World -> Prop) -> (World -> Prop) -> (World -> Prop) -> Act -> Prop
  | [], A, B, T, a => ∀ w, T w -> Q .normal a w
  | (k, o, m) :: rest, A, B, T, a =>
    if Region.wanted o (yielded ops a.tmps) = true then
      (if m = 0 ∨ m = 3 then ∃ v, (∀ w, (if m = 0 then A w else B w) -> (execOp a.eval o).run P w = .ok (.value v) w) /\ z6Q P md ops Q rest A B T (a.put o.dst v)
      else ∀ w, T w -> o.wp P a w (fun a' w' => ∃ A' B' T' : World -> Prop, T' w' /\ (∀ x, T' x -> A' x) /\ (∀ x, A' x -> B' x) /\ (∀ x, B' x -> B x) /\ (m = 2 ∨ ∀ x, A' x -> A x) /\ z6Q P md ops Q rest A' B' T' a') Q)
    else z6Q P md ops Q rest A B T (a.put o.dst undef)
def zh9 (md : Region.Mode) (ops : Array Oper) : List (Nat × Oper × Nat) -> Array Bool -> Bool
  | [], L => decide (Region.ready md ops L = [])
  | (k, _, m) :: rest, L => (if m = 0 ∨ m = 3 then (Region.ready md ops L).contains k && Region.free md ops L k && decide (z8t rest ≠ some k) && (m == 3 || zuS md ops k rest) else decide (Region.ready md ops L = [k])) && zh9 md ops rest (L.setIfInBounds k true)
def zmA (z : Option Nat) (A B : World -> Prop) (L : Array Bool) (w : World) : Prop := match z with | none => A w | some z => if L.getD z false = true then B w else A w
theorem zuC {z : Option Nat} {A B : World -> Prop} (hAB : ∀ x, A x -> B x) {L : Array Bool} {w : World} (h : zmA z A B L w) : B w := by
  unfold zmA at h
  split at h
  · exact hAB _ h
  · split at h
    · exact h
    · exact hAB _ h
theorem zmz {z : Option Nat} {A B : World -> Prop} (hAB : ∀ x, A x -> B x) {L : Array Bool} {w : World} (h : A w) : zmA z A B L w := by
  unfold zmA
  split
  · exact h
  · split
    · exact hAB _ h
    · exact h
theorem z6F {L : Array Bool} {k : Nat} (h : k < L.size) : (L.setIfInBounds k true).getD k false = true := by
  simp [Array.getD_eq_getD_getElem?, h]
theorem z8y {L : Array Bool} {k j : Nat} (h : L.getD k false = true) : (L.setIfInBounds j true).getD k false = true := by
  simp only [Array.getD_eq_getD_getElem?, Array.getElem?_setIfInBounds] at h ⊢
  split
  · split <;> simp_all
  · exact h
theorem zs8 {L : Array Bool} {k : Nat} (h : L.getD k true = false) : L.getD k false = false := by
  simp only [Array.getD_eq_getD_getElem?] at h ⊢
  cases hk : L[k]? with
  | none => rfl
  | some b => rw [hk] at h; simpa using h
theorem z8h (hs : Region.noSelect ops = true) (hQ : ∀ c a d v w, Q (.panic c) (Act.put a d v) w -> Q (.panic c) a w) : ∀ (l : List (Nat × Oper × Nat)) (L : Array Bool) (A B T : World -> Prop) (a : Act),
    (∀ x ∈ l, ops[x.1]? = some x.2.1) -> ShutL md ops L -> zh9 md ops l L = true -> (∀ x, A x -> B x) -> (∀ x, T x -> A x) -> z6Q P md ops Q l A B T a -> ∀ w, T w -> z6n P md ops Q (zmA (z8t l) A B) l.length L a w
  | [], L, A, B, T, a, _, hsh, hO, hAB, hTA, h, w, hw => ⟨by simpa [zh9] using hO, h w hw⟩
  | (k, o, m) :: rest, L, A, B, T, a, hl, hsh, hO, hAB, hTA, h, w, hw => by
    have h0 : ops[k]? = some o := hl (k, o, m) (by simp)
    have hk : k < L.size := by rw [hsh.1]; exact (Array.getElem?_eq_some_iff.1 h0).1
    have hl' : ∀ x ∈ rest, ops[x.1]? = some x.2.1 := fun x hx => hl x (by simp [hx])
    simp only [zh9, Bool.and_eq_true] at hO
    obtain ⟨hO1, hO2⟩ := hO
    by_cases hm : m = 0 ∨ m = 3
    · rw [if_pos hm] at hO1
      simp only [Bool.and_eq_true, decide_eq_true_eq] at hO1
      obtain ⟨⟨⟨hr, hf⟩, hzk⟩, hso⟩ := hO1
      have hm2 : m ≠ 2 := by rcases hm with e | e <;> omega
      have hr' : k ∈ Region.ready md ops L := by simpa using hr
      have key : ∃ v, YieldsIf P ops (fun w => if m = 0 then A w else B w) o v a /\ z6Q P md ops Q rest A B T (a.put o.dst v) := by
        simp only [z6Q, if_pos hm] at h
        split at h
        · rename_i hwt
          obtain ⟨v, h1, h2⟩ := h
          exact ⟨v, .inl ⟨hwt, h1⟩, h2⟩
        · rename_i hwt
          exact ⟨undef, .inr ⟨by simpa using hwt, rfl⟩, h⟩
      obtain ⟨v, hy, hK⟩ := key
      have hnz : z8t ((k, o, m) :: rest) = z8t rest := by simp [z8t, hm2]
      rw [hnz]
      refine zcU (C := fun w => if m = 0 then A w else B w) h0 (Region.noSelect_spec hs) (fun c a w h => hQ c a _ _ w h) (fun L' w' => ?_) (fun L' w' hsh' hun hS => ?_) rest.length L a w hsh (Region.free_spec h0 hf) hr' hy (zmz hAB (hTA _ hw))
        (z8h hs hQ rest _ A B T _ hl' (hsh.set hr') hO2 hAB hTA hK w hw)
      · cases hz : z8t rest with
        | none => exact Iff.rfl
        | some z =>
          have hne : z ≠ k := fun e => hzk (by rw [hz, e])
          have : (L'.setIfInBounds k true).getD z false = L'.getD z false := by
            simp only [Array.getD_eq_getD_getElem?, Array.getElem?_setIfInBounds]
            rw [if_neg (fun e => hne e.symm)]
          simp only [zmA, this]
      · by_cases hm0 : m = 0
        · rw [if_pos hm0]
          subst hm0
          have hso : zuS md ops k rest = true := by simpa using hso
          unfold zuS at hso
          split at hso
          · rename_i hz
            rw [hz] at hS
            exact hS
          · rename_i z hz
            rw [hz] at hS
            simp only [zmA] at hS
            split at hS
            · rename_i hlz
              have := zcT hsh' ops.size [z] (fun i hi => by simp at hi; subst hi; exact hlz) k (by simpa using hso)
              rw [zs8 hun] at this
              cases this
            · exact hS
        · rw [if_neg hm0]
          exact zuC hAB hS
    · rw [if_neg hm] at hO1
      have hr : Region.ready md ops L = [k] := by simpa using hO1
      have hr' : k ∈ Region.ready md ops L := by rw [hr]; simp
      refine ⟨fun h1 => (by rw [h1] at hr; cases hr), fun i hi => ?_⟩
      rw [hr] at hi
      obtain rfl : i = k := by simpa using hi
      simp only [z6Q, if_neg hm] at h
      unfold wpOp
      simp only [h0]
      have fin : ∀ (A' B' T' : World -> Prop) (a' : Act) (w' : World), T' w' -> (∀ x, T' x -> A' x) -> (∀ x, A' x -> B' x) -> (∀ x, B' x -> B x) -> (m = 2 ∨ ∀ x, A' x -> A x) -> z6Q P md ops Q rest A' B' T' a' ->
          zmA (z8t ((i, o, m) :: rest)) A B (L.setIfInBounds i true) w' /\ z6n P md ops Q (zmA (z8t ((i, o, m) :: rest)) A B) rest.length (L.setIfInBounds i true) a' w' := fun A' B' T' a' w' t1 t2 t3 t4 t5 t6 => by
        have hrest := z8h hs hQ rest _ A' B' T' a' hl' (hsh.set hr') hO2 t3 t2 t6 w' t1
        by_cases hm2 : m = 2
        · have hz : z8t ((i, o, m) :: rest) = some i := by simp [z8t, hm2]
          rw [hz]
          have hp : ∀ (L' : Array Bool) (x : World), L'.getD i false = true -> zmA (z8t rest) A' B' L' x -> zmA (some i) A B L' x := fun L' x hL hx => by
            simp only [zmA, hL, if_true]
            exact t4 _ (zuC t3 hx)
          refine ⟨hp _ _ (z6F hk) (zmz t3 (t2 _ t1)), z8i (fun L' => L'.getD i false = true) (fun L' j hL => z8y hL) hp rest.length _ a' w' (z6F hk) hrest⟩
        · have hz : z8t ((i, o, m) :: rest) = z8t rest := by simp [z8t, hm2]
          rw [hz]
          have t5' : ∀ x, A' x -> A x := by rcases t5 with e | e; exact absurd e hm2; exact e
          have hp : ∀ (L' : Array Bool) (x : World), True -> zmA (z8t rest) A' B' L' x -> zmA (z8t rest) A B L' x := fun L' x _ hx => by
            cases hz2 : z8t rest with
            | none => rw [hz2] at hx; exact t5' _ hx
            | some z =>
              rw [hz2] at hx
              simp only [zmA] at hx ⊢
              by_cases hh : L'.getD z false = true
              · rw [if_pos hh] at hx ⊢; exact t4 _ hx
              · rw [if_neg hh] at hx ⊢; exact t5' _ hx
          exact ⟨hp _ _ trivial (zmz t3 (t2 _ t1)), z8i (fun _ => True) (fun _ _ _ => trivial) hp rest.length _ a' w' trivial hrest⟩
      split
      · rename_i hwt
        rw [if_pos hwt] at h
        exact .inl (Oper.wp_mono (fun a' w' ⟨A', B', T', h1, h2, h3, h4, h5, h6⟩ => fin A' B' T' a' w' h1 h2 h3 h4 h5 h6) (h w hw))
      · rename_i hwt
        rw [if_neg hwt] at h
        exact fin A B T _ w hw hTA hAB (fun _ h => h) (.inr fun _ h => h) h
def zb3 (ops : Array Oper) (sch : List (Nat × Nat)) : List (Nat × Oper × Nat) := sch.filterMap fun x => (ops[x.1]?).map fun o => (x.1, o, x.2)
theorem zd3 {id : Nat} {a : Act} {w : World} {l : List Oper} (sch : List (Nat × Nat)) (A B T : World -> Prop) (hm : P.follows .mixedOrders = true) (hlen : (zb3 l.toArray sch).length = l.length)
    (hs : Region.noSelect l.toArray = true) (hO : zh9 .any l.toArray (zb3 l.toArray sch) (Array.replicate l.length false) = true)
    (hAB : ∀ x, A x -> B x) (hTA : ∀ x, T x -> A x) (hT : T w.drew) (h : z6Q P .any l.toArray (NoPz Q) (zb3 l.toArray sch) A B T a) : (Code.region id l.toArray true).wp P Q a w := by
  refine Code.wp_mono NoPz.imp (wp_region_any hm ?_)
  have hsh : ShutL .any l.toArray (Array.replicate l.length false) := ⟨by simp, fun i o ho hL => by
    simp only [Array.getD_eq_getD_getElem?, Array.getElem?_replicate] at hL
    split at hL <;> simp at hL⟩
  have := z8h (md := .any) hs (fun _ _ _ _ _ h => h) (zb3 l.toArray sch) (Array.replicate l.length false) A B T a (fun x hx => by
    simp only [zb3, List.mem_filterMap, Option.map_eq_some_iff] at hx
    obtain ⟨y, _, o, ho, rfl⟩ := hx
    exact ho) hsh hO hAB hTA h w.drew hT
  rw [hlen] at this
  have h2 := zbq _ _ _ _ this
  simpa using h2
end
end
section
inductive SchT where
  | nil
  | op (k m : Nat) (rest : SchT)
  | alt (a b : SchT)
def SchT.heads : SchT -> List Nat
  | .nil => []
  | .op k _ _ => [k]
  | .alt a b => a.heads ++ b.heads
def SchT.nexts : SchT -> List Nat
  | .nil => []
  | .op k m r => if m = 2 then [k] else r.nexts
  | .alt a b => a.nexts ++ b.nexts
def SchT.depth : SchT -> Nat
  | .nil => 0
  | .op _ _ r => r.depth + 1
  | .alt a _ => a.depth
section
variable {P : Program} {ops : Array Oper} {Q : Exit -> Act -> World -> Prop} {md : Region.Mode}
def zd4 (P : Program) (md : Region.Mode) (ops : Array Oper) (Q : Exit -> Act -> World -> Prop) : SchT -> (World -> Prop) -> (World -> Prop) -> (World -> Prop) -> Act -> Prop
  | .nil, A, B, T, a => ∀ w, T w -> Q .normal a w
  | .op k m rest, A, B, T, a => ∃ o, ops[k]? = some o /\
    (if Region.wanted o (yielded ops a.tmps) = true then
      (if m = 0 ∨ m = 3 then ∃ v, (∀ w, (if m = 0 then A w else B w) -> (execOp a.eval o).run P w = .ok (.value v) w) /\ zd4 P md ops Q rest A B T (a.put o.dst v)
      else ∀ w, T w -> o.wp P a w (fun a' w' => ∃ A' B' T' : World -> Prop, T' w' /\ (∀ x, T' x -> A' x) /\ (∀ x, A' x -> B' x) /\ (∀ x, B' x -> B x) /\ (m = 2 ∨ ∀ x, A' x -> A x) /\ zd4 P md ops Q rest A' B' T' a') Q)
    else zd4 P md ops Q rest A B T (a.put o.dst undef))
  | .alt x y, A, B, T, a => zd4 P md ops Q x A B T a /\ zd4 P md ops Q y A B T a
def z3j (md : Region.Mode) (ops : Array Oper) : Bool -> SchT -> Array Bool -> Bool
  | top, .nil, L => top && decide (Region.ready md ops L = [])
  | top, .op k m rest, L => (if top = true /\ (m = 0 ∨ m = 3) then (Region.ready md ops L).contains k && Region.free md ops L k && !(rest.nexts.contains k) && (m == 3 || rest.nexts.all fun z => (zvR md ops ops.size [z]).contains k) else (decide (m = 1 ∨ m = 2)) && (if top = true then decide (Region.ready md ops L = [k]) else (Region.ready md ops L).contains k)) && z3j md ops true rest (L.setIfInBounds k true)
  | top, .alt a b, L => (!top || decide (∀ i ∈ Region.ready md ops L, i ∈ a.heads ++ b.heads)) && decide (a.depth = b.depth) && z3j md ops false a L && z3j md ops false b L
def zfo (zs : List Nat) (A B : World -> Prop) (L : Array Bool) (w : World) : Prop := if ∃ z ∈ zs, L.getD z false = true then B w else A w
theorem zss {zs : List Nat} {A B : World -> Prop} (hAB : ∀ x, A x -> B x) {L : Array Bool} {w : World} (h : zfo zs A B L w) : B w := by
  unfold zfo at h; split at h
  · exact h
  · exact hAB _ h
theorem zsr {zs : List Nat} {A B : World -> Prop} (hAB : ∀ x, A x -> B x) {L : Array Bool} {w : World} (h : A w) : zfo zs A B L w := by
  unfold zfo; split
  · exact hAB _ h
  · exact h
theorem zkt {L : Array Bool} {k z : Nat} (h : z ≠ k) : (L.setIfInBounds k true).getD z false = L.getD z false := by
  simp only [Array.getD_eq_getD_getElem?, Array.getElem?_setIfInBounds]
  rw [if_neg (fun e => h e.symm)]
theorem ztT {zs : List Nat} {k m : Nat} {rest : SchT} {L : Array Bool} {A B T : World -> Prop} {a : Act} {o : Oper} {n : Nat} (ho : ops[k]? = some o) (hk : k < L.size) (hm : m = 1 ∨ m = 2) (hz : m = 2 -> k ∈ zs) (hz1 : m ≠ 2 -> ∀ z ∈ rest.nexts, z ∈ zs)
    (hAB : ∀ x, A x -> B x) (hTA : ∀ x, T x -> A x) (h : zd4 P md ops Q (.op k m rest) A B T a) {w : World} (hw : T w)
    (ih : ∀ (A' B' T' : World -> Prop) (a' : Act), (∀ x, A' x -> B' x) -> (∀ x, T' x -> A' x) -> zd4 P md ops Q rest A' B' T' a' -> ∀ w, T' w -> z6n P md ops Q (zfo rest.nexts A' B') n (L.setIfInBounds k true) a' w) :
    wpOp P ops Q k (fun a' w' => zfo zs A B (L.setIfInBounds k true) w' /\ z6n P md ops Q (zfo zs A B) n (L.setIfInBounds k true) a' w') a w := by
  obtain ⟨o2, ho2, h⟩ := h
  rw [ho] at ho2; cases ho2
  have hm' : ¬ (m = 0 ∨ m = 3) := by omega
  have fin : ∀ (A' B' T' : World -> Prop) (a' : Act) (w' : World), T' w' -> (∀ x, T' x -> A' x) -> (∀ x, A' x -> B' x) -> (∀ x, B' x -> B x) -> (m = 2 ∨ ∀ x, A' x -> A x) -> zd4 P md ops Q rest A' B' T' a' ->
      zfo zs A B (L.setIfInBounds k true) w' /\ z6n P md ops Q (zfo zs A B) n (L.setIfInBounds k true) a' w' := fun A' B' T' a' w' t1 t2 t3 t4 t5 t6 => by
    have hrest := ih A' B' T' a' t3 t2 t6 w' t1
    have hp : ∀ (L' : Array Bool) (x : World), L'.getD k false = true -> zfo rest.nexts A' B' L' x -> zfo zs A B L' x := fun L' x hL hx => by
      by_cases hm2 : m = 2
      · unfold zfo
        rw [if_pos ⟨k, hz hm2, hL⟩]
        exact t4 _ (zss t3 hx)
      · have t5' : ∀ x, A' x -> A x := by rcases t5 with e | e; exact absurd e hm2; exact e
        unfold zfo
        split
        · exact t4 _ (zss t3 hx)
        · rename_i hno
          unfold zfo at hx
          rw [if_neg (fun ⟨z, h1, h2⟩ => hno ⟨z, hz1 hm2 z h1, h2⟩)] at hx
          exact t5' _ hx
    exact ⟨hp _ _ (z6F hk) (zsr t3 (t2 _ t1)), z8i (fun L' => L'.getD k false = true) (fun L' j hL => z8y hL) hp n _ a' w' (z6F hk) hrest⟩
  unfold wpOp
  simp only [ho]
  split
  · rename_i hwt
    rw [if_pos hwt, if_neg hm'] at h
    exact .inl (Oper.wp_mono (fun a' w' ⟨A', B', T', h1, h2, h3, h4, h5, h6⟩ => fin A' B' T' a' w' h1 h2 h3 h4 h5 h6) (h w hw))
  · rename_i hwt
    rw [if_neg hwt] at h
    exact fin A B T _ w hw hTA hAB (fun _ h => h) (.inr fun _ h => h) h
theorem z6R (hs : Region.noSelect ops = true) (hQ : ∀ c a d v w, Q (.panic c) (Act.put a d v) w -> Q (.panic c) a w) : ∀ (s : SchT) (L : Array Bool) (A B T : World -> Prop) (a : Act), ShutL md ops L -> (∀ x, A x -> B x) -> (∀ x, T x -> A x) -> zd4 P md ops Q s A B T a -> ∀ w, T w ->
    (z3j md ops true s L = true -> z6n P md ops Q (zfo s.nexts A B) s.depth L a w) /\
    (z3j md ops false s L = true -> ∀ (zs : List Nat) (n : Nat), (∀ z ∈ s.nexts, z ∈ zs) -> s.depth = n + 1 -> ∀ i ∈ s.heads, wpOp P ops Q i (fun a' w' => zfo zs A B (L.setIfInBounds i true) w' /\ z6n P md ops Q (zfo zs A B) n (L.setIfInBounds i true) a' w') a w)
  | .nil, L, A, B, T, a, hsh, hAB, hTA, h, w, hw => ⟨fun hO => ⟨by simpa [z3j] using hO, h w hw⟩, fun hO => by simp [z3j] at hO⟩
  | .op k m rest, L, A, B, T, a, hsh, hAB, hTA, h, w, hw => by
    obtain ⟨o, h0, h'⟩ := h
    have hk : k < L.size := by rw [hsh.1]; exact (Array.getElem?_eq_some_iff.1 h0).1
    have eff : ∀ (zs : List Nat) (n : Nat), (m = 1 ∨ m = 2) -> (∀ z ∈ (SchT.op k m rest).nexts, z ∈ zs) -> rest.depth = n -> k ∈ Region.ready md ops L -> z3j md ops true rest (L.setIfInBounds k true) = true ->
        wpOp P ops Q k (fun a' w' => zfo zs A B (L.setIfInBounds k true) w' /\ z6n P md ops Q (zfo zs A B) n (L.setIfInBounds k true) a' w') a w := fun zs n hm hz hd hr hO => by
      refine ztT h0 hk hm (fun e => hz k (by simp [SchT.nexts, e])) (fun e z hzz => hz z (by simp [SchT.nexts, e, hzz])) hAB hTA ⟨o, h0, h'⟩ hw ?_
      intro A' B' T' a' k1 k2 k3 w' k4
      subst hd
      exact (z6R hs hQ rest _ A' B' T' a' (hsh.set hr) k1 k2 k3 w' k4).1 hO
    constructor
    · intro hO
      simp only [z3j, Bool.and_eq_true] at hO
      obtain ⟨hO1, hO2⟩ := hO
      by_cases hm : m = 0 ∨ m = 3
      · rw [if_pos ⟨trivial, hm⟩] at hO1
        simp only [Bool.and_eq_true, Bool.not_eq_true'] at hO1
        obtain ⟨⟨⟨hr, hf⟩, hzk⟩, hso⟩ := hO1
        have hm2 : m ≠ 2 := by rcases hm with e | e <;> omega
        have hr' : k ∈ Region.ready md ops L := by simpa using hr
        have key : ∃ v, YieldsIf P ops (fun w => if m = 0 then A w else B w) o v a /\ zd4 P md ops Q rest A B T (a.put o.dst v) := by
          rw [if_pos hm] at h'
          split at h'
          · rename_i hwt
            obtain ⟨v, h1, h2⟩ := h'
            exact ⟨v, .inl ⟨hwt, h1⟩, h2⟩
          · rename_i hwt
            exact ⟨undef, .inr ⟨by simpa using hwt, rfl⟩, h'⟩
        obtain ⟨v, hy, hK⟩ := key
        have hnz : (SchT.op k m rest).nexts = rest.nexts := by simp [SchT.nexts, hm2]
        rw [hnz]
        refine zcU (C := fun w => if m = 0 then A w else B w) h0 (Region.noSelect_spec hs) (fun c a w h => hQ c a _ _ w h) (fun L' w' => ?_) (fun L' w' hsh' hun hS => ?_) rest.depth L a w hsh (Region.free_spec h0 hf) hr' hy (zsr hAB (hTA _ hw))
          ((z6R hs hQ rest _ A B T _ (hsh.set hr') hAB hTA hK w hw).1 hO2)
        · have : (∃ z ∈ rest.nexts, (L'.setIfInBounds k true).getD z false = true) ↔ ∃ z ∈ rest.nexts, L'.getD z false = true := by
            constructor
            · rintro ⟨z, h1, h2⟩
              have hne : z ≠ k := fun e => by rw [← e] at hzk; simp [h1] at hzk
              exact ⟨z, h1, by rwa [zkt hne] at h2⟩
            · rintro ⟨z, h1, h2⟩
              exact ⟨z, h1, z8y h2⟩
          simp only [zfo, this]
        · by_cases hm0 : m = 0
          · rw [if_pos hm0]
            subst hm0
            have hso : (rest.nexts.all fun z => (zvR md ops ops.size [z]).contains k) = true := by simpa using hso
            unfold zfo at hS
            split at hS
            · rename_i hlz
              obtain ⟨z, hz1, hz2⟩ := hlz
              have h3 := List.all_eq_true.1 hso z hz1
              have := zcT hsh' ops.size [z] (fun i hi => by simp at hi; subst hi; exact hz2) k (by simpa using h3)
              rw [zs8 hun] at this
              cases this
            · exact hS
          · rw [if_neg hm0]
            exact zss hAB hS
      · rw [if_neg (fun hh => hm hh.2)] at hO1
        simp only [Bool.and_eq_true, decide_eq_true_eq, if_true] at hO1
        obtain ⟨hm1, hr⟩ := hO1
        have hr' : k ∈ Region.ready md ops L := by rw [hr]; simp
        refine ⟨fun h1 => (by rw [h1] at hr; cases hr), fun i hi => ?_⟩
        rw [hr] at hi
        obtain rfl : i = k := by simpa using hi
        exact eff _ _ hm1 (fun z hz => hz) rfl hr' hO2
    · intro hO zs n hz hd i hi
      simp only [z3j, Bool.and_eq_true] at hO
      obtain ⟨hO1, hO2⟩ := hO
      rw [if_neg (fun hh => by cases hh.1)] at hO1
      simp only [Bool.and_eq_true, decide_eq_true_eq, Bool.false_eq_true, if_false] at hO1
      obtain ⟨hm1, hr⟩ := hO1
      obtain rfl : i = k := by simpa [SchT.heads] using hi
      exact eff zs n hm1 hz (by simpa [SchT.depth] using hd) (by simpa using hr) hO2
  | .alt x y, L, A, B, T, a, hsh, hAB, hTA, h, w, hw => by
    obtain ⟨hx, hy⟩ := h
    have sx := z6R hs hQ x L A B T a hsh hAB hTA hx w hw
    have sy := z6R hs hQ y L A B T a hsh hAB hTA hy w hw
    have both : z3j md ops false x L = true -> z3j md ops false y L = true -> x.depth = y.depth -> ∀ (zs : List Nat) (n : Nat), (∀ z ∈ (SchT.alt x y).nexts, z ∈ zs) -> x.depth = n + 1 -> ∀ i ∈ x.heads ++ y.heads, wpOp P ops Q i (fun a' w' => zfo zs A B (L.setIfInBounds i true) w' /\ z6n P md ops Q (zfo zs A B) n (L.setIfInBounds i true) a' w') a w := fun o1 o2 hd zs n hz hn i hi => by
      rcases List.mem_append.1 hi with hi | hi
      · exact sx.2 o1 zs n (fun z h => hz z (by simp [SchT.nexts, h])) hn i hi
      · exact sy.2 o2 zs n (fun z h => hz z (by simp [SchT.nexts, h])) (by omega) i hi
    constructor
    · intro hO
      simp only [z3j, Bool.and_eq_true, decide_eq_true_eq, Bool.not_true, Bool.false_or] at hO
      obtain ⟨⟨⟨h1, h2⟩, h3⟩, h4⟩ := hO
      have hdep : ∀ (s : SchT), z3j md ops false s L = true -> ∃ n, s.depth = n + 1 /\ ∃ i ∈ s.heads, i ∈ Region.ready md ops L := by
        intro s
        induction s with
        | nil => intro hh; simp [z3j] at hh
        | op k m r _ =>
          intro hh
          simp only [z3j, Bool.and_eq_true] at hh
          have hh1 := hh.1
          rw [if_neg (fun hh => by cases hh.1)] at hh1
          simp only [Bool.and_eq_true, Bool.false_eq_true, if_false] at hh1
          exact ⟨r.depth, rfl, k, by simp [SchT.heads], by simpa using hh1.2⟩
        | alt p q ihp ihq =>
          intro hh
          simp only [z3j, Bool.and_eq_true] at hh
          obtain ⟨n, e1, i, e2, e3⟩ := ihp hh.1.2
          exact ⟨n, e1, i, by simp [SchT.heads, e2], e3⟩
      obtain ⟨n, hn, j, hj, hjr⟩ := hdep x h3
      show z6n P md ops Q _ x.depth L a w
      rw [hn]
      refine ⟨fun he => (by rw [he] at hjr; cases hjr), fun i hi => both h3 h4 h2 _ n (fun z hz => hz) hn i (h1 i hi)⟩
    · intro hO zs n hz hd i hi
      simp only [z3j, Bool.and_eq_true, decide_eq_true_eq] at hO
      obtain ⟨⟨⟨_, h2⟩, h3⟩, h4⟩ := hO
      exact both h3 h4 h2 zs n hz hd i hi
theorem zhq {id : Nat} {a : Act} {w : World} {l : List Oper} (s : SchT) (A B T : World -> Prop) (hm : P.follows .mixedOrders = true) (hlen : s.depth = l.length)
    (hs : Region.noSelect l.toArray = true) (hO : z3j .any l.toArray true s (Array.replicate l.length false) = true)
    (hAB : ∀ x, A x -> B x) (hTA : ∀ x, T x -> A x) (hT : T w.drew) (h : zd4 P .any l.toArray (NoPz Q) s A B T a) : (Code.region id l.toArray true).wp P Q a w := by
  refine Code.wp_mono NoPz.imp (wp_region_any hm ?_)
  have hsh : ShutL .any l.toArray (Array.replicate l.length false) := ⟨by simp, fun i o ho hL => by
    simp only [Array.getD_eq_getD_getElem?, Array.getElem?_replicate] at hL
    split at hL <;> simp at hL⟩
  have := (z6R (md := .any) hs (fun _ _ _ _ _ h => h) s (Array.replicate l.length false) A B T a hsh hAB hTA h w.drew hT).1 hO
  rw [hlen] at this
  have h2 := zbq _ _ _ _ this
  simpa using h2
end
end
section
def zx7 (s : Nat) (p : List Nat) : List Nat := if s < 100000 then p else p ++ [s / 100000 - 1]
def zxz (fr : Fr) (s : Nat) : Fr := match z2N fr.tm (s % 100000) with | .one (.h id p) => (z5a fr id (zx7 s p)).getD fr | .one (.a id p _) => (z5a fr id (zx7 s p)).getD fr | _ => fr
def zw4 (fr : Fr) : List Nat -> Fr
  | [] => fr
  | s :: l => zw4 (zxz fr s) l
theorem znE {w : World} {G : Nat -> Value} {a : Act} : ∀ {l : List Nat} {K : Nat -> z0g} {R : Nat -> Value} {fr : Fr}, FRep w K R G fr a -> ∃ K', FRep w K' R G (zw4 fr l) a /\ Step w K w K'
  | [], K, R, fr, h => ⟨K, h, Step.refl _ _⟩
  | s :: l, K, R, fr, h => by
    have h1 : ∃ K', FRep w K' R G (zxz fr s) a /\ Step w K w K' := by
      unfold zxz
      split
      · rename_i id p he
        cases hf : z5a fr id (zx7 s p) with
        | none => exact ⟨K, h, Step.refl _ _⟩
        | some fr' => exact ⟨_, (h.freeze hf).1, zbh id _⟩
      · rename_i id p off he
        cases hf : z5a fr id (zx7 s p) with
        | none => exact ⟨K, h, Step.refl _ _⟩
        | some fr' => exact ⟨_, (h.freeze hf).1, zbh id _⟩
      · exact ⟨K, h, Step.refl _ _⟩
    obtain ⟨K1, h2, h3⟩ := h1
    obtain ⟨K2, h4, h5⟩ := znE (l := l) h2
    exact ⟨K2, h4, h3.trans h5⟩
def z9W (P : Program) (C : z0q) (wio : FuncId -> Nat -> Bool) (fr : Fr) (o : Oper) : Option Fr :=
  match o.op with
  | .call { callee := .value c, args, .. } => (match zaA fr c with
    | some (f, cs) => (match zfM fr (wio f) (args.toList.map (opE fr) ++ cs.map fun t => .one (.t none t)) 0 with | some (_, _, none) => zbm C wio fr f (args.toList.map (opE fr) ++ cs.map fun t => .one (.t none t)) o.dst | _ => none)
    | none => none)
  | op => (match z8S P noM fr op with
    | some e => putF fr o.dst e
    | none => if zhk o then zmu P fr o else none)
def zxJ (w x : World) : Prop := ∀ b, b < w.heap.size -> x.heap[b]? = w.heap[b]?
theorem zsu {P : Program} {I : World -> (Nat -> z0g) -> Prop} {C : z0q} {wio : FuncId -> Nat -> Bool} {w : World} {K : Nat -> z0g} {R G : Nat -> Value} {fr fr' : Fr} {a : Act} {o : Oper} {next : Act -> World -> Prop} {Q : Exit -> Act -> World -> Prop}
    (hI : EnvS I) (hC : zaD P I C) (h : FRep w K R G fr a) (hIw : I w K) (hf : z9W P C wio fr o = some fr') (hn : ∀ a' w' K' R', FRep w' K' R' G fr' a' -> Step w K w' K' -> zxJ w w' -> next a' w') : o.wp P a w next Q := by
  unfold z9W at hf
  split at hf
  · rename_i c args ats hop
    split at hf
    · rename_i f cs hc
      split at hf
      · rename_i ts deps hargs
        obtain ⟨vs, q1, q2, q3⟩ := zcQ (P := P) h hop hc
        exact zmE hI hC h hIw q1 q2 q3 hf fun a' w' K' R' h1 h2 h3 => hn a' w' K' R' h1 h2 (fun b hb => (h3 _ _ _ hargs b hb (z7Z _)).2)
      · cases hf
    · cases hf
  · split at hf
    · rename_i e he
      obtain ⟨v, h1, h2⟩ := z9H h he
      unfold Oper.wp
      rw [h2 w (Stay.refl w K noM)]
      exact hn _ w K R (h.putF h1 hf) (Step.refl _ _) fun _ _ => rfl
    · split at hf
      · rename_i hc
        obtain ⟨r, w', h1, h2, h3⟩ := zi3 h hf
        unfold Oper.wp
        rw [h1]
        rcases h2 with ⟨v, rfl, K', R', e1, e2⟩ | ⟨rfl, hd, K', R', e1, e2⟩
        · exact hn _ w' K' R' e1 e2 (h3 hc)
        · simp only [Oper.upon, hd]
          exact hn _ w' K' R' e1 e2 (h3 hc)
      · cases hf
def wrF (P : Program) (C : z0q) (wio : FuncId -> Nat -> Bool) (M : Nat -> Bool) (fr : Fr) (o : Oper) : Option Fr :=
  match o.op with
  | .call { callee := .value c, args, .. } => (match zaA fr c with
    | none => none
    | some (f, cs) => (match zfM fr (wio f) (args.toList.map (opE fr) ++ cs.map fun t => .one (.t none t)) 0 with
      | some (_, _, none) => zbm C wio fr f (args.toList.map (opE fr) ++ cs.map fun t => .one (.t none t)) o.dst
      | some (_, _, some (_, id)) => if M id then zbm C wio fr f (args.toList.map (opE fr) ++ cs.map fun t => .one (.t none t)) o.dst else none
      | none => none))
  | .buildSlice t n parts => (match o.dst with
    | some d => if M d = false /\ z7B P fr t n parts.toList d = true then z5t P fr t n parts.toList d else none
    | none => none)
  | .makeSlice t l c => (match o.dst, rdV (opE fr l), rdV (opE fr c) with
    | some d, some (.int _ l'), some (.int _ c') => if M d = false then z6M P fr t l' c' d else none
    | _, _, _ => none)
  | .call { callee := .builtin .append, args, argTypes } => (match o.dst, args.toList, argTypes.toList with
    | some d, [s, x], [st, xt] => if M d = true /\ (zic (opE fr s)).all M = true /\ zid fr d s x = true then zfx P fr d st xt s x else none
    | _, _, _ => none)
  | _ => none
theorem zwc {P : Program} {I : World -> (Nat -> z0g) -> Prop} {C : z0q} {wio : FuncId -> Nat -> Bool} {M : Nat -> Bool} {w : World} {K : Nat -> z0g} {R G : Nat -> Value} {fr fr' : Fr} {a : Act} {o : Oper} {next : Act -> World -> Prop} {Q : Exit -> Act -> World -> Prop}
    (hI : EnvS I) (hC : zaD P I C) (h : FRep w K R G fr a) (hIw : I w K) (hf : wrF P C wio M fr o = some fr') (hn : ∀ a' w' K' R', FRep w' K' R' G fr' a' -> Step w K w' K' -> (∀ x, Stay w' x K' M -> Stay w x K M) -> next a' w') : o.wp P a w next Q := by
  unfold wrF at hf
  split at hf
  · rename_i c args ats hop
    split at hf
    · cases hf
    rename_i f cs hc
    obtain ⟨vs, q1, q2, q3⟩ := zcQ (P := P) h hop hc
    have fin : ∀ ts deps io, zfM fr (wio f) (args.toList.map (opE fr) ++ cs.map fun t => .one (.t none t)) 0 = some (ts, deps, io) -> (∀ i id, io = some (i, id) -> M id = true) -> zbm C wio fr f (args.toList.map (opE fr) ++ cs.map fun t => .one (.t none t)) o.dst = some fr' -> o.wp P a w next Q := fun ts deps io hargs hM hcall =>
      zmE hI hC h hIw q1 q2 q3 hcall fun a' w' K' R' h1 h2 h3 => hn a' w' K' R' h1 h2 fun x hx b hb hcb => by
        have hno : ¬ zav io (K b) := by
          rintro ⟨i, id, s, e1, e2⟩
          rcases hcb with e | ⟨j, q, e, hj⟩
          · rw [e] at e2; cases e2
          · rw [e] at e2
            have : j = id := by simpa using (List.cons.inj e2).1
            subst this
            have := hM i j e1
            rw [hj] at this; cases this
        obtain ⟨p1, p2⟩ := h3 _ _ _ hargs b hb hno
        rw [hx b (Nat.lt_of_lt_of_le hb h2.size) (by
          rcases p1 with e | e
          · exact .inl e
          · rcases hcb with e2 | ⟨j, q, e2, hj⟩
            · exact .inl (e.trans e2)
            · exact .inr ⟨j, q, e.trans e2, hj⟩)]
        exact p2
    split at hf
    · rename_i ts deps hargs
      exact fin _ _ _ hargs (fun i id e => by cases e) hf
    · rename_i ts deps i id hargs
      split at hf
      · rename_i hc
        exact fin _ _ _ hargs (fun i' id' e => by cases e; simpa using hc) hf
      · cases hf
    · cases hf
  · rename_i t n parts hop
    split at hf
    · rename_i d hd
      split at hf
      · rename_i hc
        obtain ⟨v, w', h1, ⟨K', R', h2, h3, h4⟩, h5⟩ := z9e h hf
        have hrun : (execOp a.eval o).run P w = .ok (.value v) w' := by
          simp only [execOp, hop]
          have : parts.map (fun (x : Nat × Operand) => (x.1, a.eval x.2)) = (parts.toList.map fun (i, x) => (i, a.eval x)).toArray := by
            apply Array.ext'; simp
          rw [this]
          simp only [Sem.run_bind, h1, Result.andThen_ok, Sem.run_pure]
        unfold Oper.wp
        rw [hrun]
        have h2' : FRep w' K' R' G fr' (a.put o.dst v) := by rw [hd]; exact h2
        exact hn _ w' K' R' h2' h3 fun x hx b hb hcb => by
          rw [hx b (Nat.lt_of_lt_of_le hb h3.size) (h4 hc.2 M hc.1 b hb hcb)]
          exact h5 b hb
      · cases hf
    · cases hf
  · rename_i t l c hop
    split at hf
    · rename_i d k l' k' c' hd hl hc'
      split at hf
      · rename_i hc
        obtain ⟨e1, -⟩ := z1v (h.opE l) hl
        obtain ⟨e2, -⟩ := z1v (h.opE c) hc'
        obtain ⟨v, w', h1, ⟨K', R', h2, h3, h4⟩, h5⟩ := z9Z (k := k) (k' := k') h hf
        have hrun : (execOp a.eval o).run P w = .ok (.value v) w' := by
          simp only [execOp, hop, e1, e2, Sem.run_bind, h1, Result.andThen_ok, Sem.run_pure]
        unfold Oper.wp
        rw [hrun]
        have h2' : FRep w' K' R' G fr' (a.put o.dst v) := by rw [hd]; exact h2
        exact hn _ w' K' R' h2' h3 fun x hx b hb hcb => by
          rw [hx b (Nat.lt_of_lt_of_le hb h3.size) (h4 rfl M hc b hb hcb)]
          exact h5 b hb
      · cases hf
    · cases hf
  · rename_i args ats hop
    split at hf
    · rename_i d s x st xt hd ha ht
      split at hf
      · rename_i hc
        obtain ⟨c1, c2, c3⟩ := hc
        obtain rfl : args = #[s, x] := by apply Array.ext'; simpa using ha
        obtain rfl : ats = #[st, xt] := by apply Array.ext'; simpa using ht
        obtain ⟨v, w', h1, ⟨K', R', h2, h3, h4⟩, h5⟩ := zhm (ty := o.type) h hf
        have hrun : (execOp a.eval o).run P w = .ok (.value v) w' := by
          simp only [execOp, hop, resolve, Sem.run_bind, Sem.run_pure, Result.andThen_ok, invoke, builtin]
          simp [h1]
        unfold Oper.wp
        rw [hrun]
        have h2' : FRep w' K' R' G fr' (a.put o.dst v) := by rw [hd]; exact h2
        have hb0 : ∀ i ∈ zic (opE fr s), M i = true := fun i hi => List.all_eq_true.1 c2 i hi
        exact hn _ w' K' R' h2' h3 fun y hy b hb hcb => by
          rw [hy b (Nat.lt_of_lt_of_le hb h3.size) (h4 c3 M c1 hb0 b hb hcb)]
          refine h5 b hb ?_
          rcases hcb with e | ⟨i, q, e, hi⟩
          · exact .inl e
          · refine .inr ⟨i, q, e, ?_⟩
            by_cases hm : (zic (opE fr s)).contains i = true
            · have := hb0 i (by simpa using hm)
              rw [hi] at this; cases this
            · simpa using hm
      · cases hf
    · cases hf
  · cases hf
def ztP (fr : Fr) : Option (List Nat) -> Fr
  | none => fr
  | some l => zw4 fr l
theorem znD {w : World} {G : Nat -> Value} {a : Act} {l : Option (List Nat)} {K : Nat -> z0g} {R : Nat -> Value} {fr : Fr} (h : FRep w K R G fr a) : ∃ K', FRep w K' R G (ztP fr l) a /\ Step w K w K' := by
  cases l with
  | none => exact ⟨K, h, Step.refl _ _⟩
  | some l => exact znE h
def Fro (w : World) (K : Nat -> z0g) (x : World) : Prop := ∀ b, b < w.heap.size -> K b = [] -> x.heap[b]? = w.heap[b]?
theorem Fro.later {w w' : World} {K K' : Nat -> z0g} (s : Step w K w' K') {x : World} (h : Fro w' K' x) : Fro w K x := fun b hb e => by
  obtain ⟨a1, a2⟩ := s.old b hb (.inl e)
  rw [h b (Nat.lt_of_lt_of_le hb s.size) (a1.trans e), a2]
def clsA (same : Bool) (w : World) (K : Nat -> z0g) (M : Nat -> Bool) (x : World) : Prop := if same then zxJ w x else Stay w x K M
theorem clsA.fro {same : Bool} {w : World} {K : Nat -> z0g} {M : Nat -> Bool} {x : World} (h : clsA same w K M x) : Fro w K x := fun b hb e => by
  unfold clsA at h
  split at h
  · exact h b hb
  · exact h b hb (.inl e)
theorem clsA.stay {same : Bool} {w : World} {K : Nat -> z0g} {M : Nat -> Bool} {x : World} (h : clsA same w K M x) : Stay w x K M := fun b hb e => by
  unfold clsA at h
  split at h
  · exact h b hb
  · exact h b hb e
theorem clsA.self (same : Bool) (w : World) (K : Nat -> z0g) (M : Nat -> Bool) : clsA same w K M w := by
  unfold clsA
  split
  · exact fun _ _ => rfl
  · exact Stay.refl _ _ _
def z9c (P : Program) (C : z0q) (wio : FuncId -> Nat -> Bool) (same : Bool) (M : Nat -> Bool) (ops : Array Oper) : List (Nat × Oper × Nat) -> Fr -> Option Fr
  | [], fr => some fr
  | (k, o, m) :: rest, fr => match z6o ops fr o with
    | none => none
    | some false => (match putF fr o.dst (.one (.k undef)) with | some fr' => z9c P C wio same M ops rest fr' | none => none)
    | some true =>
      if m = 0 ∨ m = 3 then (match z8S P (if m = 0 then M else zxI) fr o.op with
        | some e => (match putF fr o.dst e with | some fr' => z9c P C wio same M ops rest fr' | none => none)
        | none => none)
      else (match (if m = 2 then opF P C wio fr o else if same then z9W P C wio fr o else wrF P C wio M fr o) with | some fr' => z9c P C wio same M ops rest fr' | none => none)
theorem z6N {P : Program} {I : World -> (Nat -> z0g) -> Prop} {C : z0q} {wio : FuncId -> Nat -> Bool} {same : Bool} {M : Nat -> Bool} {ops : Array Oper} {Q : Exit -> Act -> World -> Prop} (hI : EnvS I) (hC : zaD P I C) : ∀ {l : List (Nat × Oper × Nat)} {w : World} {K : Nat -> z0g} {R G : Nat -> Value} {fr fr' : Fr} {a : Act}, FRep w K R G fr a -> I w K -> z9c P C wio same M ops l fr = some fr' ->
    (∀ a' w' K' R', FRep w' K' R' G fr' a' -> Step w K w' K' -> Q .normal a' w') -> z6Q P .any ops (NoPz Q) l (clsA same w K M) (Fro w K) (fun x => x = w) a
  | [], w, K, R, G, fr, fr', a, h, hIw, hf, hn => by
    cases hf
    intro x hx
    subst hx; exact hn a x K R h (Step.refl _ _)
  | (k, o, m) :: rest, w, K, R, G, fr, fr', a, h, hIw, hf, hn => by
    simp only [z9c] at hf
    simp only [z6Q]
    split at hf
    · cases hf
    · rename_i hg
      rw [if_neg (by rw [z8a h hg]; simp)]
      split at hf
      · rename_i fr1 h1
        exact z6N hI hC (h.putF (v := undef) (e := .one (.k undef)) rfl h1) hIw hf hn
      · cases hf
    · rename_i hg
      rw [if_pos (z8a h hg)]
      split at hf
      · rename_i hm
        rw [if_pos hm]
        split at hf
        · rename_i e he
          split at hf
          · rename_i fr1 h1
            obtain ⟨v, r1, r2⟩ := z9H h he
            refine ⟨v, fun x hx => r2 x ?_, z6N hI hC (h.putF r1 h1) hIw hf hn⟩
            by_cases hm0 : m = 0
            · rw [if_pos hm0] at hx ⊢; exact hx.stay
            · rw [if_neg hm0] at hx ⊢
              intro b hb hc
              rcases hc with hc | ⟨i, s, _, hc⟩
              · exact hx b hb hc
              · cases hc
          · cases hf
        · cases hf
      · rename_i hm
        rw [if_neg hm]
        intro x hx
        subst hx
        split at hf
        · rename_i fr1 h1
          by_cases hm2 : m = 2
          · rw [if_pos hm2] at h1
            exact zvb hI hC h hIw h1 fun a' w' K' R' hr hs => ⟨clsA same w' K' M, Fro w' K', fun y => y = w', rfl, fun y hy => by subst hy; exact clsA.self _ _ _ _, fun y hy => hy.fro, fun y hy => hy.later hs, .inl hm2, z6N hI hC hr (hI.step hIw hs) hf fun a2 w2 K2 R2 hr2 hs2 => hn a2 w2 K2 R2 hr2 (hs.trans hs2)⟩
          · rw [if_neg hm2] at h1
            cases same with
            | true =>
              rw [if_pos rfl] at h1
              refine zsu hI hC h hIw h1 fun a' w' K' R' hr hs hsame => ⟨clsA true w' K' M, Fro w' K', fun y => y = w', rfl, fun y hy => by subst hy; exact clsA.self _ _ _ _, fun y hy => hy.fro, fun y hy => hy.later hs, .inr fun y hy => ?_, z6N hI hC hr (hI.step hIw hs) hf fun a2 w2 K2 R2 hr2 hs2 => hn a2 w2 K2 R2 hr2 (hs.trans hs2)⟩
              intro b hb
              have : zxJ w' y := hy
              rw [this b (Nat.lt_of_lt_of_le hb hs.size)]
              exact hsame b hb
            | false =>
              rw [if_neg (by simp)] at h1
              exact zwc hI hC h hIw h1 fun a' w' K' R' hr hs hstay => ⟨clsA false w' K' M, Fro w' K', fun y => y = w', rfl, fun y hy => by subst hy; exact clsA.self _ _ _ _, fun y hy => hy.fro, fun y hy => hy.later hs, .inr fun y hy => hstay y hy, z6N hI hC hr (hI.step hIw hs) hf fun a2 w2 K2 R2 hr2 hs2 => hn a2 w2 K2 R2 hr2 (hs.trans hs2)⟩
        · cases hf
def z9S (f g : Fr) : Prop := f.nt = g.nt /\ (∀ i ∈ f.tm.map (·.1) ++ g.tm.map (·.1), z2N f.tm i = z2N g.tm i) /\ (∀ i ∈ f.ob.map (·.1) ++ g.ob.map (·.1), z1V f.ob i = z1V g.ob i)
theorem zhU : ∀ {l : List (Nat × E)} {i : Nat}, i ∉ l.map (·.1) -> z2N l i = .one .dead
  | [], i, _ => rfl
  | (j, x) :: l, i, h => by
    simp only [List.map_cons, List.mem_cons, not_or] at h
    simp only [z2N]
    rw [if_neg (fun e => h.1 e.symm)]
    exact zhU h.2
theorem zhS : ∀ {l : List (Nat × T)} {i : Nat}, i ∉ l.map (·.1) -> z1V l i = none
  | [], i, _ => rfl
  | (j, x) :: l, i, h => by
    simp only [List.map_cons, List.mem_cons, not_or] at h
    simp only [z1V]
    rw [if_neg (fun e => h.1 e.symm)]
    exact zhS h.2
theorem FRep.same {f g : Fr} (h : z9S f g) {w : World} {K : Nat -> z0g} {R G : Nat -> Value} {a : Act} (hr : FRep w K R G g a) : FRep w K R G f a := by
  obtain ⟨h1, h2, h3⟩ := h
  have e2 : ∀ i, z2N f.tm i = z2N g.tm i := fun i => by
    by_cases hi : i ∈ f.tm.map (·.1) ++ g.tm.map (·.1)
    · exact h2 i hi
    · simp only [List.mem_append, not_or] at hi
      rw [zhU hi.1, zhU hi.2]
  have e3 : ∀ i, z1V f.ob i = z1V g.ob i := fun i => by
    by_cases hi : i ∈ f.ob.map (·.1) ++ g.ob.map (·.1)
    · exact h3 i hi
    · simp only [List.mem_append, not_or] at hi
      rw [zhS hi.1, zhS hi.2]
  have hA : ∀ x u, ARep w K R g.ob x u -> ARep w K R f.ob x u := fun x u hx => by
    cases x with
    | dead => trivial
    | k v => exact hx
    | t dep x => exact ⟨hx.1, fun i e => by rw [e3]; exact hx.2 i e⟩
    | h i q => obtain ⟨n1, t, n2, n3⟩ := hx; exact ⟨n1, t, by rw [e3]; exact n2, n3⟩
    | a i q off => obtain ⟨hv, g', n1, n4, n5, t, n2, n3⟩ := hx; exact ⟨hv, g', n1, n4, n5, t, by rw [e3]; exact n2, n3⟩
    | ea dep cs off => obtain ⟨g', o, F, k1, k2, k3, k4, k5, k6⟩ := hx; exact ⟨g', o, F, k1, k2, k3, k4, k5, fun i e => by rw [e3]; exact k6 i e⟩
  refine ⟨fun i => ?_, fun id t ht => hr.ob id t (by rw [← e3]; exact ht), by rw [h1]; exact hr.nt, hr.df⟩
  rw [e2 i]
  exact (hr.tm i).mono hA
def zx1 (k : Nat) (x : E) : List (Nat × E) -> List (Nat × E)
  | [] => [(k, x)]
  | (j, y) :: r => if k < j then (k, x) :: (j, y) :: r else if k = j then (k, x) :: r else (j, y) :: zx1 k x r
def zx0 (k : Nat) (x : T) : List (Nat × T) -> List (Nat × T)
  | [] => [(k, x)]
  | (j, y) :: r => if k < j then (k, x) :: (j, y) :: r else if k = j then (k, x) :: r else (j, y) :: zx0 k x r
def zwL : List (Nat × E) -> List (Nat × E)
  | [] => []
  | (k, x) :: r => zx1 k x (zwL r)
def zwK : List (Nat × T) -> List (Nat × T)
  | [] => []
  | (k, x) :: r => zx0 k x (zwK r)
def zun (fr : Fr) : Fr := { fr with tm := zwL fr.tm, ob := zwK fr.ob }
theorem znB (k : Nat) (x : E) (i : Nat) : ∀ l : List (Nat × E), z2N (zx1 k x l) i = if k = i then x else z2N l i
  | [] => rfl
  | (j, y) :: r => by
    simp only [zx1]
    by_cases h1 : k < j
    · rw [if_pos h1]; rfl
    · rw [if_neg h1]
      by_cases h2 : k = j
      · rw [if_pos h2]; subst h2
        simp only [z2N]
        by_cases h3 : k = i
        · rw [if_pos h3, if_pos h3]
        · rw [if_neg h3, if_neg h3, if_neg h3]
      · rw [if_neg h2]
        simp only [z2N, znB k x i r]
        by_cases h3 : k = i
        · subst h3
          rw [if_neg (fun e => h2 e.symm), if_pos rfl, if_pos rfl]
        · rw [if_neg h3, if_neg h3]
theorem znx (k : Nat) (x : T) (i : Nat) : ∀ l : List (Nat × T), z1V (zx0 k x l) i = if k = i then some x else z1V l i
  | [] => rfl
  | (j, y) :: r => by
    simp only [zx0]
    by_cases h1 : k < j
    · rw [if_pos h1]; rfl
    · rw [if_neg h1]
      by_cases h2 : k = j
      · rw [if_pos h2]; subst h2
        simp only [z1V]
        by_cases h3 : k = i
        · rw [if_pos h3, if_pos h3]
        · rw [if_neg h3, if_neg h3, if_neg h3]
      · rw [if_neg h2]
        simp only [z1V, znx k x i r]
        by_cases h3 : k = i
        · subst h3
          rw [if_neg (fun e => h2 e.symm), if_pos rfl, if_pos rfl]
        · rw [if_neg h3, if_neg h3]
theorem znz (i : Nat) : ∀ l : List (Nat × E), z2N (zwL l) i = z2N l i
  | [] => rfl
  | (k, x) :: r => by simp only [zwL, znB, znz i r, z2N]
theorem znw (i : Nat) : ∀ l : List (Nat × T), z1V (zwK l) i = z1V l i
  | [] => rfl
  | (k, x) :: r => by simp only [zwK, znx, znw i r, z1V]
theorem FRep.nrm {fr : Fr} {w : World} {K : Nat -> z0g} {R G : Nat -> Value} {a : Act} (h : FRep w K R G fr a) : FRep w K R G (zun fr) a :=
  FRep.same (f := zun fr) (g := fr) ⟨rfl, fun i _ => znz i _, fun i _ => znw i _⟩ h
def eqV : Value -> Value -> Bool
  | .bool a, .bool b => a == b
  | .int k n, .int l m => decide (k = l) && decide (n = m)
  | .string a, .string b => decide (a = b)
  | .pointer none, .pointer none => true
  | .slice none a b, .slice none c d => Nat.beq a c && Nat.beq b d
  | .map none, .map none => true
  | .nilFunc, .nilFunc => true
  | .nilIface, .nilIface => true
  | _, _ => false
theorem znL {v u : Value} (h : eqV v u = true) : v = u := by
  unfold eqV at h
  split at h <;> first | (cases h; done) | rfl | (simp only [Bool.and_eq_true, decide_eq_true_eq, beq_iff_eq] at h; first | (obtain ⟨rfl, rfl⟩ := h; rfl) | (subst h; rfl)) | skip
  simp only [Bool.and_eq_true] at h
  rw [Nat.eq_of_beq_eq_true h.1, Nat.eq_of_beq_eq_true h.2]
def zx9 : List (Value × Value) -> List (Value × Value) -> Bool
  | [], [] => true
  | (a, b) :: r, (c, d) :: s => eqV a c && eqV b d && zx9 r s
  | _, _ => false
theorem zmt : ∀ {a b : List (Value × Value)}, zx9 a b = true -> a = b
  | [], [], _ => rfl
  | (a, b) :: r, (c, d) :: s, h => by
    simp only [zx9, Bool.and_eq_true] at h
    rw [znL h.1.1, znL h.1.2, zmt h.2]
mutual
def eqT : T -> T -> Bool
  | .sc v, .sc u => eqV v u
  | .dead, .dead => true
  | .agg a, .agg b => znM a b
  | .tup a, .tup b => znM a b
  | .sl n a, .sl m b => Nat.beq n m && znM a b
  | .os s n a, .os t m b => Nat.beq s t && Nat.beq n m && znM a b
  | .vr a, .vr b => znM a b
  | .vo n a, .vo m b => Nat.beq n m && znM a b
  | .pr a, .pr b => znM a b
  | .mp k a, .mp l b => decide (k = l) && zx9 a b
  | .mr k a, .mr l b => decide (k = l) && zx9 a b
  | _, _ => false
def znM : List T -> List T -> Bool
  | [], [] => true
  | a :: r, b :: s => eqT a b && znM r s
  | _, _ => false
end
mutual
theorem zsi : ∀ {a b : T}, eqT a b = true -> a = b
  | .sc v, b, h => by cases b <;> simp only [eqT] at h <;> first | (cases h; done) | rw [znL h]
  | .dead, b, h => by cases b <;> simp only [eqT] at h <;> first | (cases h; done) | rfl
  | .agg a, b, h => by cases b <;> simp only [eqT] at h <;> first | (cases h; done) | rw [z7I h]
  | .tup a, b, h => by cases b <;> simp only [eqT] at h <;> first | (cases h; done) | rw [z7I h]
  | .sl n a, b, h => by cases b <;> simp only [eqT, Bool.and_eq_true] at h <;> first | (cases h; done) | rw [Nat.eq_of_beq_eq_true h.1, z7I h.2]
  | .os s n a, b, h => by cases b <;> simp only [eqT, Bool.and_eq_true] at h <;> first | (cases h; done) | rw [Nat.eq_of_beq_eq_true h.1.1, Nat.eq_of_beq_eq_true h.1.2, z7I h.2]
  | .vr a, b, h => by cases b <;> simp only [eqT] at h <;> first | (cases h; done) | rw [z7I h]
  | .vo n a, b, h => by cases b <;> simp only [eqT, Bool.and_eq_true] at h <;> first | (cases h; done) | rw [Nat.eq_of_beq_eq_true h.1, z7I h.2]
  | .pr a, b, h => by cases b <;> simp only [eqT] at h <;> first | (cases h; done) | rw [z7I h]
  | .mp k a, b, h => by cases b <;> simp only [eqT, Bool.and_eq_true, decide_eq_true_eq] at h <;> first | (cases h; done) | rw [h.1, zmt h.2]
  | .mr k a, b, h => by cases b <;> simp only [eqT, Bool.and_eq_true, decide_eq_true_eq] at h <;> first | (cases h; done) | rw [h.1, zmt h.2]
  | .cl f a, b, h => by cases b <;> simp only [eqT] at h <;> cases h
theorem z7I : ∀ {a b : List T}, znM a b = true -> a = b
  | [], [], _ => rfl
  | a :: r, b :: s, h => by
    simp only [znM, Bool.and_eq_true] at h
    rw [zsi h.1, z7I h.2]
  | [], _ :: _, h => by simp [znM] at h
  | _ :: _, [], h => by simp [znM] at h
end
def eqA : A -> A -> Bool
  | .dead, .dead => true
  | .k a, .k b => eqV a b
  | .t d x, .t e y => decide (d = e) && eqT x y
  | .h i p, .h j q => decide (i = j) && decide (p = q)
  | .a i p o, .a j q o' => decide (i = j) && decide (p = q) && decide (o = o')
  | .ea d x o, .ea e y o' => decide (d = e) && znM x y && decide (o = o')
  | _, _ => false
theorem zuw {a b : A} (h : eqA a b = true) : a = b := by
  cases a <;> cases b <;> simp only [eqA, Bool.and_eq_true, decide_eq_true_eq] at h <;> first | (cases h; done) | rfl | (rw [znL h]; done) | (rw [h.1, zsi h.2]; done) | (rw [h.1, h.2]; done) | (rw [h.1.1, h.1.2, h.2]; done) | (rw [h.1.1, z7I h.1.2, h.2]; done)
def zxC : List A -> List A -> Bool
  | [], [] => true
  | a :: r, b :: s => eqA a b && zxC r s
  | _, _ => false
theorem zsk : ∀ {a b : List A}, zxC a b = true -> a = b
  | [], [], _ => rfl
  | a :: r, b :: s, h => by
    simp only [zxC, Bool.and_eq_true] at h
    rw [zuw h.1, zsk h.2]
def eqE : E -> E -> Bool
  | .one a, .one b => eqA a b
  | .ag a, .ag b => zxC a b
  | _, _ => false
theorem zxa {a b : E} (h : eqE a b = true) : a = b := by
  cases a <;> cases b <;> simp only [eqE] at h <;> first | (cases h; done) | (rw [zuw h]; done) | (rw [zsk h]; done)
def zxA : List (Nat × E) -> List (Nat × E) -> Bool
  | [], [] => true
  | (i, a) :: r, (j, b) :: s => Nat.beq i j && eqE a b && zxA r s
  | _, _ => false
theorem zsh : ∀ {a b : List (Nat × E)}, zxA a b = true -> a = b
  | [], [], _ => rfl
  | (i, a) :: r, (j, b) :: s, h => by
    simp only [zxA, Bool.and_eq_true] at h
    rw [Nat.eq_of_beq_eq_true h.1.1, zxa h.1.2, zsh h.2]
def zxB : List (Nat × T) -> List (Nat × T) -> Bool
  | [], [] => true
  | (i, a) :: r, (j, b) :: s => Nat.beq i j && eqT a b && zxB r s
  | _, _ => false
theorem zsj : ∀ {a b : List (Nat × T)}, zxB a b = true -> a = b
  | [], [], _ => rfl
  | (i, a) :: r, (j, b) :: s, h => by
    simp only [zxB, Bool.and_eq_true] at h
    rw [Nat.eq_of_beq_eq_true h.1.1, zsi h.1.2, zsj h.2]
def zte (f g : Fr) : Bool := Nat.beq f.nt g.nt && zxA f.tm g.tm && zxB f.ob g.ob
theorem ztd {f g : Fr} (h : zte f g = true) : z9S f g := by
  simp only [zte, Bool.and_eq_true] at h
  have e1 := Nat.eq_of_beq_eq_true h.1.1
  have e2 := zsh h.1.2
  have e3 := zsj h.2
  exact ⟨e1, fun i _ => by rw [e2], fun i _ => by rw [e3]⟩
open Classical in
noncomputable def zrw (x y : Fr) : Option Fr := if zte x y = true then some x else if z9S x y then some x else none
theorem zcE {x y z : Fr} (h : zrw x y = some z) : x = z /\ z9S x y := by
  unfold zrw at h
  split at h
  · rename_i hb; cases h; exact ⟨rfl, ztd hb⟩
  · split at h
    · rename_i hs; cases h; exact ⟨rfl, hs⟩
    · cases h
theorem zdd {x y : Fr} (h : z9S x y) : zrw x y = some x := by
  unfold zrw
  by_cases hb : zte x y = true
  · rw [if_pos hb]
  · rw [if_neg hb, if_pos h]
open Classical in
noncomputable def z5c (P : Program) (C : z0q) (wio : FuncId -> Nat -> Bool) (same : Bool) (M : Nat -> Bool) (ops : Array Oper) : SchT -> Fr -> Option Fr
  | .nil, fr => some fr
  | .op k m rest, fr => match ops[k]? with
    | none => none
    | some o => match z6o ops fr o with
      | none => none
      | some false => (match putF fr o.dst (.one (.k undef)) with | some fr' => z5c P C wio same M ops rest (zun fr') | none => none)
      | some true =>
        if m = 0 ∨ m = 3 then (match z8S P (if m = 0 then M else zxI) fr o.op with
          | some e => (match putF fr o.dst e with | some fr' => z5c P C wio same M ops rest (zun fr') | none => none)
          | none => none)
        else (match (if m = 2 then opF P C wio fr o else if same then z9W P C wio fr o else wrF P C wio M fr o) with | some fr' => z5c P C wio same M ops rest (zun fr') | none => none)
  | .alt a b, fr => match z5c P C wio same M ops a fr, z5c P C wio same M ops b fr with
    | some x, some y => zrw x y
    | _, _ => none
theorem z4M {P : Program} {I : World -> (Nat -> z0g) -> Prop} {C : z0q} {wio : FuncId -> Nat -> Bool} {same : Bool} {M : Nat -> Bool} {ops : Array Oper} {Q : Exit -> Act -> World -> Prop} (hI : EnvS I) (hC : zaD P I C) : ∀ {l : SchT} {w : World} {K : Nat -> z0g} {R G : Nat -> Value} {fr fr' : Fr} {a : Act}, FRep w K R G fr a -> I w K -> z5c P C wio same M ops l fr = some fr' ->
    (∀ a' w' K' R', FRep w' K' R' G fr' a' -> Step w K w' K' -> Q .normal a' w') -> zd4 P .any ops (NoPz Q) l (clsA same w K M) (Fro w K) (fun x => x = w) a
  | .nil, w, K, R, G, fr, fr', a, h, hIw, hf, hn => by
    simp only [z5c, Option.some.injEq] at hf
    subst hf
    intro x hx
    subst hx; exact hn a x K R h (Step.refl _ _)
  | .alt x y, w, K, R, G, fr, fr', a, h, hIw, hf, hn => by
    simp only [z5c] at hf
    split at hf
    · rename_i f1 f2 h1 h2
      obtain ⟨rfl, hs⟩ := zcE hf
      exact ⟨z4M hI hC h hIw h1 hn, z4M hI hC h hIw h2 fun a' w' K' R' hr hst => hn a' w' K' R' (hr.same hs) hst⟩
    · cases hf
  | .op k m rest, w, K, R, G, fr, fr', a, h, hIw, hf, hn => by
    simp only [z5c] at hf
    split at hf
    · cases hf
    rename_i o ho
    refine ⟨o, ho, ?_⟩
    split at hf
    · cases hf
    · rename_i hg
      rw [if_neg (by rw [z8a h hg]; simp)]
      split at hf
      · rename_i fr1 h1
        exact z4M hI hC (h.putF (v := undef) (e := .one (.k undef)) rfl h1).nrm hIw hf hn
      · cases hf
    · rename_i hg
      rw [if_pos (z8a h hg)]
      split at hf
      · rename_i hm
        rw [if_pos hm]
        split at hf
        · rename_i e he
          split at hf
          · rename_i fr1 h1
            obtain ⟨v, r1, r2⟩ := z9H h he
            refine ⟨v, fun x hx => r2 x ?_, z4M hI hC (h.putF r1 h1).nrm hIw hf hn⟩
            by_cases hm0 : m = 0
            · rw [if_pos hm0] at hx ⊢; exact hx.stay
            · rw [if_neg hm0] at hx ⊢
              intro b hb hc
              rcases hc with hc | ⟨i, s, _, hc⟩
              · exact hx b hb hc
              · cases hc
          · cases hf
        · cases hf
      · rename_i hm
        rw [if_neg hm]
        intro x hx
        subst hx
        split at hf
        · rename_i fr1 h1
          by_cases hm2 : m = 2
          · rw [if_pos hm2] at h1
            exact zvb hI hC h hIw h1 fun a' w' K' R' hr hs => ⟨clsA same w' K' M, Fro w' K', fun y => y = w', rfl, fun y hy => by subst hy; exact clsA.self _ _ _ _, fun y hy => hy.fro, fun y hy => hy.later hs, .inl hm2, z4M hI hC hr.nrm (hI.step hIw hs) hf fun a2 w2 K2 R2 hr2 hs2 => hn a2 w2 K2 R2 hr2 (hs.trans hs2)⟩
          · rw [if_neg hm2] at h1
            cases same with
            | true =>
              rw [if_pos rfl] at h1
              refine zsu hI hC h hIw h1 fun a' w' K' R' hr hs hsame => ⟨clsA true w' K' M, Fro w' K', fun y => y = w', rfl, fun y hy => by subst hy; exact clsA.self _ _ _ _, fun y hy => hy.fro, fun y hy => hy.later hs, .inr fun y hy => ?_, z4M hI hC hr.nrm (hI.step hIw hs) hf fun a2 w2 K2 R2 hr2 hs2 => hn a2 w2 K2 R2 hr2 (hs.trans hs2)⟩
              intro b hb
              have : zxJ w' y := hy
              rw [this b (Nat.lt_of_lt_of_le hb hs.size)]
              exact hsame b hb
            | false =>
              rw [if_neg (by simp)] at h1
              exact zwc hI hC h hIw h1 fun a' w' K' R' hr hs hstay => ⟨clsA false w' K' M, Fro w' K', fun y => y = w', rfl, fun y hy => by subst hy; exact clsA.self _ _ _ _, fun y hy => hy.fro, fun y hy => hy.later hs, .inr fun y hy => hstay y hy, z4M hI hC hr.nrm (hI.step hIw hs) hf fun a2 w2 K2 R2 hr2 hs2 => hn a2 w2 K2 R2 hr2 (hs.trans hs2)⟩
        · cases hf
end
section
inductive X where
  | n
  | x (id : Nat)
  | r
def zqU : X -> Exit
  | .n => .normal
  | .x id => .exit id
  | .r => .ret
structure Cfg where
  wio : FuncId -> Nat -> Bool
  live : Nat -> Option (List Nat)
  dr : Nat -> Option (List (Nat × Nat))
  wr : Nat -> List Nat := fun _ => []
  fz : Nat -> Option (List Nat) := fun _ => none
  dt : Nat -> Option SchT := fun _ => none
def za1 : Code -> Nat
  | .region id _ _ => id
  | .seq a _ => za1 a
  | .cond _ a _ => za1 a
  | .block _ c => za1 c
  | .loop c => za1 c
  | .scope c => za1 c
  | _ => 0
def onE : E -> List Nat
  | .one x => (onA x).toList
  | .ag xs => xs.filterMap onA
def ids : List (Nat × E) -> List Nat
  | [] => []
  | (_, e) :: r => onE e ++ ids r
def zfJ (ob : List (Nat × T)) : List Nat -> List (Nat × T)
  | [] => []
  | i :: r => match z1V ob i with | some t => z6L (zfJ ob r) i t | none => zfJ ob r
def zfI (tm : List (Nat × E)) : List Nat -> List (Nat × E)
  | [] => []
  | i :: r => (i, z2N tm i) :: zfI tm r
def z8A (n : Nat) : List (Nat × E) -> List (Nat × E)
  | [] => []
  | (i, e) :: r => if n <= i then (i, e) :: z8A n r else z8A n r
def zq9 (l : List Nat) (n : Nat) : Nat := if l.contains 999999 then 1000000000 else n
def za3 (keep : Option (List Nat)) (fr : Fr) : Fr :=
  match keep with
  | none => fr
  | some l => { fr with tm := zfI fr.tm l ++ z8A (zq9 l fr.nt) fr.tm, ob := zfJ fr.ob (ids (zfI fr.tm l ++ z8A (zq9 l fr.nt) fr.tm)) }
theorem z5p (ob : List (Nat × T)) : ∀ (l : List Nat) (i : Nat), z1V (zfJ ob l) i = if i ∈ l then z1V ob i else none
  | [], i => by simp [zfJ, z1V]
  | j :: r, i => by
    simp only [zfJ]
    split
    · rename_i t ht
      rw [z0M, z5p ob r i]
      by_cases e : j = i
      · subst e; simp [ht]
      · simp only [if_neg e, List.mem_cons, Ne.symm e, false_or]
    · rename_i hn
      rw [z5p ob r i]
      by_cases e : i = j
      · subst e; simp [hn]
      · simp [e]
theorem zmm (l m : List (Nat × E)) (i : Nat) : ((∃ e, (i, e) ∈ l) /\ z2N (l ++ m) i = z2N l i) ∨ z2N (l ++ m) i = z2N m i := by
  induction l with
  | nil => exact .inr rfl
  | cons a r ih =>
    obtain ⟨j, x⟩ := a
    simp only [List.cons_append, z2N]
    by_cases h : j = i
    · subst h; left; exact ⟨⟨x, by simp⟩, by simp⟩
    · simp only [if_neg h]
      rcases ih with ⟨⟨e, he⟩, h2⟩ | h2
      · left; exact ⟨⟨e, by simp [he]⟩, h2⟩
      · right; exact h2
theorem zkn (tm : List (Nat × E)) : ∀ (l : List Nat) (i : Nat), (∃ e, (i, e) ∈ zfI tm l) -> z2N (zfI tm l) i = z2N tm i
  | [], i, h => by obtain ⟨e, he⟩ := h; cases he
  | j :: r, i, h => by
    simp only [zfI, z2N]
    by_cases e : j = i
    · subst e; simp
    · rw [if_neg e]
      refine zkn tm r i ?_
      obtain ⟨x, hx⟩ := h
      simp only [zfI] at hx
      rcases List.mem_cons.1 hx with hx | hx
      · cases hx; exact absurd rfl e
      · exact ⟨x, hx⟩
theorem zcI (n : Nat) : ∀ (tm : List (Nat × E)) (i : Nat), z2N (z8A n tm) i = z2N tm i ∨ z2N (z8A n tm) i = .one .dead
  | [], i => .inl rfl
  | (j, x) :: r, i => by
    simp only [z8A]
    by_cases e : j = i
    · subst e
      split
      · left; simp [z2N]
      · rename_i hn
        right
        have : ∀ l : List (Nat × E), z2N (z8A n l) j = .one .dead := by
          intro l
          induction l with
          | nil => rfl
          | cons b r ih =>
            obtain ⟨k, y⟩ := b
            simp only [z8A]
            split
            · simp only [z2N]; rw [if_neg (by omega)]; exact ih
            · exact ih
        exact this r
    · split
      · simp only [z2N, if_neg e]; exact zcI n r i
      · simp only [z2N, if_neg e]; exact zcI n r i
theorem znA : ∀ {tm : List (Nat × E)} {i : Nat}, z2N tm i = .one .dead ∨ (i, z2N tm i) ∈ tm
  | [], i => .inl rfl
  | (j, x) :: r, i => by
    simp only [z2N]
    by_cases e : j = i
    · subst e; right; simp
    · rw [if_neg e]
      rcases znA (tm := r) (i := i) with h | h
      · exact .inl h
      · exact .inr (by simp [h])
theorem zs1 : ∀ {tm : List (Nat × E)} {i : Nat} {e : E}, (i, e) ∈ tm -> ∀ j ∈ onE e, j ∈ ids tm
  | (k, x) :: r, i, e, h, j, hj => by
    simp only [ids, List.mem_append]
    rcases List.mem_cons.1 h with h | h
    · cases h; exact .inl hj
    · exact .inr (zs1 h j hj)
theorem FRep.canon {w : World} {K : Nat -> z0g} {R G : Nat -> Value} {fr : Fr} {a : Act} (h : FRep w K R G fr a) (keep : Option (List Nat)) : FRep w K R G (za3 keep fr) a := by
  unfold za3
  split
  · exact h
  rename_i l
  let tm' := zfI fr.tm l ++ z8A (zq9 l fr.nt) fr.tm
  have hget : ∀ i, z2N tm' i = z2N fr.tm i ∨ z2N tm' i = .one .dead := fun i => by
    rcases zmm (zfI fr.tm l) (z8A (zq9 l fr.nt) fr.tm) i with ⟨he, e⟩ | e
    · left; rw [show z2N tm' i = _ from e]; exact zkn fr.tm l i he
    · rw [show z2N tm' i = _ from e]; exact zcI (zq9 l fr.nt) fr.tm i
  have hsub : ∀ i t, z1V (zfJ fr.ob (ids tm')) i = some t -> z1V fr.ob i = some t := fun i t ht => by
    rw [z5p] at ht
    split at ht
    · exact ht
    · cases ht
  have hA : ∀ x u, (∀ j, onA x = some j -> j ∈ ids tm') -> ARep w K R fr.ob x u -> ARep w K R (zfJ fr.ob (ids tm')) x u := fun x u hx hr => by
    cases x with
    | dead => trivial
    | k v => exact hr
    | t dep x => exact ⟨hr.1, fun i e => by subst e; rw [z5p, if_pos (hx i rfl)]; exact hr.2 i rfl⟩
    | h i q => obtain ⟨n1, t, n2, n3⟩ := hr; exact ⟨n1, t, by rw [z5p, if_pos (hx i rfl)]; exact n2, n3⟩
    | a i q off => obtain ⟨hv, g, n1, n4, n5, t, n2, n3⟩ := hr; exact ⟨hv, g, n1, n4, n5, t, by rw [z5p, if_pos (hx i rfl)]; exact n2, n3⟩
    | ea dep cs off => obtain ⟨g, o, F, e1, e2, e3, e4, e5, e6⟩ := hr; exact ⟨g, o, F, e1, e2, e3, e4, e5, fun i e => by subst e; rw [z5p, if_pos (hx i rfl)]; exact e6 i rfl⟩
  refine ⟨fun i => ?_, fun id t ht => h.ob id t (hsub id t ht), h.nt, h.df⟩
  show ERep w K R (zfJ fr.ob (ids tm')) (z2N tm' i) _
  rcases znA (tm := tm') (i := i) with hd | hm
  · rw [hd]; trivial
  · rcases hget i with e | e
    · have hr := h.tm i
      rw [← e] at hr
      have hon : ∀ j ∈ onE (z2N tm' i), j ∈ ids tm' := zs1 hm
      revert hr hon
      generalize z2N tm' i = ee
      intro hr hon
      cases ee with
      | one x => exact hA x _ (fun j hj => hon j (by simp [onE, hj])) hr
      | ag xs =>
        obtain ⟨arr, e1, e2, e3⟩ := hr
        exact ⟨arr, e1, e2, fun j x hx => hA x _ (fun k hk => hon k (by simp only [onE, List.mem_filterMap]; exact ⟨x, List.mem_of_getElem? hx, hk⟩)) (e3 j x hx)⟩
    · rw [e]; trivial
def zbf (body : Fr -> Option (X × Fr)) (cn : Fr -> Fr) : Nat -> Fr -> Option (X × Fr)
  | 0, _ => none
  | n + 1, fr => match body (cn fr) with
    | some (.n, fr') => zbf body cn n fr'
    | some (x, fr') => some (x, fr')
    | none => none
def z5h (P : Program) : List Oper -> Fr -> Option Fr
  | [], fr => some fr
  | o :: l, fr => match o.op, o.dst with
    | .assign _, some d => (match zxl P fr o.type d with | some fr' => z5h P l fr' | none => none)
    | _, _ => z5h P l fr
theorem zcS {P : Program} {w : World} {G : Nat -> Value} {a : Act} : ∀ {l : List Oper} {K : Nat -> z0g} {R : Nat -> Value} {fr fr' : Fr}, FRep w K R G fr a -> z5h P l fr = some fr' -> ∃ K' R', FRep w K' R' G fr' a /\ Step w K w K'
  | [], K, R, fr, fr', h, hf => by cases hf; exact ⟨K, R, h, Step.refl _ _⟩
  | o :: l, K, R, fr, fr', h, hf => by
    simp only [z5h] at hf
    split at hf
    · split at hf
      · rename_i fr1 h1
        obtain ⟨K1, R1, a1, a2, _, _⟩ := zsH h h1
        obtain ⟨K2, R2, b1, b2⟩ := zcS (l := l) a1 hf
        exact ⟨K2, R2, b1, a2.trans b2⟩
      · cases hf
    · exact zcS (l := l) h hf
noncomputable def z7J (P : Program) (C : z0q) (cf : Cfg) (id : Nat) (ops : Array Oper) (fr : Fr) : Option Fr :=
  match cf.dt id with
  | some t => z5c P C cf.wio (cf.wr id).isEmpty (cf.wr id).contains ops t fr
  | none => (match cf.dr id with
    | some sch => z9c P C cf.wio (cf.wr id).isEmpty (cf.wr id).contains ops (zb3 ops sch) fr
    | none => none)
noncomputable def z2A (P : Program) (C : z0q) (cf : Cfg) (LF : Nat) : Code -> Fr -> Option (X × Fr)
  | .skip, fr => some (.n, fr)
  | .label _, fr => some (.n, fr)
  | .region id ops draw, fr =>
    if draw then (match z7J P C cf id ops (ztP fr (cf.fz id)) with
      | some fr1 => (match z5h P ops.toList fr1 with | some fr2 => some (.n, fr2) | none => none)
      | none => none)
    else (match zlZ P C cf.wio ops ops.toList (ztP fr (cf.fz id)) with | some fr' => some (.n, fr') | none => none)
  | .seq a b, fr => (match z2A P C cf LF a fr with
    | some (.n, fr') => z2A P C cf LF b fr'
    | r => r)
  | .cond c x y, fr => (match rdV (opE fr c) with
    | some (.bool true) => z2A P C cf LF x fr
    | some (.bool false) => z2A P C cf LF y fr
    | _ => none)
  | .block id c, fr => (match z2A P C cf LF c fr with
    | some (.x i, fr') => if i = id then some (.n, fr') else some (.x i, fr')
    | r => r)
  | .scope c, fr => z2A P C cf LF c fr
  | .loop c, fr => zbf (fun fr => z2A P C cf LF c fr) (za3 (cf.live (za1 c))) LF fr
  | .exit id, fr => some (.x id, fr)
  | .ret, fr => some (.r, fr)
  | _, _ => none
def zrD (ops : Array Oper) (sch : List (Nat × Nat)) : Bool :=
  decide ((zb3 ops sch).length = ops.toList.length) && Region.noSelect ops && zh9 .any ops (zb3 ops sch) (Array.replicate ops.toList.length false)
def zas (ops : Array Oper) (t : SchT) : Bool :=
  decide (t.depth = ops.toList.length) && Region.noSelect ops && z3j .any ops true t (Array.replicate ops.toList.length false)
def okC (cf : Cfg) : Code -> Bool
  | .region id ops draw => !draw || (match cf.dt id with | some t => zas ops t | none => (match cf.dr id with | some sch => zrD ops sch | none => true))
  | .seq a b => okC cf a && okC cf b
  | .cond _ x y => okC cf x && okC cf y
  | .block _ c => okC cf c
  | .loop c => okC cf c
  | .scope c => okC cf c
  | _ => true
theorem zy9 {p : Nat -> Prop} : ∀ {n : Nat}, p n -> ∃ m, p m /\ ∀ k, p k -> m <= k := by
  intro n
  induction n using Nat.strongRecOn with
  | _ n ih =>
    intro h
    by_cases hc : ∃ k, k < n /\ p k
    · obtain ⟨k, hk, hp⟩ := hc
      exact ih k hk hp
    · exact ⟨n, h, fun k hp => Nat.le_of_not_lt fun hk => hc ⟨k, hk, hp⟩⟩
theorem zqC {P : Program} {c : Code} {Q : Exit -> Act -> World -> Prop} (J : Nat -> Act -> World -> Prop) (round : ∀ n a w, J n a w -> c.wp P (Exit.then (fun a' w' => ∃ m, m < n /\ J m a' w') Q) a w) {n : Nat} {a : Act} {w : World} (h : J n a w) : (Code.loop c).wp P Q a w := by
  classical
  let L : Act -> World -> Nat -> Prop := fun a w m => J m a w /\ ∀ k, J k a w -> m <= k
  have hL : ∀ a w, (∃ n, J n a w) -> ∃ m, L a w m := fun a w ⟨n, hn⟩ => zy9 hn
  refine wp_loop (fun a w => ∃ n, J n a w) (fun a w => if h : ∃ m, L a w m then h.choose else 0) ⟨n, h⟩ fun a w hI => ?_
  have hI2 := hL a w hI
  obtain ⟨hj, hmin⟩ := hI2.choose_spec
  refine Code.wp_mono (fun e a' w' hq => ?_) (round _ a w hj)
  cases e with
  | normal =>
    obtain ⟨m, hm, hJ⟩ := hq
    refine ⟨⟨m, hJ⟩, ?_⟩
    have hI' := hL a' w' ⟨m, hJ⟩
    rw [dif_pos hI', dif_pos hI2]
    exact Nat.lt_of_le_of_lt (hI'.choose_spec.2 m hJ) hm
  | exit id => exact hq
  | goto l => exact hq
  | ret => exact hq
  | panic ch => exact hq
  | outgrown => exact hq
theorem zvF {P : Program} {I : World -> (Nat -> z0g) -> Prop} {C : z0q} {cf : Cfg} {LF : Nat} (hI : EnvS I) (hC : zaD P I C) (hm : P.follows .mixedOrders = true) : ∀ (c : Code) {w : World} {K : Nat -> z0g} {R G : Nat -> Value} {fr fr' : Fr} {x : X} {a : Act} {Q : Exit -> Act -> World -> Prop}, okC cf c = true -> FRep w K R G fr a -> I w K ->
    z2A P C cf LF c fr = some (x, fr') -> (∀ a' w' K' R', FRep w' K' R' G fr' a' -> Step w K w' K' -> Q (zqU x) a' w') -> c.wp P Q a w := by
  intro c
  induction c with
  | skip => intro w K R G fr fr' x a Q ho h hIw hf hq; cases hf; exact wp_skip (hq a w K R h (Step.refl _ _))
  | label l => intro w K R G fr fr' x a Q ho h hIw hf hq; cases hf; exact wp_label (hq a w K R h (Step.refl _ _))
  | exit id => intro w K R G fr fr' x a Q ho h hIw hf hq; cases hf; exact wp_exit (hq a w K R h (Step.refl _ _))
  | ret => intro w K R G fr fr' x a Q ho h hIw hf hq; cases hf; exact wp_ret (hq a w K R h (Step.refl _ _))
  | goto l => intro w K R G fr fr' x a Q ho h hIw hf hq; cases hf
  | scope c ih =>
    intro w K R G fr fr' x a Q ho h hIw hf hq
    simp only [okC] at ho
    simp only [z2A] at hf
    refine wp_scope_straight (ih ho h hIw hf fun a' w' K' R' hr hs => ?_)
    have := hq a' w' K' R' hr hs
    cases x <;> exact this
  | refuse s => intro w K R G fr fr' x a Q ho h hIw hf hq; cases hf
  | rangeFunc => intro w K R G fr fr' x a Q ho h hIw hf hq; cases hf
  | region id ops draw =>
    intro w K R G fr fr' x a Q ho h hIw hf hq
    simp only [z2A] at hf
    split at hf
    · rename_i hd
      subst hd
      split at hf
      · rename_i fr1 h1
        split at hf
        · rename_i fr2 h2
          cases hf
          obtain ⟨Kz, hz, hsz⟩ := znD (l := cf.fz id) h
          have hd2 : FRep w.drew Kz R G (ztP fr (cf.fz id)) a := hz.keep ⟨fun b hb e => ⟨e, rfl⟩, fun b hb _ => ⟨rfl, rfl⟩, Nat.le_refl _⟩
          have hId : I w.drew Kz := hI.keep (hI.step hIw hsz) (Nat.le_refl _) fun b hb e => ⟨e, rfl⟩
          have hfin : ∀ a' w' K' R', FRep w' K' R' G fr1 a' -> Step w.drew Kz w' K' -> Q .normal a' w' := fun a' w' K' R' hr hs => by
            obtain ⟨K2, R2, e1, e2⟩ := zcS hr h2
            have hs0 : Step w Kz w' K' := ⟨hs.os, hs.tape, hs.output, hs.size, hs.old, hs.sz⟩
            exact hq a' w' K2 R2 e1 ((hsz.trans hs0).trans e2)
          rw [show Code.region id ops true = Code.region id ops.toList.toArray true by rw [Array.toArray_toList]]
          unfold z7J at h1
          split at h1
          · rename_i t ht
            simp only [okC, ht, zas, Bool.not_true, Bool.false_or, Bool.and_eq_true, decide_eq_true_eq] at ho
            obtain ⟨⟨o1, o2⟩, o3⟩ := ho
            refine zhq t (clsA (cf.wr id).isEmpty w.drew Kz (cf.wr id).contains) (Fro w.drew Kz) (fun y => y = w.drew) hm o1 (by rw [Array.toArray_toList]; exact o2) (by rw [Array.toArray_toList]; exact o3) (fun y hy => hy.fro) (fun y hy => by subst hy; exact clsA.self _ _ _ _) rfl ?_
            rw [Array.toArray_toList]
            exact z4M hI hC hd2 hId h1 hfin
          · rename_i ht
            split at h1
            · rename_i sch hsch
              simp only [okC, ht, hsch, zrD, Bool.not_true, Bool.false_or, Bool.and_eq_true, decide_eq_true_eq] at ho
              obtain ⟨⟨o1, o2⟩, o3⟩ := ho
              refine zd3 sch (clsA (cf.wr id).isEmpty w.drew Kz (cf.wr id).contains) (Fro w.drew Kz) (fun y => y = w.drew) hm (by rw [Array.toArray_toList]; exact o1) (by rw [Array.toArray_toList]; exact o2) (by rw [Array.toArray_toList]; exact o3) (fun y hy => hy.fro) (fun y hy => by subst hy; exact clsA.self _ _ _ _) rfl ?_
              rw [Array.toArray_toList]
              exact z6N hI hC hd2 hId h1 hfin
            · cases h1
        · cases hf
      · cases hf
    · rename_i hd
      have hd' : draw = false := by simpa using hd
      subst hd'
      split at hf
      · rename_i fr1 h1
        cases hf
        obtain ⟨Kz, hz, hsz⟩ := znD (l := cf.fz id) h
        exact wp_region_list (zrs hI hC hz (hI.step hIw hsz) h1 fun a' w' K' R' hr hs => hq a' w' K' R' hr (hsz.trans hs))
      · cases hf
  | seq c1 c2 ih1 ih2 =>
    intro w K R G fr fr' x a Q ho h hIw hf hq
    simp only [okC, Bool.and_eq_true] at ho
    simp only [z2A] at hf
    refine wp_seq ?_
    split at hf
    · rename_i fr1 h1
      exact ih1 ho.1 h hIw h1 fun a1 w1 K1 R1 hr hs => ih2 ho.2 hr (hI.step hIw hs) hf fun a2 w2 K2 R2 hr2 hs2 => hq a2 w2 K2 R2 hr2 (hs.trans hs2)
    · rename_i hne
      cases x with
      | n => exact absurd hf (hne _)
      | x id => exact ih1 ho.1 h hIw hf fun a1 w1 K1 R1 hr hs => hq a1 w1 K1 R1 hr hs
      | r => exact ih1 ho.1 h hIw hf fun a1 w1 K1 R1 hr hs => hq a1 w1 K1 R1 hr hs
  | cond c x1 y1 ih1 ih2 =>
    intro w K R G fr fr' x a Q ho h hIw hf hq
    simp only [okC, Bool.and_eq_true] at ho
    simp only [z2A] at hf
    split at hf
    · rename_i hc
      obtain ⟨e1, -⟩ := z1v (h.opE c) hc
      exact wp_cond_true e1 (ih1 ho.1 h hIw hf hq)
    · rename_i hc
      obtain ⟨e1, -⟩ := z1v (h.opE c) hc
      exact wp_cond_false e1 (ih2 ho.2 h hIw hf hq)
    · cases hf
  | block id c ih =>
    intro w K R G fr fr' x a Q ho h hIw hf hq
    simp only [okC] at ho
    simp only [z2A] at hf
    refine wp_block ?_
    split at hf
    · rename_i i fr1 h1
      split at hf
      · rename_i hi
        cases hf
        exact ih ho h hIw h1 fun a1 w1 K1 R1 hr hs => by
          simp only [zqU, Exit.inBlock, if_pos hi]; exact hq a1 w1 K1 R1 hr hs
      · rename_i hi
        cases hf
        exact ih ho h hIw h1 fun a1 w1 K1 R1 hr hs => by
          simp only [zqU, Exit.inBlock, if_neg hi]; exact hq a1 w1 K1 R1 hr hs
    · rename_i hne
      cases x with
      | n => exact ih ho h hIw hf fun a1 w1 K1 R1 hr hs => hq a1 w1 K1 R1 hr hs
      | x i => exact absurd hf (hne _ _)
      | r => exact ih ho h hIw hf fun a1 w1 K1 R1 hr hs => hq a1 w1 K1 R1 hr hs
  | loop c ih =>
    intro w K R G fr fr' x a Q ho h hIw hf hq
    simp only [okC] at ho
    simp only [z2A] at hf
    refine zqC (fun n a1 w1 => ∃ fr1 K1 R1, FRep w1 K1 R1 G fr1 a1 /\ Step w K w1 K1 /\ zbf (fun fr => z2A P C cf LF c fr) (za3 (cf.live (za1 c))) n fr1 = some (x, fr')) (fun n a1 w1 hJ => ?_) ⟨fr, K, R, h, Step.refl _ _, hf⟩
    obtain ⟨fr1, K1, R1, h1, hs1, hi⟩ := hJ
    cases n with
    | zero => cases hi
    | succ n =>
      simp only [zbf] at hi
      split at hi
      · rename_i fr2 h2
        exact ih ho (h1.canon _) (hI.step hIw hs1) h2 fun a2 w2 K2 R2 hr hs => ⟨n, Nat.lt_succ_self n, fr2, K2, R2, hr, hs1.trans hs, hi⟩
      · rename_i x2 fr2 hne h2
        cases hi
        cases x with
        | n => exact absurd rfl (hne)
        | x i => exact ih ho (h1.canon _) (hI.step hIw hs1) h2 fun a2 w2 K2 R2 hr hs => hq a2 w2 K2 R2 hr (hs1.trans hs)
        | r => exact ih ho (h1.canon _) (hI.step hIw hs1) h2 fun a2 w2 K2 R2 hr hs => hq a2 w2 K2 R2 hr (hs1.trans hs)
      · cases hi
end
section
def z8B (i : Nat) : T -> E
  | .vr _ => .one (.a i [] 0)
  | .os _ _ _ => .one (.h i [])
  | .vo off _ => .one (.a i [] off)
  | .pr cs => .one (.ea none cs 0)
  | t => .one (.t none t)
def z6q (nt : Nat) : List T -> Nat -> List (Nat × E)
  | [], _ => []
  | t :: ts, i => if z6z t then (i, z8B i t) :: (nt + 1000 + i, z8B i t) :: z6q nt ts (i + 1) else (i, z8B i t) :: z6q nt ts (i + 1)
def zwF : T -> T
  | .vo _ cs => .vr cs
  | t => t
def z6h : List T -> Nat -> List (Nat × T)
  | [], _ => []
  | t :: ts, i => if z6z t then (i, zwF t) :: z6h ts (i + 1) else z6h ts (i + 1)
theorem zcM : ∀ (ts : List T) (i j : Nat) (t : T), z1V (z6h ts i) j = some t -> i <= j /\ ∃ t0, t = zwF t0 /\ ts[j - i]? = some t0 /\ z6z t0 = true
  | [], i, j, t, h => by cases h
  | t0 :: ts, i, j, t, h => by
    simp only [z6h] at h
    split at h
    · rename_i hio
      simp only [z1V] at h
      split at h
      · rename_i e
        cases h
        subst e
        exact ⟨Nat.le_refl _, t0, rfl, by simp, hio⟩
      · obtain ⟨h1, t1, h0, h2, h3⟩ := zcM ts (i + 1) j t h
        exact ⟨by omega, t1, h0, by rw [show j - i = (j - (i + 1)) + 1 by omega, List.getElem?_cons_succ]; exact h2, h3⟩
    · obtain ⟨h1, t1, h0, h2, h3⟩ := zcM ts (i + 1) j t h
      exact ⟨by omega, t1, h0, by rw [show j - i = (j - (i + 1)) + 1 by omega, List.getElem?_cons_succ]; exact h2, h3⟩
theorem zkA : ∀ (ts : List T) (i j : Nat) (t : T), ts[j]? = some t -> z6z t = true -> z1V (z6h ts i) (i + j) = some (zwF t)
  | [], i, j, t, h, _ => by simp at h
  | t0 :: ts, i, 0, t, h, hio => by
    simp at h; subst h
    simp [z6h, hio, z1V]
  | t0 :: ts, i, j + 1, t, h, hio => by
    have ih := zkA ts (i + 1) j t (by simpa using h) hio
    rw [show i + 1 + j = i + (j + 1) by omega] at ih
    simp only [z6h]
    split
    · simp only [z1V]; rw [if_neg (by omega)]; exact ih
    · exact ih
theorem zhj (nt : Nat) : ∀ (ts : List T) (i k : Nat), z2N (z6q nt ts i) k = .one .dead ∨ ∃ j t, ts[j]? = some t /\ z2N (z6q nt ts i) k = z8B (i + j) t /\ (k = i + j ∨ (z6z t = true /\ k = nt + 1000 + (i + j)))
  | [], i, k => .inl rfl
  | t :: ts, i, k => by
    have rest : z2N (z6q nt ts (i + 1)) k = .one .dead ∨ ∃ j t', (t :: ts)[j]? = some t' /\ z2N (z6q nt ts (i + 1)) k = z8B (i + j) t' /\ (k = i + j ∨ (z6z t' = true /\ k = nt + 1000 + (i + j))) := by
      rcases zhj nt ts (i + 1) k with h | ⟨j, t', h1, h2, h3⟩
      · exact .inl h
      · refine .inr ⟨j + 1, t', by simpa using h1, by rw [h2]; congr 1; omega, ?_⟩
        rcases h3 with h3 | ⟨h3, h4⟩
        · left; omega
        · right; exact ⟨h3, by omega⟩
    simp only [z6q]
    split
    · rename_i hio
      simp only [z2N]
      split
      · rename_i e; exact .inr ⟨0, t, rfl, rfl, .inl e.symm⟩
      · split
        · rename_i e; exact .inr ⟨0, t, rfl, rfl, .inr ⟨hio, e.symm⟩⟩
        · exact rest
    · simp only [z2N]
      split
      · rename_i e; exact .inr ⟨0, t, rfl, rfl, .inl e.symm⟩
      · exact rest
def z7d (nt : Nat) (args : List T) : Fr := ⟨nt, z6q nt args 0, z6h args 0⟩
def zu8 : Option T -> Value -> Value
  | some (.vo _ _), .pointer (some a) => .pointer (some ⟨a.block, 0, none⟩)
  | _, v => v
theorem zsl {w : World} {K : Nat -> z0g} {args : List T} {vals : Array Value} {nt : Nat} (hs : vals.size = args.length) (hr : ∀ i t, args[i]? = some t -> zho w K i (vals.getD i undef) t) (hn : args.length <= nt) :
    FRep w K (fun i => zu8 (args[i]?) (vals.getD i undef)) (fun i => vals.getD (i - (nt + 1000)) undef) (z7d nt args) { tmps := vals ++ Array.replicate (nt - vals.size) undef, defers := [] } := by
  refine ⟨fun k => ?_, fun id t ht => ?_, by simp [z7d]; omega, rfl⟩
  · show ERep w K _ (z6h args 0) (z2N (z6q nt args 0) k) _
    rcases zhj nt args 0 k with h | ⟨j, t, h1, h2, h3⟩
    · rw [h]; trivial
    · rw [h2, Nat.zero_add]
      have hlt := (List.getElem?_eq_some_iff.1 h1).1
      have hreg : z8O { tmps := vals ++ Array.replicate (nt - vals.size) undef, defers := [] } (fun i => vals.getD (i - (nt + 1000)) undef) k = vals.getD j undef := by
        rcases h3 with e | ⟨_, e⟩
        · have hk : k = j := by omega
          subst hk
          rw [z8O, if_pos (by simp; omega)]
          simp only [Array.getD_eq_getD_getElem?, Array.getElem?_append]
          rw [if_pos (by omega)]
        · rw [z8O, if_neg (by simp; omega), e, show nt + 1000 + (0 + j) - (nt + 1000) = j by omega]
      rw [hreg]
      have hr' := hr j t h1
      unfold zho at hr'
      have hob : z6z t = true -> z1V (z6h args 0) j = some (zwF t) := fun hio => by
        have := zkA args 0 j t h1 hio
        rwa [Nat.zero_add] at this
      cases t with
      | vr cs =>
        have hob' := hob rfl
        simp only [z6z, if_true] at hr'
        generalize hv : vals.getD j undef = v at hr'
        have hvv : v = vals.getD j undef := hv.symm
        cases hr' with
        | vr c g cs arr e fz F hfz hc0 hK hg hl hF hh => exact ⟨_, g, rfl, by simp [hv, h1, zu8, z6j], rfl, _, hob', rfl⟩
      | os sz n cs => exact ⟨by simp [h1, zu8, nav], _, hob rfl, rfl⟩
      | vo off cs =>
        have hob' := hob rfl
        simp only [z6z, if_true] at hr'
        generalize hv : vals.getD j undef = v at hr'
        cases hr' with
        | vo c g off cs h2 => exact ⟨.pointer (some ⟨g, 0, none⟩), g, by simp [hv, h1, zu8, nav], rfl, rfl, _, hob', rfl⟩
      | pr cs =>
        simp only [z6z, Bool.false_eq_true, if_false] at hr'
        generalize hv : vals.getD j undef = v at hr'
        cases hr' with
        | pr c g o cs F hK hg hF hh => exact ⟨g, o, F, rfl, hK, hg, hF, hh, fun _ e => by cases e⟩
      | sc v => exact ⟨hr', fun _ e => by cases e⟩
      | dead => exact ⟨hr', fun _ e => by cases e⟩
      | agg cs => exact ⟨hr', fun _ e => by cases e⟩
      | tup cs => exact ⟨hr', fun _ e => by cases e⟩
      | mp kk es => exact ⟨hr', fun _ e => by cases e⟩
      | mr kk es => exact ⟨hr', fun _ e => by cases e⟩
      | cl f cs => exact ⟨hr', fun _ e => by cases e⟩
      | sl n cs => exact ⟨hr', fun _ e => by cases e⟩
  · obtain ⟨h1, t0, h0, h2, h3⟩ := zcM args 0 id t ht
    have h2' : args[id]? = some t0 := by simpa using h2
    have := hr id t0 h2'
    unfold zho at this
    rw [h3] at this
    simp only [if_true] at this
    rw [h2', h0]
    cases t0 with
    | vo off cs =>
      generalize hv : vals.getD id undef = v at this
      cases this with
      | vo c g off cs h2 => exact h2
    | _ => exact this
def zwt (P : Program) (fr : Fr) : ResultVar -> Option E
  | .tmp t => if t < fr.nt then some (z2N fr.tm t) else none
  | .cell ad ty => if ad < fr.nt then zpP P noM fr ty (z2N fr.tm ad) else none
def zrr (P : Program) (fr : Fr) : List ResultVar -> Option (List E)
  | [] => some []
  | r :: rs => match zwt P fr r, zrr P fr rs with | some e, some es => some (e :: es) | _, _ => none
def zw0 : ResultVar -> Array Value -> Sem Value
  | .tmp t, tmps => pure (tmps.getD t undef)
  | .cell a t, tmps => do loadVar t (← asAddr (tmps.getD a undef))
theorem zti {P : Program} {w : World} {K : Nat -> z0g} {R G : Nat -> Value} {fr : Fr} {a : Act} {r : ResultVar} {e : E} (h : FRep w K R G fr a) (hr : zwt P fr r = some e) : ∃ v, ERep w K R fr.ob e v /\ (zw0 r a.tmps).run P w = .ok v w := by
  have hreg : ∀ t, t < fr.nt -> ERep w K R fr.ob (z2N fr.tm t) (a.tmps.getD t undef) := fun t ht => by
    have := h.tm t
    rwa [z8O, if_pos (by rw [h.nt]; exact ht)] at this
  cases r with
  | tmp t =>
    simp only [zwt] at hr
    split at hr
    · rename_i ht
      cases hr
      exact ⟨_, hreg t ht, by simp [zw0]⟩
    · cases hr
  | cell ad ty =>
    simp only [zwt] at hr
    split at hr
    · rename_i ht
      obtain ⟨v, h1, h2⟩ := znj h (hreg ad ht) hr
      refine ⟨v, h1, ?_⟩
      have h3 := h2 w (Stay.refl w K noM)
      have hp : ∃ ad', a.tmps.getD ad undef = .pointer (some ad') := by
        have hx := hreg ad ht
        unfold zpP at hr
        split at hr
        · cases hr
        · split at hr
          · rename_i id p off hg
            rw [hg] at hx
            obtain ⟨hv, g, _, _, n5, _⟩ := hx
            exact ⟨_, n5⟩
          · rename_i dep cs off hg
            rw [hg] at hx
            obtain ⟨g, o, F, n5, _⟩ := hx
            exact ⟨_, n5⟩
          · cases hr
      obtain ⟨ad', hp⟩ := hp
      rw [hp] at h3
      simp only [zw0, hp, asAddr, Sem.run_bind, Sem.run_pure, Result.andThen_ok]
      simpa [Instr.loadAt, Instr.sureAddr] using h3
    · cases hr
theorem zjW {P : Program} {w : World} {K : Nat -> z0g} {R G : Nat -> Value} {fr : Fr} {a : Act} (h : FRep w K R G fr a) : ∀ {rs : List ResultVar} {es : List E}, zrr P fr rs = some es ->
    ∃ vs : List Value, vs.length = es.length /\ es.length = rs.length /\ (∀ j e, es[j]? = some e -> ERep w K R fr.ob e (vs.getD j undef)) /\ (rs.mapM (fun r => zw0 r a.tmps)).run P w = .ok vs w
  | [], es, hr => by cases hr; exact ⟨[], rfl, rfl, fun j e hj => by simp at hj, by simp⟩
  | r :: rs, es, hr => by
    simp only [zrr] at hr
    split at hr
    · rename_i e es' h1 h2
      cases hr
      obtain ⟨v, a1, a2⟩ := zti h h1
      obtain ⟨vs, b1, b0, b2, b3⟩ := zjW h h2
      refine ⟨v :: vs, by simp [b1], by simp [b0], fun j e hj => ?_, ?_⟩
      · match j, hj with
        | 0, hj => simp at hj; subst hj; simpa using a1
        | j + 1, hj => simpa using b2 j e (by simpa using hj)
      · rw [List.mapM_cons]
        simp only [Sem.run_bind, a2, b3, Result.andThen_ok, Sem.run_pure]
    · cases hr
def zjN : E -> T
  | .one _ => .dead
  | .ag xs => .agg (xs.map fun _ => .dead)
def z9V : List E -> List A
  | [] => []
  | .one x :: es => x :: z9V es
  | .ag xs :: es => xs ++ z9V es
def zcY : Nat -> Nat -> List E -> List (List Nat × Nat)
  | _, _, [] => []
  | j, base, .one x :: es => ([j], base) :: zcY (j + 1) (base + 1) es
  | j, base, .ag xs :: es => (List.range xs.length).map (fun i => ([j, i], base + i)) ++ zcY (j + 1) (base + xs.length) es
theorem zar {w : World} {K : Nat -> z0g} {R : Nat -> Value} {ob : List (Nat × T)} : ∀ {es : List E} {us : List Value} {j0 base : Nat}, us.length = es.length -> (∀ j e, es[j]? = some e -> ERep w K R ob e (us.getD j undef)) ->
    ∃ vs : List Value, vs.length = (z9V es).length /\ (∀ k x, (z9V es)[k]? = some x -> ARep w K R ob x (vs.getD k undef)) /\
      ∀ q r, (q, r) ∈ zcY j0 base es -> ∃ k, k < vs.length /\ r = base + k /\ ∃ j q', q = (j0 + j) :: q' /\ j < es.length /\ nav w (us.getD j undef) q' = some (vs.getD k undef)
  | [], us, j0, base, hl, hr => ⟨[], rfl, fun k x hk => by simp [z9V] at hk, fun q r hm => by cases hm⟩
  | .one x :: es, us, j0, base, hl, hr => by
    match us, hl with
    | u :: us, hl =>
      obtain ⟨vs, a1, a2, a3⟩ := zar (es := es) (us := us) (j0 := j0 + 1) (base := base + 1) (by simpa using hl) (fun j e hj => by simpa using hr (j + 1) e (by simpa using hj))
      refine ⟨u :: vs, by simp [z9V, a1], fun k y hk => ?_, fun q r hm => ?_⟩
      · match k, hk with
        | 0, hk => simp [z9V] at hk; subst hk; exact (hr 0 (.one x) rfl : ERep w K R ob (.one x) u)
        | k + 1, hk => simpa using a2 k y (by simpa [z9V] using hk)
      · simp only [zcY] at hm
        rcases List.mem_cons.1 hm with hm | hm
        · cases hm
          exact ⟨0, by simp, by simp, 0, [], by simp, by simp, by simp [nav]⟩
        · obtain ⟨k, k1, k2, j, q', k3, k4, k5⟩ := a3 q r hm
          exact ⟨k + 1, by simpa using k1, by omega, j + 1, q', by rw [k3]; congr 1; omega, by simpa using k4, by simpa using k5⟩
  | .ag xs :: es, us, j0, base, hl, hr => by
    match us, hl with
    | u :: us, hl =>
      obtain ⟨arr, b1, b2, b3⟩ := hr 0 (.ag xs) rfl
      obtain ⟨vs, a1, a2, a3⟩ := zar (es := es) (us := us) (j0 := j0 + 1) (base := base + xs.length) (by simpa using hl) (fun j e hj => by simpa using hr (j + 1) e (by simpa using hj))
      have hal : arr.toList.length = xs.length := by simpa using b2
      refine ⟨arr.toList ++ vs, by simp [z9V, a1, b2], fun k y hk => ?_, fun q r hm => ?_⟩
      · simp only [z9V] at hk
        by_cases hlt : k < xs.length
        · rw [List.getElem?_append_left hlt] at hk
          have := b3 k y hk
          have e1 : (arr.toList ++ vs).getD k undef = arr.getD k undef := by
            simp only [List.getD_eq_getElem?_getD, List.getElem?_append_left (show k < arr.toList.length by omega), Array.getElem?_toList, Array.getD_eq_getD_getElem?]
          rw [e1]; exact this
        · rw [List.getElem?_append_right (by omega)] at hk
          have := a2 _ y hk
          have e1 : (arr.toList ++ vs).getD k undef = vs.getD (k - xs.length) undef := by
            simp only [List.getD_eq_getElem?_getD, List.getElem?_append_right (show arr.toList.length <= k by omega), hal]
          rw [e1]; exact this
      · simp only [zcY, List.mem_append, List.mem_map, List.mem_range] at hm
        rcases hm with ⟨i, hi, he⟩ | hm
        · cases he
          have hia : i < arr.size := by omega
          refine ⟨i, by simp; omega, rfl, 0, [i], by simp, by simp, ?_⟩
          have e1 : (arr.toList ++ vs).getD i undef = arr.getD i undef := by
            simp only [List.getD_eq_getElem?_getD, List.getElem?_append_left (show i < arr.toList.length by omega), Array.getElem?_toList, Array.getD_eq_getD_getElem?]
          rw [e1]
          have hu : (u :: us).getD 0 undef = .agg arr := by simpa using b1
          rw [hu]
          simp [nav, zd7, Array.getD_eq_getD_getElem?, hia]
        · obtain ⟨k, k1, k2, j, q', k3, k4, k5⟩ := a3 q r hm
          refine ⟨xs.length + k, by simp; omega, by omega, j + 1, q', by rw [k3]; congr 1; omega, by simpa using k4, ?_⟩
          have e1 : (arr.toList ++ vs).getD (xs.length + k) undef = vs.getD k undef := by
            simp only [List.getD_eq_getElem?_getD, List.getElem?_append_right (show arr.toList.length <= xs.length + k by omega), hal]
            congr 2; omega
          rw [e1]; simpa using k5
end
section
def zwH (fr : Fr) (g : Nat) : T :=
  match z2N fr.tm g with
  | .one (.h e []) => (match z1V fr.ob e with | some t => t | none => .dead)
  | .one (.a e [] 0) => (match z1V fr.ob e with | some (.vr cs) => .vr cs | _ => .dead)
  | _ => .dead
def zwG (fr : Fr) (g : Nat) : T :=
  match z2N fr.tm g with
  | .one (.a e [] off) => (match z1V fr.ob e with | some (.vr cs) => .vo off cs | _ => .dead)
  | _ => .dead
def zxu : T -> Bool
  | .vo _ _ => true
  | _ => false
theorem TRep.vr_val {w : World} {K : Nat -> z0g} {c : z0g} {v : Value} {cs : List T} {g : Nat} (h : TRep w K c v (.vr cs)) (hb : z6j v = some g) : v = .pointer (some ⟨g, 0, none⟩) := by
  cases h with
  | vr c g' cs arr e fz F hfz hc0 hK hg hl hF hh =>
    simp only [z6j, Option.some.injEq] at hb
    rw [hb]
def zpI (fr : Fr) (g : Nat) : Option Nat :=
  match z2N fr.tm g with
  | .one (.h e []) => some e
  | .one (.a e [] _) => some e
  | _ => none
def zk4 (fr : Fr) (nt : Nat) : List T -> Nat -> List T
  | [], _ => []
  | t :: ts, i => (if zxu t then zwG fr (nt + 1000 + i) else if z6z t then zwH fr (nt + 1000 + i) else .dead) :: zk4 fr nt ts (i + 1)
theorem zk3 (fr : Fr) (nt : Nat) : ∀ (ts : List T) (i j : Nat) (t : T), ts[j]? = some t -> z6z t = true -> (zk4 fr nt ts i)[j]? = some (if zxu t then zwG fr (nt + 1000 + (i + j)) else zwH fr (nt + 1000 + (i + j)))
  | [], i, j, t, h, _ => by simp at h
  | t0 :: ts, i, 0, t, h, hio => by simp at h; subst h; simp [zk4, hio]
  | t0 :: ts, i, j + 1, t, h, hio => by
    simp only [zk4, List.getElem?_cons_succ]
    rw [zk3 fr nt ts (i + 1) j t (by simpa using h) hio]
    rw [show i + 1 + j = i + (j + 1) by omega]
def zmh : List T -> Nat -> Option Nat
  | [], _ => none
  | t :: ts, i => if z6z t then some i else zmh ts (i + 1)
theorem znq : ∀ (ts : List T) (i j : Nat) (t : T), (ts.filter z6z).length <= 1 -> ts[j]? = some t -> z6z t = true -> zmh ts i = some (i + j)
  | [], i, j, t, _, h, _ => by simp at h
  | t0 :: ts, i, 0, t, _, h, hio => by simp at h; subst h; simp [zmh, hio]
  | t0 :: ts, i, j + 1, t, hl, h, hio => by
    have h' : ts[j]? = some t := by simpa using h
    by_cases h0 : z6z t0 = true
    · exfalso
      have hm : t ∈ ts.filter z6z := by simp [List.mem_of_getElem? h', hio]
      have := List.length_pos_of_mem hm
      simp only [List.filter_cons, h0, if_true, List.length_cons] at hl
      omega
    · have h0' : z6z t0 = false := by simpa using h0
      simp only [zmh, h0', Bool.false_eq_true, if_false]
      rw [znq ts (i + 1) j t (by simpa [List.filter_cons, h0'] using hl) h' hio]
      congr 1; omega
def zrA (fr : Fr) (nt : Nat) (args : List T) : Option Nat := match zmh args 0 with | some i => zpI fr (nt + 1000 + i) | none => none
def zfK (P : Program) (fn : Func) (args : List T) (fr : Fr) : Option (T × List T) :=
  match zrr P fr fn.results.toList with
  | none => none
  | some es =>
    if (z9V es).length <= 900 /\ fr.nt = fn.ntmps then
      match plugL true { fr with tm := z7H (kill fr.nt) (putR fr.tm (fr.nt + 1) (z9V es)), ob := z6L fr.ob fr.nt (.tup (es.map zjN)) } fr.nt (zcY 0 (fr.nt + 1) es) with
      | none => none
      | some fr2 =>
        if zrA fr2 fn.ntmps args = some fr.nt then none else
        match z1V fr2.ob fr.nt with
        | some (.tup ts) =>
          if es.length = 1 then (match ts with | [t] => some (t, zk4 fr2 fn.ntmps args 0) | _ => none)
          else some (.tup ts, zk4 fr2 fn.ntmps args 0)
        | _ => none
    else none
def zve (cf : Cfg) (o : Option (T × List T)) : Option (T × List T) := match cf.fz 999998 with | none => o | some _ => o.map fun x => (z2T x.1, x.2)
def dz : z0g -> z0g
  | 0 :: _ => []
  | c => c
theorem zrE {cf : Cfg} {o : Option (T × List T)} {r : T} {outs : List T} (h : zve cf o = some (r, outs)) : ∃ r0, o = some (r0, outs) /\ (r = r0 ∨ r = z2T r0) := by
  unfold zve at h
  split at h
  · exact ⟨r, h, .inl rfl⟩
  · rw [Option.map_eq_some_iff] at h
    obtain ⟨⟨r0, outs0⟩, h1, h2⟩ := h
    cases h2
    exact ⟨r0, h1, .inr rfl⟩
noncomputable def zih (P : Program) (C : z0q) (cf : Cfg) (LF : Nat) (fn : Func) (args : List T) : Option (T × List T) :=
  if args.length <= fn.ntmps /\ (args.filter z6z).length <= 1 then
    match fn.body with
    | none => none
    | some c => match z2A P C cf LF c (z7d fn.ntmps args) with
      | some (.n, fr) => zve cf (zfK P fn args fr)
      | some (.r, fr) => zve cf (zfK P fn args fr)
      | _ => none
  else none
theorem zrd {w : World} {K : Nat -> z0g} {R : Nat -> Value} {ob : List (Nat × T)} {e : E} {u : Value} (h : ERep w K R ob e u) (c : z0g) : TRep w K c u (zjN e) := by
  cases e with
  | one x => exact .dead c u
  | ag xs =>
    obtain ⟨arr, rfl, h2, h3⟩ := h
    refine .agg c arr _ (fun j => arr.getD j undef) (by simpa using h2) (fun j hj => z4A _ _ (by simp at hj; omega)) (fun j t ht => ?_)
    simp only [List.getElem?_map, Option.map_eq_some_iff] at ht
    obtain ⟨y, hy, rfl⟩ := ht
    exact .dead _ _
theorem zpD (fn : Func) (tmps : Array Value) : results fn tmps = (do let vs ← fn.results.mapM (fun r => zw0 r tmps); pure (if h : vs.size = 1 then vs[0] else .tuple vs)) := by
  unfold results
  congr 1
  congr 1
  funext r
  cases r <;> rfl
def zsT (N : Nat) (e0 : Option (Nat × Nat)) (one : Bool) : z0g -> z0g
  | [] => []
  | h :: s => if h = N + 2 then (if one then (match s with | 0 :: s' => 0 :: s' | _ => [1]) else 0 :: s)
    else match e0 with | some (e, i) => if h = e + 2 then (i + 2) :: s else [1] | none => [1]
theorem zvA {P : Program} {fn : Func} {args : List T} {fr : Fr} {r : T} {outs : List T} {w : World} {K : Nat -> z0g} {R G : Nat -> Value} {a : Act} (h : FRep w K R G fr a) (hx : zfK P fn args fr = some (r, outs)) (h1 : (args.filter z6z).length <= 1) :
    ∃ v K', (results fn a.tmps).run P w = .ok v w /\ TRep w K' [0] v r /\ (∀ i t, args[i]? = some t -> z6z t = true -> ∃ t', outs[i]? = some t' /\ TRep w K' (col i) (G (fn.ntmps + 1000 + i)) t') /\ Step w K w K' := by
  unfold zfK at hx
  split at hx
  case h_1 => cases hx
  case h_2 es hes =>
  split at hx
  case isFalse => cases hx
  case isTrue hc =>
  obtain ⟨hfl, hnt⟩ := hc
  split at hx
  case h_1 => cases hx
  case h_2 fr2 hpl =>
  split at hx
  · cases hx
  rename_i hne
  obtain ⟨us, u1, u0, u2, u3⟩ := zjW h hes
  obtain ⟨vs, v1, v2, v3⟩ := zar (j0 := 0) (base := fr.nt + 1) u1 u2
  have hp := h.putR (base := fr.nt + 1) (xs := z9V es) (us := fun j => vs.getD j undef) (by omega) v2
  have hrep : TRep w K (col fr.nt) (.tuple us.toArray) (.tup (es.map zjN)) := by
    refine .tup _ us.toArray _ (fun j => us.getD j undef) (by simp [u1]) (fun j hj => ?_) (fun j t ht => ?_)
    · have : j < us.length := by simp at hj; omega
      simp [List.getD, this]
    · simp only [List.getElem?_map, Option.map_eq_some_iff] at ht
      obtain ⟨e, he, rfl⟩ := ht
      exact zrd (u2 j e he) _
  have hq := hp.replace (d := fr.nt) (w' := w) (K' := K) (v := .tuple us.toArray) (t := .tup (es.map zjN)) ⟨fun b hb e => ⟨e, rfl⟩, fun b hb _ => ⟨rfl, rfl⟩, Nat.le_refl _⟩ hrep
  have hregs : ∀ k, k < vs.length -> z8O a (gv G (fr.nt + 1) (fun j => vs.getD j undef) (z9V es).length) (fr.nt + 1 + k) = vs.getD k undef := fun k hk => by
    rw [z8O, if_neg (by rw [h.nt]; omega)]
    simp only [gv]
    rw [if_pos (by omega)]
    congr 1; omega
  obtain ⟨K2, R2, q1, q2, q3, q4, _⟩ := hq.plugL (l := zcY 0 (fr.nt + 1) es) (fun q r' hm => by
    obtain ⟨k, k1, rfl, j, q', rfl, k4, k5⟩ := v3 q r' hm
    refine ⟨?_, by omega⟩
    rw [hregs k k1]
    have hju : j < us.length := by omega
    simp only [z9h, if_true, Nat.zero_add, nav, zd7]
    have : us.toArray[j]? = some (us.getD j undef) := by simp [List.getD, hju]
    rw [this]
    exact k5) hpl
  have hRN : R2 fr.nt = .tuple us.toArray := by
    rw [q4 fr.nt (fun q r' hm => by obtain ⟨k, k1, rfl, _⟩ := v3 q r' hm; omega)]
    simp [z9h]
  have hres : (results fn a.tmps).run P w = .ok (if us.length = 1 then us.getD 0 undef else .tuple us.toArray) w := by
    rw [zpD]
    have : (fn.results.mapM (fun r => zw0 r a.tmps)).run P w = .ok us.toArray w := by
      rw [Array.mapM_eq_mapM_toList]
      simp only [map_eq_pure_bind, Sem.run_bind, u3, Result.andThen_ok, Sem.run_pure]
    simp only [Sem.run_bind, this, Result.andThen_ok, Sem.run_pure]
    congr 1
    by_cases e : us.length = 1
    · match us, e with
      | [u], _ => simp
    · rw [dif_neg (by simpa using e), if_neg e]
  let io : Option (Nat × Nat) := match zmh args 0 with | some i => (match zpI fr2 (fn.ntmps + 1000 + i) with | some e => some (e, i) | none => none) | none => none
  have hio : ∀ e i, io = some (e, i) -> e ≠ fr.nt := fun e i he => by
    intro heq
    apply hne
    simp only [io] at he
    split at he
    · rename_i i' hi'
      split at he
      · rename_i e' he'
        cases he
        simp only [zrA, hi']
        rw [he', heq]
      · cases he
    · cases he
  let one : Bool := decide (es.length = 1)
  let K3 : Nat -> z0g := fun b => zsT fr.nt io one (K2 b)
  have hK3 : ∀ b, K2 b = [] -> K3 b = [] := fun b e => by show zsT fr.nt io one (K2 b) = []; rw [e]; rfl
  have hstep : Step w K2 w K3 := ⟨rfl, rfl, rfl, Nat.le_refl _, fun b hb hc => ⟨by
    show zsT fr.nt io one (K2 b) = K2 b
    rcases hc with e | e
    · rw [e]; rfl
    · rw [e]
      simp only [zsT]
      rw [if_neg (by omega)]
      cases io with
      | none => rfl
      | some x =>
        obtain ⟨e', i⟩ := x
        simp only
        rw [if_neg (by omega)], rfl⟩, .same rfl⟩
  have houts : outs = zk4 fr2 fn.ntmps args 0 -> ∀ i t, args[i]? = some t -> z6z t = true -> ∃ t', outs[i]? = some t' /\ TRep w K3 (col i) (G (fn.ntmps + 1000 + i)) t' := fun ho i t ht hit => by
    refine ⟨if zxu t then zwG fr2 (fn.ntmps + 1000 + i) else zwH fr2 (fn.ntmps + 1000 + i), by rw [ho, zk3 fr2 fn.ntmps args 0 i t ht hit, Nat.zero_add], ?_⟩
    have hidx := znq args 0 i t h1 ht hit
    rw [Nat.zero_add] at hidx
    have hg := q1.tm (fn.ntmps + 1000 + i)
    have hgv : z8O a (gv G (fr.nt + 1) (fun j => vs.getD j undef) (z9V es).length) (fn.ntmps + 1000 + i) = G (fn.ntmps + 1000 + i) := by
      rw [z8O, if_neg (by rw [h.nt]; omega)]
      simp only [gv]
      rw [if_neg (by omega)]
    rw [hgv] at hg
    have hmv0 : ∀ e tt, io = some (e, i) -> z1V fr2.ob e = some tt -> TRep w K3 (col i) (R2 e) tt := fun e tt he hob => by
      have hr := q1.ob e tt hob
      have hen := hio e i he
      refine hr.move (fun b s hb hcc hKb => ⟨?_, rfl⟩) (fun b hb e0 => ⟨hK3 b e0, rfl⟩) (by simp [col]) (Nat.le_refl _)
      show zsT fr.nt io one (K2 b) = _
      rw [hKb, he]
      simp [zsT, col, hen]
    have hmv : ∀ e tt, io = some (e, i) -> z1V fr2.ob e = some tt -> R2 e = G (fn.ntmps + 1000 + i) -> TRep w K3 (col i) (G (fn.ntmps + 1000 + i)) tt := fun e tt he hob hR => hR ▸ hmv0 e tt he hob
    split
    · unfold zwG
      split
      · rename_i e off hge
        have hie : io = some (e, i) := by simp only [io, hidx, zpI, hge]
        split
        · rename_i cs hob
          rw [hge] at hg
          obtain ⟨hv, g, n1, n4, n5, _⟩ := hg
          simp only [nav, Option.some.injEq] at n1
          have hr := hmv0 e _ hie hob
          rw [n1] at hr
          rw [hr.vr_val n4] at hr
          rw [n5]
          exact .vo _ g off cs hr
        · exact .dead _ _
      · exact .dead _ _
    unfold zwH
    split
    · rename_i e hge
      have hie : io = some (e, i) := by simp only [io, hidx, zpI, hge]
      split
      · rename_i tt hob
        rw [hge] at hg
        obtain ⟨n1, _⟩ := hg
        simp only [nav, Option.some.injEq] at n1
        exact hmv e tt hie hob n1
      · exact .dead _ _
    · rename_i e hge
      have hie : io = some (e, i) := by simp only [io, hidx, zpI, hge]
      split
      · rename_i cs hob
        rw [hge] at hg
        obtain ⟨hv, g, n1, n4, n5, _⟩ := hg
        simp only [nav, Option.some.injEq] at n1
        refine hmv e _ hie hob ?_
        have hr := q1.ob e _ hob
        rw [n5, n1]
        rw [n1] at hr
        cases hr with
        | vr c g' cs arr e' fz F hfz hc0 hK hg' hl hF hh =>
          simp only [z6j, Option.some.injEq] at n4
          rw [n4]
      · exact .dead _ _
    · exact .dead _ _
  refine ⟨_, K3, hres, ?_⟩
  split at hx
  case h_2 => cases hx
  case h_1 ts hob =>
  have htup := q1.ob fr.nt _ hob
  rw [hRN] at htup
  split at hx
  · rename_i hone
    split at hx
    · rename_i t
      cases hx
      refine ⟨?_, houts rfl, q2.trans hstep⟩
      rw [if_pos (by omega)]
      obtain ⟨v', k1, k2⟩ := htup.kid (j := 0) (t' := r) (z1T _) rfl
      have hv' : v' = us.getD 0 undef := by
        simp only [zd7] at k1
        have : 0 < us.length := by omega
        simp [List.getD, this] at k1 ⊢
        exact k1.symm
      rw [← hv']
      refine k2.move (fun b s hb hcc hKb => ⟨?_, rfl⟩) (fun b hb e0 => ⟨hK3 b e0, rfl⟩) (by simp [col]) (Nat.le_refl _)
      show zsT fr.nt io one (K2 b) = _
      rw [hKb]
      simp [zsT, col, one, hone]
    · cases hx
  · rename_i hone
    cases hx
    refine ⟨?_, houts rfl, q2.trans hstep⟩
    rw [if_neg (by omega)]
    refine htup.move (fun b s hb hcc hKb => ⟨?_, rfl⟩) (fun b hb e0 => ⟨hK3 b e0, rfl⟩) (by simp [col]) (Nat.le_refl _)
    show zsT fr.nt io one (K2 b) = _
    rw [hKb]
    simp [zsT, col, one, hone]
theorem zws {P : Program} {I : World -> (Nat -> z0g) -> Prop} {C : z0q} {cf : Cfg} {LF : Nat} {f : FuncId} {fn : Func} {c : Code} {args : List T} {r : T} {outs : List T} (hI : EnvS I) (hC : zaD P I C) (hm : P.follows .mixedOrders = true) (hfn : P.funcs[f]? = some fn) (hb : fn.body = some c) (hname : fn.name ≠ "runtime.NumGoroutine")
    (hok : okC cf c = true) (hr : zih P C cf LF fn args = some (r, outs)) : CallOk P I f args r outs := by
  unfold zih at hr
  split at hr
  case isFalse => cases hr
  case isTrue hc =>
  rw [hb] at hr
  simp only at hr
  refine ⟨fun vals w => by simp [callFunc, program, Sem.run, hfn, hname, hb], fun w K vals hs ha hIw => ?_⟩
  have hent := zsl (nt := fn.ntmps) hs ha hc.1
  have main : ∀ x fr, (x = .n ∨ x = .r) -> z2A P C cf LF c (z7d fn.ntmps args) = some (x, fr) -> zve cf (zfK P fn args fr) = some (r, outs) ->
      Calls P f vals w fun e w' => ∃ v K', e = .returned v /\ TRep w' K' [0] v r /\ (∀ i t, args[i]? = some t -> z6z t = true -> ∃ t', outs[i]? = some t' /\ TRep w' K' (col i) (vals.getD i undef) t') /\ Step w K w' K' := fun x fr hx hcode hexit => by
    refine calls_of_wp hfn hb (zvF hI hC hm c hok hent hIw hcode fun a' w' K' R' h' hst => ?_)
    obtain ⟨r0, hex0, hr0⟩ := zrE hexit
    obtain ⟨v, K1, e1, e20, e30, e40⟩ := zvA h' hex0 hc.2
    obtain ⟨K2, e2, e3, e4⟩ : ∃ K2, TRep w' K2 [0] v r /\ (∀ i t, args[i]? = some t -> z6z t = true -> ∃ t', outs[i]? = some t' /\ TRep w' K2 (col i) (vals.getD (fn.ntmps + 1000 + i - (fn.ntmps + 1000)) undef) t') /\ Step w' K' w' K2 := by
      rcases hr0 with e | e
      · rw [e]; exact ⟨K1, e20, e30, e40⟩
      · rw [e]
        refine ⟨fun b => dz (K1 b), e20.freeze (fun b s hb hcc hK => ⟨by show dz (K1 b) = []; rw [hK]; rfl, rfl⟩) (fun b hb hK => ⟨by show dz (K1 b) = []; rw [hK]; rfl, rfl⟩) (Nat.le_refl _) [0], fun i t hi hio => ?_, e40.trans ⟨rfl, rfl, rfl, Nat.le_refl _, fun b hb hcc => ⟨by
          show dz (K1 b) = K1 b
          rcases hcc with q | q <;> rw [q] <;> rfl, rfl⟩, .same rfl⟩⟩
        obtain ⟨t', f1, f2⟩ := e30 i t hi hio
        exact ⟨t', f1, f2.move (fun b s hb hcc hK => ⟨by show dz (K1 b) = col i ++ s; rw [hK]; rfl, rfl⟩) (fun b hb hK => ⟨by show dz (K1 b) = []; rw [hK]; rfl, rfl⟩) Iff.rfl (Nat.le_refl _)⟩
    have hpost : a'.defers = [] /\ ∃ v, (results fn a'.tmps).run P w' = .ok v w' /\ ∃ v' K', Ending.returned v = .returned v' /\ TRep w' K' [0] v' r /\ (∀ i t, args[i]? = some t -> z6z t = true -> ∃ t', outs[i]? = some t' /\ TRep w' K' (col i) (vals.getD i undef) t') /\ Step w K w' K' :=
      ⟨h'.df, v, e1, v, K2, rfl, e2, fun i t hi hio => by
        obtain ⟨t', f1, f2⟩ := e3 i t hi hio
        rw [show fn.ntmps + 1000 + i - (fn.ntmps + 1000) = i by omega] at f2
        exact ⟨t', f1, f2⟩, hst.trans e4⟩
    rcases hx with rfl | rfl
    · exact hpost
    · exact hpost
  split at hr
  · rename_i fr hcode
    exact main .n fr (.inl rfl) hcode hr
  · rename_i fr hcode
    exact main .r fr (.inr rfl) hcode hr
  · cases hr
end
section
def wpC (P : Program) (C : z0q) (cf : Cfg) (LF : Nat) (c : Code) (fr : Fr) (Q : X -> Fr -> Prop) : Prop := ∃ x fr', z2A P C cf LF c fr = some (x, fr') /\ Q x fr'
def zxp (P : Program) (C : z0q) (wio : FuncId -> Nat -> Bool) (ops : Array Oper) : List Oper -> Fr -> (Fr -> Prop) -> Prop
  | [], fr, Q => Q fr
  | o :: rest, fr, Q => ∃ b, z6o ops fr o = some b /\ (b = true -> ∃ fr', opF P C wio fr o = some fr' /\ zxp P C wio ops rest fr' Q) /\ (b = false -> ∃ fr', putF fr o.dst (.one (.k undef)) = some fr' /\ zxp P C wio ops rest fr' Q)
variable {P : Program} {C : z0q} {cf : Cfg} {LF : Nat} {fr : Fr} {Q : X -> Fr -> Prop}
theorem zsW (h : Q .n fr) : wpC P C cf LF .skip fr Q := ⟨_, _, rfl, h⟩
theorem zqE {i} (h : Q .n fr) : wpC P C cf LF (.label i) fr Q := ⟨_, _, rfl, h⟩
theorem zsX {i} (h : Q (.x i) fr) : wpC P C cf LF (.exit i) fr Q := ⟨_, _, rfl, h⟩
theorem zuG (h : Q .r fr) : wpC P C cf LF .ret fr Q := ⟨_, _, rfl, h⟩
def zlU (Q1 : Fr -> Prop) (Q : X -> Fr -> Prop) : X -> Fr -> Prop
  | .n, fr => Q1 fr
  | .x i, fr => Q (.x i) fr
  | .r, fr => Q .r fr
theorem zuF {a b : Code} (h : wpC P C cf LF a fr (zlU (fun fr' => wpC P C cf LF b fr' Q) Q)) : wpC P C cf LF (.seq a b) fr Q := by
  obtain ⟨x, fr1, e, h⟩ := h
  cases x with
  | n =>
    obtain ⟨y, fr2, e2, h⟩ := h
    exact ⟨y, fr2, by simp only [z2A, e, e2], h⟩
  | x i => exact ⟨_, _, by simp only [z2A, e], h⟩
  | r => exact ⟨_, _, by simp only [z2A, e], h⟩
def z7C (id : Nat) (Q : X -> Fr -> Prop) : X -> Fr -> Prop
  | .n, fr => Q .n fr
  | .x i, fr => if i = id then Q .n fr else Q (.x i) fr
  | .r, fr => Q .r fr
theorem zqG {id : Nat} {c : Code} (h : wpC P C cf LF c fr (z7C id Q)) : wpC P C cf LF (.block id c) fr Q := by
  obtain ⟨x, fr1, e, h⟩ := h
  cases x with
  | n => exact ⟨_, _, by simp only [z2A, e], h⟩
  | x i =>
    simp only [z7C] at h
    by_cases hi : i = id
    · rw [if_pos hi] at h
      exact ⟨.n, fr1, by simp only [z2A, e, if_pos hi], h⟩
    · rw [if_neg hi] at h
      exact ⟨.x i, fr1, by simp only [z2A, e, if_neg hi], h⟩
  | r => exact ⟨_, _, by simp only [z2A, e], h⟩
structure Hid (p : Prop) : Prop where
  out : p
def zwf (o : Option Bool) (Q1 Q2 : Prop) : Prop := match o with | some b => (b = true -> Q1) /\ (b = false -> Q2) | none => False
theorem z8E {b : Bool} {Q1 Q2 : Prop} : zwf (some b) Q1 Q2 = ((b = true -> Q1) /\ (b = false -> Q2)) := rfl
theorem zuL {o : Option Bool} {Q1 Q2 : Prop} (h : zwf o Q1 Q2) : ∃ b, o = some b /\ (b = true -> Q1) /\ (b = false -> Q2) := by
  cases o with
  | none => exact absurd h id
  | some b => exact ⟨b, rfl, h⟩
def zvV (o : Option Value) (Q1 Q2 : Prop) : Prop := match o with | some (.bool b) => (b = true -> Q1) /\ (b = false -> Q2) | _ => False
theorem zip {b : Bool} {Q1 Q2 : Prop} : zvV (some (.bool b)) Q1 Q2 = ((b = true -> Q1) /\ (b = false -> Q2)) := rfl
theorem zuK {o : Option Value} {Q1 Q2 : Prop} (h : zvV o Q1 Q2) : ∃ b, o = some (.bool b) /\ (b = true -> Q1) /\ (b = false -> Q2) := by
  unfold zvV at h
  split at h
  · exact ⟨_, rfl, h⟩
  · exact absurd h id
def zkN (o : Option Fr) (Q : Fr -> Prop) : Prop := match o with | some fr => Q fr | none => False
theorem zkM {fr : Fr} {Q : Fr -> Prop} : zkN (some fr) Q = Q fr := rfl
theorem zfy {o : Option Fr} {Q : Fr -> Prop} (h : zkN o Q) : ∃ fr, o = some fr /\ Q fr := by
  cases o with
  | none => exact absurd h id
  | some fr => exact ⟨fr, rfl, h⟩
theorem zoa {id : Nat} {ops : Array Oper} {draw : Bool} (hd : draw = false) (hz : cf.fz id = none) (h : ∀ Q' : Fr -> Prop, Hid (∀ fr', Q .n fr' -> Q' fr') -> zkN (zlZ P C cf.wio ops ops.toList fr) Q') : wpC P C cf LF (.region id ops draw) fr Q := by
  obtain ⟨fr', e, h⟩ := zfy (h (Q .n) ⟨fun _ h => h⟩)
  subst hd
  exact ⟨.n, fr', by simp [z2A, hz, ztP, e], h⟩
theorem zuH {id : Nat} {ops : Array Oper} {draw : Bool} {l : List Nat} {fr1 : Fr} (hz : cf.fz id = some l) (hf : zw4 fr l = fr1) (h : wpC P C { cf with fz := fun _ => none } LF (.region id ops draw) fr1 Q) : wpC P C cf LF (.region id ops draw) fr Q := by
  obtain ⟨x, fr', e, h⟩ := h
  refine ⟨x, fr', ?_, h⟩
  simp only [z2A, ztP] at e
  simp only [z2A, hz, ztP, hf]
  exact e
def zyj (P : Program) (C : z0q) (wio : FuncId -> Nat -> Bool) (M : List Nat) (ops : Array Oper) (sch : List (Nat × Nat)) (fr : Fr) : Option Fr := match z9c P C wio M.isEmpty M.contains ops (zb3 ops sch) fr with | some fr1 => z5h P ops.toList fr1 | none => none
def z0c (P : Program) (C : z0q) (wio : FuncId -> Nat -> Bool) (same : Bool) (M : Nat -> Bool) (fr : Fr) (o : Oper) (m : Nat) : Option Fr :=
  if m = 0 ∨ m = 3 then (match z8S P (if m = 0 then M else zxI) fr o.op with | some e => putF fr o.dst e | none => none)
  else if m = 2 then opF P C wio fr o else if same then z9W P C wio fr o else wrF P C wio M fr o
def z8c (P : Program) (C : z0q) (wio : FuncId -> Nat -> Bool) (M : List Nat) (ops : Array Oper) : List (Nat × Nat) -> Fr -> (Fr -> Prop) -> Prop
  | [], fr, Q => Q fr
  | (k, m) :: rest, fr, Q => ∃ o, ops[k]? = some o /\ ∃ b, z6o ops fr o = some b /\ (b = true -> ∃ fr', z0c P C wio M.isEmpty M.contains fr o m = some fr' /\ z8c P C wio M ops rest fr' Q) /\ (b = false -> ∃ fr', putF fr o.dst (.one (.k undef)) = some fr' /\ z8c P C wio M ops rest fr' Q)
theorem zcN {P : Program} {C : z0q} {wio : FuncId -> Nat -> Bool} {M : List Nat} {ops : Array Oper} {Q : Fr -> Prop} : ∀ {l : List (Nat × Nat)} {fr : Fr}, z8c P C wio M ops l fr Q -> ∃ fr', z9c P C wio M.isEmpty M.contains ops (zb3 ops l) fr = some fr' /\ Q fr'
  | [], fr, h => ⟨fr, rfl, h⟩
  | (k, m) :: rest, fr, ⟨o, ho, b, hb, h1, h2⟩ => by
    have hp : zb3 ops ((k, m) :: rest) = (k, o, m) :: zb3 ops rest := by simp [zb3, ho]
    rw [hp]
    cases b with
    | true =>
      obtain ⟨fr', e, h⟩ := h1 rfl
      obtain ⟨x, e2, h⟩ := zcN h
      refine ⟨x, ?_, h⟩
      simp only [z9c, hb]
      unfold z0c at e
      by_cases hm : m = 0 ∨ m = 3
      · rw [if_pos hm] at e ⊢
        split at e
        · rename_i e' he'
          simp only [he', e, e2]
        · cases e
      · rw [if_neg hm] at e ⊢
        simp only [e, e2]
    | false =>
      obtain ⟨fr', e, h⟩ := h2 rfl
      obtain ⟨x, e2, h⟩ := zcN h
      exact ⟨x, by simp only [z9c, hb, e, e2], h⟩
theorem zqF {id : Nat} {ops : Array Oper} {draw : Bool} {sch : List (Nat × Nat)} (hd : draw = true) (hs : cf.dr id = some sch) (hz : cf.fz id = none) (h : z8c P C cf.wio (cf.wr id) ops sch fr (fun fr1 => zkN (z5h P ops.toList fr1) (Q .n))) (ht : cf.dt id = none := by rfl) : wpC P C cf LF (.region id ops draw) fr Q := by
  obtain ⟨fr1, e1, h⟩ := zcN h
  obtain ⟨fr2, e2, h⟩ := zfy h
  subst hd
  exact ⟨.n, fr2, by simp only [z2A, if_true, z7J, ht, hs, hz, ztP, e1, e2], h⟩
theorem zsn {wio : FuncId -> Nat -> Bool} {M : List Nat} {ops : Array Oper} {l : List Oper} {Q : X -> Fr -> Prop} (h : ∀ Q' : Fr -> Prop, Hid (∀ fr', Q .n fr' -> Q' fr') -> zkN (z5h P l fr) Q') : z8c P C wio M ops [] fr (fun fr1 => zkN (z5h P l fr1) (Q .n)) := h _ ⟨fun _ h => h⟩
theorem ztU {wio : FuncId -> Nat -> Bool} {M : List Nat} {ops : Array Oper} {k m : Nat} {o : Oper} {l : List (Nat × Nat)} {Q : Fr -> Prop} (ho : ops[k]? = some o) (hg : o.guard = none) (h : ∀ Q' : Fr -> Prop, Hid (∀ fr', z8c P C wio M ops l fr' Q -> Q' fr') -> zkN (z0c P C wio M.isEmpty M.contains fr o m) Q') : z8c P C wio M ops ((k, m) :: l) fr Q := by
  obtain ⟨fr', e, h⟩ := zfy (h _ ⟨fun _ h => h⟩)
  exact ⟨o, ho, true, by simp [z6o, hg], fun _ => ⟨fr', e, h⟩, fun h => by cases h⟩
theorem zmv {wio : FuncId -> Nat -> Bool} {M : List Nat} {ops : Array Oper} {k m : Nat} {o : Oper} {l : List (Nat × Nat)} {Q : Fr -> Prop} (ho : ops[k]? = some o) (h : ∀ Q1 Q2 : Prop, Hid ((∀ Q' : Fr -> Prop, Hid (∀ fr', z8c P C wio M ops l fr' Q -> Q' fr') -> zkN (z0c P C wio M.isEmpty M.contains fr o m) Q') -> Q1) -> Hid ((∀ Q' : Fr -> Prop, Hid (∀ fr', z8c P C wio M ops l fr' Q -> Q' fr') -> zkN (putF fr o.dst (.one (.k undef))) Q') -> Q2) -> zwf (z6o ops fr o) Q1 Q2) : z8c P C wio M ops ((k, m) :: l) fr Q := by
  obtain ⟨b, hb, h1, h2⟩ := zuL (h _ _ ⟨id⟩ ⟨id⟩)
  refine ⟨o, ho, b, hb, fun e => ?_, fun e => ?_⟩
  · obtain ⟨fr', e, h⟩ := zfy (h1 e _ ⟨fun _ h => h⟩)
    exact ⟨fr', e, h⟩
  · obtain ⟨fr', e, h⟩ := zfy (h2 e _ ⟨fun _ h => h⟩)
    exact ⟨fr', e, h⟩
theorem zwd {c : Operand} {x y : Code} (h : ∀ Q1 Q2 : Prop, Hid (wpC P C cf LF x fr Q -> Q1) -> Hid (wpC P C cf LF y fr Q -> Q2) -> zvV (rdV (opE fr c)) Q1 Q2) : wpC P C cf LF (.cond c x y) fr Q := by
  obtain ⟨b, h, h1, h2⟩ := zuK (h _ _ ⟨id⟩ ⟨id⟩)
  cases b with
  | true =>
    obtain ⟨x, fr1, e, h'⟩ := h1 rfl
    exact ⟨x, fr1, by simp only [z2A, h, e], h'⟩
  | false =>
    obtain ⟨x, fr1, e, h'⟩ := h2 rfl
    exact ⟨x, fr1, by simp only [z2A, h, e], h'⟩
theorem z0a {Q1 : Fr -> Prop} (h : Q1 fr) : zlU Q1 Q .n fr := h
theorem z1U {Q1 : Fr -> Prop} {i} (h : Q (.x i) fr) : zlU Q1 Q (.x i) fr := h
theorem zeF {Q1 : Fr -> Prop} (h : Q .r fr) : zlU Q1 Q .r fr := h
theorem z0N {id} (h : Q .n fr) : z7C id Q .n fr := h
theorem zqr {id} (h : Q .n fr) : z7C id Q (.x id) fr := by simp [z7C, h]
theorem zfr {id i} (hi : (i == id) = false) (h : Q (.x i) fr) : z7C id Q (.x i) fr := by
  have : i ≠ id := by simpa using hi
  simp [z7C, this, h]
theorem zu3 {id} (h : Q .r fr) : z7C id Q .r fr := h
theorem zBj {a b : Int} (h : b <= a) : (a < b) = False := by simp; omega
theorem zBl {a b : Int} (h : b < a) : (a <= b) = False := by simp; omega
theorem zBi {a b : Nat} (h : b <= a) : (a < b) = False := by simp; omega
theorem zBk {a b : Nat} (h : b < a) : (a <= b) = False := by simp; omega
def zy8 (I : Nat -> Fr -> Prop) (cn : Fr -> Fr) (m : Nat) (Q : X -> Fr -> Prop) : X -> Fr -> Prop
  | .n, fr => ∃ k, k < m /\ I k (cn fr)
  | .x i, fr => Q (.x i) fr
  | .r, fr => Q .r fr
def zwv (I : Nat -> Prop) (H : Nat -> Fr) (cn : Fr -> Fr) (n k : Nat) (Q : X -> Fr -> Prop) : X -> Fr -> Prop
  | .n, fr => k < n /\ I (k + 1) /\ cn fr = H (k + 1)
  | .x i, fr => Q (.x i) fr
  | .r, fr => Q .r fr
def zvC (P : Program) (fn : Func) (args : List T) (r : T) (outs : List T) : X -> Fr -> Prop
  | .n, fr => zfK P fn args fr = some (r, outs)
  | .r, fr => zfK P fn args fr = some (r, outs)
  | .x _, _ => False
def zvB (P : Program) (fn : Func) (args : List T) (r : T) (outs : List T) : X -> Fr -> Prop
  | .n, fr => (zfK P fn args fr).map (fun x => (z2T x.1, x.2)) = some (r, outs)
  | .r, fr => (zfK P fn args fr).map (fun x => (z2T x.1, x.2)) = some (r, outs)
  | .x _, _ => False
theorem zhA {fn : Func} {c : Code} {args : List T} {r : T} {outs : List T} (hb : fn.body = some c) (ha : args.length <= fn.ntmps /\ (args.filter z6z).length <= 1) (hz : (cf.fz 999998).isSome = true) (h : wpC P C cf LF c (z7d fn.ntmps args) (zvB P fn args r outs)) : zih P C cf LF fn args = some (r, outs) := by
  obtain ⟨x, fr', e, h⟩ := h
  obtain ⟨l, hl⟩ := Option.isSome_iff_exists.1 hz
  unfold zih zve
  rw [if_pos ha, hb]
  simp only [e, hl]
  cases x with
  | n => exact h
  | x i => exact absurd h id
  | r => exact h
theorem zlX {fn : Func} {c : Code} {args : List T} {r : T} {outs : List T} (hb : fn.body = some c) (ha : args.length <= fn.ntmps /\ (args.filter z6z).length <= 1) (h : wpC P C cf LF c (z7d fn.ntmps args) (zvC P fn args r outs)) (hz : cf.fz 999998 = none := by rfl) : zih P C cf LF fn args = some (r, outs) := by
  obtain ⟨x, fr', e, h⟩ := h
  unfold zih zve
  rw [if_pos ha, hb]
  simp only [e, hz]
  cases x with
  | n => exact h
  | x i => exact absurd h id
  | r => exact h
def zd6 : Code -> Nat
  | .skip => 0
  | .region _ _ _ => 1
  | .seq _ _ => 2
  | .cond _ _ _ => 3
  | .block _ _ => 4
  | .loop _ => 5
  | .exit _ => 6
  | .ret => 7
  | .label _ => 8
  | .scope _ => 10
  | _ => 9
def zAo : Code -> Code
  | .seq a _ => a
  | c => c
def zAn : Code -> Code
  | .seq _ b => b
  | c => c
def cdA : Code -> Code
  | .cond _ x _ => x
  | c => c
def cdB : Code -> Code
  | .cond _ _ y => y
  | c => c
def cdO : Code -> Option Operand
  | .cond o _ _ => some o
  | _ => none
def blC : Code -> Code
  | .block _ c => c
  | c => c
def blI : Code -> Nat
  | .block i _ => i
  | _ => 0
def lpC : Code -> Code
  | .loop c => c
  | c => c
def spC : Code -> Code
  | .scope c => c
  | c => c
def exI : Code -> Nat
  | .exit i => i
  | _ => 0
def rgI : Code -> Nat
  | .region i _ _ => i
  | _ => 0
def rgD : Code -> Bool
  | .region _ _ d => d
  | _ => false
def rgO : Code -> Array Oper
  | .region _ ops _ => ops
  | _ => #[]
def rgN : Code -> Option Nat
  | .region i _ _ => some i
  | _ => none
def rgL (c : Code) : Option (List Oper) := match c with | .region _ ops _ => some ops.toList | _ => none
section
variable {c : Code}
theorem z1E (hk : zd6 c = 0) (h : Q .n fr) : wpC P C cf LF c fr Q := by
  cases c <;> first | exact zsW h | cases hk
theorem zv1 (hk : zd6 c = 8) (h : Q .n fr) : wpC P C cf LF c fr Q := by
  cases c <;> first | exact zqE h | cases hk
theorem z2O (hk : zd6 c = 6) (h : Q (.x (exI c)) fr) : wpC P C cf LF c fr Q := by
  cases c <;> first | exact zsX h | cases hk
theorem zhE (hk : zd6 c = 7) (h : Q .r fr) : wpC P C cf LF c fr Q := by
  cases c <;> first | exact zuG h | cases hk
theorem zxQ (hk : zd6 c = 2) (h : wpC P C cf LF (zAo c) fr (zlU (fun fr' => wpC P C cf LF (zAn c) fr' Q) Q)) : wpC P C cf LF c fr Q := by
  cases c <;> first | exact zuF h | cases hk
theorem zv2 (hk : zd6 c = 4) (h : wpC P C cf LF (blC c) fr (z7C (blI c) Q)) : wpC P C cf LF c fr Q := by
  cases c <;> first | exact zqG h | cases hk
theorem zAp {o : Operand} (ho : cdO c = some o) (h : ∀ Q1 Q2 : Prop, Hid (wpC P C cf LF (cdA c) fr Q -> Q1) -> Hid (wpC P C cf LF (cdB c) fr Q -> Q2) -> zvV (rdV (opE fr o)) Q1 Q2) : wpC P C cf LF c fr Q := by
  cases c <;> first | (cases ho; exact zwd h) | cases ho
theorem ztm {l : List Oper} (hl : rgL c = some l) (hd : rgD c = false) (hz : cf.fz (rgI c) = none) (h : ∀ Q' : Fr -> Prop, Hid (∀ fr', Q .n fr' -> Q' fr') -> zkN (zlZ P C cf.wio l.toArray l fr) Q') : wpC P C cf LF c fr Q := by
  cases c with
  | region i ops d =>
    cases hl
    exact zoa hd hz (by simpa using h)
  | _ => cases hl
theorem ztn {l : List Nat} {fr1 : Fr} (hk : zd6 c = 1) (hz : cf.fz (rgI c) = some l) (hf : zw4 fr l = fr1) (h : wpC P C { cf with fz := fun _ => none } LF c fr1 Q) : wpC P C cf LF c fr Q := by
  cases c <;> first | exact zuH hz hf h | cases hk
theorem z3N {i : Nat} {sch : List (Nat × Nat)} (hi : rgN c = some i) (hd : rgD c = true) (hs : cf.dr i = some sch) (hz : cf.fz i = none) (h : z8c P C cf.wio (cf.wr i) (rgO c) sch fr (fun fr1 => zkN (z5h P (rgO c).toList fr1) (Q .n))) (ht : cf.dt i = none := by rfl) : wpC P C cf LF c fr Q := by
  cases c with
  | region j ops d =>
    cases hi
    exact zqF hd hs hz h ht
  | _ => cases hi
def zwJ : List Oper -> Nat -> Option Oper
  | [], _ => none
  | o :: _, 0 => some o
  | _ :: l, k + 1 => zwJ l k
theorem zvd (l : List Oper) : ∀ (k : Nat) (o : Oper), zwJ l k = some o -> l[k]? = some o := by
  induction l with
  | nil => intro k o h; cases k <;> cases h
  | cons a l ih =>
    intro k o h
    cases k with
    | zero => simpa [zwJ] using h
    | succ k => simpa using ih k o (by simpa [zwJ] using h)
def zk7 (c : Code) (k : Nat) : Option Oper := match c with | .region _ ops _ => zwJ ops.toList k | _ => none
theorem zeT {c : Code} {k : Nat} {o : Oper} (h : zk7 c k = some o) : (rgO c)[k]? = some o := by
  cases c with
  | region i ops d => rw [← Array.getElem?_toList]; exact zvd _ _ _ h
  | _ => cases h
theorem z1r {wio : FuncId -> Nat -> Bool} {M : List Nat} {ops : Array Oper} {l : List Oper} {Q : X -> Fr -> Prop} (hl : rgL c = some l) (h : ∀ Q' : Fr -> Prop, Hid (∀ fr', Q .n fr' -> Q' fr') -> zkN (z5h P l fr) Q') : z8c P C wio M ops [] fr (fun fr1 => zkN (z5h P (rgO c).toList fr1) (Q .n)) := by
  have e : (rgO c).toList = l := by
    cases c with
    | region i ops d => cases hl; rfl
    | _ => cases hl
  rw [e]
  exact zsn h
def zAF : Option Oper -> Option Nat
  | some o => o.dst
  | none => none
def zvx (c : Code) (o : Oper) : Option (Option (Option Nat × Bool)) := match o.guard with | none => some none | some (j, want) => (match zAF (zk7 c j) with | some t => some (some (some t, want)) | none => none)
def zuu (g : Option (Option Nat × Bool)) (fr : Fr) : Option Bool :=
  match g with
  | none => some true
  | some (none, _) => some false
  | some (some t, want) => if t < fr.nt then (match zmK (z2N fr.tm t) with | some b => some (b == some want) | none => none) else none
theorem zs6 {o : Oper} {g : Option (Option Nat × Bool)} (hg : zvx c o = some g) (fr : Fr) : z6o (rgO c) fr o = zuu g fr := by
  unfold zvx at hg
  unfold z6o zuu
  split at hg
  · rename_i h; cases hg; simp [h]
  · rename_i j want h
    split at hg
    · rename_i t ht
      cases hg
      have e : ((rgO c)[j]?).bind (·.dst) = some t := by
        unfold zAF at ht
        split at ht
        · rename_i o' ho'
          rw [zeT ho']; exact ht
        · cases ht
      simp only [h, e]
      all_goals rfl
    · cases hg
theorem z1P {wio : FuncId -> Nat -> Bool} {M : List Nat} {k m : Nat} {o : Oper} {l : List (Nat × Nat)} {Q : Fr -> Prop} (ho : zk7 c k = some o) (hg : o.guard = none) (h : ∀ Q' : Fr -> Prop, Hid (∀ fr', z8c P C wio M (rgO c) l fr' Q -> Q' fr') -> zkN (z0c P C wio M.isEmpty M.contains fr o m) Q') : z8c P C wio M (rgO c) ((k, m) :: l) fr Q := ztU (zeT ho) hg h
theorem z4U {wio : FuncId -> Nat -> Bool} {M : List Nat} {k m : Nat} {o : Oper} {g : Option (Option Nat × Bool)} {l : List (Nat × Nat)} {Q : Fr -> Prop} (ho : zk7 c k = some o) (hg : zvx c o = some g) (h : ∀ Q1 Q2 : Prop, Hid ((∀ Q' : Fr -> Prop, Hid (∀ fr', z8c P C wio M (rgO c) l fr' Q -> Q' fr') -> zkN (z0c P C wio M.isEmpty M.contains fr o m) Q') -> Q1) -> Hid ((∀ Q' : Fr -> Prop, Hid (∀ fr', z8c P C wio M (rgO c) l fr' Q -> Q' fr') -> zkN (putF fr o.dst (.one (.k undef))) Q') -> Q2) -> zwf (zuu g fr) Q1 Q2) : z8c P C wio M (rgO c) ((k, m) :: l) fr Q :=
  zmv (zeT ho) (by simpa only [zs6 hg] using h)
def zB9 (P : Program) (C : z0q) (wio : FuncId -> Nat -> Bool) (c : Code) (k : Nat) (fr : Fr) (Q : Fr -> Prop) : Prop := zxp P C wio (rgO c) ((rgO c).toList.drop k) fr Q
theorem zuZ (hk : zd6 c = 10) (h : wpC P C cf LF (spC c) fr Q) : wpC P C cf LF c fr Q := by
  cases c with
  | scope c => unfold wpC at h ⊢; simpa only [z2A, spC] using h
  | _ => cases hk
def z5s (P : Program) (C : z0q) (cf : Cfg) (c : Code) (i : Nat) (t : SchT) (fr : Fr) (Q : Fr -> Prop) : Prop := ∃ fr', z5c P C cf.wio (cf.wr i).isEmpty (cf.wr i).contains (rgO c) t fr = some fr' /\ Q fr'
theorem zeQ {i : Nat} {t : SchT} (hi : rgN c = some i) (hd : rgD c = true) (ht : cf.dt i = some t) (hz : cf.fz i = none) (h : z5s P C cf c i t fr (fun fr1 => ∃ fr2, z5h P (rgO c).toList fr1 = some fr2 /\ Q .n fr2)) : wpC P C cf LF c fr Q := by
  cases c with
  | region j ops d =>
    cases hi
    simp only [rgD] at hd
    subst hd
    obtain ⟨fr1, e1, fr2, e2, h⟩ := h
    simp only [rgO] at e1 e2
    exact ⟨.n, fr2, by simp only [z2A, if_true, z7J, ht, hz, ztP, e1, e2], h⟩
  | _ => cases hi
theorem zeB {i : Nat} {Q : Fr -> Prop} (h : Q fr) : z5s P C cf c i .nil fr Q := ⟨fr, by simp only [z5c], h⟩
theorem zeC {l : List Oper} {fr2 : Fr} {Q : X -> Fr -> Prop} (hl : rgL c = some l) (ha : z5h P l fr = some fr2) (h : Q .n fr2) : ∃ fr2, z5h P (rgO c).toList fr = some fr2 /\ Q .n fr2 := by
  cases c with
  | region j ops d => cases hl; exact ⟨fr2, ha, h⟩
  | _ => cases hl
def z0b (P : Program) (C : z0q) (wio : FuncId -> Nat -> Bool) (same : Bool) (M : Nat -> Bool) (fr : Fr) (o : Oper) (m : Nat) : Option Fr := match z0c P C wio same M fr o m with | some f => some (zun f) | none => none
theorem zcu {i k m : Nat} {rest : SchT} {o : Oper} {fr1 fr' : Fr} (ho : zk7 c k = some o) (hgd : z6o (rgO c) fr o = some true) (hs : z0b P C cf.wio (cf.wr i).isEmpty (cf.wr i).contains fr o m = some fr1) (e : z5c P C cf.wio (cf.wr i).isEmpty (cf.wr i).contains (rgO c) rest fr1 = some fr') : z5c P C cf.wio (cf.wr i).isEmpty (cf.wr i).contains (rgO c) (.op k m rest) fr = some fr' := by
  unfold z0b at hs
  split at hs
  case h_2 => cases hs
  case h_1 f hz =>
  cases hs
  simp only [z5c, zeT ho, hgd]
  unfold z0c at hz
  split at hz
  · rename_i hm
    rw [if_pos hm]
    split at hz
    · rename_i e1 he
      try rw [he]
      simp only [hz]
      exact e
    · cases hz
  · rename_i hm
    rw [if_neg hm]
    rw [hz]
    exact e
theorem z3r {i k m : Nat} {rest : SchT} {o : Oper} {fr1 : Fr} {Q : Fr -> Prop} (ho : zk7 c k = some o) (hg : o.guard = none) (hs : z0b P C cf.wio (cf.wr i).isEmpty (cf.wr i).contains fr o m = some fr1) (h : z5s P C cf c i rest fr1 Q) : z5s P C cf c i (.op k m rest) fr Q := by
  obtain ⟨fr', e, h⟩ := h
  exact ⟨fr', zcu ho (by unfold z6o; rw [hg]) hs e, h⟩
theorem zxL {i k m : Nat} {rest : SchT} {o : Oper} {g : Option (Option Nat × Bool)} {fr1 : Fr} {Q : Fr -> Prop} (ho : zk7 c k = some o) (hg : zvx c o = some g) (hv : zuu g fr = some true) (hs : z0b P C cf.wio (cf.wr i).isEmpty (cf.wr i).contains fr o m = some fr1) (h : z5s P C cf c i rest fr1 Q) : z5s P C cf c i (.op k m rest) fr Q := by
  obtain ⟨fr', e, h⟩ := h
  exact ⟨fr', zcu ho (by rw [zs6 hg]; exact hv) hs e, h⟩
def nrmO? : Option Fr -> Option Fr
  | some f => some (zun f)
  | none => none
theorem zxM {i k m : Nat} {rest : SchT} {o : Oper} {g : Option (Option Nat × Bool)} {fr1 : Fr} {Q : Fr -> Prop} (ho : zk7 c k = some o) (hg : zvx c o = some g) (hv : zuu g fr = some false) (hs : nrmO? (putF fr o.dst (.one (.k undef))) = some fr1) (h : z5s P C cf c i rest fr1 Q) : z5s P C cf c i (.op k m rest) fr Q := by
  obtain ⟨fr', e, h⟩ := h
  have hgd : z6o (rgO c) fr o = some false := by rw [zs6 hg]; exact hv
  unfold nrmO? at hs
  split at hs
  · rename_i f hf
    cases hs
    exact ⟨fr', by simp only [z5c, zeT ho, hgd, hf]; exact e, h⟩
  · cases hs
def lkp (s : Nat) : List (Nat × Fr) -> Option Fr
  | [] => none
  | (j, f) :: r => if s = j then some f else lkp s r
def zxr (s k : Nat) : List (Nat × Nat × Nat × Nat) -> Option (Nat × Nat)
  | [] => none
  | (a, b, m, z) :: r => if Nat.beq a s && Nat.beq b k then some (m, z) else zxr s k r
def zvE (es : List (Nat × Nat × Nat × Nat)) (z : Nat) : SchT -> Nat -> Bool
  | .nil, s => Nat.beq s z
  | .op k m r, s => match zxr s k es with | some (m', s') => Nat.beq m m' && zvE es z r s' | none => false
  | .alt a b, s => zvE es z a s && zvE es z b s
theorem znd {s k m z : Nat} : ∀ {es : List (Nat × Nat × Nat × Nat)}, zxr s k es = some (m, z) -> (s, k, m, z) ∈ es
  | (a, b, m', z') :: r, h => by
    simp only [zxr] at h
    split at h
    · rename_i hb
      simp only [Bool.and_eq_true] at hb
      obtain rfl := Nat.eq_of_beq_eq_true hb.1
      obtain rfl := Nat.eq_of_beq_eq_true hb.2
      cases h
      simp
    · exact List.mem_cons_of_mem _ (znd h)
def ztV (P : Program) (C : z0q) (cf : Cfg) (c : Code) (i : Nat) : List (Nat × Nat × Nat × Nat) -> List (Nat × Fr) -> (List (Nat × Fr) -> Prop) -> Prop
  | [], kn, Q => Q kn
  | (s, k, m, s') :: es, kn, Q => ∃ F o F1, lkp s kn = some F /\ zk7 c k = some o /\ o.guard = none /\ z0b P C cf.wio (cf.wr i).isEmpty (cf.wr i).contains F o m = some F1 /\ ((lkp s' kn = some F1 /\ ztV P C cf c i es kn Q) ∨ (lkp s' kn = none /\ ztV P C cf c i es ((s', F1) :: kn) Q))
theorem z0f {i s k m s' : Nat} {es : List (Nat × Nat × Nat × Nat)} {kn : List (Nat × Fr)} {Q : List (Nat × Fr) -> Prop} {F F1 : Fr} {o : Oper} (hk : lkp s kn = some F) (ho : zk7 c k = some o) (hg : o.guard = none) (hl : lkp s' kn = none) (hs : z0b P C cf.wio (cf.wr i).isEmpty (cf.wr i).contains F o m = some F1) (h : ztV P C cf c i es ((s', F1) :: kn) Q) : ztV P C cf c i ((s, k, m, s') :: es) kn Q := ⟨F, o, F1, hk, ho, hg, hs, .inr ⟨hl, h⟩⟩
theorem z0i {i s k m s' : Nat} {es : List (Nat × Nat × Nat × Nat)} {kn : List (Nat × Fr)} {Q : List (Nat × Fr) -> Prop} {F F1 : Fr} {o : Oper} (hk : lkp s kn = some F) (ho : zk7 c k = some o) (hg : o.guard = none) (hl : lkp s' kn = some F1) (hs : z0b P C cf.wio (cf.wr i).isEmpty (cf.wr i).contains F o m = some F1) (h : ztV P C cf c i es kn Q) : ztV P C cf c i ((s, k, m, s') :: es) kn Q := ⟨F, o, F1, hk, ho, hg, hs, .inl ⟨hl, h⟩⟩
theorem znN {i z : Nat} {kn : List (Nat × Fr)} {Q : Fr -> Prop} {G : Fr} (hk : lkp z kn = some G) (h : Q G) : ztV P C cf c i [] kn (fun kn => ∃ G, lkp z kn = some G /\ Q G) := ⟨G, hk, h⟩
theorem zmy {i : Nat} {Q : List (Nat × Fr) -> Prop} : ∀ {es : List (Nat × Nat × Nat × Nat)} {kn : List (Nat × Fr)}, ztV P C cf c i es kn Q -> ∃ kn', Q kn' /\ (∀ s F, lkp s kn = some F -> lkp s kn' = some F) /\
    ∀ s k m s', (s, k, m, s') ∈ es -> ∃ F o F1, lkp s kn' = some F /\ zk7 c k = some o /\ o.guard = none /\ z0b P C cf.wio (cf.wr i).isEmpty (cf.wr i).contains F o m = some F1 /\ lkp s' kn' = some F1
  | [], kn, h => ⟨kn, h, fun _ _ e => e, fun _ _ _ _ h => by cases h⟩
  | (s, k, m, s') :: es, kn, ⟨F, o, F1, h1, h2, h3, h4, h5⟩ => by
    have : ∃ kn', Q kn' /\ (∀ s F, lkp s kn = some F -> lkp s kn' = some F) /\ lkp s' kn' = some F1 /\
        ∀ s k m s', (s, k, m, s') ∈ es -> ∃ F o F1, lkp s kn' = some F /\ zk7 c k = some o /\ o.guard = none /\ z0b P C cf.wio (cf.wr i).isEmpty (cf.wr i).contains F o m = some F1 /\ lkp s' kn' = some F1 := by
      rcases h5 with ⟨hl, hd⟩ | ⟨hl, hd⟩
      · obtain ⟨kn', a1, a2, a3⟩ := zmy hd
        exact ⟨kn', a1, a2, a2 _ _ hl, a3⟩
      · obtain ⟨kn', a1, a2, a3⟩ := zmy hd
        refine ⟨kn', a1, fun s F e => a2 s F ?_, a2 _ _ (by simp [lkp]), a3⟩
        simp only [lkp]
        rw [if_neg (fun e' => by rw [e', hl] at e; cases e)]
        exact e
    obtain ⟨kn', a1, a2, a3, a4⟩ := this
    refine ⟨kn', a1, a2, fun s1 k1 m1 s1' hm => ?_⟩
    rcases List.mem_cons.1 hm with e | e
    · cases e
      exact ⟨F, o, F1, a2 _ _ h1, h2, h3, h4, a3⟩
    · exact a4 _ _ _ _ e
theorem zdo {i z : Nat} {es : List (Nat × Nat × Nat × Nat)} {kn : List (Nat × Fr)} (he : ∀ s k m s', (s, k, m, s') ∈ es -> ∃ F o F1, lkp s kn = some F /\ zk7 c k = some o /\ o.guard = none /\ z0b P C cf.wio (cf.wr i).isEmpty (cf.wr i).contains F o m = some F1 /\ lkp s' kn = some F1) :
    ∀ {t : SchT} {s : Nat} {F G : Fr}, zvE es z t s = true -> lkp s kn = some F -> lkp z kn = some G -> z5c P C cf.wio (cf.wr i).isEmpty (cf.wr i).contains (rgO c) t F = some G
  | .nil, s, F, G, h, hF, hG => by
    obtain rfl := Nat.eq_of_beq_eq_true h
    rw [hF] at hG; cases hG
    simp only [z5c]
  | .op k m r, s, F, G, h, hF, hG => by
    simp only [zvE] at h
    split at h
    · rename_i m' s' hn
      simp only [Bool.and_eq_true] at h
      obtain ⟨hm, h⟩ := h
      obtain rfl := Nat.eq_of_beq_eq_true hm
      obtain ⟨F', o, F1, b1, b2, b3, b4, b5⟩ := he _ _ _ _ (znd hn)
      rw [hF] at b1; cases b1
      exact zcu b2 (by unfold z6o; rw [b3]) b4 (zdo he h b5 hG)
    · cases h
  | .alt a b, s, F, G, h, hF, hG => by
    simp only [zvE, Bool.and_eq_true] at h
    simp only [z5c, zdo he h.1 hF hG, zdo he h.2 hF hG]
    exact zdd ⟨rfl, fun _ _ => rfl, fun _ _ => rfl⟩
theorem zmW {i : Nat} {t : SchT} {Q : Fr -> Prop} (es : List (Nat × Nat × Nat × Nat)) (z : Nat) (hc : zvE es z t 0 = true) (h : ztV P C cf c i es [(0, fr)] (fun kn => ∃ G, lkp z kn = some G /\ Q G)) : z5s P C cf c i t fr Q := by
  obtain ⟨kn, ⟨G, hG, hQ⟩, h2, h3⟩ := zmy h
  exact ⟨G, zdo h3 hc (h2 0 fr (by simp [lkp])) hG, hQ⟩
theorem zwg {i : Nat} {a b : SchT} {f : Fr} {Q : Fr -> Prop} (h1 : z5s P C cf c i a fr (fun x => x = f)) (h2 : z5s P C cf c i b fr (fun y => z9S f y)) (h : Q f) : z5s P C cf c i (.alt a b) fr Q := by
  obtain ⟨x, e1, rfl⟩ := h1
  obtain ⟨y, e2, hs⟩ := h2
  exact ⟨x, by simp only [z5c, e1, e2]; exact zdd hs, h⟩
theorem zeD {i : Nat} {a b : SchT} {Q : Fr -> Prop} (h : z5s P C cf c i a fr (fun x => z5s P C cf c i b fr (fun y => z9S x y) /\ Q x)) : z5s P C cf c i (.alt a b) fr Q := by
  obtain ⟨x, e1, h1, h2⟩ := h
  exact zwg ⟨x, e1, rfl⟩ h1 h2
theorem z0C {id i : Nat} (hi : i = id) (h : Q .n fr) : z7C id Q (.x i) fr := by
  subst hi; exact zqr h
end
attribute [irreducible] wpC zlU z7C zxp zB9 z8c zy8 zwv zkN zwf zvV
end
section
def LFm : Nat := 18446744073709551616
noncomputable def z2Z (P : Program) (X : z0q) (cf : FuncId -> Option Cfg) : Nat -> z0q
  | 0 => fun f args => match cf f with | some _ => none | none => X f args
  | n + 1 => fun f args => match cf f with
    | some c => (match P.funcs[f]? with | some fn => zih P (z2Z P X cf n) c LFm fn args | none => none)
    | none => X f args
def z3M (P : Program) (f : FuncId) (c : Cfg) : Bool :=
  match P.funcs[f]? with
  | none => false
  | some fn => match fn.body with
    | none => false
    | some b => (fn.name != "runtime.NumGoroutine") && okC c b
theorem zf1 {P : Program} {I : World -> (Nat -> z0g) -> Prop} {X : z0q} {cf : FuncId -> Option Cfg} (hI : EnvS I) (hX : zaD P I X) (hm : P.follows .mixedOrders = true) (hf : ∀ f c, cf f = some c -> z3M P f c = true) : ∀ n, zaD P I (z2Z P X cf n)
  | 0 => fun f args r outs h => by
    simp only [z2Z] at h
    split at h
    · cases h
    · exact hX f args r outs h
  | n + 1 => fun f args r outs h => by
    simp only [z2Z] at h
    split at h
    · rename_i c hc
      split at h
      · rename_i fn hfn
        have hok := hf f c hc
        unfold z3M at hok
        rw [hfn] at hok
        simp only at hok
        split at hok
        · cases hok
        · rename_i b hb
          simp only [Bool.and_eq_true, bne_iff_ne, ne_eq] at hok
          exact zws hI (zf1 hI hX hm hf n) hm hfn hb hok.1 hok.2 h
      · cases h
    · exact hX f args r outs h
theorem zkh {P : Program} {X : z0q} {cf : FuncId -> Option Cfg} {f : FuncId} {c : Cfg} {fn : Func} {n : Nat} {args : List T} {o : T × List T} (hc : cf f = some c) (hfn : P.funcs[f]? = some fn) (h : zih P (z2Z P X cf n) c LFm fn args = some o) : z2Z P X cf (n + 1) f args = some o := by
  simp only [z2Z, hc, hfn, h]
def From (P : Program) (X : z0q) (cf : FuncId -> Option Cfg) (d : Nat) (f : FuncId) (args : List T) (o : T × List T) : Prop := ∀ n, d <= n -> z2Z P X cf n f args = some o
theorem From.run {P : Program} {X : z0q} {cf : FuncId -> Option Cfg} {f : FuncId} {c : Cfg} {fn : Func} {d : Nat} {args : List T} {o : T × List T} (hc : cf f = some c) (hfn : P.funcs[f]? = some fn) (h : ∀ n, d <= n -> zih P (z2Z P X cf n) c LFm fn args = some o) : From P X cf (d + 1) f args o := fun n hn => by
  match n, hn with
  | m + 1, hm => exact zkh hc hfn (h m (by omega))
theorem From.mono {P : Program} {X : z0q} {cf : FuncId -> Option Cfg} {f : FuncId} {d e : Nat} {args : List T} {o : T × List T} (h : From P X cf d f args o) (he : d <= e) : From P X cf e f args o := fun n hn => h n (by omega)
theorem From.ok {P : Program} {I : World -> (Nat -> z0g) -> Prop} {X : z0q} {cf : FuncId -> Option Cfg} {f : FuncId} {d : Nat} {args : List T} {r : T} {outs : List T} (hI : EnvS I) (hX : zaD P I X) (hm : P.follows .mixedOrders = true) (hf : ∀ f c, cf f = some c -> z3M P f c = true) (h : From P X cf d f args (r, outs)) : CallOk P I f args r outs :=
  zf1 hI hX hm hf d f args r outs (h d (Nat.le_refl d))
end
section
noncomputable def Lim (P : Program) (X : z0q) (cf : FuncId -> Option Cfg) : z0q := fun f args =>
  @dite _ (∃ o d, From P X cf d f args o) (Classical.propDecidable _) (fun h => some h.choose) (fun _ => none)
section
variable {P : Program} {Xc : z0q} {cf : FuncId -> Option Cfg}
theorem zrR {d : Nat} {f : FuncId} {args : List T} {o : T × List T} (h : From P Xc cf d f args o) : Lim P Xc cf f args = some o := by
  have he : ∃ o d, From P Xc cf d f args o := ⟨o, d, h⟩
  unfold Lim
  rw [dif_pos he]
  obtain ⟨e, h2⟩ := he.choose_spec
  have a1 := h (d + e) (by omega)
  have a2 := h2 (d + e) (by omega)
  rw [a1] at a2
  exact a2.symm
theorem zum {f : FuncId} {args : List T} {o : T × List T} (h : Lim P Xc cf f args = some o) : ∃ d, From P Xc cf d f args o := by
  unfold Lim at h
  split at h
  · rename_i he
    cases h
    exact he.choose_spec
  · cases h
def Ev (p : Nat -> Prop) : Prop := ∃ n, ∀ m, n <= m -> p m
theorem Ev.pure {p : Nat -> Prop} (h : ∀ m, p m) : Ev p := ⟨0, fun m _ => h m⟩
theorem Ev.both {p q r : Nat -> Prop} (h1 : Ev p) (h2 : Ev q) (h : ∀ m, p m -> q m -> r m) : Ev r := by
  obtain ⟨a, h1⟩ := h1
  obtain ⟨b, h2⟩ := h2
  exact ⟨a + b, fun m hm => h m (h1 m (by omega)) (h2 m (by omega))⟩
theorem Ev.imp {p q : Nat -> Prop} (h1 : Ev p) (h : ∀ m, p m -> q m) : Ev q := by
  obtain ⟨a, h1⟩ := h1
  exact ⟨a, fun m hm => h m (h1 m hm)⟩
theorem zbl {wio : FuncId -> Nat -> Bool} {fr fr' : Fr} {f : FuncId} {args : List E} {dst : Option Nat} (h : zbm (Lim P Xc cf) wio fr f args dst = some fr') : Ev fun m => zbm (z2Z P Xc cf m) wio fr f args dst = some fr' := by
  unfold zbm at h ⊢
  split at h
  · cases h
  · rename_i ts deps io ha
    split at h
    · cases h
    · rename_i r outs hc
      obtain ⟨d, hd⟩ := zum hc
      refine ⟨d, fun m hm => ?_⟩
      show (match z2Z P Xc cf m f ts with | none => none | some (r, outs) => _) = _
      rw [hd m hm]
      exact h
theorem zm5 {wio : FuncId -> Nat -> Bool} {fr fr' : Fr} {o : Oper} (h : opF P (Lim P Xc cf) wio fr o = some fr') : Ev fun m => opF P (z2Z P Xc cf m) wio fr o = some fr' := by
  unfold opF at h ⊢
  split at h
  · exact .pure fun _ => h
  · split at h
    · exact zbl h
    · cases h
  · exact .pure fun _ => h
  · exact .pure fun _ => h
theorem zkE {wio : FuncId -> Nat -> Bool} {fr fr' : Fr} {o : Oper} (h : z9W P (Lim P Xc cf) wio fr o = some fr') : Ev fun m => z9W P (z2Z P Xc cf m) wio fr o = some fr' := by
  unfold z9W at h ⊢
  split at h
  · split at h
    · split at h
      · exact zbl h
      · cases h
    · cases h
  · exact .pure fun _ => h
theorem zqB {wio : FuncId -> Nat -> Bool} {M : Nat -> Bool} {fr fr' : Fr} {o : Oper} (h : wrF P (Lim P Xc cf) wio M fr o = some fr') : Ev fun m => wrF P (z2Z P Xc cf m) wio M fr o = some fr' := by
  unfold wrF at h ⊢
  split at h
  · split at h
    · cases h
    · split at h
      · exact zbl h
      · split at h
        · rename_i hM
          simp only [hM, if_true]
          exact zbl h
        · cases h
      · cases h
  · exact .pure fun _ => h
  · exact .pure fun _ => h
  · exact .pure fun _ => h
  · cases h
theorem zhC {wio : FuncId -> Nat -> Bool} {ops : Array Oper} : ∀ {l : List Oper} {fr fr' : Fr}, zlZ P (Lim P Xc cf) wio ops l fr = some fr' -> Ev fun m => zlZ P (z2Z P Xc cf m) wio ops l fr = some fr'
  | [], fr, fr', h => .pure fun _ => h
  | o :: rest, fr, fr', h => by
    simp only [zlZ] at h ⊢
    split at h
    · cases h
    · split at h
      · rename_i fr1 h1
        exact (zm5 h1).both (zhC h) fun m a1 a2 => by rw [a1]; exact a2
      · cases h
    · split at h
      · rename_i fr1 h1
        exact (zhC h)
      · cases h
theorem zbj {wio : FuncId -> Nat -> Bool} {same : Bool} {M : Nat -> Bool} {ops : Array Oper} : ∀ {l : List (Nat × Oper × Nat)} {fr fr' : Fr}, z9c P (Lim P Xc cf) wio same M ops l fr = some fr' -> Ev fun m => z9c P (z2Z P Xc cf m) wio same M ops l fr = some fr'
  | [], fr, fr', h => .pure fun _ => h
  | (k, o, mk) :: rest, fr, fr', h => by
    simp only [z9c] at h ⊢
    split at h
    · cases h
    · split at h
      · exact zbj h
      · cases h
    · split at h
      · rename_i hm
        simp only [if_pos hm]
        split at h
        · split at h
          · exact zbj h
          · cases h
        · cases h
      · rename_i hm
        simp only [if_neg hm]
        split at h
        · rename_i fr1 h1
          have h2 : Ev fun m => (if mk = 2 then opF P (z2Z P Xc cf m) wio fr o else if same = true then z9W P (z2Z P Xc cf m) wio fr o else wrF P (z2Z P Xc cf m) wio M fr o) = some fr1 := by
            by_cases e : mk = 2
            · simp only [if_pos e] at h1 ⊢; exact zm5 h1
            · simp only [if_neg e] at h1 ⊢
              by_cases e2 : same = true
              · simp only [if_pos e2] at h1 ⊢; exact zkE h1
              · simp only [if_neg e2] at h1 ⊢; exact zqB h1
          exact h2.both (zbj h) fun m a1 a2 => by rw [a1]; exact a2
        · cases h
theorem z8d {wio : FuncId -> Nat -> Bool} {same : Bool} {M : Nat -> Bool} {ops : Array Oper} : ∀ {l : SchT} {fr fr' : Fr}, z5c P (Lim P Xc cf) wio same M ops l fr = some fr' -> Ev fun m => z5c P (z2Z P Xc cf m) wio same M ops l fr = some fr'
  | .nil, fr, fr', h => .pure fun _ => h
  | .alt x y, fr, fr', h => by
    simp only [z5c] at h ⊢
    split at h
    · rename_i f1 f2 h1 h2
      obtain ⟨rfl, hs⟩ := zcE h
      exact (z8d h1).both (z8d h2) fun m a1 a2 => by rw [a1, a2]; exact zdd hs
    · cases h
  | .op k mk rest, fr, fr', h => by
    simp only [z5c] at h ⊢
    split at h
    · cases h
    rename_i o ho
    try simp only [ho]
    split at h
    · cases h
    · split at h
      · exact z8d h
      · cases h
    · split at h
      · rename_i hm
        simp only [if_pos hm]
        split at h
        · split at h
          · exact z8d h
          · cases h
        · cases h
      · rename_i hm
        simp only [if_neg hm]
        split at h
        · rename_i fr1 h1
          have h2 : Ev fun m => (if mk = 2 then opF P (z2Z P Xc cf m) wio fr o else if same = true then z9W P (z2Z P Xc cf m) wio fr o else wrF P (z2Z P Xc cf m) wio M fr o) = some fr1 := by
            by_cases e : mk = 2
            · simp only [if_pos e] at h1 ⊢; exact zm5 h1
            · simp only [if_neg e] at h1 ⊢
              by_cases e2 : same = true
              · simp only [if_pos e2] at h1 ⊢; exact zkE h1
              · simp only [if_neg e2] at h1 ⊢; exact zqB h1
          exact h2.both (z8d h) fun m a1 a2 => by rw [a1]; exact a2
        · cases h
theorem zmw {c : Cfg} {id : Nat} {ops : Array Oper} {fr fr' : Fr} (h : z7J P (Lim P Xc cf) c id ops fr = some fr') : Ev fun m => z7J P (z2Z P Xc cf m) c id ops fr = some fr' := by
  unfold z7J at h ⊢
  split at h
  · exact z8d h
  · split at h
    · exact zbj h
    · cases h
theorem zko {B : z0q -> Fr -> Option (X × Fr)} {cn : Fr -> Fr} (hB : ∀ fr o, B (Lim P Xc cf) fr = some o -> Ev fun m => B (z2Z P Xc cf m) fr = some o) : ∀ {n : Nat} {fr : Fr} {o : X × Fr}, zbf (B (Lim P Xc cf)) cn n fr = some o -> Ev fun m => zbf (B (z2Z P Xc cf m)) cn n fr = some o
  | 0, fr, o, h => by cases h
  | n + 1, fr, o, h => by
    simp only [zbf] at h ⊢
    split at h
    · rename_i fr1 h1
      exact (hB _ _ h1).both (zko hB h) fun m a1 a2 => by rw [a1]; exact a2
    · rename_i x fr1 hne h1
      refine (hB _ _ h1).imp fun m a1 => ?_
      rw [a1]
      cases x with
      | n => exact absurd rfl hne
      | x i => exact h
      | r => exact h
    · cases h
theorem zkC {c : Cfg} {LF : Nat} : ∀ (b : Code) {fr : Fr} {o : X × Fr}, z2A P (Lim P Xc cf) c LF b fr = some o -> Ev fun m => z2A P (z2Z P Xc cf m) c LF b fr = some o := by
  intro b
  induction b with
  | skip => intro fr o h; exact .pure fun _ => h
  | label l => intro fr o h; exact .pure fun _ => h
  | exit id => intro fr o h; exact .pure fun _ => h
  | ret => intro fr o h; exact .pure fun _ => h
  | goto l => intro fr o h; cases h
  | scope c ih => intro fr o h; simp only [z2A] at h ⊢; exact ih h
  | refuse s => intro fr o h; cases h
  | rangeFunc => intro fr o h; cases h
  | region id ops draw =>
    intro fr o h
    simp only [z2A] at h ⊢
    split at h
    · rename_i hd
      simp only [hd, if_true]
      split at h
      · rename_i fr1 h1
        exact (zmw h1).imp fun m a1 => by rw [a1]; exact h
      · cases h
    · rename_i hd
      simp only [hd, Bool.false_eq_true, if_false]
      split at h
      · rename_i fr1 h1
        exact (zhC h1).imp fun m a1 => by rw [a1]; exact h
      · cases h
  | seq a b ih1 ih2 =>
    intro fr o h
    simp only [z2A] at h ⊢
    split at h
    · rename_i fr1 h1
      exact (ih1 h1).both (ih2 h) fun m a1 a2 => by rw [a1]; exact a2
    · rename_i hne
      refine (ih1 h).imp fun m a1 => ?_
      rw [a1]
      obtain ⟨x, fr1⟩ := o
      cases x with
      | n => exact absurd h (hne _)
      | x i => rfl
      | r => rfl
  | cond c x y ih1 ih2 =>
    intro fr o h
    simp only [z2A] at h ⊢
    split at h
    · exact ih1 h
    · exact ih2 h
    · cases h
  | block id c ih =>
    intro fr o h
    simp only [z2A] at h ⊢
    split at h
    · rename_i i fr1 h1
      exact (ih h1).imp fun m a1 => by rw [a1]; exact h
    · rename_i hne
      refine (ih h).imp fun m a1 => ?_
      rw [a1]
      obtain ⟨x, fr1⟩ := o
      cases x with
      | n => rfl
      | x i => exact absurd h (hne _ _)
      | r => rfl
  | loop b ih =>
    intro fr o h
    simp only [z2A] at h ⊢
    exact zko (B := fun C fr => z2A P C c LF b fr) (fun fr o h => ih h) h
theorem ztf {c : Cfg} {LF : Nat} {fn : Func} {args : List T} {o : T × List T} (h : zih P (Lim P Xc cf) c LF fn args = some o) : Ev fun m => zih P (z2Z P Xc cf m) c LF fn args = some o := by
  unfold zih at h ⊢
  split at h
  · rename_i hc
    simp only [if_pos hc]
    split at h
    · cases h
    · rename_i b hb
      split at h
      · rename_i fr h1
        exact (zkC _ h1).imp fun m a1 => by rw [a1]; exact h
      · rename_i fr h1
        exact (zkC _ h1).imp fun m a1 => by rw [a1]; exact h
      · cases h
  · cases h
theorem zrQ {f : FuncId} {c : Cfg} {fn : Func} {args : List T} {o : T × List T} (hc : cf f = some c) (hfn : P.funcs[f]? = some fn) (h : zih P (Lim P Xc cf) c LFm fn args = some o) : Lim P Xc cf f args = some o := by
  obtain ⟨d, hd⟩ := ztf h
  exact zrR (d := d + 1) (From.run hc hfn hd)
theorem zrS {f : FuncId} {args : List T} (hc : cf f = none) {o : T × List T} (h : Xc f args = some o) : Lim P Xc cf f args = some o :=
  zrR (d := 0) fun n _ => by
    cases n with
    | zero => simp only [z2Z, hc, h]
    | succ n => simp only [z2Z, hc, h]
theorem zwV {I : World -> (Nat -> z0g) -> Prop} {f : FuncId} {args : List T} {r : T} {outs : List T} (hI : EnvS I) (hX : zaD P I Xc) (hm : P.follows .mixedOrders = true) (hf : ∀ f c, cf f = some c -> z3M P f c = true) (h : Lim P Xc cf f args = some (r, outs)) : CallOk P I f args r outs := by
  obtain ⟨d, hd⟩ := zum h
  exact From.ok hI hX hm hf hd
end
end
section
def z2S (P : Program) (t : TypeId) (f : Nat) : Option (Nat × Nat × Bool) :=
  match z2X P t with
  | some ⟨.struct fields, _, _, _⟩ => match fields[f]? with
    | none => none
    | some fd => match z2X P fd.type with
      | none => none
      | some ti => some (fd.offset, ti.size, z4y ti.u)
  | _ => none
def zap (P : Program) (t : TypeId) : Option (List T) :=
  match z2X P t with
  | some ⟨.struct fields, _, _, some zs⟩ => if zs.all zcP = true /\ (fields.toList.all fun f => (z2X P f.type).isSome) = true then some zs else none
  | _ => none
theorem zi2 (P : Program) (t : TypeId) (e : E) (f : Nat) : z8b P t e f = match z2S P t f with
    | some (off, size, _) => if size = 0 then none else match e with
      | .one (.a id p o) => some (.one (.a id p (o + off)))
      | .one (.ea dep cs o) => some (.one (.ea dep cs (o + off)))
      | _ => none
    | none => none := by
  unfold z8b z2S
  cases z2X P t with
  | none => rfl
  | some i =>
    obtain ⟨u, s, b, z⟩ := i
    cases u with
    | struct fields =>
      simp only
      cases fields[f]? with
      | none => rfl
      | some fd =>
        simp only
        cases z2X P fd.type with
        | none => rfl
        | some ti => rfl
    | _ => rfl
theorem zsg (P : Program) (fr : Fr) (t : TypeId) (e : E) (f : Nat) : zkz P fr t e f = match z2S P t f with
    | some (off, size, agg) => zpH fr agg size off e
    | none => none := by
  unfold zkz z2S
  cases z2X P t with
  | none => rfl
  | some i =>
    obtain ⟨u, s, b, z⟩ := i
    cases u with
    | struct fields =>
      simp only
      cases fields[f]? with
      | none => rfl
      | some fd =>
        simp only
        cases z2X P fd.type with
        | none => rfl
        | some ti => rfl
    | _ => rfl
theorem z5b {P : Program} {t : TypeId} {zs : List T} (h : zap P t = some zs) (fr : Fr) (parts : List (Nat × Operand)) : za5 P fr t parts = match z9b fr (z2S P t) (zs.map (A.t none)) parts with
    | some xs => some (.ag xs)
    | none => none := by
  unfold zap at h
  split at h
  · rename_i fields s b zs' ht
    split at h
    · rename_i hc
      cases h
      unfold za5
      rw [ht]
      simp only
      rw [if_pos hc]
      have : (fun i => match fields[i]? with | some f => (match z2X P f.type with | some ti => some (f.offset, ti.size, z4y ti.u) | none => none) | none => none) = z2S P t := by
        funext i
        unfold z2S
        rw [ht]
        simp only
        cases fields[i]? with
        | none => rfl
        | some f =>
          simp only
          cases z2X P f.type with
          | none => rfl
          | some ti => rfl
      exact congrArg (fun g => match z9b fr g (zs.map (A.t none)) parts with | some xs => some (E.ag xs) | none => none) this
    · cases h
  · cases h
abbrev bT (x : Bool) : T := .sc (.bool x)
abbrev hE (id : Nat) : E := .one (.h id [])
theorem zhl : ∀ l : List UInt8, za4 (l.map fun b => .sc (.int .u8 b.toNat)) = some l
  | [] => rfl
  | b :: l => by simp [za4, zhl l]
theorem zkU (b : UInt8) : IntKind.u8.wrap (b.toNat : Int) = b.toNat := by
  have := b.toNat_lt
  rw [IntKind.wrap_u8]; omega
@[simp] theorem range_1 : List.range 1 = [0] := rfl
@[simp] theorem range_2 : List.range 2 = [0, 1] := rfl
@[simp] theorem range_3 : List.range 3 = [0, 1, 2] := rfl
@[simp] theorem range_4 : List.range 4 = [0, 1, 2, 3] := rfl
@[simp] theorem range_5 : List.range 5 = [0, 1, 2, 3, 4] := rfl
@[simp] theorem range_6 : List.range 6 = [0, 1, 2, 3, 4, 5] := rfl
@[simp] theorem range_7 : List.range 7 = [0, 1, 2, 3, 4, 5, 6] := rfl
@[simp] theorem range_8 : List.range 8 = [0, 1, 2, 3, 4, 5, 6, 7] := rfl
@[simp] theorem range_9 : List.range 9 = [0, 1, 2, 3, 4, 5, 6, 7, 8] := rfl
@[simp] theorem range_10 : List.range 10 = [0, 1, 2, 3, 4, 5, 6, 7, 8, 9] := rfl
@[simp] theorem range_11 : List.range 11 = [0, 1, 2, 3, 4, 5, 6, 7, 8, 9, 10] := rfl
@[simp] theorem range_12 : List.range 12 = [0, 1, 2, 3, 4, 5, 6, 7, 8, 9, 10, 11] := rfl
@[simp] theorem zqy (t : T) : ∀ n, z9R n [t] = List.replicate n t
  | 0 => rfl
  | n + 1 => by simp [z9R, zqy t n, List.replicate_succ]
@[simp] theorem zva {α : Type} (g : α -> Value) : ∀ l : List α, zfA (l.map fun x => T.sc (g x)) = false
  | [] => rfl
  | x :: l => by simp [zfA, opn, zva g l]
@[simp] theorem bits_u64 : IntKind.u64.bits = 64 := rfl
@[simp] theorem bits_i64 : IntKind.i64.bits = 64 := rfl
@[simp] theorem int_beq (a b : Int) : (a == b) = decide (a = b) := rfl
@[simp] theorem int_bne (a b : Int) : (a != b) = !decide (a = b) := rfl
@[simp] theorem wrap_0 : IntKind.i64.wrap 0 = 0 := by decide
@[simp] theorem wrap_1 : IntKind.i64.wrap 1 = 1 := by decide
@[simp] theorem wrap_2 : IntKind.i64.wrap 2 = 2 := by decide
@[simp] theorem wrap_3 : IntKind.i64.wrap 3 = 3 := by decide
@[simp] theorem wrap_m1 : IntKind.i64.wrap (-1) = -1 := by decide
end
section
def z0j {σ ρ : Type} (b : σ -> Option (σ ⊕ ρ)) : Nat -> σ -> Option ρ
  | 0, _ => none
  | n + 1, s => match b s with
    | none => none
    | some (.inl s') => z0j b n s'
    | some (.inr r) => some r
def z0e {σ ρ : Type} (s : σ) : Option (σ ⊕ ρ) := some (.inl s)
def z0k {σ ρ : Type} (x : Option ρ) : Option (σ ⊕ ρ) := x.map .inr
def chk {α : Type} (p : Prop) [Decidable p] (x : Option α) : Option α := if p then x else none
def atI {α : Type} (xs : List α) (i : Int) : Option α := if 0 <= i then xs[i.toNat]? else none
def zmF (s : ByteArray) (i : Int) : Option Int := if 0 <= i then (s[i.toNat]?).map fun b => (b.toNat : Int) else none
def z6d {α : Type} (xs : List α) (l h : Int) : Option (List α) := if 0 <= l /\ l <= h /\ h <= xs.length then some ((xs.drop l.toNat).take (h.toNat - l.toNat)) else none
def zn9 (s : ByteArray) (l h : Int) : Option ByteArray := if 0 <= l /\ l <= h /\ h <= s.size then some (s.extract l.toNat h.toNat) else none
def z1c (bytes n : Nat) : Prop := n * bytes <= 140737488355328 /\ n <= 4611686018427387904
instance (b n : Nat) : Decidable (z1c b n) := by unfold z1c; exact inferInstance
def z1g (bytes l : Int) : Prop := 0 <= l /\ l <= 140737488355328 /\ bytes * l <= 140737488355328
instance (b n : Int) : Decidable (z1g b n) := by unfold z1g; exact inferInstance
def z6K (a b : ByteArray) : Prop := ((a.size : Int) + b.size) <= 9223372036854775807
instance (a b : ByteArray) : Decidable (z6K a b) := by unfold z6K; exact inferInstance
def z4I (l : List Int) : ByteArray := ⟨(l.map fun z => UInt8.ofNat z.toNat).toArray⟩
def zwZ (s : ByteArray) : List Int := s.data.toList.map fun b => (b.toNat : Int)
def z8D {κ ν : Type} [DecidableEq κ] (k : κ) : List (κ × ν) -> Option ν
  | [] => none
  | (a, v) :: r => if a = k then some v else z8D k r
def zaE {κ ν : Type} [DecidableEq κ] (k : κ) (v : ν) : List (κ × ν) -> List (κ × ν)
  | [] => [(k, v)]
  | (a, u) :: r => if a = k then (k, v) :: r else (a, u) :: zaE k v r
def z2a (k : IntKind) (a b : Int) : Int := k.wrap (BitVec.ofInt k.bits a &&& BitVec.ofInt k.bits b).toNat
def orI (k : IntKind) (a b : Int) : Int := k.wrap (BitVec.ofInt k.bits a ||| BitVec.ofInt k.bits b).toNat
def zAZ (k : IntKind) (a b : Int) : Int := k.wrap (BitVec.ofInt k.bits a ^^^ BitVec.ofInt k.bits b).toNat
def zie (k : IntKind) (a b : Int) : Int := k.wrap (BitVec.ofInt k.bits a &&& ~~~ BitVec.ofInt k.bits b).toNat
theorem zrb : ∃ f : IntKind -> Int -> Int -> Int, ∀ k a b, f k a b = k.wrap (a * 2 ^ (min b.toNat k.bits)) := ⟨_, fun _ _ _ => rfl⟩
noncomputable def zjM : IntKind -> Int -> Int -> Int := Classical.choose zrb
theorem zrc (k : IntKind) (a b : Int) : zjM k a b = k.wrap (a * 2 ^ (min b.toNat k.bits)) := Classical.choose_spec zrb k a b
def z0l (k : IntKind) (a b : Int) : Int := a.fdiv (2 ^ (min b.toNat k.bits))
def zxq (k : IntKind) (a b : Int) : Int := k.wrap (a.tdiv b)
def zwn (a b : ByteArray) : Bool := Go.Op.bytesLess a.toList b.toList
theorem z6J {α : Type} {p : Prop} [Decidable p] {x : Option α} {r : α} (h : chk p x = some r) : p /\ x = some r := by
  unfold chk at h; split at h
  · exact ⟨by assumption, h⟩
  · cases h
theorem z1a {α β : Type} {x : Option α} {f : α -> Option β} {r : β} (h : x.bind f = some r) : ∃ v, x = some v /\ f v = some r := by
  cases x with
  | none => cases h
  | some v => exact ⟨v, rfl, h⟩
theorem z0Z {σ ρ : Type} {x : Option ρ} {o : σ ⊕ ρ} (h : z0k x = some o) : ∃ r, x = some r /\ o = .inr r := by
  unfold z0k at h
  cases x with
  | none => cases h
  | some v => cases h; exact ⟨v, rfl, rfl⟩
theorem z0w {σ ρ : Type} {s : σ} {o : σ ⊕ ρ} (h : z0e s = some o) : o = .inl s := by cases h; rfl
theorem z9Q {α : Type} {xs : List α} {i : Int} {v : α} (h : atI xs i = some v) : 0 <= i /\ i < xs.length /\ i.toNat + 1 <= xs.length /\ xs[i.toNat]? = some v /\ ∀ hh : i.toNat < xs.length, xs[i.toNat]'hh = v := by
  unfold atI at h
  split at h
  · have := (List.getElem?_eq_some_iff.1 h).1
    exact ⟨by assumption, by omega, this, h, fun _ => (List.getElem?_eq_some_iff.1 h).2⟩
  · cases h
theorem zqq {s : ByteArray} {i v : Int} (h : zmF s i = some v) : 0 <= i /\ i < s.size /\ ∃ b, s[i.toNat]? = some b /\ v = (b.toNat : Int) /\ ∀ hh : i.toNat < s.size, ((s[i.toNat]'hh).toNat : Int) = v := by
  unfold zmF at h
  split at h
  · simp only [Option.map_eq_some_iff] at h
    obtain ⟨b, hb, rfl⟩ := h
    have : i.toNat < s.size := by
      rcases Nat.lt_or_ge i.toNat s.size with h' | h'
      · exact h'
      · rw [getElem?_neg s i.toNat (by omega)] at hb; cases hb
    exact ⟨by assumption, by omega, b, hb, rfl, fun hh => by rw [getElem?_pos s i.toNat hh] at hb; cases hb; rfl⟩
  · cases h
theorem z2k {α β : Type} {xs : List α} {i : Int} {f : α -> Option β} {r : β} (h : (atI xs i).bind f = some r) : ∃ v, (0 <= i /\ i < xs.length /\ i.toNat + 1 <= xs.length /\ xs[i.toNat]? = some v /\ ∀ hh : i.toNat < xs.length, xs[i.toNat]'hh = v) /\ f v = some r := by
  obtain ⟨v, h1, h2⟩ := z1a h
  exact ⟨v, z9Q h1, h2⟩
theorem zvO {α β : Type} {xs : List α} {i : Nat} {f : α -> Option β} {r : β} (h : (atI xs (i : Int)).bind f = some r) : ∃ v, (i < xs.length /\ i + 1 <= xs.length /\ xs[i]? = some v /\ ∀ hh : i < xs.length, xs[i]'hh = v) /\ f v = some r := by
  obtain ⟨v, h1, h2⟩ := z1a h
  obtain ⟨a, b, c, d, e⟩ := z9Q h1
  simp only [Int.toNat_natCast] at c d e
  exact ⟨v, ⟨by omega, c, d, e⟩, h2⟩
theorem zi7 {α : Type} {b n : Nat} {x : Option α} {r : α} (h : chk (z1c b n) x = some r) : (n * b <= 140737488355328 /\ n <= 4611686018427387904) /\ x = some r := z6J h
theorem zAh {α : Type} {n : Nat} {x : Option α} {r : α} (h : chk (z1c 1 n) x = some r) : (n <= 140737488355328 /\ n <= 4611686018427387904) /\ x = some r := by
  obtain ⟨⟨a, b⟩, h⟩ := z6J h
  exact ⟨⟨by omega, b⟩, h⟩
theorem zup {α : Type} {b l : Int} {x : Option α} {r : α} (h : chk (z1g b l) x = some r) : (0 <= l /\ l <= 140737488355328 /\ b * l <= 140737488355328 /\ max l 0 = l) /\ x = some r := by
  obtain ⟨⟨a, b, c⟩, h⟩ := z6J h
  exact ⟨⟨a, b, c, by omega⟩, h⟩
theorem zBh {α : Type} {l : Int} {x : Option α} {r : α} (h : chk (z1g 1 l) x = some r) : (0 <= l /\ l <= 140737488355328 /\ max l 0 = l) /\ x = some r := by
  obtain ⟨⟨a, b, c⟩, h⟩ := z6J h
  exact ⟨⟨a, b, by omega⟩, h⟩
theorem z4b {α : Type} {xs ys : List α} {l h : Int} (e : z6d xs l h = some ys) : 0 <= l /\ l <= h /\ h <= xs.length /\ ys = (xs.drop l.toNat).take (h.toNat - l.toNat) /\ ys.length = h.toNat - l.toNat := by
  unfold z6d at e
  split at e
  · cases e
    refine ⟨by omega, by omega, by omega, rfl, ?_⟩
    simp; omega
  · cases e
theorem zm1 {s t : ByteArray} {l h : Int} (e : zn9 s l h = some t) : 0 <= l /\ l <= h /\ h <= s.size /\ t = s.extract l.toNat h.toNat := by
  unfold zn9 at e
  split at e
  · cases e; exact ⟨by omega, by omega, by omega, rfl⟩
  · cases e
theorem z1y {σ ρ : Type} {b : σ -> Option (σ ⊕ ρ)} (I : σ -> Prop) (m : σ -> Nat) (Post : ρ -> Prop) (step : ∀ s, I s -> (∃ s', b s = some (.inl s') /\ I s' /\ m s' < m s) ∨ (∃ r, b s = some (.inr r) /\ Post r)) :
    ∀ (n : Nat) (s : σ), I s -> m s < n -> ∃ r, z0j b n s = some r /\ Post r
  | 0, s, _, h => by omega
  | n + 1, s, hI, hm => by
    rcases step s hI with ⟨s', e, hI', hm'⟩ | ⟨r, e, hr⟩
    · obtain ⟨r, h1, h2⟩ := z1y I m Post step n s' hI' (by omega)
      exact ⟨r, by simp only [z0j, e]; exact h1, h2⟩
    · exact ⟨r, by simp only [z0j, e], hr⟩
theorem zba {σ ρ : Type} {b : σ -> Option (σ ⊕ ρ)} {r : ρ} (I : σ -> Prop) (m : σ -> Nat) {n : Nat} {s : σ} (hI : I s) (hm : m s < n) (step : ∀ s, I s -> (∃ s', b s = z0e s' /\ I s' /\ m s' < m s) ∨ b s = z0k (some r)) : z0j b n s = some r := by
  obtain ⟨r', h1, h2⟩ := z1y I m (· = r) (fun s hs => (step s hs).imp id fun h => ⟨r, h, rfl⟩) n s hI hm
  rw [h1, h2]
theorem z3i {P : Program} {C : z0q} {cf : Cfg} {LF : Nat} {c : Code} {fr : Fr} {Q : X -> Fr -> Prop} {o : Operand} (ho : cdO c = some o) (hv : rdV (opE fr o) = some (.bool true)) (h : wpC P C cf LF (cdA c) fr Q) : wpC P C cf LF c fr Q :=
  zAp ho fun Q1 Q2 h1 h2 => by rw [hv, zip]; exact ⟨fun _ => h1.out h, fun e => by cases e⟩
theorem z2V {P : Program} {C : z0q} {cf : Cfg} {LF : Nat} {c : Code} {fr : Fr} {Q : X -> Fr -> Prop} {o : Operand} (ho : cdO c = some o) (hv : rdV (opE fr o) = some (.bool false)) (h : wpC P C cf LF (cdB c) fr Q) : wpC P C cf LF c fr Q :=
  zAp ho fun Q1 Q2 h1 h2 => by rw [hv, zip]; exact ⟨(fun e => by cases e), fun _ => h2.out h⟩
def zaX {σ ρ : Type} (H : σ -> Fr) (cn : Fr -> Fr) (o : σ ⊕ ρ) (Q : X -> Fr -> Prop) : X -> Fr -> Prop
  | .n, fr => ∃ s', o = .inl s' /\ cn fr = H s'
  | .x i, fr => (∃ r, o = .inr r) /\ Q (.x i) fr
  | .r, fr => (∃ r, o = .inr r) /\ Q .r fr
theorem z0H {σ ρ : Type} {H : σ -> Fr} {cn : Fr -> Fr} {o : σ ⊕ ρ} {Q : X -> Fr -> Prop} {fr : Fr} {s : σ} (ho : o = .inl s) (h : cn fr = H s) : zaX H cn o Q .n fr := ⟨s, ho, h⟩
theorem z1z {σ ρ : Type} {H : σ -> Fr} {cn : Fr -> Fr} {o : σ ⊕ ρ} {Q : X -> Fr -> Prop} {fr : Fr} {i : Nat} {r : ρ} (ho : o = .inr r) (h : Q (.x i) fr) : zaX H cn o Q (.x i) fr := ⟨⟨r, ho⟩, h⟩
theorem zth {σ ρ : Type} {H : σ -> Fr} {cn : Fr -> Fr} {o : σ ⊕ ρ} {Q : X -> Fr -> Prop} {fr : Fr} {r : ρ} (ho : o = .inr r) (h : Q .r fr) : zaX H cn o Q .r fr := ⟨⟨r, ho⟩, h⟩
theorem zhe {σ ρ : Type} {B : Fr -> Option (X × Fr)} {cn : Fr -> Fr} {body : σ -> Option (σ ⊕ ρ)} {H : σ -> Fr} {r : ρ} {Q : X -> Fr -> Prop}
    (round : ∀ s o, body s = some o -> (∀ r', o = .inr r' -> r' = r) -> ∃ x fr', B (H s) = some (x, fr') /\ zaX H cn o Q x fr') :
    ∀ (n : Nat) (s : σ) (fr : Fr), z0j body n s = some r -> cn fr = H s -> ∃ x fr', zbf B cn n fr = some (x, fr') /\ Q x fr'
  | 0, s, fr, h, _ => by cases h
  | n + 1, s, fr, h, h0 => by
    simp only [z0j] at h
    split at h
    · cases h
    · rename_i s' e
      obtain ⟨x, fr', e1, e2⟩ := round s _ e (fun r' h' => by cases h')
      cases x with
      | n =>
        obtain ⟨s2, e3, e4⟩ := e2
        cases e3
        obtain ⟨x2, fr2, e5, e6⟩ := zhe round n s' fr' h e4
        exact ⟨x2, fr2, by simp only [zbf, h0, e1]; exact e5, e6⟩
      | x i => obtain ⟨⟨r', e3⟩, _⟩ := e2; cases e3
      | r => obtain ⟨⟨r', e3⟩, _⟩ := e2; cases e3
    · rename_i r0 e
      cases h
      obtain ⟨x, fr', e1, e2⟩ := round s _ e (fun r' h' => by cases h'; rfl)
      cases x with
      | n => obtain ⟨s2, e3, _⟩ := e2; cases e3
      | x i => exact ⟨_, _, by simp only [zbf, h0, e1], e2.2⟩
      | r => exact ⟨_, _, by simp only [zbf, h0, e1], e2.2⟩
theorem z2l {P : Program} {C : z0q} {cf : Cfg} {LF : Nat} {c : Code} {fr : Fr} {Q : X -> Fr -> Prop} {σ ρ : Type} {lv : List Nat} {body : σ -> Option (σ ⊕ ρ)} {s0 : σ} {r : ρ} (h : z0j body LF s0 = some r) (H : σ -> Fr) (hk : zd6 c = 5) (hv : cf.live (za1 (lpC c)) = some lv)
    (h0 : za3 (some lv) fr = H s0) (round : ∀ s o, body s = some o -> (∀ r', o = .inr r' -> r' = r) -> wpC P C cf LF (lpC c) (H s) (zaX H (za3 (some lv)) o Q)) : wpC P C cf LF c fr Q := by
  cases c with
  | loop b =>
    obtain ⟨x, fr', e1, e2⟩ := zhe (B := fun fr => z2A P C cf LF b fr) (cn := za3 (some lv)) (H := H) (body := body) (r := r) (Q := Q) (fun s o h1 h2 => by have := round s o h1 h2; unfold wpC at this; exact this) LF s0 fr h h0
    unfold wpC
    refine ⟨x, fr', ?_, e2⟩
    simp only [z2A]
    simp only [lpC] at hv
    rw [hv]
    exact e1
  | _ => cases hk
theorem zq4 (k : IntKind) (a b : Int) : z5e .add k a b = some (.int k (k.wrap (a + b))) := rfl
theorem zpT (k : IntKind) (a b : Int) : z5e .sub k a b = some (.int k (k.wrap (a - b))) := rfl
theorem zpX (k : IntKind) (a b : Int) : z5e .mul k a b = some (.int k (k.wrap (a * b))) := rfl
theorem zpV (k : IntKind) (a b : Int) : z5e .quo k a b = if b = 0 then none else some (.int k (zxq k a b)) := rfl
theorem zpU (k : IntKind) (a b : Int) : z5e .rem k a b = if b = 0 then none else some (.int k (a.tmod b)) := rfl
theorem zq3 (k : IntKind) (a b : Int) : z5e .and k a b = some (.int k (z2a k a b)) := Eq.trans rfl rfl
theorem zrY (k : IntKind) (a b : Int) : z5e .or k a b = some (.int k (orI k a b)) := Eq.trans rfl rfl
theorem zpS (k : IntKind) (a b : Int) : z5e .xor k a b = some (.int k (zAZ k a b)) := Eq.trans rfl rfl
theorem zhP (k : IntKind) (a b : Int) : z5e .andNot k a b = some (.int k (zie k a b)) := Eq.trans rfl rfl
theorem zq2 (k : IntKind) (a b : Int) : z5e .eql k a b = some (.bool (decide (a = b))) := rfl
theorem zpW (k : IntKind) (a b : Int) : z5e .neq k a b = some (.bool (!decide (a = b))) := rfl
theorem zpY (k : IntKind) (a b : Int) : z5e .lss k a b = some (.bool (decide (a < b))) := rfl
theorem zpZ (k : IntKind) (a b : Int) : z5e .leq k a b = some (.bool (decide (a <= b))) := rfl
theorem zq0 (k : IntKind) (a b : Int) : z5e .gtr k a b = some (.bool (decide (b < a))) := rfl
theorem zq1 (k : IntKind) (a b : Int) : z5e .geq k a b = some (.bool (decide (b <= a))) := rfl
theorem zh0 {a b : ByteArray} : a.toList = b.toList ↔ a = b := by
  constructor
  · intro h
    have h1 : a.data.toList = b.data.toList := by simpa [ByteArray.toList_eq] using h
    obtain ⟨⟨x⟩⟩ := a
    obtain ⟨⟨y⟩⟩ := b
    simp at h1
    rw [h1]
  · intro h; rw [h]
theorem zpx (a b : ByteArray) : z9X .eql a b = some (.bool (decide (a = b))) := by
  simp only [z9X]
  congr 2
  rw [Bool.eq_iff_iff]; simp [zh0]
theorem zpu (a b : ByteArray) : z9X .neq a b = some (.bool (!decide (a = b))) := by
  simp only [z9X]
  congr 3
  rw [Bool.eq_iff_iff]; simp [zh0]
theorem zpv (a b : ByteArray) : z9X .lss a b = some (.bool (zwn a b)) := rfl
theorem zpw (a b : ByteArray) : z9X .geq a b = some (.bool (!zwn a b)) := rfl
theorem zpy (a b : ByteArray) : z9X .add a b = if z6K a b then some (.string (a ++ b)) else none := by
  have hm : IntKind.i64.max = 9223372036854775807 := by decide
  show (if ((a.size + b.size : Nat) : Int) > IntKind.i64.max then none else some (Value.string (a ++ b))) = _
  rw [hm]
  by_cases h : z6K a b
  · rw [if_pos h]
    unfold z6K at h
    rw [if_neg (by omega)]
  · rw [if_neg h]
    unfold z6K at h
    rw [if_pos (by omega)]
theorem zu5 (op : BinOp) (u : Option TyI) (k k' : IntKind) (a b : Int) : zw9 op u (.int k a) (.int k' b) = match op with
    | .shl => if b < 0 then none else some (.int k (zjM k a b))
    | .shr => if b < 0 then none else some (.int k (z0l k a b))
    | _ => if k = k' then z5e op k a b else none := by
  cases op
  case shl => simp only [zrc]; rfl
  all_goals rfl
theorem zu4 (op : BinOp) (u : Option TyI) (a b : ByteArray) : zw9 op u (.string a) (.string b) = z9X op a b := rfl
theorem zsA (op : BinOp) (u : Option TyI) (a b : Bool) : zw9 op u (.bool a) (.bool b) = match u with
    | some ⟨.bool, _, _, _⟩ => (match op with | .eql => some (.bool (a == b)) | .neq => some (.bool (!(a == b))) | _ => none)
    | _ => none := rfl
theorem znT : ∀ l : List Int, za4 (l.map fun z => .sc (.int .u8 z)) = some (l.map fun z => UInt8.ofNat z.toNat)
  | [] => rfl
  | z :: l => by simp [za4, znT l]
theorem znF {α β : Type} {g : α -> List β} {m : Nat} (hg : ∀ x, (g x).length = m) : ∀ xs : List α, (xs.flatMap g).length = xs.length * m
  | [] => by simp
  | x :: xs => by
    have := znF hg xs
    simp only [List.flatMap_cons, List.length_append, hg, this, List.length_cons, Nat.add_mul, Nat.one_mul]
    omega
theorem zfh {α β : Type} {g : α -> List β} {m : Nat} (hg : ∀ x, (g x).length = m) : ∀ (xs : List α) (i : Nat), (xs.flatMap g).drop (i * m) = (xs.drop i).flatMap g
  | xs, 0 => by simp
  | [], i + 1 => by simp
  | x :: xs, i + 1 => by
    have := zfh hg xs i
    rw [List.flatMap_cons, List.drop_succ_cons, ← this, List.drop_append, List.drop_eq_nil_of_le (by rw [hg, Nat.add_mul]; omega), List.nil_append, hg]
    congr 1
    rw [Nat.add_mul]; omega
theorem zkw {α β : Type} {g : α -> List β} {m : Nat} (hg : ∀ x, (g x).length = m) : ∀ (xs : List α) (i : Nat), (xs.flatMap g).take (i * m) = (xs.take i).flatMap g
  | xs, 0 => by simp
  | [], i + 1 => by simp
  | x :: xs, i + 1 => by
    have := zkw hg xs i
    rw [List.flatMap_cons, List.take_succ_cons, List.flatMap_cons, ← this, List.take_append, List.take_of_length_le (by rw [hg, Nat.add_mul]; omega), hg]
    congr 2
    rw [Nat.add_mul]; omega
theorem zfg {α β : Type} {g : α -> List β} {m : Nat} (hg : ∀ x, (g x).length = m) {xs : List α} {i : Nat} {v : α} (h : xs[i]? = some v) :
    i * m + m <= xs.length * m /\ ((xs.flatMap g).drop (i * m)).take m = g v /\ (∀ j, j < m -> (xs.flatMap g)[i * m + j]? = (g v)[j]?) /\ ∀ j c, (g v)[j]? = some c -> ∀ hh : i * m + j < (xs.flatMap g).length, (xs.flatMap g)[i * m + j]'hh = c := by
  obtain ⟨hi, hv⟩ := List.getElem?_eq_some_iff.1 h
  have hd : xs.drop i = v :: xs.drop (i + 1) := by rw [← hv]; exact List.drop_eq_getElem_cons hi
  have h2 : ((xs.flatMap g).drop (i * m)) = g v ++ (xs.drop (i + 1)).flatMap g := by rw [zfh hg, hd, List.flatMap_cons]
  have key : ∀ j, j < m -> (xs.flatMap g)[i * m + j]? = (g v)[j]? := fun j hj => by
    rw [← List.getElem?_drop, h2, List.getElem?_append_left (by rw [hg]; exact hj)]
  refine ⟨?_, ?_, key, fun j c hc hh => ?_⟩
  · calc i * m + m = (i + 1) * m := by rw [Nat.add_mul, Nat.one_mul]
      _ <= _ := Nat.mul_le_mul_right _ hi
  · rw [h2, List.take_append_of_le_length (by rw [hg]; exact Nat.le_refl _), List.take_of_length_le (by rw [hg]; exact Nat.le_refl _)]
  · have hj : j < m := by rw [← hg v]; exact (List.getElem?_eq_some_iff.1 hc).1
    have := key j hj
    rw [hc, List.getElem?_eq_getElem hh] at this
    exact Option.some.inj this
theorem zcD {α β : Type} {g : α -> β} {xs ys : List α} {l h : Int} (e : z6d xs l h = some ys) : ((xs.map g).drop l.toNat).take (h.toNat - l.toNat) = ys.map g := by
  obtain ⟨_, _, _, e2, _⟩ := z4b e
  rw [e2, List.map_take, List.map_drop]
theorem zm3 {α β : Type} {g : α -> List β} {m : Nat} (hg : ∀ x, (g x).length = m) {xs ys : List α} {l h : Int} (e : z6d xs l h = some ys) : ((xs.flatMap g).drop (l.toNat * m)).take ((h.toNat - l.toNat) * m) = ys.flatMap g := by
  obtain ⟨_, _, _, e2, _⟩ := z4b e
  rw [e2, zfh hg, zkw hg]
theorem zcC {α : Type} {xs ys : List α} {l h : Int} (e : z6d xs l h = some ys) (f : α -> T) : T.sl (h.toNat - l.toNat) (ys.map f) = T.sl ys.length (ys.map f) := by
  obtain ⟨_, _, _, _, e2⟩ := z4b e
  rw [e2]
theorem zpG {α : Type} {xs ys : List α} {l h : Int} (e : z6d xs l h = some ys) (f : α -> List T) : T.sl (h.toNat - l.toNat) (ys.flatMap f) = T.sl ys.length (ys.flatMap f) := by
  obtain ⟨_, _, _, _, e2⟩ := z4b e
  rw [e2]
theorem zb2 {l h : Int} (a : 0 <= l) (b : l <= h) : 0 <= h /\ l <= (h.toNat : Int) := by omega
theorem zeS : ∀ a b : List T, zfA (a ++ b) = (zfA a || zfA b)
  | [], b => by simp [zfA]
  | t :: a, b => by simp [zfA, zeS a b, Bool.or_assoc]
theorem znb {α : Type} (g : α -> T) : ∀ l : List α, zfA (l.map g) = l.any fun x => opn (g x)
  | [] => rfl
  | x :: l => by simp [zfA, znb g l]
theorem zk6 {α : Type} (g : α -> List T) : ∀ l : List α, zfA (l.flatMap g) = l.any fun x => zfA (g x)
  | [] => rfl
  | x :: l => by simp [zeS, zk6 g l]
theorem znG (k : ByteArray) (kd : IntKind) : ∀ m : List (ByteArray × Int), z5q (.string k) (m.map fun p => (Value.string p.1, Value.int kd p.2)) = (z8D k m).map (Value.int kd)
  | [] => rfl
  | (a, v) :: m => by
    simp only [List.map_cons, z5q, z8D, zbd, znG k kd m]
    by_cases h : a = k <;> simp [h]
theorem znH (k : ByteArray) : ∀ m : List (ByteArray × Bool), z5q (.string k) (m.map fun p => (Value.string p.1, Value.bool p.2)) = (z8D k m).map Value.bool
  | [] => rfl
  | (a, v) :: m => by
    simp only [List.map_cons, z5q, z8D, zbd, znH k m]
    by_cases h : a = k <;> simp [h]
theorem znI (k : Int) (kk kd : IntKind) : ∀ m : List (Int × Int), z5q (.int kk k) (m.map fun p => (Value.int kk p.1, Value.int kd p.2)) = (z8D k m).map (Value.int kd)
  | [] => rfl
  | (a, v) :: m => by
    simp only [List.map_cons, z5q, z8D, zbd, znI k kk kd m]
    by_cases h : a = k <;> simp [h]
theorem znJ (k : Int) (kk : IntKind) : ∀ m : List (Int × Bool), z5q (.int kk k) (m.map fun p => (Value.int kk p.1, Value.bool p.2)) = (z8D k m).map Value.bool
  | [] => rfl
  | (a, v) :: m => by
    simp only [List.map_cons, z5q, z8D, zbd, znJ k kk m]
    by_cases h : a = k <;> simp [h]
theorem zrf (k : ByteArray) (kd : IntKind) (v : Int) : ∀ m : List (ByteArray × Int), zjO (.string k) (.int kd v) (m.map fun p => (Value.string p.1, Value.int kd p.2)) = (zaE k v m).map fun p => (Value.string p.1, Value.int kd p.2)
  | [] => rfl
  | (a, u) :: m => by
    simp only [List.map_cons, zjO, zaE, zbd, zrf k kd v m]
    by_cases h : a = k <;> simp [h]
theorem zrg (k : ByteArray) (v : Bool) : ∀ m : List (ByteArray × Bool), zjO (.string k) (.bool v) (m.map fun p => (Value.string p.1, Value.bool p.2)) = (zaE k v m).map fun p => (Value.string p.1, Value.bool p.2)
  | [] => rfl
  | (a, u) :: m => by
    simp only [List.map_cons, zjO, zaE, zbd, zrg k v m]
    by_cases h : a = k <;> simp [h]
theorem zrh (k : Int) (kk kd : IntKind) (v : Int) : ∀ m : List (Int × Int), zjO (.int kk k) (.int kd v) (m.map fun p => (Value.int kk p.1, Value.int kd p.2)) = (zaE k v m).map fun p => (Value.int kk p.1, Value.int kd p.2)
  | [] => rfl
  | (a, u) :: m => by
    simp only [List.map_cons, zjO, zaE, zbd, zrh k kk kd v m]
    by_cases h : a = k <;> simp [h]
theorem zri (k : Int) (kk : IntKind) (v : Bool) : ∀ m : List (Int × Bool), zjO (.int kk k) (.bool v) (m.map fun p => (Value.int kk p.1, Value.bool p.2)) = (zaE k v m).map fun p => (Value.int kk p.1, Value.bool p.2)
  | [] => rfl
  | (a, u) :: m => by
    simp only [List.map_cons, zjO, zaE, zbd, zri k kk v m]
    by_cases h : a = k <;> simp [h]
theorem zta (k v : Value) : zjO k v [] = [(k, v)] := rfl
theorem ztb {κ ν : Type} [DecidableEq κ] (k : κ) (v : ν) : zaE k v [] = [(k, v)] := rfl
theorem ztO (kd : IntKind) (z : Int) (o : Option Int) : (o.map (Value.int kd)).getD (.int kd z) = .int kd (o.getD z) := by cases o <;> rfl
theorem zs9 (z : Bool) (o : Option Bool) : (o.map Value.bool).getD (.bool z) = .bool (o.getD z) := by cases o <;> rfl
@[simp] theorem oneNil : (Value.slice none 0 0).oneCell' = true := rfl
@[simp] theorem bszL (a : Array UInt8) : ByteArray.size ⟨a⟩ = a.size := rfl
@[simp] theorem bempty : (⟨#[]⟩ : ByteArray) = ByteArray.empty := rfl
@[simp] theorem voG0 (p l : List T) : (p ++ l)[p.length]? = l[0]? := by rw [List.getElem?_append_right (Nat.le_refl _), Nat.sub_self]
@[simp] theorem voG (p l : List T) (j : Nat) : (p ++ l)[p.length + j]? = l[j]? := by rw [List.getElem?_append_right (by omega), Nat.add_sub_cancel_left]
@[simp] theorem voSet0 (p l : List T) (x : T) : (p ++ l).set p.length x = p ++ l.set 0 x := by rw [List.set_append_right _ _ (Nat.le_refl _), Nat.sub_self]
@[simp] theorem voSet (p l : List T) (j : Nat) (x : T) : (p ++ l).set (p.length + j) x = p ++ l.set j x := by rw [List.set_append_right _ _ (by omega), Nat.add_sub_cancel_left]
section
variable {P : Program} {C : z0q} {cf : Cfg} {LF : Nat} {c : Code} {fr fr1 : Fr} {Q : X -> Fr -> Prop}
theorem zr {l : List Oper} (hl : rgL c = some l) (hd : rgD c = false) (hz : cf.fz (rgI c) = none) (hf : zlZ P C cf.wio l.toArray l fr = some fr1) (h : Q .n fr1) : wpC P C cf LF c fr Q :=
  ztm hl hd hz fun Q' hQ => by rw [hf, zkM]; exact hQ.out _ h
theorem zq (hk : zd6 c = 2) (h : wpC P C cf LF (zAo c) fr (zlU (fun fr' => wpC P C cf LF (zAn c) fr' Q) Q)) : wpC P C cf LF c fr Q := zxQ hk h
theorem zb (hk : zd6 c = 4) (h : wpC P C cf LF (blC c) fr (z7C (blI c) Q)) : wpC P C cf LF c fr Q := zv2 hk h
end
@[simp] theorem voLe (a j k n : Nat) : (a + j + k <= a + n) = (j + k <= n) := by simp only [eq_iff_iff]; omega
end
section
open Go
theorem zni {σ ρ : Type} {b : σ -> Option (σ ⊕ ρ)} {x : Option ρ} : ∀ (n : Nat) (f : Nat -> σ) (m : Nat), n < m -> (∀ k, k < n -> b (f k) = z0e (f (k + 1))) -> b (f n) = z0k x -> z0j b m (f 0) = x
  | 0, f, m + 1, _, _, hl => by
    simp only [z0j, hl]
    cases x <;> rfl
  | n + 1, f, m + 1, hm, hs, hl => by
    simp only [z0j, hs 0 (by omega), z0e]
    exact zni n (fun k => f (k + 1)) m (by omega) (fun k hk => hs (k + 1) (by omega)) hl
theorem z0t {σ ρ : Type} {b : σ -> Option (σ ⊕ ρ)} {x : Option ρ} (n : Nat) (f : Nat -> σ) {s : σ} (h0 : s = f 0) (hn : n < LFm) (step : ∀ k, k < n -> b (f k) = z0e (f (k + 1))) (last : b (f n) = z0k x) : z0j b LFm s = x := by
  subst h0; exact zni n f LFm hn step last
theorem zhb {σ ρ : Type} {b : σ -> Option (σ ⊕ ρ)} {x : Option ρ} {p : Nat -> Bool} {A : Nat -> Option ρ} : ∀ (n : Nat) (f : Nat -> σ) (m i : Nat), n < m -> (∀ k, k < n -> b (f k) = if p (i + k) = true then z0k (A (i + k)) else z0e (f (k + 1))) -> b (f n) = z0k x ->
    z0j b m (f 0) = match ((List.range n).map (i + ·)).find? p with | some k => A k | none => x
  | 0, f, m + 1, i, _, _, hl => by
    simp only [z0j, hl]
    cases x <;> rfl
  | n + 1, f, m + 1, i, hm, hs, hl => by
    have h0 := hs 0 (by omega)
    have hmap : (List.range (n + 1)).map (i + ·) = i :: (List.range n).map (i + 1 + ·) := by
      rw [List.range_succ_eq_map, List.map_cons, List.map_map]
      congr 1
      apply List.map_congr_left
      intro k _
      simp only [Function.comp]
      omega
    rw [hmap, List.find?_cons]
    simp only [Nat.add_zero] at h0
    by_cases hp : p i = true
    · rw [if_pos hp] at h0
      rw [hp]
      simp only [z0j, h0]
      generalize A i = y
      cases y <;> rfl
    · rw [if_neg hp] at h0
      have hp' : p i = false := by simpa using hp
      rw [hp']
      simp only [z0j, h0, z0e]
      exact zhb n (fun k => f (k + 1)) m (i + 1) (by omega) (fun k hk => by rw [hs (k + 1) (by omega), show i + (k + 1) = i + 1 + k by omega]) hl
theorem z7X {σ ρ : Type} {b : σ -> Option (σ ⊕ ρ)} {x : Option ρ} (n : Nat) (f : Nat -> σ) (p : Nat -> Bool) (A : Nat -> Option ρ) {s : σ} (h0 : s = f 0) (hn : n < LFm) (step : ∀ k, k < n -> b (f k) = if p k = true then z0k (A k) else z0e (f (k + 1))) (last : b (f n) = z0k x) :
    z0j b LFm s = match (List.range n).find? p with | some k => A k | none => x := by
  subst h0
  have := zhb n f LFm 0 hn (p := p) (A := A) (fun k hk => by rw [step k hk]; simp) last
  simpa using this
theorem z0T {k : Nat} (h : k < 4611686018427387904) : IntKind.i64.wrap ((k : Int) + 1) = ((k + 1 : Nat) : Int) := by
  rw [IntWalk.i64_in _ (by omega)]; omega
theorem z1Z {x : Int} (h : -9223372036854775808 <= x) (h2 : x < 9223372036854775808) : IntKind.i64.wrap x = x := IntWalk.i64_in _ (by omega)
theorem zwb {x : Int} (h : 0 <= x) (h2 : x < 256) : IntKind.u8.wrap x = x := by rw [IntKind.wrap_u8]; omega
theorem z1s {α : Type} {xs : List α} {k : Nat} (h : k < xs.length) : atI xs (k : Int) = some xs[k] := by
  unfold atI; rw [if_pos (by omega), Int.toNat_natCast, List.getElem?_eq_getElem h]
theorem zkH {s : ByteArray} {k : Nat} (h : k < s.size) : zmF s (k : Int) = some (s[k].toNat : Int) := by
  unfold zmF; rw [if_pos (by omega), Int.toNat_natCast, getElem?_pos s k h]; rfl
theorem zk2 {α : Type} {xs : List α} {k : Nat} (h : k <= xs.length) : z6d xs 0 (k : Int) = some (xs.take k) := by
  unfold z6d; rw [if_pos (by omega)]; simp
theorem zm2 {α : Type} {xs : List α} {k : Nat} (h : k <= xs.length) : z6d xs (k : Int) (xs.length : Int) = some (xs.drop k) := by
  unfold z6d; rw [if_pos (by omega)]; simp [List.take_of_length_le]
theorem z0m {α : Type} {p : Prop} [Decidable p] (x : Option α) (h : p) : chk p x = x := by unfold chk; rw [if_pos h]
theorem zfk {p : Nat -> Bool} {n : Nat} : (List.range n).find? p = none ↔ ∀ k, k < n -> p k = false := by simp
theorem zfj {p : Nat -> Bool} {n k : Nat} : (List.range n).find? p = some k ↔ k < n /\ p k = true /\ ∀ j, j < k -> p j = false := by
  rw [List.find?_range_eq_some]; simp; constructor
  · rintro ⟨a, b, c⟩; exact ⟨b, a, c⟩
  · rintro ⟨a, b, c⟩; exact ⟨b, a, c⟩
theorem zhZ {ρ : Type} {p : Nat -> Bool} {n : Nat} (a b : ρ) : (match (List.range n).find? p with | some _ => a | none => b) = if (List.range n).all (fun k => !p k) then b else a := by
  cases h : (List.range n).find? p with
  | none => rw [zfk] at h; rw [if_pos (by simpa using h)]
  | some k =>
    rw [zfj] at h
    rw [if_neg]
    simp only [List.all_eq_true, List.mem_range, Bool.not_eq_true']
    intro hh
    have := hh k h.1
    rw [h.2.1] at this
    cases this
theorem zjY {α : Type} (p : α -> Bool) (l : List α) (d : α) : (List.range l.length).all (fun k => p (l.getD k d)) = l.all p := by
  rw [Bool.eq_iff_iff, List.all_eq_true, List.all_eq_true]
  constructor
  · intro h x hx
    obtain ⟨i, hi, rfl⟩ := List.getElem_of_mem hx
    have := h i (List.mem_range.2 hi)
    simpa only [List.getD, List.getElem?_eq_getElem hi, Option.getD_some] using this
  · intro h i hi
    have hi := List.mem_range.1 hi
    have := h _ (List.getElem_mem hi)
    simpa only [List.getD, List.getElem?_eq_getElem hi, Option.getD_some] using this
theorem zkg {α ρ : Type} {b : Int -> Option (Int ⊕ ρ)} {l : List α} (d : α) (p : α -> Bool) {A B : Option ρ} (h : l.length < 4611686018427387904) (step : ∀ k, k < l.length -> b (k : Int) = if p (l.getD k d) = true then z0e ((k + 1 : Nat) : Int) else z0k A) (last : b (l.length : Int) = z0k B) :
    z0j b LFm 0 = if l.all p = true then B else A := by
  rw [z7X (s := (0 : Int)) l.length (fun k => (k : Int)) (fun k => !p (l.getD k d)) (fun _ => A) (x := B) rfl (by simp only [LFm]; omega) (fun k hk => ?_) last]
  · rw [zhZ]
    simp only [Bool.not_not]
    rw [zjY]
  · rw [step k hk]
    cases p (l.getD k d) <;> simp
end
end Go.Proofs.Ytodliknibbafeaa
