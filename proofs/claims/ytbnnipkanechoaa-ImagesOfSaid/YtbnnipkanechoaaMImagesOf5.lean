/- Proved here: a part of the proof of the law at hand, in one text: no condition. -/
import Derived.Test.YtbnnipkanechoaaMImagesOf4
import Derived.KernelRfl
import Derived.WalkKit
import Derived.WalkSpells
import Derived.WalkLawsBesides
import Derived.Lib.Hide
import Derived.Deep.OwnRows
import Derived.Deep.RegionLaw
import Derived.Shelf.Small.Bits
import Derived.Shelf.Strconv.Itoa0
import Derived.Ground.Names2Prog
import Derived.Shelf.Slices.SearchI
import Derived.Ground.SlgcProg
import Derived.Shelf.SlicesG.Cmp
import Derived.Ground.SlsfProg
import Derived.Shelf.SlSortCmp.Insertion
import Derived.Shelf.SlSortCmp.SiftDown1
import Derived.Shelf.SlSortCmp.HeapSort1
import Derived.Shelf.SlSortCmp.Insertion1
import Derived.Shelf.SlSortCmp.Median1
import Derived.Shelf.SlSortCmp.Pivot1
import Derived.Shelf.SlSortCmp.ReverseRange1
import Derived.Shelf.SlSortCmp.PartialInsertion1
import Derived.Shelf.SlSortCmp.PartitionEqual1
import Derived.Shelf.SlSortCmp.Partition1
import Derived.Shelf.SlSortCmp.Pdq1
import Derived.Shelf.SlSortCmp.Whole1
import Derived.Test.YtbnnipkanechoaaProg
set_option linter.unusedVariables false
set_option linter.unusedSimpArgs false
section
namespace Go.Proofs.Ytbnnipkanechoaa
open Go
set_option maxRecDepth 100000
structure EqvN (N : Nat) (e : Nat → Nat → Bool) : Prop where
  refl : ∀ i, i < N → e i i = true
  symm : ∀ i j, i < N → j < N → e i j = true → e j i = true
  trans : ∀ i j k, i < N → j < N → k < N → e i j = true → e j k = true → e i k = true
def z1z (e : Nat → Nat → Bool) : Nat → List Nat
  | 0 => []
  | i + 1 => if (z1z e i).any (e i) = true then z1z e i else z1z e i ++ [i]
def z6P (e : Nat → Nat → Bool) (N i : Nat) : Nat := (z1z e N).findIdx (e i)
theorem zeh (e : Nat → Nat → Bool) {i : Nat} : ∀ j, i ≤ j → ∃ R, z1z e j = z1z e i ++ R
  | 0, h => by
    obtain rfl : i = 0 := by omega
    exact ⟨[], by simp⟩
  | j + 1, h => by
    by_cases e0 : i = j + 1
    · subst e0; exact ⟨[], by simp⟩
    · obtain ⟨R, hR⟩ := zeh e (i := i) j (by omega)
      rw [show z1z e (j + 1) = if (z1z e j).any (e j) = true then z1z e j else z1z e j ++ [j] from rfl]
      split
      · exact ⟨R, hR⟩
      · exact ⟨R ++ [j], by rw [hR, List.append_assoc]⟩
theorem zb8 (e : Nat → Nat → Bool) : ∀ i, ∀ f ∈ z1z e i, f < i
  | 0, f, h => by simp [z1z] at h
  | i + 1, f, h => by
    unfold z1z at h
    split at h
    · have := zb8 e i f h; omega
    · rcases List.mem_append.1 h with h | h
      · have := zb8 e i f h; omega
      · have := List.mem_singleton.1 h; omega
theorem zei (e : Nat → Nat → Bool) : ∀ i, (z1z e i).length ≤ i
  | 0 => by simp [z1z]
  | i + 1 => by
    have := zei e i
    unfold z1z
    split
    · omega
    · rw [List.length_append, List.length_singleton]; omega
theorem zej {N : Nat} {e : Nat → Nat → Bool} (he : EqvN N e) : ∀ i, i ≤ N → (z1z e i).Pairwise fun f g => e f g = false ∧ e g f = false
  | 0, _ => by simp [z1z]
  | i + 1, hi => by
    have ih := zej he i (by omega)
    unfold z1z
    split
    · exact ih
    · rename_i h
      refine List.pairwise_append.2 ⟨ih, by simp, fun a ha b hb => ?_⟩
      obtain rfl := List.mem_singleton.1 hb
      have hlt := zb8 e b a ha
      have h1 : e b a = false := by
        cases hh : e b a with
        | false => rfl
        | true => exact absurd (List.any_eq_true.2 ⟨a, ha, hh⟩) h
      refine ⟨?_, h1⟩
      cases hh : e a b with
      | false => rfl
      | true => rw [he.symm a b (by omega) (by omega) hh] at h1; cases h1
theorem zoo {N : Nat} {e : Nat → Nat → Bool} (he : EqvN N e) {i c c' : Nat} {l : List Nat} (hl : l.Pairwise fun f g => e f g = false ∧ e g f = false) (hlt : ∀ f ∈ l, f < N) (hi : i < N) (hc : c < l.length) (hc' : c' < l.length) (h : e i (l.getD c 0) = true) (h' : e i (l.getD c' 0) = true) : c = c' := by
  have m1 : l.getD c 0 < N := hlt _ (z1q hc)
  have m2 : l.getD c' 0 < N := hlt _ (z1q hc')
  have hcc := he.trans _ _ _ m1 hi m2 (he.symm _ _ hi m1 h) h'
  rcases Nat.lt_trichotomy c c' with hlt' | rfl | hlt'
  · have := (List.pairwise_iff_getElem.1 hl c c' hc hc' hlt').1
    rw [List.getD, List.getD, List.getElem?_eq_getElem hc, List.getElem?_eq_getElem hc', Option.getD_some, Option.getD_some, this] at hcc
    cases hcc
  · rfl
  · have := (List.pairwise_iff_getElem.1 hl c' c hc' hc hlt').2
    rw [List.getD, List.getD, List.getElem?_eq_getElem hc, List.getElem?_eq_getElem hc', Option.getD_some, Option.getD_some, this] at hcc
    cases hcc
theorem zqn {N : Nat} {e : Nat → Nat → Bool} (he : EqvN N e) {i : Nat} (hi : i < N) : (z1z e i).findIdx (e i) = z6P e N i := by
  unfold z6P
  obtain ⟨R, hR⟩ := zeh e (i := i + 1) N (by omega)
  rw [hR]
  by_cases h : (z1z e i).any (e i) = true
  · have : z1z e (i + 1) = z1z e i := by rw [z1z, if_pos h]
    rw [this, List.findIdx_append, if_pos]
    obtain ⟨x, hx, hp⟩ := List.any_eq_true.1 h
    exact List.findIdx_lt_length_of_exists ⟨x, hx, hp⟩
  · have e1 : z1z e (i + 1) = z1z e i ++ [i] := by rw [z1z, if_neg h]
    have e2 : (z1z e i).findIdx (e i) = (z1z e i).length := List.findIdx_eq_length.2 fun x hx => by
      cases hh : e i x with
      | false => rfl
      | true => exact absurd (List.any_eq_true.2 ⟨x, hx, hh⟩) h
    rw [e1, List.append_assoc, List.findIdx_append, if_neg (by rw [e2]; omega), List.singleton_append, List.findIdx_cons, he.refl i hi, e2]
    simp
theorem zet {N : Nat} {e : Nat → Nat → Bool} (he : EqvN N e) {i : Nat} (hi : i < N) : z6P e N i < (z1z e N).length ∧ e i ((z1z e N).getD (z6P e N i) 0) = true := by
  have hex : ∃ x ∈ z1z e N, e i x = true := by
    obtain ⟨R, hR⟩ := zeh e (i := i + 1) N (by omega)
    by_cases h : (z1z e i).any (e i) = true
    · obtain ⟨x, hx, hp⟩ := List.any_eq_true.1 h
      refine ⟨x, ?_, hp⟩
      rw [hR, z1z, if_pos h]
      exact List.mem_append.2 (.inl hx)
    · refine ⟨i, ?_, he.refl i hi⟩
      rw [hR, z1z, if_neg h]; simp
  have hlt : z6P e N i < (z1z e N).length := List.findIdx_lt_length_of_exists hex
  refine ⟨hlt, ?_⟩
  rw [List.getD, List.getElem?_eq_getElem hlt, Option.getD_some]
  exact List.findIdx_getElem (w := hlt)
theorem zgx {N : Nat} {e : Nat → Nat → Bool} (he : EqvN N e) {i j : Nat} (hi : i < N) (hj : j < N) : z6P e N i = z6P e N j ↔ e i j = true := by
  obtain ⟨a1, a2⟩ := zet he hi
  obtain ⟨b1, b2⟩ := zet he hj
  have hF := zb8 e N
  have m1 := hF _ (z1q a1)
  constructor
  · intro h
    rw [← h] at b2
    exact he.trans _ _ _ hi m1 hj a2 (he.symm _ _ hj m1 b2)
  · intro h
    exact zoo he (zej he N (Nat.le_refl _)) hF hj a1 b1 (he.trans _ _ _ hj hi m1 (he.symm _ _ hi hj h) a2) b2
def z2w (d : DFA) (m n : Nat) (S : List Nat) (i j : Nat) : Bool := z3k d m n S i j && z3k d m n S j i
theorem zba {d : DFA} {m n : Nat} (hd : DfaOk d m n) {S : List Nat} (hS : SetsP d m n S) : EqvN S.length (z2w d m n S) where
  refl i hi := by
    have := (z4x hd hS hi (i := i)).2 (zl0 d m _)
    simp [z2w, this]
  symm i j hi hj h := by
    simp only [z2w, Bool.and_eq_true] at h ⊢
    exact ⟨h.2, h.1⟩
  trans i j k hi hj hk h1 h2 := by
    simp only [z2w, Bool.and_eq_true] at h1 h2 ⊢
    exact ⟨(z4x hd hS hk).2 (zex hd ((z4x hd hS hj).1 h1.1) ((z4x hd hS hk).1 h2.1)), (z4x hd hS hi).2 (zex hd ((z4x hd hS hj).1 h2.2) ((z4x hd hS hi).1 h1.2))⟩
theorem zl2 {d : DFA} {m n : Nat} {S : List Nat} {i : Nat} (hi : i < S.length) : atI (zpV d m n S) (i : Int) = some ((List.range S.length).map (z3k d m n S i)) := z2V hi
def zmI (d : DFA) (m n : Nat) (S : List Nat) : List Int := (List.range S.length).map fun i => ((z6P (z2w d m n S) S.length i : Nat) : Int)
def zjB (d : DFA) (m n : Nat) (S : List Nat) : List Nat := z1z (z2w d m n S) S.length
theorem zmJ {d : DFA} {m n : Nat} (hd : DfaOk d m n) (hn : n ≤ 12) {S : List Nat} (hS : SetsP d m n S) : z2A (dgm d m n S) = some (zmI d m n S, toI (zjB d m n S)) := by
  have h12 := zcb hn
  have hSl := z1m hS.nd hS.lt
  have he := zba hd hS
  unfold z2A
  have ed : (dgm d m n S).sets = toI S := rfl
  have eb : (dgm d m n S).below = zpV d m n S := rfl
  rw [ed, z0s, z0Y _ (by unfold z1Y; omega), Int.toNat_natCast]
  have f1 : List.replicate S.length (0 : Int) = z1F S.length (fun i => ((z6P (z2w d m n S) S.length i : Nat) : Int)) 0 0 := (z7c _ _ _).symm
  rw [f1]
  refine z1C (s := ((0 : Int), z1F S.length (fun i => ((z6P (z2w d m n S) S.length i : Nat) : Int)) 0 0, ([] : List Int))) S.length (fun k => ((k : Int), z1F S.length (fun i => ((z6P (z2w d m n S) S.length i : Nat) : Int)) 0 k, toI (z1z (z2w d m n S) k))) rfl (by simp only [LFm]; omega) (fun i hi => ?_) ?_
  · have hF := zei (z2w d m n S) i
    have hFl := zb8 (z2w d m n S) i
    have hap := zej he i (by omega)
    have hcl := zqn he hi
    simp only [z2K]
    rw [ed, if_pos (by rw [z0s]; omega), z5w hi, Option.bind_some, z0s, Int.toNat_natCast]
    generalize hL : z1F S.length (fun i => ((z6P (z2w d m n S) S.length i : Nat) : Int)) 0 i = L at *
    have hLl : L.length = S.length := by rw [← hL, z9J]
    have hstep : ∀ c, c < (z1z (z2w d m n S) i).length → (z2w d m n S i ((z1z (z2w d m n S) i).getD c 0) = true ↔ (z1z (z2w d m n S) i).findIdx (z2w d m n S i) = c) := fun c hc => by
      constructor
      · intro h
        have hex : (z1z (z2w d m n S) i).findIdx (z2w d m n S i) < (z1z (z2w d m n S) i).length := List.findIdx_lt_length_of_exists ⟨_, z1q hc, h⟩
        have hp : z2w d m n S i ((z1z (z2w d m n S) i).getD ((z1z (z2w d m n S) i).findIdx (z2w d m n S i)) 0) = true := by
          rw [List.getD, List.getElem?_eq_getElem hex, Option.getD_some]
          exact List.findIdx_getElem (w := hex)
        exact zoo he hap (fun f hf => by have := hFl f hf; omega) hi hex hc hp h
      · intro h
        have hex : (z1z (z2w d m n S) i).findIdx (z2w d m n S i) < (z1z (z2w d m n S) i).length := by omega
        have hp : z2w d m n S i ((z1z (z2w d m n S) i)[(z1z (z2w d m n S) i).findIdx (z2w d m n S i)]) = true := List.findIdx_getElem (w := hex)
        rw [← h, List.getD, List.getElem?_eq_getElem hex, Option.getD_some]
        exact hp
    refine z1C (s := ((0 : Int), L.set i (((z1z (z2w d m n S) i).length : Nat) : Int))) (z1z (z2w d m n S) i).length (fun c => ((c : Int), L.set i (((if (z1z (z2w d m n S) i).findIdx (z2w d m n S i) < c then (z1z (z2w d m n S) i).findIdx (z2w d m n S i) else (z1z (z2w d m n S) i).length : Nat)) : Int))) (by simp) (by simp only [LFm]; omega) (fun c hc => ?_) ?_
    · have hf := hFl _ (z1q hc)
      simp only [z2J]
      rw [eb, if_pos (by rw [z0s]; omega), z2B hc, Option.bind_some, zl2 hi, Option.bind_some, z2V (by omega), Option.bind_some, z1R (by omega)]
      by_cases h1 : z3k d m n S i ((z1z (z2w d m n S) i).getD c 0) = true
      · rw [if_pos h1, zl2 (by omega), Option.bind_some, z2V hi, Option.bind_some]
        by_cases h2 : z3k d m n S ((z1z (z2w d m n S) i).getD c 0) i = true
        · have := (hstep c hc).1 ((Bool.and_eq_true _ _).mpr ⟨h1, h2⟩)
          rw [if_pos h2, zfI (by omega), Option.bind_some, Int.toNat_natCast, zdS, this, if_pos (by omega)]
        · have : ¬ (z1z (z2w d m n S) i).findIdx (z2w d m n S i) = c := fun h => by
            have := (hstep c hc).2 h
            simp only [z2w, Bool.and_eq_true] at this
            exact h2 this.2
          rw [if_neg h2]
          congr 3
          by_cases h3 : (z1z (z2w d m n S) i).findIdx (z2w d m n S i) < c
          · rw [if_pos h3, if_pos (by omega)]
          · rw [if_neg h3, if_neg (by omega)]
      · have : ¬ (z1z (z2w d m n S) i).findIdx (z2w d m n S i) = c := fun h => by
          have := (hstep c hc).2 h
          simp only [z2w, Bool.and_eq_true] at this
          exact h1 this.1
        rw [if_neg h1]
        congr 3
        by_cases h3 : (z1z (z2w d m n S) i).findIdx (z2w d m n S i) < c
        · rw [if_pos h3, if_pos (by omega)]
        · rw [if_neg h3, if_neg (by omega)]
    · have hle : (z1z (z2w d m n S) i).findIdx (z2w d m n S i) ≤ (z1z (z2w d m n S) i).length := List.findIdx_le_length
      have hv : (if (z1z (z2w d m n S) i).findIdx (z2w d m n S i) < (z1z (z2w d m n S) i).length then (z1z (z2w d m n S) i).findIdx (z2w d m n S i) else (z1z (z2w d m n S) i).length) = (z1z (z2w d m n S) i).findIdx (z2w d m n S i) := by split <;> omega
      have hset : L.set i ((z6P (z2w d m n S) S.length i : Nat) : Int) = z1F S.length (fun i => ((z6P (z2w d m n S) S.length i : Nat) : Int)) 0 (i + 1) := by
        rw [← hL]; exact z3T (f := fun i => ((z6P (z2w d m n S) S.length i : Nat) : Int)) (z := 0) hi
      simp only [z2J]
      rw [if_neg (by rw [z0s]; omega), hv, zfI (by omega), Option.bind_some, hcl, hset, z1R (by omega), z0s, z1z]
      by_cases h : (z1z (z2w d m n S) i).any (z2w d m n S i) = true
      · obtain ⟨x, hx, hpx⟩ := List.any_eq_true.1 h
        have := List.findIdx_lt_length_of_exists ⟨x, hx, hpx⟩
        rw [if_pos h, if_neg (by omega)]
      · have e2 : (z1z (z2w d m n S) i).findIdx (z2w d m n S i) = (z1z (z2w d m n S) i).length := List.findIdx_eq_length.2 fun x hx => by
          cases hh : z2w d m n S i x with
          | false => rfl
          | true => exact absurd (List.any_eq_true.2 ⟨x, hx, hh⟩) h
        rw [if_neg h, if_pos (by omega), z0Y _ (by unfold z2Z; omega), z6o]
  · simp only [z2K]
    rw [ed, if_neg (by rw [z0s]; omega), z7b]
    rfl
end Go.Proofs.Ytbnnipkanechoaa
end
section
namespace Go.Proofs.Ytbnnipkanechoaa
open Go
set_option maxRecDepth 100000
def z7d (g : Nat → Nat) : Nat → Nat
  | 0 => 0
  | k + 1 => max (z7d g k) (g k)
theorem zpu {g : Nat → Nat} {k j : Nat} (h : j < k) : g j ≤ z7d g k := by
  induction k with
  | zero => omega
  | succ k ih =>
    simp only [z7d]
    by_cases e : j = k
    · subst e; omega
    · have := ih (by omega); omega
theorem zan {g : Nat → Nat} {k b : Nat} (h : ∀ j, j < k → g j ≤ b) : z7d g k ≤ b := by
  induction k with
  | zero => simp [z7d]
  | succ k ih =>
    have := ih fun j hj => h j (by omega)
    have := h k (by omega)
    simp only [z7d]; omega
theorem zjn {g g' : Nat → Nat} {k : Nat} (h : ∀ j, j < k → g j = g' j) : z7d g k = z7d g' k := by
  induction k with
  | zero => rfl
  | succ k ih => simp only [z7d]; rw [ih fun j hj => h j (by omega), h k (by omega)]
def z7e (p : Nat → Bool) : Nat → Nat
  | 0 => 0
  | k + 1 => z7e p k + (if p k = true then 1 else 0)
theorem zoC (p : Nat → Bool) (k : Nat) : z7e p k ≤ k := by
  induction k with
  | zero => simp [z7e]
  | succ k ih => simp only [z7e]; split <;> omega
theorem zkV {p q : Nat → Bool} {k : Nat} (h : ∀ j, j < k → p j = true → q j = true) : z7e p k ≤ z7e q k := by
  induction k with
  | zero => simp [z7e]
  | succ k ih =>
    have := ih fun j hj => h j (by omega)
    have := h k (by omega)
    simp only [z7e]
    by_cases h1 : p k = true
    · rw [if_pos h1, if_pos (this h1)]; omega
    · rw [if_neg h1]; split <;> omega
theorem zfV {p q : Nat → Bool} {k i : Nat} (h : ∀ j, j < k → p j = true → q j = true) (hi : i < k) (hp : p i = false) (hq : q i = true) : z7e p k < z7e q k := by
  induction k with
  | zero => omega
  | succ k ih =>
    simp only [z7e]
    by_cases e : i = k
    · subst e
      have := zkV (p := p) (q := q) (k := i) fun j hj => h j (by omega)
      rw [hp, hq]; simp; omega
    · have h1 := ih (fun j hj => h j (by omega)) (by omega)
      have := h k (by omega)
      by_cases h2 : p k = true
      · rw [if_pos h2, if_pos (this h2)]; omega
      · rw [if_neg h2]; split <;> omega
structure BelN (N : Nat) (b : Nat → Nat → Bool) : Prop where
  refl : ∀ i, i < N → b i i = true
  trans : ∀ i j k, i < N → j < N → k < N → b i j = true → b j k = true → b i k = true
def zeJ (N : Nat) (b : Nat → Nat → Bool) (i : Nat) : Nat := z7e (fun j => b j i) N
def sbN (b : Nat → Nat → Bool) (j i : Nat) : Bool := b j i && !b i j
theorem zkn {N : Nat} {b : Nat → Nat → Bool} (hb : BelN N b) {i j : Nat} (hi : i < N) (hj : j < N) (h : sbN b j i = true) : zeJ N b j < zeJ N b i := by
  simp only [sbN, Bool.and_eq_true, Bool.not_eq_true'] at h
  exact zfV (fun k hk hkj => hb.trans k j i hk hj hi hkj h.1) hi h.2 (hb.refl i hi)
def zvf (N : Nat) (b : Nat → Nat → Bool) (z : Nat → Bool) (h : Nat → Nat) : Prop := ∀ i, i < N → h i = if z i = true then 0 else z7d (fun j => if sbN b j i = true then h j + 1 else 0) N
def zs8 (N : Nat) (b : Nat → Nat → Bool) (z : Nat → Bool) : Nat → Nat → Nat
  | 0, _ => 0
  | f + 1, i => if z i = true then 0 else z7d (fun j => if sbN b j i = true then zs8 N b z f j + 1 else 0) N
def zjz (N : Nat) (b : Nat → Nat → Bool) (z : Nat → Bool) (i : Nat) : Nat := zs8 N b z N i
theorem zfS {N : Nat} {b : Nat → Nat → Bool} (hb : BelN N b) (z : Nat → Bool) : ∀ f i, i < N → zeJ N b i ≤ f → ∀ g, zeJ N b i ≤ g → zs8 N b z f i = zs8 N b z g i
  | 0, i, hi, hl, g, hg => by
    exfalso
    have := zfV (p := fun _ => false) (q := fun j => b j i) (k := N) (i := i) (fun j _ hf => by simp at hf) hi rfl (hb.refl i hi)
    unfold zeJ at hl; omega
  | f + 1, i, hi, hl, 0, hg => by
    exfalso
    have := zfV (p := fun _ => false) (q := fun j => b j i) (k := N) (i := i) (fun j _ hf => by simp at hf) hi rfl (hb.refl i hi)
    unfold zeJ at hg; omega
  | f + 1, i, hi, hl, g + 1, hg => by
    simp only [zs8]
    split
    · rfl
    · refine zjn fun j hj => ?_
      by_cases hs : sbN b j i = true
      · have := zkn hb hi hj hs
        rw [if_pos hs, if_pos hs, zfS hb z f j hj (by omega) g (by omega)]
      · rw [if_neg hs, if_neg hs]
theorem zkv {N : Nat} {b : Nat → Nat → Bool} (hb : BelN N b) (z : Nat → Bool) : zvf N b z (zjz N b z) := fun i hi => by
  have hl : zeJ N b i ≤ N := zoC _ _
  unfold zjz
  rw [zfS hb z N i hi hl (N + 1) (by omega)]
  rfl
theorem zij {N : Nat} {b : Nat → Nat → Bool} (hb : BelN N b) (z : Nat → Bool) {i : Nat} (hi : i < N) : zjz N b z i ≤ N := by
  have : ∀ L i, i < N → zeJ N b i ≤ L → zjz N b z i ≤ L := by
    intro L
    induction L with
    | zero =>
      intro i hi hl
      exfalso
      have := zfV (p := fun _ => false) (q := fun j => b j i) (k := N) (i := i) (fun j _ hf => by simp at hf) hi rfl (hb.refl i hi)
      unfold zeJ at hl; omega
    | succ L ih =>
      intro i hi hl
      rw [zkv hb z i hi]
      split
      · omega
      · refine zan fun j hj => ?_
        by_cases hs : sbN b j i = true
        · have := zkn hb hi hj hs
          have := ih j hj (by omega)
          rw [if_pos hs]; omega
        · rw [if_neg hs]; omega
  exact this N i hi (zoC _ _)
theorem zl1 {d : DFA} {m n : Nat} (hd : DfaOk d m n) {S : List Nat} (hS : SetsP d m n S) : BelN S.length (z3k d m n S) where
  refl i hi := (z4x hd hS hi).2 (zl0 d m _)
  trans i j k hi hj hk h1 h2 := (z4x hd hS hk).2 (zex hd ((z4x hd hS hj).1 h1) ((z4x hd hS hk).1 h2))
theorem znr {s : Nat} (h : s < 128) : z5s (s : Int) = some ((szN s : Nat) : Int) := by
  unfold z5s z3S
  rw [ziG (by omega)]
  have : z2L (s : Int) = some ((szN s : Nat) : Int) := by
    unfold z2L
    rw [z0Y _ (by omega), z0Y _ (by omega), z0Y _ (by omega), z0Y _ (by omega), z0Y _ (by omega), z0Y _ (by omega)]
    congr 1
    revert s
    decide +kernel
  rw [this]; rfl
def z9c (S : List Nat) (i : Nat) : Bool := decide (szN (S.getD i 0) = 1)
def z7Z (d : DFA) (m n : Nat) (S : List Nat) (i : Nat) : Nat := zjz S.length (z3k d m n S) (z9c S) i
def zqZ (d : DFA) (m n : Nat) (S : List Nat) : List Int := (List.range S.length).map fun i => ((z7Z d m n S i : Nat) : Int)
theorem zne (N : Nat) : toI (List.range N) = (List.range N).map fun i => ((i : Nat) : Int) := rfl
theorem zmf {d : DFA} {m n : Nat} {S : List Nat} (hl : S.length < 4611686018427387904) {i : Nat} (hi : i < S.length) (C O : List Int) (L : List Int) (hL : L.length = S.length) (h0 : L.getD i 0 = 0) :
    z0W (z2d (dgm d m n S) (i : Int) O) LFm (0, L) = z0B (((i + 1 : Nat) : Int), L.set i ((zeJ S.length (z3k d m n S) i : Nat) : Int), O.set i (i : Int)) := by
  refine z1C (s := ((0 : Int), L)) S.length (fun k => ((k : Int), L.set i ((z7e (fun j => z3k d m n S j i) k : Nat) : Int))) ?_ (by simp only [LFm]; omega) (fun k hk => ?_) ?_
  · refine Prod.ext rfl ?_
    show L = L.set i 0
    apply List.ext_getElem (by simp)
    intro j h1 h2
    rw [List.getElem_set]
    by_cases e : i = j
    · subst e
      rw [if_pos rfl]
      rw [List.getD, List.getElem?_eq_getElem h1, Option.getD_some] at h0
      exact h0
    · rw [if_neg e]
  · have hc := zoC (fun j => z3k d m n S j i) k
    have ed : (dgm d m n S).sets = toI S := rfl
    have eb : (dgm d m n S).below = zpV d m n S := rfl
    simp only [z2d]
    rw [ed, eb, if_pos (by rw [z0s]; omega), zl2 hk, Option.bind_some, z2V hi, Option.bind_some, z1R (by omega)]
    simp only [z7e]
    by_cases h : z3k d m n S k i = true
    · rw [if_pos h, if_pos h, zfI (by omega), Option.bind_some, Int.toNat_natCast, zdS, z1R (by omega)]
    · rw [if_neg h, if_neg h]; rfl
  · have ed : (dgm d m n S).sets = toI S := rfl
    simp only [z2d]
    rw [ed, if_neg (by rw [z0s]; omega), z1R (by omega), Int.toNat_natCast]
    rfl
theorem zoh {d : DFA} {m n : Nat} (hd : DfaOk d m n) {S : List Nat} (hS : SetsP d m n S) (hl : S.length < 100000) (k : Int) {i : Nat} (hi : i < S.length) {H : Nat → Nat} (h0 : H i = 0) (hlow : ∀ j, j < S.length → sbN (z3k d m n S) j i = true → H j = z7Z d m n S j) :
    z0W (z1W (dgm d m n S) (zmI d m n S) k (i : Int)) LFm (0, (List.range S.length).map fun j => ((H j : Nat) : Int)) = z0B (IntKind.i64.wrap (k + 1), (List.range S.length).map fun j => (((if j = i then z7d (fun j => if sbN (z3k d m n S) j i = true then z7Z d m n S j + 1 else 0) S.length else H j) : Nat) : Int)) := by
  have he := zba hd hS
  have hb := zl1 hd hS
  have ed : (dgm d m n S).sets = toI S := rfl
  have eb : (dgm d m n S).below = zpV d m n S := rfl
  refine z1C (s := ((0 : Int), (List.range S.length).map fun j => ((H j : Nat) : Int))) S.length (fun q => ((q : Int), (List.range S.length).map fun j => (((if j = i then z7d (fun j => if sbN (z3k d m n S) j i = true then z7Z d m n S j + 1 else 0) q else H j) : Nat) : Int))) ?_ (by simp only [LFm]; omega) (fun q hq => ?_) ?_
  · refine Prod.ext rfl ?_
    refine List.map_congr_left fun j hj => ?_
    by_cases e : j = i
    · subst e; simp [z7d, h0]
    · rw [if_neg e]
  · have hle := zij hb (z9c S) hq
    have hmx : z7d (fun j => if sbN (z3k d m n S) j i = true then z7Z d m n S j + 1 else 0) q ≤ S.length + 1 := zan fun j hj => by
      have := zij hb (z9c S) (i := j) (by omega)
      unfold z7Z; split <;> omega
    have hse : z3k d m n S q i = true → (sbN (z3k d m n S) q i = true ↔ ¬ z6P (z2w d m n S) S.length q = z6P (z2w d m n S) S.length i) := fun h => by
      rw [zgx he hq hi]
      simp only [sbN, z2w, h, Bool.true_and, Bool.not_eq_true', Bool.not_eq_true]
    have hfin : ∀ v : Nat, v = (if sbN (z3k d m n S) q i = true then max (z7d (fun j => if sbN (z3k d m n S) j i = true then z7Z d m n S j + 1 else 0) q) (z7Z d m n S q + 1) else z7d (fun j => if sbN (z3k d m n S) j i = true then z7Z d m n S j + 1 else 0) q) → ((List.range S.length).map fun j => (((if j = i then v else H j) : Nat) : Int)) = (List.range S.length).map fun j => (((if j = i then z7d (fun j => if sbN (z3k d m n S) j i = true then z7Z d m n S j + 1 else 0) (q + 1) else H j) : Nat) : Int) := fun v hv => by
      refine List.map_congr_left fun j hj => ?_
      by_cases e : j = i
      · rw [if_pos e, if_pos e, hv]
        simp only [z7d]
        by_cases h : sbN (z3k d m n S) q i = true
        · rw [if_pos h, if_pos h]
        · rw [if_neg h, if_neg h]; congr 1; omega
      · rw [if_neg e, if_neg e]
    simp only [z1W]
    rw [ed, eb, if_pos (by rw [z0s]; omega), zl2 hq, Option.bind_some, z2V hi, Option.bind_some, z1R (by omega)]
    by_cases h : z3k d m n S q i = true
    · rw [if_pos h, zmI, z2V hq, Option.bind_some, z2V hi, Option.bind_some]
      by_cases hc : z6P (z2w d m n S) S.length q = z6P (z2w d m n S) S.length i
      · have hs : ¬ sbN (z3k d m n S) q i = true := fun hh => (hse h).1 hh hc
        rw [if_pos (by rw [hc]), hfin _ (by rw [if_neg hs])]
      · have hs := (hse h).2 hc
        have hqi : q ≠ i := fun e => by subst e; exact hc rfl
        rw [if_neg (by omega), z2V hi, Option.bind_some, z2V hq, Option.bind_some, if_pos rfl, if_neg hqi, hlow q hq hs, z1R (by unfold z7Z; omega), Int.toNat_natCast]
        have hset : ∀ v : Nat, ((List.range S.length).map fun j => (((if j = i then z7d (fun j => if sbN (z3k d m n S) j i = true then z7Z d m n S j + 1 else 0) q else H j) : Nat) : Int)).set i (v : Int) = (List.range S.length).map fun j => (((if j = i then v else H j) : Nat) : Int) := fun v => by
          apply List.ext_getElem (by simp)
          intro j h1 h2
          simp only [List.getElem_set, List.getElem_map, List.getElem_range]
          by_cases e : i = j
          · subst e; rw [if_pos rfl, if_pos rfl]
          · rw [if_neg e, if_neg (fun hh => e hh.symm), if_neg (fun hh => e hh.symm)]
        by_cases hlt : ((z7d (fun j => if sbN (z3k d m n S) j i = true then z7Z d m n S j + 1 else 0) q : Nat) : Int) < ((z7Z d m n S q + 1 : Nat) : Int)
        · rw [if_pos hlt, hset, hfin _ (by rw [if_pos hs]; omega)]
        · rw [if_neg hlt, hset, hfin _ (by rw [if_pos hs]; omega)]
    · have hs : ¬ sbN (z3k d m n S) q i = true := fun hh => by simp only [sbN, Bool.and_eq_true] at hh; exact h hh.1
      rw [if_neg h, hfin _ (by rw [if_neg hs])]
  · simp only [z1W]
    rw [ed, if_neg (by rw [z0s]; omega)]
theorem zmu {d : DFA} {m n : Nat} (hd : DfaOk d m n) (hn : n ≤ 7) {S : List Nat} (hS : SetsP d m n S) : z2z (dgm d m n S) (zmI d m n S) = some (zqZ d m n S) := by
  have h128 : 2 ^ n ≤ 128 := Nat.pow_le_pow_right (n := 2) (by omega) hn
  have hSl := z1m hS.nd hS.lt
  have hb := zl1 hd hS
  have he := zba hd hS
  have ed : (dgm d m n S).sets = toI S := rfl
  unfold z2z
  rw [ed, z0s, z0Y _ (by unfold z1Y; omega), Int.toNat_natCast]
  have f1 : List.replicate S.length (0 : Int) = z1F S.length (fun i => ((zeJ S.length (z3k d m n S) i : Nat) : Int)) 0 0 := (z7c _ _ _).symm
  have f2 : (List.replicate S.length (0 : Int)) = z1F S.length (fun i => ((i : Nat) : Int)) 0 0 := (z7c _ _ _).symm
  conv => lhs; arg 3; rw [show ((0 : Int), List.replicate S.length (0 : Int), List.replicate S.length (0 : Int)) = ((0 : Int), z1F S.length (fun i => ((zeJ S.length (z3k d m n S) i : Nat) : Int)) 0 0, z1F S.length (fun i => ((i : Nat) : Int)) 0 0) by rw [← f1, ← f2]]
  refine z1C (s := ((0 : Int), z1F S.length (fun i => ((zeJ S.length (z3k d m n S) i : Nat) : Int)) 0 0, z1F S.length (fun i => ((i : Nat) : Int)) 0 0)) S.length (fun k => ((k : Int), z1F S.length (fun i => ((zeJ S.length (z3k d m n S) i : Nat) : Int)) 0 k, z1F S.length (fun i => ((i : Nat) : Int)) 0 k)) rfl (by simp only [LFm]; omega) (fun i hi => ?_) ?_
  · simp only [z2I]
    rw [ed, if_pos (by rw [z0s]; omega), z5w hi, Option.bind_some, zmf (by omega) hi [] _ _ (z9J _ _ _ _) (by simp [z1F, List.getD, hi])]
    have e1 := z3T (f := fun i => ((zeJ S.length (z3k d m n S) i : Nat) : Int)) (z := 0) hi
    have e2 := z3T (f := fun i => ((i : Nat) : Int)) (z := 0) hi
    rw [e1, e2]
  · simp only [z2I]
    rw [ed, if_neg (by rw [z0s]; omega), z7b, z7b]
    have hK : ((List.range S.length).map fun i => ((zeJ S.length (z3k d m n S) i : Nat) : Int)).length = S.length := by simp
    have hv : zgF ((List.range S.length).map fun i => ((zeJ S.length (z3k d m n S) i : Nat) : Int)) (toI (List.range S.length)) := fun x hx => by
      simp only [toI, List.mem_map, List.mem_range] at hx
      obtain ⟨i, hi, rfl⟩ := hx
      exact ⟨by omega, by rw [hK]; omega⟩
    obtain ⟨O, hO, hs, hp⟩ := zno hv (by rw [z0s, List.length_range]; omega)
    rw [← zne, hO, Option.bind_some, z0s, z0Y _ (by unfold z1Y; omega), Int.toNat_natCast]
    have hOl : O.length = S.length := by rw [hp.length_eq, z0s, List.length_range]
    have hOn : O.Nodup := hp.nodup_iff.2 (by
      unfold toI
      exact List.Pairwise.map _ (fun a b h e => h (by omega)) List.nodup_range)
    have hmem : ∀ x, x ∈ O ↔ ∃ i, i < S.length ∧ x = (i : Int) := fun x => by
      rw [hp.mem_iff]; simp only [toI, List.mem_map, List.mem_range]
      constructor
      · rintro ⟨i, hi, rfl⟩; exact ⟨i, hi, rfl⟩
      · rintro ⟨i, hi, rfl⟩; exact ⟨i, hi, rfl⟩
    have hkv : ∀ i, i < S.length → kv ((List.range S.length).map fun i => ((zeJ S.length (z3k d m n S) i : Nat) : Int)) (i : Int) = ((zeJ S.length (z3k d m n S) i : Nat) : Int) := fun i hi => by
      simp [kv, List.getD, hi]
    congr 1
    have f3 : List.replicate S.length (0 : Int) = (List.range S.length).map fun (j : Nat) => (((if (j : Int) ∈ O.take 0 then z7Z d m n S j else 0) : Nat) : Int) := by
      apply List.ext_getElem (by simp); intro i h1 h2; simp
    rw [f3]
    refine z1C (s := ((0 : Int), (List.range S.length).map fun (j : Nat) => (((if (j : Int) ∈ O.take 0 then z7Z d m n S j else 0) : Nat) : Int))) S.length (fun k => ((k : Int), (List.range S.length).map fun (j : Nat) => (((if (j : Int) ∈ O.take k then z7Z d m n S j else 0) : Nat) : Int))) rfl (by simp only [LFm]; omega) (fun k hk => ?_) ?_
    · have hkO : k < O.length := by omega
      obtain ⟨i, hi, hOk⟩ := (hmem O[k]).1 (List.getElem_mem hkO)
      have hnot : (i : Int) ∉ O.take k := fun h => by
        obtain ⟨j, hj, hji⟩ := List.getElem_of_mem h
        rw [List.length_take] at hj
        rw [List.getElem_take, ← hOk] at hji
        have := (List.getElem_inj hOn).1 hji
        omega
      have htake : ∀ j : Nat, (j : Int) ∈ O.take (k + 1) ↔ (j = i ∨ (j : Int) ∈ O.take k) := fun j => by
        rw [List.take_succ_eq_append_getElem hkO, List.mem_append, List.mem_singleton, hOk]
        constructor
        · rintro (h | h)
          · exact .inr h
          · exact .inl (by omega)
        · rintro (h | h)
          · exact .inr (by omega)
          · exact .inl h
      have hupd : ((List.range S.length).map fun (j : Nat) => (((if j = i then z7Z d m n S i else if (j : Int) ∈ O.take k then z7Z d m n S j else 0) : Nat) : Int)) = (List.range S.length).map fun (j : Nat) => (((if (j : Int) ∈ O.take (k + 1) then z7Z d m n S j else 0) : Nat) : Int) := by
        refine List.map_congr_left fun j hj => ?_
        by_cases e : j = i
        · subst e; rw [if_pos rfl, if_pos ((htake j).2 (.inl rfl))]
        · rw [if_neg e]
          by_cases h : (j : Int) ∈ O.take k
          · rw [if_pos h, if_pos ((htake j).2 (.inr h))]
          · rw [if_neg h, if_neg (fun hh => ((htake j).1 hh).elim e h)]
      have hlt128 : S.getD i 0 < 2 ^ n := hS.lt _ (z1q hi)
      simp only [z2v]
      rw [if_pos (by omega), z2p hkO, Option.bind_some, hOk, ed, z2B hi, Option.bind_some, znr (by omega), Option.bind_some]
      have hok := zkv hb (z9c S) i hi
      by_cases hz : szN (S.getD i 0) = 1
      · rw [if_pos (by omega), z1R (by omega)]
        have hh : z7Z d m n S i = 0 := by
          unfold z7Z; rw [hok, if_pos (by simp only [z9c, hz, decide_true])]
        refine congrArg z0B (Prod.ext rfl ?_)
        refine List.map_congr_left fun j hj => ?_
        by_cases e : j = i
        · subst e; rw [if_neg hnot, if_pos ((htake j).2 (.inl rfl)), hh]
        · by_cases h : (j : Int) ∈ O.take k
          · rw [if_pos h, if_pos ((htake j).2 (.inr h))]
          · rw [if_neg h, if_neg (fun hh => ((htake j).1 hh).elim e h)]
      · rw [if_neg (by omega), zoh hd hS (by omega) (k : Int) hi (H := fun (j : Nat) => if (j : Int) ∈ O.take k then z7Z d m n S j else 0) (if_neg hnot) (fun j hj hsb => ?_), z1R (by omega)]
        · have hh : z7d (fun j => if sbN (z3k d m n S) j i = true then z7Z d m n S j + 1 else 0) S.length = z7Z d m n S i := by
            have : z7Z d m n S i = _ := hok
            rw [this, if_neg (by simp only [z9c, hz, decide_false]; simp)]; rfl
          rw [hh, hupd]
        · have hl := zkn hb hi hj hsb
          have hjO : (j : Int) ∈ O := (hmem _).2 ⟨j, hj, rfl⟩
          obtain ⟨p, hpO, hpj⟩ := List.getElem_of_mem hjO
          refine if_pos ?_
          rcases Nat.lt_trichotomy p k with h | h | h
          · rw [← hpj]
            exact List.mem_take_iff_getElem.2 ⟨p, by omega, rfl⟩
          · subst h
            rw [hOk] at hpj
            have : i = j := by omega
            subst this; omega
          · have := List.pairwise_iff_getElem.1 hs k p hkO hpO h
            rw [hOk, hpj, hkv i hi, hkv j hj] at this
            omega
    · simp only [z2v]
      rw [if_neg (by omega)]
      congr 2
      unfold zqZ
      refine List.map_congr_left fun j hj => ?_
      rw [List.take_of_length_le (by omega), if_pos ((hmem _).2 ⟨j, List.mem_range.1 hj, rfl⟩)]
end Go.Proofs.Ytbnnipkanechoaa
end
section
namespace Go.Proofs.Ytbnnipkanechoaa
open Go
set_option maxRecDepth 100000
def zcG (S : List Nat) (i j : Nat) : Bool := !decide (j = i) && decide (S.getD j 0 &&& S.getD i 0 = S.getD j 0)
def zeD (S : List Nat) (i : Nat) : List Nat := (List.range S.length).filter (zcG S i)
def zeF (S : List Nat) (i j : Nat) : Bool := (zeD S i).all fun k => decide (k = j) || !decide (S.getD j 0 &&& S.getD k 0 = S.getD j 0)
def zcu (S : List Nat) (i : Nat) : List Nat := if szN (S.getD i 0) = 1 then [] else (zeD S i).filter (zeF S i)
theorem zeq {α : Type} {p : α → Bool} {l : List α} {k : Nat} (h : k < l.length) : (l.take (k + 1)).filter p = (l.take k).filter p ++ (if p l[k] = true then [l[k]] else []) := by
  rw [List.take_succ_eq_append_getElem h, List.filter_append, List.filter_cons, List.filter_nil]
theorem zoe {S : List Nat} {i j : Nat} (h : j ∈ zeD S i) : j < S.length := List.mem_range.1 (List.mem_filter.1 h).1
theorem zcj {α : Type} (p : α → Bool) (l : List α) : (l.filter p).length ≤ l.length := List.length_filter_le p l
theorem zp7 {d : DFA} {m n : Nat} (hn : n ≤ 7) {S : List Nat} (hS : SetsP d m n S) {i : Nat} (hi : i < S.length) : z3a (dgm d m n S) (i : Int) = some (toI (zcu S i)) := by
  have h128 : 2 ^ n ≤ 128 := Nat.pow_le_pow_right (n := 2) (by omega) hn
  have hSl := z1m hS.nd hS.lt
  have ed : (dgm d m n S).sets = toI S := rfl
  have lt62 : ∀ j, j < S.length → S.getD j 0 < 2 ^ 62 := fun j hj => by have := hS.lt _ (z1q hj); omega
  have hil := hS.lt _ (z1q hi)
  unfold z3a zcu
  rw [ed, z2B hi, Option.bind_some, znr (by omega), Option.bind_some]
  by_cases hz : szN (S.getD i 0) = 1
  · rw [if_pos (by omega), if_pos hz]; rfl
  rw [if_neg (by omega), if_neg hz]
  have hrl : (List.range S.length).length = S.length := List.length_range
  refine z1C (s := ((0 : Int), ([] : List Int))) S.length (fun j => ((j : Int), toI (((List.range S.length).take j).filter (zcG S i)))) rfl (by simp only [LFm]; omega) (fun j hj => ?_) ?_
  · have hfl : (((List.range S.length).take j).filter (zcG S i)).length ≤ j := Nat.le_trans (zcj _ _) (by rw [List.length_take]; omega)
    have hst := zeq (p := zcG S i) (l := List.range S.length) (k := j) (by omega)
    rw [List.getElem_range] at hst
    simp only [z3b]
    rw [ed, if_pos (by rw [z0s]; omega), z2B hj, Option.bind_some, z1R (by omega), hst]
    by_cases e : j = i
    · have : zcG S i j = false := by unfold zcG; rw [decide_eq_true e]; rfl
      rw [if_pos (by omega), this, if_neg (by simp), List.append_nil]
    · rw [if_neg (by omega), z2B hi, Option.bind_some, zaq (lt62 i hi) (lt62 j hj), Option.bind_some]
      have : zcG S i j = decide (S.getD j 0 &&& S.getD i 0 = S.getD j 0) := by unfold zcG; rw [decide_eq_false e]; rfl
      rw [this]
      by_cases h : decide (S.getD j 0 &&& S.getD i 0 = S.getD j 0) = true
      · rw [if_pos h, if_pos h, z0Y _ (by unfold z2Z; rw [z0s]; omega), z6o]
      · rw [if_neg h, if_neg h, List.append_nil]
  · simp only [z3b]
    rw [ed, if_neg (by rw [z0s]; omega), List.take_of_length_le (by omega)]
    congr 1
    have hil : (zeD S i).length ≤ S.length := Nat.le_trans (zcj _ _) (by omega)
    show z0W (z2l (dgm d m n S) (toI (zeD S i))) LFm (0, []) = _
    refine z1C (s := ((0 : Int), ([] : List Int))) (zeD S i).length (fun q => ((q : Int), toI (((zeD S i).take q).filter (zeF S i)))) rfl (by simp only [LFm]; omega) (fun q hq => ?_) ?_
    · have hfl : (((zeD S i).take q).filter (zeF S i)).length ≤ q := Nat.le_trans (zcj _ _) (by rw [List.length_take]; omega)
      have hst := zeq (p := zeF S i) (l := zeD S i) (k := q) hq
      have hg : (zeD S i).getD q 0 = (zeD S i)[q] := by rw [List.getD, List.getElem?_eq_getElem hq, Option.getD_some]
      have hjl : (zeD S i)[q] < S.length := zoe (List.getElem_mem hq)
      simp only [z2l]
      rw [if_pos (by rw [z0s]; omega), z2B hq, Option.bind_some, hg, hst]
      generalize (zeD S i)[q] = j at hjl
      rw [z8S (s := (0 : Int)) (zeD S i).length (fun k => (k : Int)) (fun k => !(decide ((zeD S i).getD k 0 = j) || !decide (S.getD j 0 &&& S.getD ((zeD S i).getD k 0) 0 = S.getD j 0))) (fun _ => z0B (((q + 1 : Nat) : Int), toI (((zeD S i).take q).filter (zeF S i)))) (x := z0B (((q + 1 : Nat) : Int), toI (((zeD S i).take q).filter (zeF S i)) ++ [(j : Int)])) rfl (by simp only [LFm]; omega)]
      · rw [zkI]
        simp only [Bool.not_not]
        rw [zhR (fun k => decide (k = j) || !decide (S.getD j 0 &&& S.getD k 0 = S.getD j 0))]
        show (if zeF S i j = true then _ else _) = _
        by_cases h : zeF S i j = true
        · rw [if_pos h, if_pos h, z6o]
        · rw [if_neg h, if_neg h, List.append_nil]
      · intro k hk
        have hkl : (zeD S i).getD k 0 < S.length := zoe (z1q hk)
        simp only [z2W]
        rw [if_pos (by rw [z0s]; omega), z2B hk, Option.bind_some]
        by_cases e : (zeD S i).getD k 0 = j
        · rw [if_pos (by omega), decide_eq_true e, z1R (by omega)]; rfl
        · rw [if_neg (by omega), decide_eq_false e, ed, z2B hkl, Option.bind_some, z2B hjl, Option.bind_some, zaq (lt62 _ hkl) (lt62 _ hjl), Option.bind_some, Bool.false_or, Bool.not_not, z1R (by omega), z1R (by omega)]
      · simp only [z2W]
        rw [if_neg (by rw [z0s]; omega), z0Y _ (by unfold z2Z; rw [z0s]; omega), z1R (by omega)]
    · simp only [z2l]
      rw [if_neg (by rw [z0s]; omega), List.take_length]
def z5l (d : DFA) (m n : Nat) (S : List Nat) (i : Nat) : Nat := (zjB d m n S).getD (z6P (z2w d m n S) S.length i) 0
def zeR (d : DFA) (m n : Nat) (S : List Nat) (i : Nat) : ByteArray := z7K (z1p d m n (S.getD (z5l d m n S i) 0)) (S.getD i 0)
def zjQ (d : DFA) (m n : Nat) (S : List Nat) (i : Nat) : ByteArray := z7K (z1p d m n (S.getD i 0)) (S.getD (z5l d m n S i) 0)
def z6k (d : DFA) (m n : Nat) (S : List Nat) : Imgs := ⟨toI S, zmI d m n S, zqZ d m n S, (List.range S.length).map fun i => toI (zcu S i), (List.range S.length).map (zeR d m n S), (List.range S.length).map (zjQ d m n S)⟩
theorem zop {d : DFA} {m n : Nat} {S : List Nat} {c : Nat} (hc : c < (zjB d m n S).length) : (zjB d m n S).getD c 0 < S.length := zb8 _ _ _ (z1q hc)
theorem ziH {d : DFA} {m n : Nat} (hd : DfaOk d m n) {S : List Nat} (hS : SetsP d m n S) (hSl : S.length < 100000) {c : Nat} (hc : c < (zjB d m n S).length) (q : List Int) :
    z0W (z5h (toI S) (zmI d m n S, toI (zjB d m n S)) (c : Int) (q, zgJ S (z1p d m n (S.getD ((zjB d m n S).getD c 0) 0)))) LFm (0, (List.range S.length).map fun j => if z6P (z2w d m n S) S.length j < c then zeR d m n S j else ByteArray.empty) =
      z0B (((c + 1 : Nat) : Int), (List.range S.length).map fun j => if z6P (z2w d m n S) S.length j < c + 1 then zeR d m n S j else ByteArray.empty) := by
  have hcl : (zjB d m n S).length ≤ S.length := zei _ _
  refine z1C (s := ((0 : Int), (List.range S.length).map fun j => if z6P (z2w d m n S) S.length j < c then zeR d m n S j else ByteArray.empty)) S.length (fun k => ((k : Int), (List.range S.length).map fun j => if z6P (z2w d m n S) S.length j < c ∨ (z6P (z2w d m n S) S.length j = c ∧ j < k) then zeR d m n S j else ByteArray.empty)) ?_ (by simp only [LFm]; omega) (fun k hk => ?_) ?_
  · refine Prod.ext rfl (List.map_congr_left fun j hj => ?_)
    simp
  · simp only [z5h]
    rw [if_pos (by rw [z0s]; omega), zmI, z2V hk, Option.bind_some, z1R (by omega)]
    by_cases h : z6P (z2w d m n S) S.length k = c
    · have hw : z7K (z1p d m n (S.getD ((zjB d m n S).getD c 0) 0)) (S.getD k 0) = zeR d m n S k := by unfold zeR z5l; rw [h]
      rw [if_pos (by omega), zgJ, z2V hk, Option.bind_some, hw, z2V hk, Option.bind_some, Int.toNat_natCast]
      refine congrArg z0B (Prod.ext rfl ?_)
      apply List.ext_getElem (by simp)
      intro j h1 h2
      simp only [List.getElem_set, List.getElem_map, List.getElem_range]
      by_cases e : k = j
      · subst e; rw [if_pos rfl, if_pos (.inr ⟨h, by omega⟩)]
      · rw [if_neg e]
        congr 1
        refine propext ⟨fun hh => hh.imp id fun hh => ⟨hh.1, by omega⟩, fun hh => hh.imp id fun hh => ⟨hh.1, by omega⟩⟩
    · rw [if_neg (by omega)]
      refine congrArg z0B (Prod.ext rfl (List.map_congr_left fun j hj => ?_))
      congr 1
      refine propext ⟨fun hh => hh.imp id fun hh => ⟨hh.1, by omega⟩, fun hh => hh.imp id fun hh => ⟨hh.1, ?_⟩⟩
      have : j ≠ k := fun e => h (e ▸ hh.1)
      omega
  · simp only [z5h]
    rw [if_neg (by rw [z0s]; omega), z1R (by omega)]
    congr 3
    refine List.map_congr_left fun j hj => ?_
    have hj := List.mem_range.1 hj
    congr 1
    refine propext ⟨fun hh => ?_, fun hh => ?_⟩
    · rcases hh with hh | hh <;> omega
    · by_cases e : z6P (z2w d m n S) S.length j = c
      · exact .inr ⟨e, hj⟩
      · exact .inl (by omega)
theorem zve {d : DFA} {m n : Nat} (hd : DfaOk d m n) (hn : n ≤ 7) : z8W d = some (z6k d m n (zdR d m n), 0) := by
  have h128 : 2 ^ n ≤ 128 := Nat.pow_le_pow_right (n := 2) (by omega) hn
  have hS := zjc hd
  have hSl := z1m hS.nd hS.lt
  have he := zba hd hS
  unfold z8W
  rw [ziJ (zql hd (by omega)), zqf hd (by omega), Option.bind_some, if_pos rfl, zqR hd hn, Option.bind_some]
  generalize zdR d m n = S at hS hSl he
  have hcl : (zjB d m n S).length ≤ S.length := zei _ _
  rw [if_neg (by rw [z0s]; omega), zmD hd (by omega) hS, Option.bind_some, zmJ hd (by omega) hS, Option.bind_some]
  simp only
  rw [zmu hd hn hS, Option.bind_some, z0s, z0Y _ (by unfold z1Y; omega), z0Y _ (by unfold z1Y; omega), Int.toNat_natCast]
  have f1 : List.replicate S.length ([] : List Int) = z1F S.length (fun i => toI (zcu S i)) [] 0 := (z7c _ _ _).symm
  have f2 : List.replicate S.length (ByteArray.empty : ByteArray) = z1F S.length (zjQ d m n S) ByteArray.empty 0 := (z7c _ _ _).symm
  rw [f1, f2]
  refine z1C (s := ((0 : Int), z1F S.length (fun i => toI (zcu S i)) [] 0, z1F S.length (zjQ d m n S) ByteArray.empty 0)) S.length (fun k => ((k : Int), z1F S.length (fun i => toI (zcu S i)) [] k, z1F S.length (zjQ d m n S) ByteArray.empty k)) rfl (by simp only [LFm]; omega) (fun k hk => ?_) ?_
  · obtain ⟨c1, c2⟩ := zet he hk
    have c1 : z6P (z2w d m n S) S.length k < (zjB d m n S).length := c1
    have hf : (zjB d m n S).getD (z6P (z2w d m n S) S.length k) 0 < S.length := zop c1
    simp only [z6H]
    rw [if_pos (by rw [z0s]; omega), zp7 hn hS hk, Option.bind_some, z5w hk, Option.bind_some, show dgm d m n S = ⟨toI S, zrl d m S, zpV d m n S⟩ from rfl, zdU hd (by omega) hS _ hk, Option.bind_some, zmI, z2V hk, Option.bind_some, z2B c1, Option.bind_some, show (zeI S (z1p d m n (S.getD k 0)), zgJ S (z1p d m n (S.getD k 0))).2 = zgJ S (z1p d m n (S.getD k 0)) from rfl, zgJ, z2V hf, Option.bind_some, z5w hk, Option.bind_some, z1R (by omega), Int.toNat_natCast]
    have e1 := z3T (f := fun i => toI (zcu S i)) (z := []) hk
    have e2 := z3T (f := zjQ d m n S) (z := ByteArray.empty) hk
    have e3 : z7K (z1p d m n (S.getD k 0)) (S.getD ((zjB d m n S).getD (z6P (z2w d m n S) S.length k) 0) 0) = zjQ d m n S k := rfl
    rw [e1, e3, e2]
  · simp only [z6H]
    rw [if_neg (by rw [z0s]; omega), z0s, z7b, z7b, Int.toNat_natCast]
    congr 1
    have f3 : List.replicate S.length (ByteArray.empty : ByteArray) = (List.range S.length).map fun j => if z6P (z2w d m n S) S.length j < 0 then zeR d m n S j else ByteArray.empty := by
      apply List.ext_getElem (by simp); intro i h1 h2; simp
    rw [f3]
    refine z1C (s := ((0 : Int), (List.range S.length).map fun j => if z6P (z2w d m n S) S.length j < 0 then zeR d m n S j else ByteArray.empty)) (zjB d m n S).length (fun c => ((c : Int), (List.range S.length).map fun j => if z6P (z2w d m n S) S.length j < c then zeR d m n S j else ByteArray.empty)) rfl (by simp only [LFm]; omega) (fun c hc => ?_) ?_
    · have hf := zop hc
      simp only [z6G]
      rw [if_pos (by rw [z0s]; omega), z2B hc, Option.bind_some, show dgm d m n S = ⟨toI S, zrl d m S, zpV d m n S⟩ from rfl, zdU hd (by omega) hS _ hf, Option.bind_some, ziH hd hS (by omega) hc]
    · simp only [z6G]
      rw [if_neg (by rw [z0s]; omega)]
      have : ((List.range S.length).map fun j => if z6P (z2w d m n S) S.length j < (zjB d m n S).length then zeR d m n S j else ByteArray.empty) = (List.range S.length).map (zeR d m n S) := List.map_congr_left fun j hj => if_pos (zet he (List.mem_range.1 hj)).1
      rw [this]; rfl
end Go.Proofs.Ytbnnipkanechoaa
end
section
namespace Go.Proofs.Ytbnnipkanechoaa
open Go
set_option maxRecDepth 100000
theorem zhy (s : Nat) : szN s = z7e (fun q => s.testBit q) 7 := by
  simp only [szN, z7e, List.range, List.range.loop, List.countP_cons, List.countP_nil]
  omega
theorem zxo {s : Nat} (h : s < 128) {q : Nat} (hq : s.testBit q = true) : q < 7 := by
  rcases Nat.lt_or_ge q 7 with h' | h'
  · exact h'
  · have : s.testBit q = false := Nat.testBit_lt_two_pow (Nat.lt_of_lt_of_le h (Nat.pow_le_pow_right (n := 2) (by omega) h'))
    rw [this] at hq; cases hq
theorem znj {a b : Nat} (h : zgG a b) : szN a ≤ szN b := by
  rw [zhy, zhy]; exact zkV fun q _ hq => z5A.1 h q hq
theorem zsM {a b : Nat} (hb : b < 128) (h : zgG a b) (hne : a ≠ b) : szN a < szN b := by
  have : ∃ q, b.testBit q = true ∧ a.testBit q = false := by
    refine Classical.byContradiction fun hn => hne (zhA h (z5A.2 fun q hq => ?_))
    cases ha : a.testBit q with
    | true => rfl
    | false => exact absurd ⟨q, hq, ha⟩ hn
  obtain ⟨q, h1, h2⟩ := this
  rw [zhy, zhy]
  exact zfV (fun q _ hq => z5A.1 h q hq) (zxo hb h1) h2 h1
theorem zsN {a b : Nat} (hb : b < 128) (h : zgG a b) (he : szN b ≤ szN a) : a = b := by
  refine Classical.byContradiction fun hne => ?_
  have := zsM hb h hne
  omega
theorem zni {x p : Nat} (hx : x < 128) (hp : p < 7) : szN (x ||| 2 ^ p) ≤ szN x + 1 := by
  revert p; revert x; decide +kernel
abbrev zs1 (m : Nat) (w : List UInt8) : Prop := ∀ c ∈ w, 97 ≤ c.toNat ∧ c.toNat < 97 + m
theorem zo1 {m : Nat} {c : UInt8} {w : List UInt8} (h : zs1 m (c :: w)) : zs1 m w ∧ c.toNat - 97 < m := ⟨fun c' hc' => h c' (List.mem_cons_of_mem _ hc'), by have := h c (List.mem_cons_self ..); omega⟩
theorem zsS {d : DFA} {m n : Nat} (hd : DfaOk d m n) (hn : n ≤ 7) {s a : Nat} (hs : s < 2 ^ n) (ha : a < m) : szN (mvN d s a) ≤ szN s := by
  have h128 : 2 ^ n ≤ 128 := Nat.pow_le_pow_right (n := 2) (by omega) hn
  have key : ∀ q, q ≤ n → szN (zhZ d.next s a q) ≤ z7e (fun q => s.testBit q) q := by
    intro q
    induction q with
    | zero => intro _; exact (by decide : szN 0 ≤ 0)
    | succ q ih =>
      intro hq
      have hlt := ze3 hd (s := s) ha q (by omega)
      obtain ⟨h1, h2, e, h3, h4⟩ := zdW hd (q := q) (by omega) ha
      simp only [zhZ, z7e]
      by_cases hb : s.testBit q = true
      · rw [if_pos hb, if_pos hb]
        have := zni (x := zhZ d.next s a q) (p := ((d.next.getD q []).getD a 0).toNat) (by omega) (by rw [e]; omega)
        have := ih (by omega)
        omega
      · rw [if_neg hb, if_neg hb]
        have := ih (by omega)
        omega
  have h1 := key n (Nat.le_refl _)
  have h2 : z7e (fun q => s.testBit q) n ≤ szN s := by
    rw [zhy]
    have : ∀ j, z7e (fun q => s.testBit q) n ≤ z7e (fun q => s.testBit q) (n + j) := by
      intro j
      induction j with
      | zero => exact Nat.le_refl _
      | succ j ih => rw [← Nat.add_assoc]; simp only [z7e]; omega
    have := this (7 - n)
    rwa [show n + (7 - n) = 7 by omega] at this
  unfold mvN
  rw [hd.nl]
  omega
theorem zjd {d : DFA} {m n : Nat} (hd : DfaOk d m n) (hn : n ≤ 7) : ∀ {w : List UInt8} {s : Nat}, s < 2 ^ n → zs1 m w → szN (zhL d s w) ≤ szN s
  | [], s, _, _ => Nat.le_refl _
  | c :: w, s, hs, hw => by
    obtain ⟨h1, h2⟩ := zo1 hw
    simp only [zhL]
    exact Nat.le_trans (zjd hd hn (zfN hd h2) h1) (zsS hd hn hs h2)
theorem zrU {d : DFA} {m n : Nat} (hd : DfaOk d m n) {s a : Nat} (hs : s < 2 ^ n) (h0 : s ≠ 0) (ha : a < m) : mvN d s a ≠ 0 := by
  obtain ⟨q, hq⟩ : ∃ q, s.testBit q = true := Nat.exists_testBit_of_ne_zero h0
  have hqn : q < n := by
    rcases Nat.lt_or_ge q n with h' | h'
    · exact h'
    · have : s.testBit q = false := Nat.testBit_lt_two_pow (Nat.lt_of_lt_of_le hs (Nat.pow_le_pow_right (n := 2) (by omega) h'))
      rw [this] at hq; cases hq
  intro h
  have := (zgf hd ha (s := s) ((d.next.getD q []).getD a 0).toNat).2 ⟨q, hqn, hq, rfl⟩
  rw [h, Nat.zero_testBit] at this
  cases this
theorem zpd {d : DFA} {m n : Nat} (hd : DfaOk d m n) {x : Nat} (hx : x ∈ zdR d m n) : x ≠ 0 := by
  have hp := Nat.two_pow_pos n
  have h2n : 2 ≤ 2 ^ n := by have := Nat.pow_le_pow_right (n := 2) (by omega) hd.n1; omega
  have hf : 2 ^ n - 1 < 2 ^ n := by omega
  have hi := z4I hd hf
  obtain ⟨_, h2, _⟩ := z5z hi.nd n
  have hpm := z9C (z7J (z1p d m n (2 ^ n - 1)).1 n)
  rcases (h2 x).1 (hpm.mem_iff.1 hx) with h | ⟨i, _, rfl⟩
  · obtain ⟨i, hil, rfl⟩ := List.getElem_of_mem h
    obtain ⟨_, o2, o3⟩ := hi.ok i hil
    rw [List.getD, List.getD, List.getElem?_eq_getElem hil, Option.getD_some] at o3
    rw [← o3]
    have : ∀ {w : List UInt8} {s : Nat}, s < 2 ^ n → s ≠ 0 → zs1 m w → zhL d s w ≠ 0 := by
      intro w
      induction w with
      | nil => intro s _ h0 _; exact h0
      | cons c w ih =>
        intro s hs h0 hw
        obtain ⟨q1, q2⟩ := zo1 hw
        exact ih (zfN hd q2) (zrU hd hs h0 q2) q1
    exact this hf (by omega) o2
  · exact Nat.ne_of_gt (Nat.two_pow_pos i)
theorem znh {S : List Nat} {i j : Nat} (hz : szN (S.getD i 0) ≠ 1) : j ∈ zcu S i ↔ j ∈ zeD S i ∧ zeF S i j = true := by
  unfold zcu
  rw [if_neg hz, List.mem_filter]
theorem zqw {S : List Nat} {i j : Nat} (h : j ∈ zcu S i) : j ∈ zeD S i ∧ zeF S i j = true ∧ szN (S.getD i 0) ≠ 1 := by
  by_cases hz : szN (S.getD i 0) = 1
  · unfold zcu at h; rw [if_pos hz] at h; simp at h
  · exact ⟨((znh hz).1 h).1, ((znh hz).1 h).2, hz⟩
theorem zng (S : List Nat) (i : Nat) : (zcu S i).Nodup := by
  unfold zcu
  split
  · simp
  · exact List.Pairwise.filter _ (List.Pairwise.filter _ List.nodup_range)
end Go.Proofs.Ytbnnipkanechoaa
end
section
namespace Go.Proofs.Ytbnnipkanechoaa
open Go
set_option maxRecDepth 100000
structure Lead (d : DFA) (m n K I : Nat) (w : List UInt8) : Prop where
  hw : zs1 m w
  hK : K < 2 ^ n
  hI : I < 2 ^ n
  run : zhL d K w = I
  sz : szN I = szN K
section
variable {d : DFA} {m n : Nat} {S : List Nat} (hd : DfaOk d m n) (hn : n ≤ 7) (hS : SetsP d m n S)
include hd hn hS
theorem zkO {k i : Nat} (hk : k < S.length) (hi : i < S.length) (he : z2w d m n S i k = true) : szN (S.getD i 0) = szN (S.getD k 0) ∧ S.getD i 0 ∈ (z1p d m n (S.getD k 0)).1 := by
  have h128 : 2 ^ n ≤ 128 := Nat.pow_le_pow_right (n := 2) (by omega) hn
  simp only [z2w, Bool.and_eq_true] at he
  obtain ⟨w, w1, w2⟩ := (z4x hd hS hk).1 he.1
  obtain ⟨v, v1, v2⟩ := (z4x hd hS hi).1 he.2
  have hkl := hS.lt _ (z1q hk)
  have hil := hS.lt _ (z1q hi)
  have a1 := znj w2
  have a2 := zjd hd hn hkl w1
  have a3 := znj v2
  have a4 := zjd hd hn hil v1
  refine ⟨by omega, ?_⟩
  have hrl := znB hd hkl w1
  have := zsN (by omega) w2 (by omega)
  rw [this]
  exact zdZ hd hkl w1 (zca hd hkl)
end
end Go.Proofs.Ytbnnipkanechoaa
end
section
namespace Go.Proofs.Ytbnnipkanechoaa
open Go
noncomputable section
set_option maxRecDepth 100000
set_option maxHeartbeats 1000000
def z5K (a0 : Int) (a1 : Int) : Option (Bool) :=
  (z4o a0).bind fun v5 =>
  (z4o a1).bind fun v6 =>
  if v5 = v6 then
    some (decide (a0 < a1))
  else
    (z4o a0).bind fun v7 =>
    (z4o a1).bind fun v8 =>
    some (decide (v8 < v7))
theorem zdX {a0 : Int} {a1 : Int} {r : Bool} (h0 : z5K a0 a1 = some r) : L 72 [.sc (.int .i64 a0), .sc (.int .i64 a1)] = some (.sc (.bool r), [.dead, .dead]) := by
  simp only [z5K] at h0
  refine z2S zux zvS (z1w zxy ⟨of_decide_eq_true rfl, of_decide_eq_true rfl⟩ ?_)
  simp only [z1E, z1A, z1y, z1G, z3i]
  refine zq rfl (zr rfl rfl rfl (by simp; rfl) ?_)
  refine z0a (zq rfl (zq rfl ?_))
  obtain ⟨v5, f6, h1⟩ := z0h h0
  have f6k := z4n f6
  try simp at f6k
  obtain ⟨v6, f7, h2⟩ := z0h h1
  have f7k := z4n f7
  try simp at f7k
  refine zr rfl rfl rfl (by simp [f6k, f7k]; rfl) ?_
  refine z0a ?_
  by_cases c8 : v5 = v6
  ·rw [if_pos c8] at h2
   have c8e := eq_true c8
   refine z0n rfl (by simp [c8e]) (z0i rfl (z0a (zq rfl (zr rfl rfl rfl (by simp; rfl) ?_))))
   refine z0a (z1t rfl ?_)
   cases h2
   simp
  ·rw [if_neg c8] at h2
   have c8e := eq_false c8
   refine z0u rfl (by simp [c8e]) (zq rfl ?_)
   obtain ⟨v7, f9, h3⟩ := z0h h2
   have f9k := z4n f9
   try simp at f9k
   obtain ⟨v8, f10, h4⟩ := z0h h3
   have f10k := z4n f10
   try simp at f10k
   refine zr rfl rfl rfl (by simp [f9k, f10k]; rfl) ?_
   refine z0a (z1t rfl (z1b ?_))
   cases h4
   simp
def z6t (w98 : Int) (w99 : List Int) : Bool × Int → Option ((Bool × Int) ⊕ ((Int × List Int) ⊕ List Int))
  | (w106, w107) =>
  if w107 < (w99.length : Int) then
    (atI w99 w107).bind fun v109 =>
    if w106 = true then
      z0B (true, IntKind.i64.wrap (w107 + 1))
    else
      z0B (decide (v109 = (zg6 .i64 1 (IntKind.u64.wrap w98))), IntKind.i64.wrap (w107 + 1))
  else
    z1l <|
    if w106 = true then
      z0B (IntKind.i64.wrap (w98 + 1), w99)
    else
      chk (z2Z 8 (w99.length + 1)) <|
      z0B (IntKind.i64.wrap (w98 + 1), w99 ++ [zg6 .i64 1 (IntKind.u64.wrap w98)])
def z5a (a0 : DFA) (w98 : Int) (w99 : List Int) : Bool × Int → Fr
  | (w106, w107) => ⟨92, [(3, .one (.h 3 [])), (6, .one (.t none (.sc (.int .i64 (zg6 .i64 1 (IntKind.u64.wrap w98)))))), (7, .one (.t none (.sc (.bool w106)))), (22, .one (.t none (.sc (.int .i64 (a0.final.length : Int))))), (23, .one (.t none (.sc (.int .i64 w98)))), (29, .one (.h 3 [])), (30, .one (.t none (.sc (.int .i64 (w99.length : Int))))), (31, .one (.t none (.sc (.int .i64 w107))))], [(3, .os 1 w99.length (w99.map fun x0 => .sc (.int .i64 x0)))]⟩
def z4D (w133 : Int) : Int × List Int → Option ((Int × List Int) ⊕ ((Int × List Int) ⊕ List Int))
  | (w165, w166) =>
  if 0 < w165 then
    (atI w166 w165).bind fun v174 =>
    (atI w166 (IntKind.i64.wrap (w165 - 1))).bind fun v175 =>
    (z5K v174 v175).bind fun v176 =>
    if v176 = true then
      (atI (w166.set w165.toNat v175) (IntKind.i64.wrap (w165 - 1))).bind fun v180 =>
      z0B (IntKind.i64.wrap (w165 - 1), ((w166.set w165.toNat v175).set (IntKind.i64.wrap (w165 - 1)).toNat v174))
    else
      z1l <|
      z0B (IntKind.i64.wrap (w133 + 1), w166)
  else
    z1l <|
    z0B (IntKind.i64.wrap (w133 + 1), w166)
def z5D (w99 : List Int) (w133 : Int) : Int × List Int → Fr
  | (w165, w166) => ⟨92, [(10, .one (.h 10 [])), (12, .one (.t none (.sc (.int .i64 w165)))), (53, .one (.t none (.sc (.int .i64 (w99.length : Int))))), (54, .one (.t none (.sc (.int .i64 w133))))], [(10, .os 1 w166.length (w166.map fun x0 => .sc (.int .i64 x0)))]⟩
def z4E (w99 : List Int) : Int × List Int → Option ((Int × List Int) ⊕ List Int)
  | (w133, w134) =>
  if w133 < (w99.length : Int) then
    z0W (z4D w133) LFm (w133, w134)
  else
    z1l <|
    some w134
def z4C (w99 : List Int) : Int × List Int → Fr
  | (w133, w134) => ⟨92, [(10, .one (.h 10 [])), (53, .one (.t none (.sc (.int .i64 (w99.length : Int))))), (54, .one (.t none (.sc (.int .i64 w133))))], [(10, .os 1 w134.length (w134.map fun x0 => .sc (.int .i64 x0)))]⟩
def z6u (a0 : DFA) : Int × List Int → Option ((Int × List Int) ⊕ List Int)
  | (w98, w99) =>
  if w98 < (a0.final.length : Int) then
    chk (¬ (IntKind.u64.wrap w98) < 0) <|
    z0W (z6t w98 w99) LFm (false, 0)
  else
    z1l <|
    chk (z2Z 8 (w99.length)) <|
    z0W (z4E w99) LFm (0, w99)
def z5b (a0 : DFA) : Int × List Int → Fr
  | (w98, w99) => ⟨92, [(3, .one (.h 3 [])), (22, .one (.t none (.sc (.int .i64 (a0.final.length : Int))))), (23, .one (.t none (.sc (.int .i64 w98))))], [(3, .os 1 w99.length (w99.map fun x0 => .sc (.int .i64 x0)))]⟩
def z7T (a0 : DFA) : Option (List Int) :=
  (z8O a0).bind fun v91 =>
  (z4e a0 v91).bind fun v92 =>
  z0W (z6u a0) LFm (0, v92.1)
theorem zgb {a0 : DFA} {r : List Int} (h0 : z7T a0 = some r) : L 42 [.agg [.sc (.int .i64 a0.letters), .sc (.int .i64 a0.start), .sl a0.final.length (a0.final.map fun x0 => .sc (.bool x0)), .sl a0.next.length (a0.next.map fun x0 => .sl x0.length (x0.map fun x1 => .sc (.int .i64 x1)))]] = some (.os 1 r.length (r.map fun x0 => .sc (.int .i64 x0)), [.dead]) := by
  simp only [z7T] at h0
  refine z2S zuQ zwb (z1w zxR ⟨of_decide_eq_true rfl, of_decide_eq_true rfl⟩ ?_)
  simp only [z1E, z1A, z1y, z1G, z3i]
  refine zq rfl (zr rfl rfl rfl (by simp; rfl) ?_)
  refine z0a (zq rfl ?_)
  obtain ⟨v91, f97, h1⟩ := z0h h0
  have f97k := zhP f97
  try simp at f97k
  obtain ⟨v92, f98, h2⟩ := z0h h1
  have f98k := z5E f98
  try simp at f98k
  refine z1s rfl rfl rfl rfl ?_; repeat' ((first | refine z0z rfl rfl fun Q' hQ => ?_ | refine z0q rfl fun Q' hQ => ?_); simp [f97k, f98k]; refine hQ.out _ ?_; clear hQ; clear Q')
  refine z0a (zq rfl (zq rfl (zr rfl rfl rfl (by simp; rfl) ?_)))
  refine z0a (zb rfl (z0C h2 (z5b a0) rfl rfl (by simp [z5b]) fun s o1 h3 hr1 => ?_))
  obtain ⟨w98, w99⟩ := s
  simp only [z6u] at h3
  simp only [z5b]
  refine zq rfl (zr rfl rfl rfl (by simp; rfl) ?_)
  refine z0a (zq rfl ?_)
  by_cases c123 : w98 < (a0.final.length : Int)
  ·rw [if_pos c123] at h3
   refine z0u rfl (by simp [c123]) (z0i rfl (z0a (zq rfl (zb rfl (zq rfl (zr rfl rfl rfl (by simp; rfl) ?_))))))
   refine z0a (zq rfl ?_)
   obtain ⟨f124, h4⟩ := z1H h3
   refine zr rfl rfl rfl (by simp [f124]; rfl) ?_
   refine z0a (zq rfl (zr rfl rfl rfl (by simp; rfl) ?_))
   refine z0a (zq rfl (zq rfl (zr rfl rfl rfl (by simp; rfl) ?_)))
   refine z0a (zb rfl (z0C h4 (z5a a0 w98 w99) rfl rfl (by simp [z5a]) fun s o2 h5 hr2 => ?_))
   obtain ⟨w106, w107⟩ := s
   simp only [z6t] at h5
   simp only [z5a]
   refine zq rfl (zr rfl rfl rfl (by simp; rfl) ?_)
   refine z0a (zq rfl ?_)
   by_cases c130 : w107 < (w99.length : Int)
   ·rw [if_pos c130] at h5
    refine z0u rfl (by simp [c130]) (z0i rfl (z0a (zq rfl (zb rfl (zq rfl ?_)))))
    obtain ⟨v109, f131, h6⟩ := z0R h5
    refine zr rfl rfl rfl (by simp [f131]; rfl) ?_
    refine z0a ?_
    by_cases c132 : w106 = true
    ·rw [if_pos c132] at h6
     refine zr rfl rfl rfl (by simp [c132]; rfl) ?_
     refine z0g (z0a (zr rfl rfl rfl (by simp; rfl) ?_))
     have ho := z0d h6
     refine z0f ho ?_
     simp [z5a, c132]
    ·rw [if_neg c132] at h6
     refine zr rfl rfl rfl (by simp [c132]; rfl) ?_
     refine z0g (z0a (zr rfl rfl rfl (by simp; rfl) ?_))
     have ho := z0d h6
     refine z0f ho ?_
     simp [z5a, c132]
   ·rw [if_neg c130] at h5
    refine z0n rfl (by simp [c130]) (z0V rfl (z0v ?_))
    obtain ⟨rr2, h6, ho2⟩ := z0j h5
    have hs2 := hr2 _ ho2
    subst hs2
    refine z0m ho2 (z0e rfl (z0a (zq rfl (zr rfl rfl rfl (by simp; rfl) ?_))))
    refine z0a ?_
    by_cases c133 : w106 = true
    ·rw [if_pos c133] at h6
     refine z0n rfl (by simp [c133]) (z0i rfl (z0g (z0a (zr rfl rfl rfl (by simp; rfl) ?_))))
     have ho := z0d h6
     refine z0f ho ?_
     simp [z5b, c133]
    ·rw [if_neg c133] at h6
     refine z0u rfl (by simp [c133]) ?_
     obtain ⟨f134, h7⟩ := z7I h6
     refine zr rfl rfl rfl (by simp [f134]; rfl) ?_
     refine z0g (z0a (zr rfl rfl rfl (by simp; rfl) ?_))
     have ho := z0d h7
     refine z0f ho ?_
     simp [z5b, c133]
  ·rw [if_neg c123] at h3
   refine z0n rfl (by simp [c123]) (z0V rfl (z0v ?_))
   obtain ⟨rr1, h4, ho1⟩ := z0j h3
   have hs1 := hr1 _ ho1
   subst hs1
   refine z0m ho1 (z0e rfl (z0a (zq rfl ?_)))
   obtain ⟨f135, h5⟩ := z7I h4
   refine zr rfl rfl rfl (by simp [f135]; rfl) ?_
   refine z0a (zq rfl (zq rfl (zr rfl rfl rfl (by simp; rfl) ?_)))
   refine z0a (zb rfl (z0C h5 (z4C w99) rfl rfl (by simp [z4C]) fun s o3 h6 hr3 => ?_))
   obtain ⟨w133, w134⟩ := s
   simp only [z4E] at h6
   simp only [z4C]
   refine zq rfl (zr rfl rfl rfl (by simp; rfl) ?_)
   refine z0a (zq rfl ?_)
   by_cases c174 : w133 < (w99.length : Int)
   ·rw [if_pos c174] at h6
    refine z0u rfl (by simp [c174]) (z0i rfl (z0a (zq rfl (zb rfl (zq rfl (zr rfl rfl rfl (by simp; rfl) ?_))))))
    refine z0a (zq rfl (zr rfl rfl rfl (by simp; rfl) ?_))
    refine z0a (zb rfl (z0C h6 (z5D w99 w133) rfl rfl (by simp [z5D]) fun s o4 h7 hr4 => ?_))
    obtain ⟨w165, w166⟩ := s
    simp only [z4D] at h7
    simp only [z5D]
    refine zq rfl (zq rfl ?_)
    by_cases c187 : 0 < w165
    ·rw [if_pos c187] at h7
     obtain ⟨v174, f188, h8⟩ := z0R h7
     obtain ⟨v175, f189, h9⟩ := z0R h8
     obtain ⟨v176, f190, h10⟩ := z0h h9
     have f190k := zdX f190
     try simp at f190k
     refine z1s rfl rfl rfl rfl ?_; repeat' (first | (refine z0z rfl rfl fun Q' hQ => ?_; simp [c187, f188, f189, f190k]; refine hQ.out _ ?_; clear hQ; clear Q') | (refine z2f rfl rfl fun Q1 Q2 h1 h2 => ?_; simp [c187, f188, f189, f190k, z3V]; (first | refine h1.out ?_ | refine h2.out ?_); clear h1 h2; clear Q1 Q2; intro Q' hQ; simp [c187, f188, f189, f190k]; refine hQ.out _ ?_; clear hQ; clear Q') | (refine z0q rfl fun Q' hQ => ?_; simp [c187, f188, f189, f190k]; refine hQ.out _ ?_; clear hQ; clear Q'))
     refine z0a ?_
     by_cases c191 : v176 = true
     ·rw [if_pos c191] at h10
      refine z0u rfl (by simp [c191]) (z0i rfl (z0a (zq rfl (zb rfl ?_))))
      obtain ⟨v180, f192, h11⟩ := z0h h10
      obtain ⟨f192a, f192b, f192c, f192d, f192e⟩ := z7x f192
      try simp only [List.length_set] at f192b f192c
      have f192s : ∀ hh, ((w166.set w165.toNat v175).map (fun x0 : Int => (.sc (.int .i64 x0) : T)))[(IntKind.i64.wrap (w165 - 1)).toNat]'hh = (fun x0 : Int => (.sc (.int .i64 x0) : T)) v180 := fun hh => by rw [List.getElem_map]; exact congrArg (fun x0 : Int => (.sc (.int .i64 x0) : T)) (f192e _)
      try simp only [List.map_set] at f192s
      refine z1s rfl rfl rfl rfl ?_; repeat' ((first | refine z0z rfl rfl fun Q' hQ => ?_ | refine z0q rfl fun Q' hQ => ?_); simp [f189, f188, f192a, f192b, f192c, f192d, f192e, f192s]; refine hQ.out _ ?_; clear hQ; clear Q')
      refine z0g (z0a (zr rfl rfl rfl (by simp; rfl) ?_))
      have ho := z0d h11
      refine z0f ho ?_
      simp [z5D, c191]
     ·rw [if_neg c191] at h10
      refine z0n rfl (by simp [c191]) (z0V rfl (z0v ?_))
      obtain ⟨rr4, h11, ho4⟩ := z0j h10
      have hs4 := hr4 _ ho4
      subst hs4
      refine z0m ho4 (z0e rfl (z0g (z0a (zr rfl rfl rfl (by simp; rfl) ?_))))
      have ho := z0d h11
      refine z0f ho ?_
      simp [z4C, c191]
    ·rw [if_neg c187] at h7
     refine z1s rfl rfl rfl rfl ?_; repeat' (first | (refine z0z rfl rfl fun Q' hQ => ?_; simp [c187]; refine hQ.out _ ?_; clear hQ; clear Q') | (refine z2f rfl rfl fun Q1 Q2 h1 h2 => ?_; simp [c187, z3V]; (first | refine h1.out ?_ | refine h2.out ?_); clear h1 h2; clear Q1 Q2; intro Q' hQ; simp [c187]; refine hQ.out _ ?_; clear hQ; clear Q') | (refine z0q rfl fun Q' hQ => ?_; simp [c187]; refine hQ.out _ ?_; clear hQ; clear Q'))
     refine z0a (z0n rfl (by simp) (z0V rfl (z0v ?_)))
     obtain ⟨rr4, h8, ho4⟩ := z0j h7
     have hs4 := hr4 _ ho4
     subst hs4
     refine z0m ho4 (z0e rfl (z0g (z0a (zr rfl rfl rfl (by simp; rfl) ?_))))
     have ho := z0d h8
     refine z0f ho ?_
     simp [z4C]
   ·rw [if_neg c174] at h6
    refine z0n rfl (by simp [c174]) (z0V rfl (z0v ?_))
    obtain ⟨rr3, h7, ho3⟩ := z0j h6
    have hs3 := hr3 _ ho3
    subst hs3
    refine z0m ho3 (z0e rfl (z0a (zq rfl (zr rfl rfl rfl (by simp; rfl) ?_))))
    refine z0a (z1t rfl ?_)
    cases h7
    simp
def z4a (a0 : List Int) : Int × Int × List Int × (List (Int × Int)) → Option ((Int × Int × List Int × (List (Int × Int))) ⊕ List Int)
  | (w15, w13, w14, w16) =>
  if w13 < (a0.length : Int) then
    (atI a0 w13).bind fun v20 =>
    if ((zef v20 w16).isSome) = true then
      (atI w14 w13).bind fun v21 =>
      z0B (w15, IntKind.i64.wrap (w13 + 1), (w14.set w13.toNat ((zef v20 w16).getD 0)), w16)
    else
      (atI w14 w13).bind fun v22 =>
      z0B (IntKind.i64.wrap (w15 + 1), IntKind.i64.wrap (w13 + 1), (w14.set w13.toNat w15), zg7 v20 w15 w16)
  else
    z1l <|
    some w14
def z3n (a0 : List Int) : Int × Int × List Int × (List (Int × Int)) → Fr
  | (w15, w13, w14, w16) => ⟨44, [(3, .one (.h 3 [])), (4, .one (.t none (.sc (.int .i64 w15)))), (5, .one (.h 5 [])), (17, .one (.t none (.sl a0.length (a0.map fun x0 => .sc (.int .i64 x0))))), (18, .one (.t none (.sc (.int .i64 (a0.length : Int))))), (19, .one (.t none (.sc (.int .i64 w13))))], [(3, .os 1 w14.length (w14.map fun x0 => .sc (.int .i64 x0))), (5, .mp (some .i64) (w16.map fun x0 => (.int .i64 x0.1, .int .i64 x0.2)))]⟩
def z4h (a0 : List Int) : Option (List Int) :=
  if 4096 < (a0.length : Int) then
    some []
  else
    chk (z1Y 8 (a0.length : Int)) <|
    z0W (z4a a0) LFm (0, 0, List.replicate (a0.length : Int).toNat (0 : Int), ([] : List (Int × Int)))
theorem zaO {a0 : List Int} {r : List Int} (h0 : z4h a0 = some r) : L 44 [.sl a0.length (a0.map fun x0 => .sc (.int .i64 x0))] = some (.os 1 r.length (r.map fun x0 => .sc (.int .i64 x0)), [.dead]) := by
  simp only [z4h] at h0
  refine z2S zuO zw9 (z1w zxP ⟨of_decide_eq_true rfl, of_decide_eq_true rfl⟩ ?_)
  simp only [z1E, z1A, z1y, z1G, z3i]
  refine zq rfl (zr rfl rfl rfl (by simp; rfl) ?_)
  refine z0a (zq rfl (zq rfl (zr rfl rfl rfl (by simp; rfl) ?_)))
  refine z0a ?_
  by_cases c18 : 4096 < (a0.length : Int)
  ·rw [if_pos c18] at h0
   refine z0u rfl (by simp [c18]) (zq rfl (zr rfl rfl rfl (by simp; rfl) ?_))
   refine z0a (z1t rfl (z1b ?_))
   cases h0
   simp
  ·rw [if_neg c18] at h0
   refine z0n rfl (by simp [c18]) (z0i rfl (z0a (zq rfl ?_)))
   obtain ⟨f19, h1⟩ := ziC h0
   refine zr rfl rfl rfl (by simp [f19]; rfl) ?_
   refine z0a (zq rfl (zr rfl rfl rfl (by simp; rfl) ?_))
   refine z0a (zq rfl (zr rfl rfl rfl (by simp; rfl) ?_))
   refine z0a (zq rfl (zq rfl (zr rfl rfl rfl (by simp; rfl) ?_)))
   refine z0a (zb rfl (z0C h1 (z3n a0) rfl rfl (by simp [z3n]) fun s o1 h2 hr1 => ?_))
   obtain ⟨w15, w13, w14, w16⟩ := s
   simp only [z4a] at h2
   simp only [z3n]
   refine zq rfl (zr rfl rfl rfl (by simp; rfl) ?_)
   refine z0a (zq rfl ?_)
   by_cases c30 : w13 < (a0.length : Int)
   ·rw [if_pos c30] at h2
    refine z0u rfl (by simp [c30]) (z0i rfl (z0a (zq rfl (zb rfl (zq rfl ?_)))))
    obtain ⟨v20, f31, h3⟩ := z0R h2
    refine zr rfl rfl rfl (by simp [f31]; rfl) ?_
    refine z0a (zq rfl (zr rfl rfl rfl (by simp; rfl) ?_))
    refine z0a (zq rfl (zq rfl (zr rfl rfl rfl (by simp; rfl) ?_)))
    refine z0a ?_
    by_cases c32 : ((zef v20 w16).isSome) = true
    ·rw [if_pos c32] at h3
     refine z0n rfl (by simp [c32]) (z0i rfl (z0a ?_))
     obtain ⟨v21, f33, h4⟩ := z0R h3
     refine zr rfl rfl rfl (by simp [f33]; rfl) ?_
     refine z0g (z0a (zr rfl rfl rfl (by simp; rfl) ?_))
     have ho := z0d h4
     refine z0f ho ?_
     simp [z3n, c32]
    ·rw [if_neg c32] at h3
     have c32s : (zef v20 w16) = none := by simpa using c32
     refine z0u rfl (by simp [c32, c32s]) (zq rfl (zr rfl rfl rfl (by simp; rfl) ?_))
     refine z0a (zq rfl (zr rfl rfl rfl (by simp; rfl) ?_))
     refine z0a (zr rfl rfl rfl (by simp; rfl) ?_)
     refine z0a ?_
     obtain ⟨v22, f34, h4⟩ := z0R h3
     refine zr rfl rfl rfl (by simp [f34]; rfl) ?_
     refine z0g (z0a (zr rfl rfl rfl (by simp; rfl) ?_))
     have ho := z0d h4
     refine z0f ho ?_
     simp [z3n, c32, c32s]
   ·rw [if_neg c30] at h2
    refine z0n rfl (by simp [c30]) (z0V rfl (z0v ?_))
    obtain ⟨rr1, h3, ho1⟩ := z0j h2
    have hs1 := hr1 _ ho1
    subst hs1
    refine z0m ho1 (z0e rfl (z0a (zq rfl (zr rfl rfl rfl (by simp; rfl) ?_))))
    refine z0a (z1t rfl ?_)
    cases h3
    simp
def z5Z (v757 : List Int) (w807 : Int) (w863 : Int) (v877 : Int) : Int × List (List Bool) → Option ((Int × List (List Bool)) ⊕ ((Int × List (List Bool)) ⊕ ((Int × List (List Bool)) ⊕ (Imgs × Int))))
  | (w881, w882) =>
  if w881 < (v757.length : Int) then
    (atI v757 w881).bind fun v886 =>
    if (z2o .i64 v886 v877) = v886 then
      (atI w882 w881).bind fun v887 =>
      (atI v887 w807).bind fun v888 =>
      z0B (IntKind.i64.wrap (w881 + 1), (w882.set w881.toNat (v887.set w807.toNat true)))
    else
      z0B (IntKind.i64.wrap (w881 + 1), w882)
  else
    z1l <|
    z0B (IntKind.i64.wrap (w863 + 1), w882)
def z5Q (a0 : DFA) (v757 : List Int) (w807 : Int) (v850 : List Int × List ByteArray) (w863 : Int) (v877 : Int) : Int × List (List Bool) → Fr
  | (w881, w882) => ⟨418, [(1, .one (.a 1 [] (0))), (2, .one (.a 2 [] (0))), (5, .one (.a 5 [] (0))), (6, .one (.t none (.sc (.int .i64 (v757.length : Int))))), (10, .one (.h 10 [])), (12, .one (.t none (.sc (.int .i64 w807)))), (17, .one (.t none (.sc (.int .i64 v877)))), (82, .one (.h 5 [0])), (83, .one (.t none (.sc (.int .i64 (v757.length : Int))))), (84, .one (.t none (.sc (.int .i64 w807)))), (95, .one (.h 14 [])), (96, .one (.t none (.sc (.int .i64 (v850.1.length : Int))))), (97, .one (.t none (.sc (.int .i64 w863)))), (102, .one (.h 5 [0])), (103, .one (.t none (.sc (.int .i64 (v757.length : Int))))), (104, .one (.t none (.sc (.int .i64 w881))))], [(1, .vr [.sc (.int .i64 a0.letters), .sc (.int .i64 a0.start), .sl a0.final.length (a0.final.map fun x0 => .sc (.bool x0)), .sl a0.next.length (a0.next.map fun x0 => .sl x0.length (x0.map fun x1 => .sc (.int .i64 x1)))]), (2, .vr [.os 1 0 [], .os 1 0 [], .os 1 0 [], .os 1 0 [], .os 1 0 [], .os 1 0 []]), (5, .vr [.os 1 v757.length (v757.map fun x0 => .sc (.int .i64 x0)), .os 1 0 [], .os 1 0 [], .os 1 0 [], .os 1 0 [], .os 1 0 []]), (10, .os 1 w882.length (w882.map fun x0 => .os 1 x0.length (x0.map fun x1 => .sc (.bool x1)))), (14, .os 1 v850.1.length (v850.1.map fun x0 => .sc (.int .i64 x0)))]⟩
def z6a (v757 : List Int) (w807 : Int) (v850 : List Int × List ByteArray) : Int × List (List Bool) → Option ((Int × List (List Bool)) ⊕ ((Int × List (List Bool)) ⊕ (Imgs × Int)))
  | (w863, w864) =>
  if w863 < (v850.1.length : Int) then
    (atI v850.1 w863).bind fun v877 =>
    z0W (z5Z v757 w807 w863 v877) LFm (0, w864)
  else
    z1l <|
    z0B (IntKind.i64.wrap (w807 + 1), w864)
def z7l (a0 : DFA) (v757 : List Int) (w807 : Int) (v850 : List Int × List ByteArray) : Int × List (List Bool) → Fr
  | (w863, w864) => ⟨418, [(1, .one (.a 1 [] (0))), (2, .one (.a 2 [] (0))), (5, .one (.a 5 [] (0))), (6, .one (.t none (.sc (.int .i64 (v757.length : Int))))), (10, .one (.h 10 [])), (12, .one (.t none (.sc (.int .i64 w807)))), (82, .one (.h 5 [0])), (83, .one (.t none (.sc (.int .i64 (v757.length : Int))))), (84, .one (.t none (.sc (.int .i64 w807)))), (95, .one (.h 14 [])), (96, .one (.t none (.sc (.int .i64 (v850.1.length : Int))))), (97, .one (.t none (.sc (.int .i64 w863))))], [(1, .vr [.sc (.int .i64 a0.letters), .sc (.int .i64 a0.start), .sl a0.final.length (a0.final.map fun x0 => .sc (.bool x0)), .sl a0.next.length (a0.next.map fun x0 => .sl x0.length (x0.map fun x1 => .sc (.int .i64 x1)))]), (2, .vr [.os 1 0 [], .os 1 0 [], .os 1 0 [], .os 1 0 [], .os 1 0 [], .os 1 0 []]), (5, .vr [.os 1 v757.length (v757.map fun x0 => .sc (.int .i64 x0)), .os 1 0 [], .os 1 0 [], .os 1 0 [], .os 1 0 [], .os 1 0 []]), (10, .os 1 w864.length (w864.map fun x0 => .os 1 x0.length (x0.map fun x1 => .sc (.bool x1)))), (14, .os 1 v850.1.length (v850.1.map fun x0 => .sc (.int .i64 x0)))]⟩
def z5Y (w808 : List (List Bool)) (w908 : Int) (w909 : List Int) : Int → Option (Int ⊕ ((Int × List Int) ⊕ (Imgs × Int)))
  | w937 =>
  if w937 < w908 then
    (atI w808 w908).bind fun v944 =>
    (atI v944 w937).bind fun v945 =>
    if v945 = true then
      (atI w808 w937).bind fun v946 =>
      (atI v946 w908).bind fun v947 =>
      if v947 = true then
        (atI (w909.set w908.toNat w908) w937).bind fun v948 =>
        (atI (w909.set w908.toNat w908) w908).bind fun v949 =>
        z1l <|
        z0B (IntKind.i64.wrap (w908 + 1), ((w909.set w908.toNat w908).set w908.toNat v948))
      else
        z0B (IntKind.i64.wrap (w937 + 1))
    else
      z0B (IntKind.i64.wrap (w937 + 1))
  else
    z1l <|
    z0B (IntKind.i64.wrap (w908 + 1), (w909.set w908.toNat w908))
def z5O (a0 : DFA) (v757 : List Int) (w808 : List (List Bool)) (w908 : Int) (w909 : List Int) : Int → Fr
  | w937 => ⟨418, [(1, .one (.a 1 [] (0))), (2, .one (.a 2 [] (0))), (5, .one (.a 5 [] (0))), (6, .one (.t none (.sc (.int .i64 (v757.length : Int))))), (10, .one (.h 10 [])), (20, .one (.h 20 [])), (21, .one (.t none (.sc (.int .i64 w908)))), (22, .one (.t none (.sc (.int .i64 w937)))), (126, .one (.t none (.sc (.int .i64 (v757.length : Int))))), (127, .one (.t none (.sc (.int .i64 w908))))], [(1, .vr [.sc (.int .i64 a0.letters), .sc (.int .i64 a0.start), .sl a0.final.length (a0.final.map fun x0 => .sc (.bool x0)), .sl a0.next.length (a0.next.map fun x0 => .sl x0.length (x0.map fun x1 => .sc (.int .i64 x1)))]), (2, .vr [.os 1 0 [], .os 1 0 [], .os 1 0 [], .os 1 0 [], .os 1 0 [], .os 1 0 []]), (5, .vr [.os 1 v757.length (v757.map fun x0 => .sc (.int .i64 x0)), .os 1 0 [], .os 1 0 [], .os 1 0 [], .os 1 0 [], .os 1 0 []]), (10, .os 1 w808.length (w808.map fun x0 => .os 1 x0.length (x0.map fun x1 => .sc (.bool x1)))), (20, .os 1 (w909.set w908.toNat w908).length ((w909.set w908.toNat w908).map fun x0 => .sc (.int .i64 x0)))]⟩
def z5V (v757 : List Int) (w808 : List (List Bool)) (w1205 : Int) : Bool × Int × List Int → Option ((Bool × Int × List Int) ⊕ ((Bool × Int × List Int) ⊕ ((Bool × List Int) ⊕ (Imgs × Int))))
  | (w1251, w1250, w1252) =>
  if w1250 < (v757.length : Int) then
    (atI v757 w1205).bind fun v1263 =>
    (z4o v1263).bind fun v1264 =>
    if 1 < v1264 then
      (atI w808 w1250).bind fun v1265 =>
      (atI v1265 w1205).bind fun v1266 =>
      if v1266 = true then
        (atI w808 w1205).bind fun v1267 =>
        (atI v1267 w1250).bind fun v1268 =>
        if v1268 = true then
          z0B (w1251, IntKind.i64.wrap (w1250 + 1), w1252)
        else
          (atI w1252 w1205).bind fun v1269 =>
          (atI w1252 w1250).bind fun v1270 =>
          if v1269 ≤ v1270 then
            z0B (true, IntKind.i64.wrap (w1250 + 1), (w1252.set w1205.toNat (IntKind.i64.wrap (v1270 + 1))))
          else
            z0B (w1251, IntKind.i64.wrap (w1250 + 1), w1252)
      else
        z0B (w1251, IntKind.i64.wrap (w1250 + 1), w1252)
    else
      z0B (w1251, IntKind.i64.wrap (w1250 + 1), w1252)
  else
    z1l <|
    z0B (w1251, IntKind.i64.wrap (w1205 + 1), w1252)
def z3Q (a0 : DFA) (v757 : List Int) (w808 : List (List Bool)) (v950 : List Int) (w1205 : Int) : Bool × Int × List Int → Fr
  | (w1251, w1250, w1252) => ⟨418, [(1, .one (.a 1 [] (0))), (2, .one (.a 2 [] (0))), (5, .one (.a 5 [] (0))), (10, .one (.h 10 [])), (23, .one (.t none (.sc (.bool w1251)))), (24, .one (.t none (.sc (.int .i64 w1205)))), (181, .one (.t none (.sc (.int .i64 (v757.length : Int))))), (182, .one (.t none (.sc (.int .i64 w1205)))), (187, .one (.t none (.sc (.int .i64 (v757.length : Int))))), (188, .one (.t none (.sc (.int .i64 w1250))))], [(1, .vr [.sc (.int .i64 a0.letters), .sc (.int .i64 a0.start), .sl a0.final.length (a0.final.map fun x0 => .sc (.bool x0)), .sl a0.next.length (a0.next.map fun x0 => .sl x0.length (x0.map fun x1 => .sc (.int .i64 x1)))]), (2, .vr [.os 1 0 [], .os 1 0 [], .os 1 0 [], .os 1 0 [], .os 1 0 [], .os 1 0 []]), (5, .vr [.os 1 v757.length (v757.map fun x0 => .sc (.int .i64 x0)), .os 1 v950.length (v950.map fun x0 => .sc (.int .i64 x0)), .os 1 w1252.length (w1252.map fun x0 => .sc (.int .i64 x0)), .os 1 (List.replicate (v757.length : Int).toNat ([] : List Int)).length ((List.replicate (v757.length : Int).toNat ([] : List Int)).map fun x0 => .os 1 x0.length (x0.map fun x1 => .sc (.int .i64 x1))), .os 1 (List.replicate (v757.length : Int).toNat (ByteArray.empty : ByteArray)).length ((List.replicate (v757.length : Int).toNat (ByteArray.empty : ByteArray)).map fun x0 => .sc (.string x0)), .os 1 (List.replicate (v757.length : Int).toNat (ByteArray.empty : ByteArray)).length ((List.replicate (v757.length : Int).toNat (ByteArray.empty : ByteArray)).map fun x0 => .sc (.string x0))]), (10, .os 1 w808.length (w808.map fun x0 => .os 1 x0.length (x0.map fun x1 => .sc (.bool x1))))]⟩
def z5W (v757 : List Int) (w808 : List (List Bool)) : Bool × Int × List Int → Option ((Bool × Int × List Int) ⊕ ((Bool × List Int) ⊕ (Imgs × Int)))
  | (w1204, w1205, w1206) =>
  if w1205 < (v757.length : Int) then
    z0W (z5V v757 w808 w1205) LFm (w1204, 0, w1206)
  else
    z1l <|
    z0B (w1204, w1206)
def z7j (a0 : DFA) (v757 : List Int) (w808 : List (List Bool)) (v950 : List Int) : Bool × Int × List Int → Fr
  | (w1204, w1205, w1206) => ⟨418, [(1, .one (.a 1 [] (0))), (2, .one (.a 2 [] (0))), (5, .one (.a 5 [] (0))), (10, .one (.h 10 [])), (23, .one (.t none (.sc (.bool w1204)))), (181, .one (.t none (.sc (.int .i64 (v757.length : Int))))), (182, .one (.t none (.sc (.int .i64 w1205))))], [(1, .vr [.sc (.int .i64 a0.letters), .sc (.int .i64 a0.start), .sl a0.final.length (a0.final.map fun x0 => .sc (.bool x0)), .sl a0.next.length (a0.next.map fun x0 => .sl x0.length (x0.map fun x1 => .sc (.int .i64 x1)))]), (2, .vr [.os 1 0 [], .os 1 0 [], .os 1 0 [], .os 1 0 [], .os 1 0 [], .os 1 0 []]), (5, .vr [.os 1 v757.length (v757.map fun x0 => .sc (.int .i64 x0)), .os 1 v950.length (v950.map fun x0 => .sc (.int .i64 x0)), .os 1 w1206.length (w1206.map fun x0 => .sc (.int .i64 x0)), .os 1 (List.replicate (v757.length : Int).toNat ([] : List Int)).length ((List.replicate (v757.length : Int).toNat ([] : List Int)).map fun x0 => .os 1 x0.length (x0.map fun x1 => .sc (.int .i64 x1))), .os 1 (List.replicate (v757.length : Int).toNat (ByteArray.empty : ByteArray)).length ((List.replicate (v757.length : Int).toNat (ByteArray.empty : ByteArray)).map fun x0 => .sc (.string x0)), .os 1 (List.replicate (v757.length : Int).toNat (ByteArray.empty : ByteArray)).length ((List.replicate (v757.length : Int).toNat (ByteArray.empty : ByteArray)).map fun x0 => .sc (.string x0))]), (10, .os 1 w808.length (w808.map fun x0 => .os 1 x0.length (x0.map fun x1 => .sc (.bool x1))))]⟩
def z5T (v757 : List Int) (w1311 : Int) (w1367 : Int) (w1368 : List (List Int)) (v1381 : Int) : Bool × Int → Option ((Bool × Int) ⊕ ((Int × List (List Int)) ⊕ ((Int × List (List Int)) ⊕ (Imgs × Int))))
  | (w1385, w1386) =>
  if w1386 < (v757.length : Int) then
    (atI v757 w1386).bind fun v1389 =>
    if w1385 = true then
      if w1386 = w1367 then
        z0B (!false, IntKind.i64.wrap (w1386 + 1))
      else
        if w1386 = w1311 then
          z0B (!false, IntKind.i64.wrap (w1386 + 1))
        else
          (atI v757 w1311).bind fun v1390 =>
          if (z2o .i64 v1389 v1390) = v1389 then
            z0B (!(decide ((z2o .i64 v1381 v1389) = v1381)), IntKind.i64.wrap (w1386 + 1))
          else
            z0B (!false, IntKind.i64.wrap (w1386 + 1))
    else
      z0B (false, IntKind.i64.wrap (w1386 + 1))
  else
    z1l <|
    if w1385 = true then
      (atI w1368 w1311).bind fun v1391 =>
      chk (z2Z 8 (v1391.length + 1)) <|
      z0B (IntKind.i64.wrap (w1367 + 1), (w1368.set w1311.toNat (v1391 ++ [w1367])))
    else
      z0B (IntKind.i64.wrap (w1367 + 1), w1368)
def z3P (a0 : DFA) (v757 : List Int) (v950 : List Int) (w1056 : List Int) (w1311 : Int) (w1367 : Int) (w1368 : List (List Int)) (v1381 : Int) : Bool × Int → Fr
  | (w1385, w1386) => ⟨418, [(1, .one (.a 1 [] (0))), (2, .one (.a 2 [] (0))), (5, .one (.a 5 [] (0))), (26, .one (.t none (.sc (.int .i64 w1311)))), (27, .one (.t none (.sc (.int .i64 w1367)))), (28, .one (.t none (.sc (.int .i64 v1381)))), (29, .one (.t none (.sc (.bool w1385)))), (244, .one (.t none (.sc (.int .i64 (v757.length : Int))))), (245, .one (.t none (.sc (.int .i64 w1311)))), (256, .one (.h 5 [0])), (257, .one (.t none (.sc (.int .i64 (v757.length : Int))))), (258, .one (.t none (.sc (.int .i64 w1367)))), (278, .one (.h 5 [0])), (279, .one (.t none (.sc (.int .i64 (v757.length : Int))))), (280, .one (.t none (.sc (.int .i64 w1386))))], [(1, .vr [.sc (.int .i64 a0.letters), .sc (.int .i64 a0.start), .sl a0.final.length (a0.final.map fun x0 => .sc (.bool x0)), .sl a0.next.length (a0.next.map fun x0 => .sl x0.length (x0.map fun x1 => .sc (.int .i64 x1)))]), (2, .vr [.os 1 0 [], .os 1 0 [], .os 1 0 [], .os 1 0 [], .os 1 0 [], .os 1 0 []]), (5, .vr [.os 1 v757.length (v757.map fun x0 => .sc (.int .i64 x0)), .os 1 v950.length (v950.map fun x0 => .sc (.int .i64 x0)), .os 1 w1056.length (w1056.map fun x0 => .sc (.int .i64 x0)), .os 1 w1368.length (w1368.map fun x0 => .os 1 x0.length (x0.map fun x1 => .sc (.int .i64 x1))), .os 1 (List.replicate (v757.length : Int).toNat (ByteArray.empty : ByteArray)).length ((List.replicate (v757.length : Int).toNat (ByteArray.empty : ByteArray)).map fun x0 => .sc (.string x0)), .os 1 (List.replicate (v757.length : Int).toNat (ByteArray.empty : ByteArray)).length ((List.replicate (v757.length : Int).toNat (ByteArray.empty : ByteArray)).map fun x0 => .sc (.string x0))])]⟩
def z5U (v757 : List Int) (w1311 : Int) : Int × List (List Int) → Option ((Int × List (List Int)) ⊕ ((Int × List (List Int)) ⊕ (Imgs × Int)))
  | (w1367, w1368) =>
  if w1367 < (v757.length : Int) then
    (atI v757 w1367).bind fun v1381 =>
    (atI v757 w1311).bind fun v1382 =>
    if (z2o .i64 v1381 v1382) = v1381 then
      if w1367 = w1311 then
        z0B (IntKind.i64.wrap (w1367 + 1), w1368)
      else
        z0W (z5T v757 w1311 w1367 w1368 v1381) LFm (true, 0)
    else
      z0B (IntKind.i64.wrap (w1367 + 1), w1368)
  else
    z1l <|
    z0B (IntKind.i64.wrap (w1311 + 1), w1368)
def z4f (a0 : DFA) (v757 : List Int) (v950 : List Int) (w1056 : List Int) (w1311 : Int) : Int × List (List Int) → Fr
  | (w1367, w1368) => ⟨418, [(1, .one (.a 1 [] (0))), (2, .one (.a 2 [] (0))), (5, .one (.a 5 [] (0))), (26, .one (.t none (.sc (.int .i64 w1311)))), (244, .one (.t none (.sc (.int .i64 (v757.length : Int))))), (245, .one (.t none (.sc (.int .i64 w1311)))), (256, .one (.h 5 [0])), (257, .one (.t none (.sc (.int .i64 (v757.length : Int))))), (258, .one (.t none (.sc (.int .i64 w1367))))], [(1, .vr [.sc (.int .i64 a0.letters), .sc (.int .i64 a0.start), .sl a0.final.length (a0.final.map fun x0 => .sc (.bool x0)), .sl a0.next.length (a0.next.map fun x0 => .sl x0.length (x0.map fun x1 => .sc (.int .i64 x1)))]), (2, .vr [.os 1 0 [], .os 1 0 [], .os 1 0 [], .os 1 0 [], .os 1 0 [], .os 1 0 []]), (5, .vr [.os 1 v757.length (v757.map fun x0 => .sc (.int .i64 x0)), .os 1 v950.length (v950.map fun x0 => .sc (.int .i64 x0)), .os 1 w1056.length (w1056.map fun x0 => .sc (.int .i64 x0)), .os 1 w1368.length (w1368.map fun x0 => .os 1 x0.length (x0.map fun x1 => .sc (.int .i64 x1))), .os 1 (List.replicate (v757.length : Int).toNat (ByteArray.empty : ByteArray)).length ((List.replicate (v757.length : Int).toNat (ByteArray.empty : ByteArray)).map fun x0 => .sc (.string x0)), .os 1 (List.replicate (v757.length : Int).toNat (ByteArray.empty : ByteArray)).length ((List.replicate (v757.length : Int).toNat (ByteArray.empty : ByteArray)).map fun x0 => .sc (.string x0))])]⟩
def z5R (v757 : List Int) (w1430 : Int) (w1474 : Int) (w1486 : List ByteArray) (v1496 : List Int × List ByteArray) : Int × List ByteArray → Option ((Int × List ByteArray) ⊕ ((Int × List ByteArray × List ByteArray) ⊕ (Imgs × Int)))
  | (w1501, w1502) =>
  if w1501 < (v1496.1.length : Int) then
    (atI v1496.1 w1501).bind fun v1507 =>
    (atI v757 w1474).bind fun v1508 =>
    if v1507 = v1508 then
      (atI v1496.2 w1501).bind fun v1509 =>
      (atI w1502 w1430).bind fun v1510 =>
      z0B (IntKind.i64.wrap (w1501 + 1), (w1502.set w1430.toNat v1509))
    else
      z0B (IntKind.i64.wrap (w1501 + 1), w1502)
  else
    z1l <|
    z0B (IntKind.i64.wrap (w1430 + 1), w1486, w1502)
def z5L (a0 : DFA) (v757 : List Int) (v950 : List Int) (w1056 : List Int) (w1312 : List (List Int)) (w1430 : Int) (w1474 : Int) (w1486 : List ByteArray) (v1496 : List Int × List ByteArray) : Int × List ByteArray → Fr
  | (w1501, w1502) => ⟨418, [(1, .one (.a 1 [] (0))), (2, .one (.a 2 [] (0))), (5, .one (.a 5 [] (0))), (32, .one (.t none (.sc (.int .i64 w1430)))), (33, .one (.t none (.sc (.int .i64 w1474)))), (35, .one (.h 35 [])), (333, .one (.t none (.sc (.int .i64 (v757.length : Int))))), (334, .one (.t none (.sc (.int .i64 w1430)))), (393, .one (.h 34 [])), (394, .one (.t none (.sc (.int .i64 (v1496.1.length : Int))))), (395, .one (.t none (.sc (.int .i64 w1501))))], [(1, .vr [.sc (.int .i64 a0.letters), .sc (.int .i64 a0.start), .sl a0.final.length (a0.final.map fun x0 => .sc (.bool x0)), .sl a0.next.length (a0.next.map fun x0 => .sl x0.length (x0.map fun x1 => .sc (.int .i64 x1)))]), (2, .vr [.os 1 0 [], .os 1 0 [], .os 1 0 [], .os 1 0 [], .os 1 0 [], .os 1 0 []]), (5, .vr [.os 1 v757.length (v757.map fun x0 => .sc (.int .i64 x0)), .os 1 v950.length (v950.map fun x0 => .sc (.int .i64 x0)), .os 1 w1056.length (w1056.map fun x0 => .sc (.int .i64 x0)), .os 1 w1312.length (w1312.map fun x0 => .os 1 x0.length (x0.map fun x1 => .sc (.int .i64 x1))), .os 1 w1486.length (w1486.map fun x0 => .sc (.string x0)), .os 1 w1502.length (w1502.map fun x0 => .sc (.string x0))]), (35, .os 1 v1496.2.length (v1496.2.map fun x0 => .sc (.string x0))), (34, .os 1 v1496.1.length (v1496.1.map fun x0 => .sc (.int .i64 x0)))]⟩
def z5S (a0 : DFA) (v757 : List Int) (w1430 : Int) (w1432 : List ByteArray) (w1474 : Int) (v1480 : List Int × List ByteArray) : Int × List ByteArray → Option ((Int × List ByteArray) ⊕ ((Int × List ByteArray × List ByteArray) ⊕ (Imgs × Int)))
  | (w1485, w1486) =>
  if w1485 < (v1480.1.length : Int) then
    (atI v1480.1 w1485).bind fun v1491 =>
    (atI v757 w1430).bind fun v1492 =>
    if v1491 = v1492 then
      (atI v1480.2 w1485).bind fun v1493 =>
      (atI w1486 w1430).bind fun v1494 =>
      z0B (IntKind.i64.wrap (w1485 + 1), (w1486.set w1430.toNat v1493))
    else
      z0B (IntKind.i64.wrap (w1485 + 1), w1486)
  else
    z1l <|
    (atI v757 w1430).bind fun v1495 =>
    (z4e a0 v1495).bind fun v1496 =>
    z0W (z5R v757 w1430 w1474 w1486 v1496) LFm (0, w1432)
def z5M (a0 : DFA) (v757 : List Int) (v950 : List Int) (w1056 : List Int) (w1312 : List (List Int)) (w1430 : Int) (w1432 : List ByteArray) (w1474 : Int) (v1480 : List Int × List ByteArray) : Int × List ByteArray → Fr
  | (w1485, w1486) => ⟨418, [(1, .one (.a 1 [] (0))), (2, .one (.a 2 [] (0))), (5, .one (.a 5 [] (0))), (32, .one (.t none (.sc (.int .i64 w1430)))), (33, .one (.t none (.sc (.int .i64 w1474)))), (35, .one (.h 35 [])), (333, .one (.t none (.sc (.int .i64 (v757.length : Int))))), (334, .one (.t none (.sc (.int .i64 w1430)))), (360, .one (.h 34 [])), (361, .one (.t none (.sc (.int .i64 (v1480.1.length : Int))))), (362, .one (.t none (.sc (.int .i64 w1485))))], [(1, .vr [.sc (.int .i64 a0.letters), .sc (.int .i64 a0.start), .sl a0.final.length (a0.final.map fun x0 => .sc (.bool x0)), .sl a0.next.length (a0.next.map fun x0 => .sl x0.length (x0.map fun x1 => .sc (.int .i64 x1)))]), (2, .vr [.os 1 0 [], .os 1 0 [], .os 1 0 [], .os 1 0 [], .os 1 0 [], .os 1 0 []]), (5, .vr [.os 1 v757.length (v757.map fun x0 => .sc (.int .i64 x0)), .os 1 v950.length (v950.map fun x0 => .sc (.int .i64 x0)), .os 1 w1056.length (w1056.map fun x0 => .sc (.int .i64 x0)), .os 1 w1312.length (w1312.map fun x0 => .os 1 x0.length (x0.map fun x1 => .sc (.int .i64 x1))), .os 1 w1486.length (w1486.map fun x0 => .sc (.string x0)), .os 1 w1432.length (w1432.map fun x0 => .sc (.string x0))]), (35, .os 1 v1480.2.length (v1480.2.map fun x0 => .sc (.string x0))), (34, .os 1 v1480.1.length (v1480.1.map fun x0 => .sc (.int .i64 x0)))]⟩
def z7p (a0 : DFA) (v757 : List Int) (v950 : List Int) (w1430 : Int) (w1431 : List ByteArray) (w1432 : List ByteArray) : Int → Option (Int ⊕ ((Int × List ByteArray × List ByteArray) ⊕ (Imgs × Int)))
  | w1474 =>
  (atI v950 w1474).bind fun v1477 =>
  (atI v950 w1430).bind fun v1478 =>
  if v1477 = v1478 then
    z1l <|
    (atI v757 w1474).bind fun v1479 =>
    (z4e a0 v1479).bind fun v1480 =>
    z0W (z5S a0 v757 w1430 w1432 w1474 v1480) LFm (0, w1431)
  else
    z0B (IntKind.i64.wrap (w1474 + 1))
def z7h (a0 : DFA) (v757 : List Int) (v950 : List Int) (w1056 : List Int) (w1312 : List (List Int)) (w1430 : Int) (w1431 : List ByteArray) (w1432 : List ByteArray) : Int → Fr
  | w1474 => ⟨418, [(1, .one (.a 1 [] (0))), (2, .one (.a 2 [] (0))), (5, .one (.a 5 [] (0))), (32, .one (.t none (.sc (.int .i64 w1430)))), (33, .one (.t none (.sc (.int .i64 w1474)))), (333, .one (.t none (.sc (.int .i64 (v757.length : Int))))), (334, .one (.t none (.sc (.int .i64 w1430))))], [(1, .vr [.sc (.int .i64 a0.letters), .sc (.int .i64 a0.start), .sl a0.final.length (a0.final.map fun x0 => .sc (.bool x0)), .sl a0.next.length (a0.next.map fun x0 => .sl x0.length (x0.map fun x1 => .sc (.int .i64 x1)))]), (2, .vr [.os 1 0 [], .os 1 0 [], .os 1 0 [], .os 1 0 [], .os 1 0 [], .os 1 0 []]), (5, .vr [.os 1 v757.length (v757.map fun x0 => .sc (.int .i64 x0)), .os 1 v950.length (v950.map fun x0 => .sc (.int .i64 x0)), .os 1 w1056.length (w1056.map fun x0 => .sc (.int .i64 x0)), .os 1 w1312.length (w1312.map fun x0 => .os 1 x0.length (x0.map fun x1 => .sc (.int .i64 x1))), .os 1 w1431.length (w1431.map fun x0 => .sc (.string x0)), .os 1 w1432.length (w1432.map fun x0 => .sc (.string x0))])]⟩
def z7q (a0 : DFA) (v757 : List Int) (v950 : List Int) (w1056 : List Int) (w1312 : List (List Int)) : Int × List ByteArray × List ByteArray → Option ((Int × List ByteArray × List ByteArray) ⊕ (Imgs × Int))
  | (w1430, w1431, w1432) =>
  if w1430 < (v757.length : Int) then
    z0W (z7p a0 v757 v950 w1430 w1431 w1432) LFm 0
  else
    z1l <|
    some ((⟨v757, v950, w1056, w1312, w1431, w1432⟩ : Imgs), 0)
def z7i (a0 : DFA) (v757 : List Int) (v950 : List Int) (w1056 : List Int) (w1312 : List (List Int)) : Int × List ByteArray × List ByteArray → Fr
  | (w1430, w1431, w1432) => ⟨418, [(1, .one (.a 1 [] (0))), (2, .one (.a 2 [] (0))), (5, .one (.a 5 [] (0))), (333, .one (.t none (.sc (.int .i64 (v757.length : Int))))), (334, .one (.t none (.sc (.int .i64 w1430))))], [(1, .vr [.sc (.int .i64 a0.letters), .sc (.int .i64 a0.start), .sl a0.final.length (a0.final.map fun x0 => .sc (.bool x0)), .sl a0.next.length (a0.next.map fun x0 => .sl x0.length (x0.map fun x1 => .sc (.int .i64 x1)))]), (2, .vr [.os 1 0 [], .os 1 0 [], .os 1 0 [], .os 1 0 [], .os 1 0 [], .os 1 0 []]), (5, .vr [.os 1 v757.length (v757.map fun x0 => .sc (.int .i64 x0)), .os 1 v950.length (v950.map fun x0 => .sc (.int .i64 x0)), .os 1 w1056.length (w1056.map fun x0 => .sc (.int .i64 x0)), .os 1 w1312.length (w1312.map fun x0 => .os 1 x0.length (x0.map fun x1 => .sc (.int .i64 x1))), .os 1 w1431.length (w1431.map fun x0 => .sc (.string x0)), .os 1 w1432.length (w1432.map fun x0 => .sc (.string x0))])]⟩
def z4U (a0 : DFA) (v757 : List Int) (v950 : List Int) (w1056 : List Int) : Int × List (List Int) → Option ((Int × List (List Int)) ⊕ (Imgs × Int))
  | (w1311, w1312) =>
  if w1311 < (v757.length : Int) then
    (atI v757 w1311).bind fun v1353 =>
    (z4o v1353).bind fun v1354 =>
    if v1354 = 1 then
      z0B (IntKind.i64.wrap (w1311 + 1), w1312)
    else
      z0W (z5U v757 w1311) LFm (0, w1312)
  else
    z1l <|
    z0W (z7q a0 v757 v950 w1056 w1312) LFm (0, List.replicate (v757.length : Int).toNat (ByteArray.empty : ByteArray), List.replicate (v757.length : Int).toNat (ByteArray.empty : ByteArray))
def z5N (a0 : DFA) (v757 : List Int) (v950 : List Int) (w1056 : List Int) : Int × List (List Int) → Fr
  | (w1311, w1312) => ⟨418, [(1, .one (.a 1 [] (0))), (2, .one (.a 2 [] (0))), (5, .one (.a 5 [] (0))), (244, .one (.t none (.sc (.int .i64 (v757.length : Int))))), (245, .one (.t none (.sc (.int .i64 w1311))))], [(1, .vr [.sc (.int .i64 a0.letters), .sc (.int .i64 a0.start), .sl a0.final.length (a0.final.map fun x0 => .sc (.bool x0)), .sl a0.next.length (a0.next.map fun x0 => .sl x0.length (x0.map fun x1 => .sc (.int .i64 x1)))]), (2, .vr [.os 1 0 [], .os 1 0 [], .os 1 0 [], .os 1 0 [], .os 1 0 [], .os 1 0 []]), (5, .vr [.os 1 v757.length (v757.map fun x0 => .sc (.int .i64 x0)), .os 1 v950.length (v950.map fun x0 => .sc (.int .i64 x0)), .os 1 w1056.length (w1056.map fun x0 => .sc (.int .i64 x0)), .os 1 w1312.length (w1312.map fun x0 => .os 1 x0.length (x0.map fun x1 => .sc (.int .i64 x1))), .os 1 (List.replicate (v757.length : Int).toNat (ByteArray.empty : ByteArray)).length ((List.replicate (v757.length : Int).toNat (ByteArray.empty : ByteArray)).map fun x0 => .sc (.string x0)), .os 1 (List.replicate (v757.length : Int).toNat (ByteArray.empty : ByteArray)).length ((List.replicate (v757.length : Int).toNat (ByteArray.empty : ByteArray)).map fun x0 => .sc (.string x0))])]⟩
def z5X (a0 : DFA) (v757 : List Int) (w808 : List (List Bool)) (v950 : List Int) : Bool × List Int → Option ((Bool × List Int) ⊕ (Imgs × Int))
  | (w1055, w1056) =>
  if w1055 = true then
    z0W (z5W v757 w808) LFm (false, 0, w1056)
  else
    z1l <|
    z0W (z4U a0 v757 v950 w1056) LFm (0, List.replicate (v757.length : Int).toNat ([] : List Int))
def z7k (a0 : DFA) (v757 : List Int) (w808 : List (List Bool)) (v950 : List Int) : Bool × List Int → Fr
  | (w1055, w1056) => ⟨418, [(1, .one (.a 1 [] (0))), (2, .one (.a 2 [] (0))), (5, .one (.a 5 [] (0))), (10, .one (.h 10 [])), (23, .one (.t none (.sc (.bool w1055))))], [(1, .vr [.sc (.int .i64 a0.letters), .sc (.int .i64 a0.start), .sl a0.final.length (a0.final.map fun x0 => .sc (.bool x0)), .sl a0.next.length (a0.next.map fun x0 => .sl x0.length (x0.map fun x1 => .sc (.int .i64 x1)))]), (2, .vr [.os 1 0 [], .os 1 0 [], .os 1 0 [], .os 1 0 [], .os 1 0 [], .os 1 0 []]), (5, .vr [.os 1 v757.length (v757.map fun x0 => .sc (.int .i64 x0)), .os 1 v950.length (v950.map fun x0 => .sc (.int .i64 x0)), .os 1 w1056.length (w1056.map fun x0 => .sc (.int .i64 x0)), .os 1 (List.replicate (v757.length : Int).toNat ([] : List Int)).length ((List.replicate (v757.length : Int).toNat ([] : List Int)).map fun x0 => .os 1 x0.length (x0.map fun x1 => .sc (.int .i64 x1))), .os 1 (List.replicate (v757.length : Int).toNat (ByteArray.empty : ByteArray)).length ((List.replicate (v757.length : Int).toNat (ByteArray.empty : ByteArray)).map fun x0 => .sc (.string x0)), .os 1 (List.replicate (v757.length : Int).toNat (ByteArray.empty : ByteArray)).length ((List.replicate (v757.length : Int).toNat (ByteArray.empty : ByteArray)).map fun x0 => .sc (.string x0))]), (10, .os 1 w808.length (w808.map fun x0 => .os 1 x0.length (x0.map fun x1 => .sc (.bool x1))))]⟩
def z7r (a0 : DFA) (v757 : List Int) (w808 : List (List Bool)) : Int × List Int → Option ((Int × List Int) ⊕ (Imgs × Int))
  | (w908, w909) =>
  if w908 < (v757.length : Int) then
    (atI w909 w908).bind fun v930 =>
    z0W (z5Y w808 w908 w909) LFm 0
  else
    z1l <|
    (z4h w909).bind fun v950 =>
    chk (z1Y 8 (v757.length : Int)) <|
    chk (z1Y 24 (v757.length : Int)) <|
    chk (z1Y 16 (v757.length : Int)) <|
    z0W (z5X a0 v757 w808 v950) LFm (true, List.replicate (v757.length : Int).toNat (0 : Int))
def z5P (a0 : DFA) (v757 : List Int) (w808 : List (List Bool)) : Int × List Int → Fr
  | (w908, w909) => ⟨418, [(1, .one (.a 1 [] (0))), (2, .one (.a 2 [] (0))), (5, .one (.a 5 [] (0))), (6, .one (.t none (.sc (.int .i64 (v757.length : Int))))), (10, .one (.h 10 [])), (20, .one (.h 20 [])), (126, .one (.t none (.sc (.int .i64 (v757.length : Int))))), (127, .one (.t none (.sc (.int .i64 w908))))], [(1, .vr [.sc (.int .i64 a0.letters), .sc (.int .i64 a0.start), .sl a0.final.length (a0.final.map fun x0 => .sc (.bool x0)), .sl a0.next.length (a0.next.map fun x0 => .sl x0.length (x0.map fun x1 => .sc (.int .i64 x1)))]), (2, .vr [.os 1 0 [], .os 1 0 [], .os 1 0 [], .os 1 0 [], .os 1 0 [], .os 1 0 []]), (5, .vr [.os 1 v757.length (v757.map fun x0 => .sc (.int .i64 x0)), .os 1 0 [], .os 1 0 [], .os 1 0 [], .os 1 0 [], .os 1 0 []]), (10, .os 1 w808.length (w808.map fun x0 => .os 1 x0.length (x0.map fun x1 => .sc (.bool x1)))), (20, .os 1 w909.length (w909.map fun x0 => .sc (.int .i64 x0)))]⟩
def z7s (a0 : DFA) (v757 : List Int) : Int × List (List Bool) → Option ((Int × List (List Bool)) ⊕ (Imgs × Int))
  | (w807, w808) =>
  if w807 < (v757.length : Int) then
    (atI v757 w807).bind fun v849 =>
    (z4e a0 v849).bind fun v850 =>
    z0W (z6a v757 w807 v850) LFm (0, w808)
  else
    z1l <|
    chk (z1Y 8 (v757.length : Int)) <|
    z0W (z7r a0 v757 w808) LFm (0, List.replicate (v757.length : Int).toNat (0 : Int))
def z7m (a0 : DFA) (v757 : List Int) : Int × List (List Bool) → Fr
  | (w807, w808) => ⟨418, [(1, .one (.a 1 [] (0))), (2, .one (.a 2 [] (0))), (5, .one (.a 5 [] (0))), (6, .one (.t none (.sc (.int .i64 (v757.length : Int))))), (10, .one (.h 10 [])), (82, .one (.h 5 [0])), (83, .one (.t none (.sc (.int .i64 (v757.length : Int))))), (84, .one (.t none (.sc (.int .i64 w807))))], [(1, .vr [.sc (.int .i64 a0.letters), .sc (.int .i64 a0.start), .sl a0.final.length (a0.final.map fun x0 => .sc (.bool x0)), .sl a0.next.length (a0.next.map fun x0 => .sl x0.length (x0.map fun x1 => .sc (.int .i64 x1)))]), (2, .vr [.os 1 0 [], .os 1 0 [], .os 1 0 [], .os 1 0 [], .os 1 0 [], .os 1 0 []]), (5, .vr [.os 1 v757.length (v757.map fun x0 => .sc (.int .i64 x0)), .os 1 0 [], .os 1 0 [], .os 1 0 [], .os 1 0 [], .os 1 0 []]), (10, .os 1 w808.length (w808.map fun x0 => .os 1 x0.length (x0.map fun x1 => .sc (.bool x1))))]⟩
def z7t (a0 : DFA) (v757 : List Int) : Int × List (List Bool) → Option ((Int × List (List Bool)) ⊕ (Imgs × Int))
  | (w763, w764) =>
  if w763 < (v757.length : Int) then
    chk (z1Y 1 (v757.length : Int)) <|
    (atI w764 w763).bind fun v766 =>
    z0B (IntKind.i64.wrap (w763 + 1), (w764.set w763.toNat (List.replicate (v757.length : Int).toNat (false : Bool))))
  else
    z1l <|
    z0W (z7s a0 v757) LFm (0, w764)
def z7n (a0 : DFA) (v757 : List Int) : Int × List (List Bool) → Fr
  | (w763, w764) => ⟨418, [(1, .one (.a 1 [] (0))), (2, .one (.a 2 [] (0))), (5, .one (.a 5 [] (0))), (6, .one (.t none (.sc (.int .i64 (v757.length : Int))))), (10, .one (.h 10 [])), (71, .one (.t none (.sc (.int .i64 (v757.length : Int))))), (72, .one (.t none (.sc (.int .i64 w763))))], [(1, .vr [.sc (.int .i64 a0.letters), .sc (.int .i64 a0.start), .sl a0.final.length (a0.final.map fun x0 => .sc (.bool x0)), .sl a0.next.length (a0.next.map fun x0 => .sl x0.length (x0.map fun x1 => .sc (.int .i64 x1)))]), (2, .vr [.os 1 0 [], .os 1 0 [], .os 1 0 [], .os 1 0 [], .os 1 0 [], .os 1 0 []]), (5, .vr [.os 1 v757.length (v757.map fun x0 => .sc (.int .i64 x0)), .os 1 0 [], .os 1 0 [], .os 1 0 [], .os 1 0 [], .os 1 0 []]), (10, .os 1 w764.length (w764.map fun x0 => .os 1 x0.length (x0.map fun x1 => .sc (.bool x1))))]⟩
def z6b (a0 : DFA) (v757 : List Int) : Int × (List (Int × Int)) → Option ((Int × (List (Int × Int))) ⊕ (Imgs × Int))
  | (w759, w760) =>
  if w759 < (v757.length : Int) then
    (atI v757 w759).bind fun v762 =>
    z0B (IntKind.i64.wrap (w759 + 1), zg7 v762 w759 w760)
  else
    z1l <|
    chk (z1Y 24 (v757.length : Int)) <|
    z0W (z7t a0 v757) LFm (0, List.replicate (v757.length : Int).toNat ([] : List Bool))
def z7o (a0 : DFA) (v757 : List Int) : Int × (List (Int × Int)) → Fr
  | (w759, w760) => ⟨418, [(1, .one (.a 1 [] (0))), (2, .one (.a 2 [] (0))), (5, .one (.a 5 [] (0))), (6, .one (.t none (.sc (.int .i64 (v757.length : Int))))), (7, .one (.h 7 [])), (57, .one (.h 5 [0])), (58, .one (.t none (.sc (.int .i64 (v757.length : Int))))), (59, .one (.t none (.sc (.int .i64 w759))))], [(1, .vr [.sc (.int .i64 a0.letters), .sc (.int .i64 a0.start), .sl a0.final.length (a0.final.map fun x0 => .sc (.bool x0)), .sl a0.next.length (a0.next.map fun x0 => .sl x0.length (x0.map fun x1 => .sc (.int .i64 x1)))]), (2, .vr [.os 1 0 [], .os 1 0 [], .os 1 0 [], .os 1 0 [], .os 1 0 [], .os 1 0 []]), (5, .vr [.os 1 v757.length (v757.map fun x0 => .sc (.int .i64 x0)), .os 1 0 [], .os 1 0 [], .os 1 0 [], .os 1 0 [], .os 1 0 []]), (7, .mp (some .i64) (w760.map fun x0 => (.int .i64 x0.1, .int .i64 x0.2)))]⟩
def zaN (a0 : DFA) : Option (Imgs × Int) :=
  (z8N a0).bind fun v756 =>
  if v756 = 0 then
    (z7T a0).bind fun v757 =>
    if 400 < (v757.length : Int) then
      some ((⟨[], [], [], [], [], []⟩ : Imgs), 3)
    else
      z0W (z6b a0 v757) LFm (0, ([] : List (Int × Int)))
  else
    some ((⟨[], [], [], [], [], []⟩ : Imgs), v756)
theorem zjg {a0 : DFA} {r : Imgs × Int} (h0 : zaN a0 = some r) : L 15 [.agg [.sc (.int .i64 a0.letters), .sc (.int .i64 a0.start), .sl a0.final.length (a0.final.map fun x0 => .sc (.bool x0)), .sl a0.next.length (a0.next.map fun x0 => .sl x0.length (x0.map fun x1 => .sc (.int .i64 x1)))]] = some (.tup [.agg [.os 1 r.1.sets.length (r.1.sets.map fun x0 => .sc (.int .i64 x0)), .os 1 r.1.class_.length (r.1.class_.map fun x0 => .sc (.int .i64 x0)), .os 1 r.1.height.length (r.1.height.map fun x0 => .sc (.int .i64 x0)), .os 1 r.1.tiles.length (r.1.tiles.map fun x0 => .os 1 x0.length (x0.map fun x1 => .sc (.int .i64 x1))), .os 1 r.1.words.length (r.1.words.map fun x0 => .sc (.string x0)), .os 1 r.1.back.length (r.1.back.map fun x0 => .sc (.string x0))], .sc (.int .i64 r.2)], [.dead]) := by
  simp only [zaN] at h0
  refine z2S zv7 zvm (z1w zvq ⟨of_decide_eq_true rfl, of_decide_eq_true rfl⟩ ?_)
  simp only [z1E, z1A, z1y, z1G, z3i]
  refine zq rfl (zr rfl rfl rfl (by simp; rfl) ?_)
  refine z0a (zq rfl (zq rfl ?_))
  obtain ⟨v756, f1042, h1⟩ := z0h h0
  have f1042k := zhO f1042
  try simp at f1042k
  refine zr rfl rfl rfl (by simp [f1042k]; rfl) ?_
  refine z0a (zq rfl (zr rfl rfl rfl (by simp; rfl) ?_))
  refine z0a ?_
  by_cases c1043 : v756 = 0
  ·rw [if_pos c1043] at h1
   have c1043e := eq_true c1043
   refine z0n rfl (by simp [c1043e]) (z0i rfl (z0a (zq rfl ?_)))
   obtain ⟨v757, f1044, h2⟩ := z0h h1
   have f1044k := zgb f1044
   try simp at f1044k
   refine zr rfl rfl rfl (by simp [f1044k]; rfl) ?_
   refine z0a (zq rfl (zr rfl rfl rfl (by simp; rfl) ?_))
   refine z0a (zq rfl (zq rfl (zr rfl rfl rfl (by simp; rfl) ?_)))
   refine z0a ?_
   by_cases c1045 : 400 < (v757.length : Int)
   ·rw [if_pos c1045] at h2
    refine z0u rfl (by simp [c1045]) (zq rfl (zr rfl rfl rfl (by simp; rfl) ?_))
    refine z0a (z1t rfl (z1b ?_))
    cases h2
    simp
   ·rw [if_neg c1045] at h2
    refine z0n rfl (by simp [c1045]) (z0i rfl (z0a (zq rfl (zr rfl rfl rfl (by simp; rfl) ?_))))
    refine z0a (zq rfl (zq rfl (zr rfl rfl rfl (by simp; rfl) ?_)))
    refine z0a (zb rfl (z0C h2 (z7o a0 v757) rfl rfl (by simp [z7o]) fun s o1 h3 hr1 => ?_))
    obtain ⟨w759, w760⟩ := s
    simp only [z6b] at h3
    simp only [z7o]
    refine zq rfl (zr rfl rfl rfl (by simp; rfl) ?_)
    refine z0a (zq rfl ?_)
    by_cases c1050 : w759 < (v757.length : Int)
    ·rw [if_pos c1050] at h3
     refine z0u rfl (by simp [c1050]) (z0i rfl (z0a (zq rfl (zb rfl (zq rfl ?_)))))
     obtain ⟨v762, f1051, h4⟩ := z0R h3
     refine zr rfl rfl rfl (by simp [f1051]; rfl) ?_
     refine z0a (zr rfl rfl rfl (by simp; rfl) ?_)
     refine z0g (z0a (zr rfl rfl rfl (by simp; rfl) ?_))
     have ho := z0d h4
     refine z0f ho ?_
     simp [z7o]
    ·rw [if_neg c1050] at h3
     refine z0n rfl (by simp [c1050]) (z0V rfl (z0v ?_))
     obtain ⟨rr1, h4, ho1⟩ := z0j h3
     have hs1 := hr1 _ ho1
     subst hs1
     refine z0m ho1 (z0e rfl (z0a (zq rfl ?_)))
     obtain ⟨f1052, h5⟩ := ziC h4
     refine zr rfl rfl rfl (by simp [f1052]; rfl) ?_
     refine z0a (zq rfl (zq rfl (zr rfl rfl rfl (by simp [f1052]; rfl) ?_)))
     refine z0a (zb rfl (z0C h5 (z7n a0 v757) rfl rfl (by simp [z7n]) fun s o2 h6 hr2 => ?_))
     obtain ⟨w763, w764⟩ := s
     simp only [z7t] at h6
     simp only [z7n]
     refine zq rfl (zr rfl rfl rfl (by simp; rfl) ?_)
     refine z0a (zq rfl ?_)
     by_cases c1059 : w763 < (v757.length : Int)
     ·rw [if_pos c1059] at h6
      refine z0u rfl (by simp [c1059]) (z0i rfl (z0a (zq rfl (zb rfl (zq rfl (zr rfl rfl rfl (by simp; rfl) ?_))))))
      refine z0a ?_
      obtain ⟨f1060, h7⟩ := zst h6
      obtain ⟨v766, f1061, h8⟩ := z0R h7
      refine zr rfl rfl rfl (by simp [f1060, f1061]; rfl) ?_
      refine z0g (z0a (zr rfl rfl rfl (by simp; rfl) ?_))
      have ho := z0d h8
      refine z0f ho ?_
      simp [z7n]
     ·rw [if_neg c1059] at h6
      refine z0n rfl (by simp [c1059]) (z0V rfl (z0v ?_))
      obtain ⟨rr2, h7, ho2⟩ := z0j h6
      have hs2 := hr2 _ ho2
      subst hs2
      refine z0m ho2 (z0e rfl (z0a (zq rfl (zq rfl (zr rfl rfl rfl (by simp; rfl) ?_)))))
      refine z0a (zb rfl (z0C h7 (z7m a0 v757) rfl rfl (by simp [z7m]) fun s o3 h8 hr3 => ?_))
      obtain ⟨w807, w808⟩ := s
      simp only [z7s] at h8
      simp only [z7m]
      refine zq rfl (zr rfl rfl rfl (by simp; rfl) ?_)
      refine z0a (zq rfl ?_)
      by_cases c1170 : w807 < (v757.length : Int)
      ·rw [if_pos c1170] at h8
       refine z0u rfl (by simp [c1170]) (z0i rfl (z0a (zq rfl (zb rfl (zq rfl ?_)))))
       obtain ⟨v849, f1171, h9⟩ := z0R h8
       refine zr rfl rfl rfl (by simp [f1171]; rfl) ?_
       refine z0a (zq rfl ?_)
       obtain ⟨v850, f1172, h10⟩ := z0h h9
       have f1172k := z5E f1172
       try simp at f1172k
       refine zr rfl rfl rfl (by simp [f1172k]; rfl) ?_
       refine z0a (zq rfl (zr rfl rfl rfl (by simp; rfl) ?_))
       refine z0a (zb rfl (z0C h10 (z7l a0 v757 w807 v850) rfl rfl (by simp [z7l]) fun s o4 h11 hr4 => ?_))
       obtain ⟨w863, w864⟩ := s
       simp only [z6a] at h11
       simp only [z7l]
       refine zq rfl (zr rfl rfl rfl (by simp; rfl) ?_)
       refine z0a (zq rfl ?_)
       by_cases c1207 : w863 < (v850.1.length : Int)
       ·rw [if_pos c1207] at h11
        refine z0u rfl (by simp [c1207]) (z0i rfl (z0a (zq rfl (zb rfl (zq rfl ?_)))))
        obtain ⟨v877, f1208, h12⟩ := z0R h11
        refine zr rfl rfl rfl (by simp [f1208]; rfl) ?_
        refine z0a (zq rfl (zr rfl rfl rfl (by simp; rfl) ?_))
        refine z0a (zb rfl (z0C h12 (z5Q a0 v757 w807 v850 w863 v877) rfl rfl (by simp [z5Q]) fun s o5 h13 hr5 => ?_))
        obtain ⟨w881, w882⟩ := s
        simp only [z5Z] at h13
        simp only [z5Q]
        refine zq rfl (zr rfl rfl rfl (by simp; rfl) ?_)
        refine z0a (zq rfl ?_)
        by_cases c1219 : w881 < (v757.length : Int)
        ·rw [if_pos c1219] at h13
         refine z0u rfl (by simp [c1219]) (z0i rfl (z0a (zq rfl (zb rfl (zq rfl ?_)))))
         obtain ⟨v886, f1220, h14⟩ := z0R h13
         refine zr rfl rfl rfl (by simp [f1220]; rfl) ?_
         refine z0a (zq rfl (zr rfl rfl rfl (by simp; rfl) ?_))
         refine z0a ?_
         by_cases c1221 : (z2o .i64 v886 v877) = v886
         ·rw [if_pos c1221] at h14
          have c1221e := eq_true c1221
          refine z0u rfl (by simp [c1221e]) ?_
          obtain ⟨v887, f1222, h15⟩ := z0R h14
          obtain ⟨v888, f1223, h16⟩ := z0R h15
          refine zr rfl rfl rfl (by simp [f1222, f1223]; rfl) ?_
          refine z0g (z0a (zr rfl rfl rfl (by simp [f1222]; rfl) ?_))
          have ho := z0d h16
          refine z0f ho ?_
          simp [z5Q]
         ·rw [if_neg c1221] at h14
          have c1221e := eq_false c1221
          refine z0n rfl (by simp [c1221e]) (z0i rfl (z0g (z0a (zr rfl rfl rfl (by simp; rfl) ?_))))
          have ho := z0d h14
          refine z0f ho ?_
          simp [z5Q]
        ·rw [if_neg c1219] at h13
         refine z0n rfl (by simp [c1219]) (z0V rfl (z0v ?_))
         obtain ⟨rr5, h14, ho5⟩ := z0j h13
         have hs5 := hr5 _ ho5
         subst hs5
         refine z0m ho5 (z0e rfl (z0g (z0a (zr rfl rfl rfl (by simp; rfl) ?_))))
         have ho := z0d h14
         refine z0f ho ?_
         simp [z7l]
       ·rw [if_neg c1207] at h11
        refine z0n rfl (by simp [c1207]) (z0V rfl (z0v ?_))
        obtain ⟨rr4, h12, ho4⟩ := z0j h11
        have hs4 := hr4 _ ho4
        subst hs4
        refine z0m ho4 (z0e rfl (z0g (z0a (zr rfl rfl rfl (by simp; rfl) ?_))))
        have ho := z0d h12
        refine z0f ho ?_
        simp [z7m]
      ·rw [if_neg c1170] at h8
       refine z0n rfl (by simp [c1170]) (z0V rfl (z0v ?_))
       obtain ⟨rr3, h9, ho3⟩ := z0j h8
       have hs3 := hr3 _ ho3
       subst hs3
       refine z0m ho3 (z0e rfl (z0a (zq rfl ?_)))
       obtain ⟨f1224, h10⟩ := ziC h9
       refine zr rfl rfl rfl (by simp [f1224]; rfl) ?_
       refine z0a (zq rfl (zq rfl (zr rfl rfl rfl (by simp [f1224]; rfl) ?_)))
       refine z0a (zb rfl (z0C h10 (z5P a0 v757 w808) rfl rfl (by simp [z5P]) fun s o6 h11 hr6 => ?_))
       obtain ⟨w908, w909⟩ := s
       simp only [z7r] at h11
       simp only [z5P]
       refine zq rfl (zr rfl rfl rfl (by simp; rfl) ?_)
       refine z0a (zq rfl ?_)
       by_cases c1279 : w908 < (v757.length : Int)
       ·rw [if_pos c1279] at h11
        refine z0u rfl (by simp [c1279]) (z0i rfl (z0a (zq rfl (zb rfl (zq rfl (zr rfl rfl rfl (by simp; rfl) ?_))))))
        refine z0a (zq rfl ?_)
        obtain ⟨v930, f1280, h12⟩ := z0R h11
        refine zr rfl rfl rfl (by simp [f1280]; rfl) ?_
        refine z0a (zq rfl (zr rfl rfl rfl (by simp; rfl) ?_))
        refine z0a (zb rfl (z0C h12 (z5O a0 v757 w808 w908 w909) rfl rfl (by simp [z5O]) fun s o7 h13 hr7 => ?_))
        obtain ⟨w937, hs7⟩ : ∃ y, y = s := ⟨_, rfl⟩
        subst hs7
        simp only [z5Y] at h13
        simp only [z5O]
        refine zq rfl (zq rfl (zr rfl rfl rfl (by simp; rfl) ?_))
        refine z0a ?_
        by_cases c1299 : w937 < w908
        ·rw [if_pos c1299] at h13
         refine z0u rfl (by simp [c1299]) (z0i rfl (z0a (zq rfl (zb rfl (zq rfl ?_)))))
         obtain ⟨v944, f1300, h14⟩ := z0R h13
         obtain ⟨v945, f1301, h15⟩ := z0R h14
         by_cases c1302 : v945 = true
         ·rw [if_pos c1302] at h15
          obtain ⟨v946, f1303, h16⟩ := z0R h15
          obtain ⟨v947, f1304, h17⟩ := z0R h16
          refine zr rfl rfl rfl (by simp [f1300, f1301, c1302, f1303, f1304]; rfl) ?_
          refine z0a ?_
          by_cases c1305 : v947 = true
          ·rw [if_pos c1305] at h17
           refine z0u rfl (by simp [c1305]) (zq rfl ?_)
           obtain ⟨v948, f1306, h18⟩ := z0h h17
           obtain ⟨f1306a, f1306b, f1306c, f1306d, f1306e⟩ := z7x f1306
           try simp only [List.length_set] at f1306b f1306c
           have f1306s : ∀ hh, ((w909.set w908.toNat w908).map (fun x0 : Int => (.sc (.int .i64 x0) : T)))[w937.toNat]'hh = (fun x0 : Int => (.sc (.int .i64 x0) : T)) v948 := fun hh => by rw [List.getElem_map]; exact congrArg (fun x0 : Int => (.sc (.int .i64 x0) : T)) (f1306e _)
           try simp only [List.map_set] at f1306s
           obtain ⟨v949, f1307, h19⟩ := z0h h18
           obtain ⟨f1307a, f1307b, f1307c, f1307d, f1307e⟩ := z7x f1307
           try simp only [List.length_set] at f1307b f1307c
           have f1307s : ∀ hh, ((w909.set w908.toNat w908).map (fun x0 : Int => (.sc (.int .i64 x0) : T)))[w908.toNat]'hh = (fun x0 : Int => (.sc (.int .i64 x0) : T)) v949 := fun hh => by rw [List.getElem_map]; exact congrArg (fun x0 : Int => (.sc (.int .i64 x0) : T)) (f1307e _)
           try simp only [List.map_set] at f1307s
           refine zr rfl rfl rfl (by simp [f1300, f1303, f1306a, f1306b, f1306c, f1306d, f1306e, f1306s, f1307a, f1307b, f1307c, f1307d, f1307e, f1307s]; rfl) ?_
           refine z0a (z0V rfl (z8u rfl (z0v ?_)))
           obtain ⟨rr7, h20, ho7⟩ := z0j h19
           have hs7 := hr7 _ ho7
           subst hs7
           refine z0m ho7 (z0e rfl (z0g (z0a (zr rfl rfl rfl (by simp [f1300, f1303]; rfl) ?_))))
           have ho := z0d h20
           refine z0f ho ?_
           simp [z5P, c1302, c1305]
          ·rw [if_neg c1305] at h17
           refine z0n rfl (by simp [c1305]) (z0i rfl (z0g (z0a (zr rfl rfl rfl (by simp [f1300, f1303]; rfl) ?_))))
           have ho := z0d h17
           refine z0f ho ?_
           simp [z5O, c1302, c1305]
         ·rw [if_neg c1302] at h15
          refine zr rfl rfl rfl (by simp [f1300, f1301, c1302]; rfl) ?_
          refine z0a (z0n rfl (by simp) (z0i rfl (z0g (z0a (zr rfl rfl rfl (by simp [f1300]; rfl) ?_)))))
          have ho := z0d h15
          refine z0f ho ?_
          simp [z5O, c1302]
        ·rw [if_neg c1299] at h13
         refine z0n rfl (by simp [c1299]) (z0V rfl (z0v ?_))
         obtain ⟨rr7, h14, ho7⟩ := z0j h13
         have hs7 := hr7 _ ho7
         subst hs7
         refine z0m ho7 (z0e rfl (z0g (z0a (zr rfl rfl rfl (by simp; rfl) ?_))))
         have ho := z0d h14
         refine z0f ho ?_
         simp [z5P]
       ·rw [if_neg c1279] at h11
        refine z0n rfl (by simp [c1279]) (z0V rfl (z0v ?_))
        obtain ⟨rr6, h12, ho6⟩ := z0j h11
        have hs6 := hr6 _ ho6
        subst hs6
        refine z0m ho6 (z0e rfl (z0a (zq rfl ?_)))
        obtain ⟨v950, f1308, h13⟩ := z0h h12
        have f1308k := zaO f1308
        try simp at f1308k
        refine zr rfl rfl rfl (by simp [f1308k]; rfl) ?_
        refine z0a (zq rfl ?_)
        obtain ⟨f1309, h14⟩ := ziC h13
        obtain ⟨f1310, h15⟩ := ziC h14
        obtain ⟨f1311, h16⟩ := ziC h15
        refine zfL rfl rfl rfl rfl ?_
        refine zk5 [(0, 0, 0, 1), (1, 2, 3, 2), (2, 4, 3, 3), (3, 6, 3, 4), (4, 1, 1, 5), (4, 3, 1, 6), (4, 5, 1, 7), (4, 7, 1, 8), (5, 8, 0, 12), (6, 1, 1, 9), (6, 5, 1, 13), (6, 7, 1, 14), (7, 1, 1, 10), (7, 3, 1, 13), (7, 7, 1, 15), (8, 1, 1, 11), (8, 3, 1, 14), (8, 5, 1, 15), (9, 8, 0, 18), (10, 8, 0, 20), (11, 8, 0, 21), (12, 3, 1, 18), (12, 5, 1, 20), (12, 7, 1, 21), (12, 9, 2, 22), (13, 1, 1, 16), (13, 7, 1, 23), (14, 1, 1, 17), (14, 5, 1, 23), (15, 1, 1, 19), (15, 3, 1, 23), (16, 8, 0, 25), (17, 8, 0, 26), (18, 5, 1, 25), (18, 7, 1, 26), (18, 9, 2, 27), (19, 8, 0, 28), (20, 3, 1, 25), (20, 7, 1, 28), (20, 9, 2, 29), (21, 3, 1, 26), (21, 5, 1, 28), (21, 9, 2, 30), (22, 3, 1, 27), (22, 5, 1, 29), (22, 7, 1, 30), (23, 1, 1, 24), (24, 8, 0, 31), (25, 7, 1, 31), (25, 9, 2, 32), (26, 5, 1, 31), (26, 9, 2, 33), (27, 10, 0, 34), (28, 3, 1, 31), (28, 9, 2, 35), (29, 3, 1, 32), (29, 7, 1, 35), (30, 3, 1, 33), (30, 5, 1, 35), (31, 9, 2, 36), (32, 10, 0, 37), (33, 10, 0, 38), (34, 5, 1, 37), (34, 7, 1, 38), (34, 11, 2, 39), (35, 3, 1, 36), (36, 10, 0, 40), (37, 7, 1, 40), (37, 11, 2, 41), (38, 5, 1, 40), (38, 11, 2, 42), (39, 5, 1, 41), (39, 7, 1, 42), (40, 11, 2, 43), (41, 12, 0, 44), (42, 5, 1, 43), (43, 12, 0, 45), (44, 7, 1, 45), (44, 13, 2, 46), (45, 13, 2, 47), (46, 7, 1, 47), (47, 14, 0, 48), (48, 15, 2, 49)] 49 (by kernel_rfl) ?_
        refine z0k rfl rfl rfl rfl (by simp [z0c, z0b, f1309, f1310, f1311]; rfl) ?_
        refine z0k rfl rfl rfl rfl (by simp [z0c, z0b, f1309, f1310, f1311]; rfl) ?_
        refine z0k rfl rfl rfl rfl (by simp [z0c, z0b, f1309, f1310, f1311]; rfl) ?_
        refine z0k rfl rfl rfl rfl (by simp [z0c, z0b, f1309, f1310, f1311]; rfl) ?_
        refine z0k rfl rfl rfl rfl (by simp [z0c, z0b, f1309, f1310, f1311]; rfl) ?_
        refine z0k rfl rfl rfl rfl (by simp [z0c, z0b, f1309, f1310, f1311]; rfl) ?_
        refine z0k rfl rfl rfl rfl (by simp [z0c, z0b, f1309, f1310, f1311]; rfl) ?_
        refine z0k rfl rfl rfl rfl (by simp [z0c, z0b, f1309, f1310, f1311]; rfl) ?_
        refine z0k rfl rfl rfl rfl (by simp [z0c, z0b, f1309, f1310, f1311]; rfl) ?_
        refine z0k rfl rfl rfl rfl (by simp [z0c, z0b, f1309, f1310, f1311]; rfl) ?_
        refine z0k rfl rfl rfl rfl (by simp [z0c, z0b, f1309, f1310, f1311]; rfl) ?_
        refine z0k rfl rfl rfl rfl (by simp [z0c, z0b, f1309, f1310, f1311]; rfl) ?_
        refine z0k rfl rfl rfl rfl (by simp [z0c, z0b, f1309, f1310, f1311]; rfl) ?_
        refine z0o rfl rfl rfl rfl (by simp [z0c, z0b, f1309, f1310, f1311]) ?_
        refine z0k rfl rfl rfl rfl (by simp [z0c, z0b, f1309, f1310, f1311]; rfl) ?_
        refine z0k rfl rfl rfl rfl (by simp [z0c, z0b, f1309, f1310, f1311]; rfl) ?_
        refine z0o rfl rfl rfl rfl (by simp [z0c, z0b, f1309, f1310, f1311]) ?_
        refine z0o rfl rfl rfl rfl (by simp [z0c, z0b, f1309, f1310, f1311]) ?_
        refine z0k rfl rfl rfl rfl (by simp [z0c, z0b, f1309, f1310, f1311]; rfl) ?_
        refine z0k rfl rfl rfl rfl (by simp [z0c, z0b, f1309, f1310, f1311]; rfl) ?_
        refine z0k rfl rfl rfl rfl (by simp [z0c, z0b, f1309, f1310, f1311]; rfl) ?_
        refine z0o rfl rfl rfl rfl (by simp [z0c, z0b, f1309, f1310, f1311]) ?_
        refine z0o rfl rfl rfl rfl (by simp [z0c, z0b, f1309, f1310, f1311]) ?_
        refine z0o rfl rfl rfl rfl (by simp [z0c, z0b, f1309, f1310, f1311]) ?_
        refine z0k rfl rfl rfl rfl (by simp [z0c, z0b, f1309, f1310, f1311]; rfl) ?_
        refine z0k rfl rfl rfl rfl (by simp [z0c, z0b, f1309, f1310, f1311]; rfl) ?_
        refine z0k rfl rfl rfl rfl (by simp [z0c, z0b, f1309, f1310, f1311]; rfl) ?_
        refine z0k rfl rfl rfl rfl (by simp [z0c, z0b, f1309, f1310, f1311]; rfl) ?_
        refine z0o rfl rfl rfl rfl (by simp [z0c, z0b, f1309, f1310, f1311]) ?_
        refine z0k rfl rfl rfl rfl (by simp [z0c, z0b, f1309, f1310, f1311]; rfl) ?_
        refine z0o rfl rfl rfl rfl (by simp [z0c, z0b, f1309, f1310, f1311]) ?_
        refine z0k rfl rfl rfl rfl (by simp [z0c, z0b, f1309, f1310, f1311]; rfl) ?_
        refine z0k rfl rfl rfl rfl (by simp [z0c, z0b, f1309, f1310, f1311]; rfl) ?_
        refine z0o rfl rfl rfl rfl (by simp [z0c, z0b, f1309, f1310, f1311]) ?_
        refine z0o rfl rfl rfl rfl (by simp [z0c, z0b, f1309, f1310, f1311]) ?_
        refine z0k rfl rfl rfl rfl (by simp [z0c, z0b, f1309, f1310, f1311]; rfl) ?_
        refine z0k rfl rfl rfl rfl (by simp [z0c, z0b, f1309, f1310, f1311]; rfl) ?_
        refine z0o rfl rfl rfl rfl (by simp [z0c, z0b, f1309, f1310, f1311]) ?_
        refine z0o rfl rfl rfl rfl (by simp [z0c, z0b, f1309, f1310, f1311]) ?_
        refine z0k rfl rfl rfl rfl (by simp [z0c, z0b, f1309, f1310, f1311]; rfl) ?_
        refine z0o rfl rfl rfl rfl (by simp [z0c, z0b, f1309, f1310, f1311]) ?_
        refine z0o rfl rfl rfl rfl (by simp [z0c, z0b, f1309, f1310, f1311]) ?_
        refine z0k rfl rfl rfl rfl (by simp [z0c, z0b, f1309, f1310, f1311]; rfl) ?_
        refine z0o rfl rfl rfl rfl (by simp [z0c, z0b, f1309, f1310, f1311]) ?_
        refine z0o rfl rfl rfl rfl (by simp [z0c, z0b, f1309, f1310, f1311]) ?_
        refine z0o rfl rfl rfl rfl (by simp [z0c, z0b, f1309, f1310, f1311]) ?_
        refine z0k rfl rfl rfl rfl (by simp [z0c, z0b, f1309, f1310, f1311]; rfl) ?_
        refine z0k rfl rfl rfl rfl (by simp [z0c, z0b, f1309, f1310, f1311]; rfl) ?_
        refine z0o rfl rfl rfl rfl (by simp [z0c, z0b, f1309, f1310, f1311]) ?_
        refine z0k rfl rfl rfl rfl (by simp [z0c, z0b, f1309, f1310, f1311]; rfl) ?_
        refine z0o rfl rfl rfl rfl (by simp [z0c, z0b, f1309, f1310, f1311]) ?_
        refine z0k rfl rfl rfl rfl (by simp [z0c, z0b, f1309, f1310, f1311]; rfl) ?_
        refine z0k rfl rfl rfl rfl (by simp [z0c, z0b, f1309, f1310, f1311]; rfl) ?_
        refine z0o rfl rfl rfl rfl (by simp [z0c, z0b, f1309, f1310, f1311]) ?_
        refine z0k rfl rfl rfl rfl (by simp [z0c, z0b, f1309, f1310, f1311]; rfl) ?_
        refine z0o rfl rfl rfl rfl (by simp [z0c, z0b, f1309, f1310, f1311]) ?_
        refine z0o rfl rfl rfl rfl (by simp [z0c, z0b, f1309, f1310, f1311]) ?_
        refine z0o rfl rfl rfl rfl (by simp [z0c, z0b, f1309, f1310, f1311]) ?_
        refine z0o rfl rfl rfl rfl (by simp [z0c, z0b, f1309, f1310, f1311]) ?_
        refine z0k rfl rfl rfl rfl (by simp [z0c, z0b, f1309, f1310, f1311]; rfl) ?_
        refine z0k rfl rfl rfl rfl (by simp [z0c, z0b, f1309, f1310, f1311]; rfl) ?_
        refine z0k rfl rfl rfl rfl (by simp [z0c, z0b, f1309, f1310, f1311]; rfl) ?_
        refine z0o rfl rfl rfl rfl (by simp [z0c, z0b, f1309, f1310, f1311]) ?_
        refine z0o rfl rfl rfl rfl (by simp [z0c, z0b, f1309, f1310, f1311]) ?_
        refine z0k rfl rfl rfl rfl (by simp [z0c, z0b, f1309, f1310, f1311]; rfl) ?_
        refine z0o rfl rfl rfl rfl (by simp [z0c, z0b, f1309, f1310, f1311]) ?_
        refine z0k rfl rfl rfl rfl (by simp [z0c, z0b, f1309, f1310, f1311]; rfl) ?_
        refine z0o rfl rfl rfl rfl (by simp [z0c, z0b, f1309, f1310, f1311]) ?_
        refine z0k rfl rfl rfl rfl (by simp [z0c, z0b, f1309, f1310, f1311]; rfl) ?_
        refine z0o rfl rfl rfl rfl (by simp [z0c, z0b, f1309, f1310, f1311]) ?_
        refine z0k rfl rfl rfl rfl (by simp [z0c, z0b, f1309, f1310, f1311]; rfl) ?_
        refine z0o rfl rfl rfl rfl (by simp [z0c, z0b, f1309, f1310, f1311]) ?_
        refine z0o rfl rfl rfl rfl (by simp [z0c, z0b, f1309, f1310, f1311]) ?_
        refine z0k rfl rfl rfl rfl (by simp [z0c, z0b, f1309, f1310, f1311]; rfl) ?_
        refine z0k rfl rfl rfl rfl (by simp [z0c, z0b, f1309, f1310, f1311]; rfl) ?_
        refine z0o rfl rfl rfl rfl (by simp [z0c, z0b, f1309, f1310, f1311]) ?_
        refine z0k rfl rfl rfl rfl (by simp [z0c, z0b, f1309, f1310, f1311]; rfl) ?_
        refine z0o rfl rfl rfl rfl (by simp [z0c, z0b, f1309, f1310, f1311]) ?_
        refine z0k rfl rfl rfl rfl (by simp [z0c, z0b, f1309, f1310, f1311]; rfl) ?_
        refine z0k rfl rfl rfl rfl (by simp [z0c, z0b, f1309, f1310, f1311]; rfl) ?_
        refine z0o rfl rfl rfl rfl (by simp [z0c, z0b, f1309, f1310, f1311]) ?_
        refine z0k rfl rfl rfl rfl (by simp [z0c, z0b, f1309, f1310, f1311]; rfl) ?_
        refine z0k rfl rfl rfl rfl (by simp [z0c, z0b, f1309, f1310, f1311]; rfl) ?_
        refine zkR rfl ?_
        refine zfC rfl (by simp [f1309, f1310, f1311]; rfl) ?_
        refine z0a (zq rfl (zq rfl (zr rfl rfl rfl (by simp; rfl) ?_)))
        refine z0a (zb rfl (z0C h16 (z7k a0 v757 w808 v950) rfl rfl (by simp [z7k]) fun s o8 h17 hr8 => ?_))
        obtain ⟨w1055, w1056⟩ := s
        simp only [z5X] at h17
        simp only [z7k]
        refine zq rfl (zq rfl (zr rfl rfl rfl (by simp; rfl) ?_))
        refine z0a ?_
        by_cases c1567 : w1055 = true
        ·rw [if_pos c1567] at h17
         refine z0u rfl (by simp [c1567]) (z0i rfl (z0a (zb rfl (zq rfl (zr rfl rfl rfl (by simp; rfl) ?_)))))
         refine z0a (zq rfl (zr rfl rfl rfl (by simp; rfl) ?_))
         refine z0a (zb rfl (z0C h17 (z7j a0 v757 w808 v950) rfl rfl (by simp [z7j]) fun s o9 h18 hr9 => ?_))
         obtain ⟨w1204, w1205, w1206⟩ := s
         simp only [z5W] at h18
         simp only [z7j]
         refine zq rfl (zr rfl rfl rfl (by simp; rfl) ?_)
         refine z0a (zq rfl ?_)
         by_cases c1655 : w1205 < (v757.length : Int)
         ·rw [if_pos c1655] at h18
          refine z0u rfl (by simp [c1655]) (z0i rfl (z0a (zq rfl (zb rfl (zq rfl (zr rfl rfl rfl (by simp; rfl) ?_))))))
          refine z0a (zq rfl (zr rfl rfl rfl (by simp; rfl) ?_))
          refine z0a (zb rfl (z0C h18 (z3Q a0 v757 w808 v950 w1205) rfl rfl (by simp [z3Q]) fun s o10 h19 hr10 => ?_))
          obtain ⟨w1251, w1250, w1252⟩ := s
          simp only [z5V] at h19
          simp only [z3Q]
          refine zq rfl (zr rfl rfl rfl (by simp; rfl) ?_)
          refine z0a (zq rfl ?_)
          by_cases c1682 : w1250 < (v757.length : Int)
          ·rw [if_pos c1682] at h19
           refine z0u rfl (by simp [c1682]) (z0i rfl (z0a (zq rfl (zb rfl (zq rfl (zr rfl rfl rfl (by simp; rfl) ?_))))))
           refine z0a (zq rfl ?_)
           obtain ⟨v1263, f1683, h20⟩ := z0R h19
           obtain ⟨v1264, f1684, h21⟩ := z0h h20
           have f1684k := z4n f1684
           try simp at f1684k
           by_cases c1685 : 1 < v1264
           ·rw [if_pos c1685] at h21
            obtain ⟨v1265, f1686, h22⟩ := z0R h21
            obtain ⟨v1266, f1687, h23⟩ := z0R h22
            by_cases c1688 : v1266 = true
            ·rw [if_pos c1688] at h23
             obtain ⟨v1267, f1689, h24⟩ := z0R h23
             obtain ⟨v1268, f1690, h25⟩ := z0R h24
             by_cases c1691 : v1268 = true
             ·rw [if_pos c1691] at h25
              refine z1s rfl rfl rfl rfl ?_; repeat' (first | (refine z0z rfl rfl fun Q' hQ => ?_; simp [f1683, f1684k, c1685, f1686, f1687, c1688, f1689, f1690, c1691]; refine hQ.out _ ?_; clear hQ; clear Q') | (refine z2f rfl rfl fun Q1 Q2 h1 h2 => ?_; simp [f1683, f1684k, c1685, f1686, f1687, c1688, f1689, f1690, c1691, z3V]; (first | refine h1.out ?_ | refine h2.out ?_); clear h1 h2; clear Q1 Q2; intro Q' hQ; simp [f1683, f1684k, c1685, f1686, f1687, c1688, f1689, f1690, c1691]; refine hQ.out _ ?_; clear hQ; clear Q') | (refine z0q rfl fun Q' hQ => ?_; simp [f1683, f1684k, c1685, f1686, f1687, c1688, f1689, f1690, c1691]; refine hQ.out _ ?_; clear hQ; clear Q'))
              refine z0a (z0n rfl (by simp) (z0i rfl (z0g (z0a (zr rfl rfl rfl (by simp [f1686, f1689]; rfl) ?_)))))
              have ho := z0d h25
              refine z0f ho ?_
              simp [z3Q, c1688, c1691]
             ·rw [if_neg c1691] at h25
              obtain ⟨v1269, f1692, h26⟩ := z0R h25
              obtain ⟨v1270, f1693, h27⟩ := z0R h26
              refine z1s rfl rfl rfl rfl ?_; repeat' (first | (refine z0z rfl rfl fun Q' hQ => ?_; simp [f1683, f1684k, c1685, f1686, f1687, c1688, f1689, f1690, c1691, f1692, f1693]; refine hQ.out _ ?_; clear hQ; clear Q') | (refine z2f rfl rfl fun Q1 Q2 h1 h2 => ?_; simp [f1683, f1684k, c1685, f1686, f1687, c1688, f1689, f1690, c1691, f1692, f1693, z3V]; (first | refine h1.out ?_ | refine h2.out ?_); clear h1 h2; clear Q1 Q2; intro Q' hQ; simp [f1683, f1684k, c1685, f1686, f1687, c1688, f1689, f1690, c1691, f1692, f1693]; refine hQ.out _ ?_; clear hQ; clear Q') | (refine z0q rfl fun Q' hQ => ?_; simp [f1683, f1684k, c1685, f1686, f1687, c1688, f1689, f1690, c1691, f1692, f1693]; refine hQ.out _ ?_; clear hQ; clear Q'))
              refine z0a ?_
              by_cases c1694 : v1269 ≤ v1270
              ·rw [if_pos c1694] at h27
               refine z0u rfl (by simp [c1694]) (zq rfl ?_)
               refine z1s rfl rfl rfl rfl ?_; repeat' ((first | refine z0z rfl rfl fun Q' hQ => ?_ | refine z0q rfl fun Q' hQ => ?_); simp [f1686, f1689, f1693, f1692]; refine hQ.out _ ?_; clear hQ; clear Q')
               refine z0a (zr rfl rfl rfl (by simp [f1686, f1689]; rfl) ?_)
               refine z0g (z0a (zr rfl rfl rfl (by simp [f1686, f1689]; rfl) ?_))
               have ho := z0d h27
               refine z0f ho ?_
               simp [z3Q, c1688, c1691]
              ·rw [if_neg c1694] at h27
               refine z0n rfl (by simp [c1694]) (z0i rfl (z0g (z0a (zr rfl rfl rfl (by simp [f1686, f1689]; rfl) ?_))))
               have ho := z0d h27
               refine z0f ho ?_
               simp [z3Q, c1688, c1691]
            ·rw [if_neg c1688] at h23
             refine z1s rfl rfl rfl rfl ?_; repeat' (first | (refine z0z rfl rfl fun Q' hQ => ?_; simp [f1683, f1684k, c1685, f1686, f1687, c1688]; refine hQ.out _ ?_; clear hQ; clear Q') | (refine z2f rfl rfl fun Q1 Q2 h1 h2 => ?_; simp [f1683, f1684k, c1685, f1686, f1687, c1688, z3V]; (first | refine h1.out ?_ | refine h2.out ?_); clear h1 h2; clear Q1 Q2; intro Q' hQ; simp [f1683, f1684k, c1685, f1686, f1687, c1688]; refine hQ.out _ ?_; clear hQ; clear Q') | (refine z0q rfl fun Q' hQ => ?_; simp [f1683, f1684k, c1685, f1686, f1687, c1688]; refine hQ.out _ ?_; clear hQ; clear Q'))
             refine z0a (z0n rfl (by simp) (z0i rfl (z0g (z0a (zr rfl rfl rfl (by simp [f1686]; rfl) ?_)))))
             have ho := z0d h23
             refine z0f ho ?_
             simp [z3Q, c1688]
           ·rw [if_neg c1685] at h21
            refine z1s rfl rfl rfl rfl ?_; repeat' (first | (refine z0z rfl rfl fun Q' hQ => ?_; simp [f1683, f1684k, c1685]; refine hQ.out _ ?_; clear hQ; clear Q') | (refine z2f rfl rfl fun Q1 Q2 h1 h2 => ?_; simp [f1683, f1684k, c1685, z3V]; (first | refine h1.out ?_ | refine h2.out ?_); clear h1 h2; clear Q1 Q2; intro Q' hQ; simp [f1683, f1684k, c1685]; refine hQ.out _ ?_; clear hQ; clear Q') | (refine z0q rfl fun Q' hQ => ?_; simp [f1683, f1684k, c1685]; refine hQ.out _ ?_; clear hQ; clear Q'))
            refine z0a (z0n rfl (by simp) (z0i rfl (z0g (z0a (zr rfl rfl rfl (by simp; rfl) ?_)))))
            have ho := z0d h21
            refine z0f ho ?_
            simp [z3Q]
          ·rw [if_neg c1682] at h19
           refine z0n rfl (by simp [c1682]) (z0V rfl (z0v ?_))
           obtain ⟨rr10, h20, ho10⟩ := z0j h19
           have hs10 := hr10 _ ho10
           subst hs10
           refine z0m ho10 (z0e rfl (z0g (z0a (zr rfl rfl rfl (by simp; rfl) ?_))))
           have ho := z0d h20
           refine z0f ho ?_
           simp [z7j]
         ·rw [if_neg c1655] at h18
          refine z0n rfl (by simp [c1655]) (z0V rfl (z0v ?_))
          obtain ⟨rr9, h19, ho9⟩ := z0j h18
          have hs9 := hr9 _ ho9
          subst hs9
          refine z0m ho9 (z0e rfl (z0g ?_))
          have ho := z0d h19
          refine z0f ho ?_
          simp [z7k]
        ·rw [if_neg c1567] at h17
         refine z0n rfl (by simp [c1567]) (z0V rfl (z0v ?_))
         obtain ⟨rr8, h18, ho8⟩ := z0j h17
         have hs8 := hr8 _ ho8
         subst hs8
         refine z0m ho8 (z0e rfl (z0a (zq rfl (zq rfl (zr rfl rfl rfl (by simp; rfl) ?_)))))
         refine z0a (zb rfl (z0C h18 (z5N a0 v757 v950 w1056) rfl rfl (by simp [z5N]) fun s o11 h19 hr11 => ?_))
         obtain ⟨w1311, w1312⟩ := s
         simp only [z4U] at h19
         simp only [z5N]
         refine zq rfl (zr rfl rfl rfl (by simp; rfl) ?_)
         refine z0a (zq rfl ?_)
         by_cases c1855 : w1311 < (v757.length : Int)
         ·rw [if_pos c1855] at h19
          refine z0u rfl (by simp [c1855]) (z0i rfl (z0a (zq rfl (zb rfl (zq rfl (zr rfl rfl rfl (by simp; rfl) ?_))))))
          refine z0a (zq rfl (zq rfl ?_))
          obtain ⟨v1353, f1856, h20⟩ := z0R h19
          obtain ⟨v1354, f1857, h21⟩ := z0h h20
          have f1857k := z4n f1857
          try simp at f1857k
          refine zr rfl rfl rfl (by simp [f1856, f1857k]; rfl) ?_
          refine z0a ?_
          by_cases c1858 : v1354 = 1
          ·rw [if_pos c1858] at h21
           have c1858e := eq_true c1858
           refine z0u rfl (by simp [c1858e]) (z0V rfl (z0v (z0e rfl (z0a (zr rfl rfl rfl (by simp; rfl) ?_)))))
           have ho := z0d h21
           refine z0f ho ?_
           simp [z5N]
          ·rw [if_neg c1858] at h21
           have c1858e := eq_false c1858
           refine z0n rfl (by simp [c1858e]) (z0i rfl (z0a (zq rfl (zr rfl rfl rfl (by simp; rfl) ?_))))
           refine z0a (zb rfl (z0C h21 (z4f a0 v757 v950 w1056 w1311) rfl rfl (by simp [z4f]) fun s o12 h22 hr12 => ?_))
           obtain ⟨w1367, w1368⟩ := s
           simp only [z5U] at h22
           simp only [z4f]
           refine zq rfl (zr rfl rfl rfl (by simp; rfl) ?_)
           refine z0a (zq rfl ?_)
           by_cases c1913 : w1367 < (v757.length : Int)
           ·rw [if_pos c1913] at h22
            refine z0u rfl (by simp [c1913]) (z0i rfl (z0a (zq rfl (zb rfl (zq rfl ?_)))))
            obtain ⟨v1381, f1914, h23⟩ := z0R h22
            refine zr rfl rfl rfl (by simp [f1914]; rfl) ?_
            refine z0a (zq rfl (zq rfl ?_))
            obtain ⟨v1382, f1915, h24⟩ := z0R h23
            by_cases c1916 : (z2o .i64 v1381 v1382) = v1381
            ·rw [if_pos c1916] at h24
             have c1916e := eq_true c1916
             refine zr rfl rfl rfl (by simp [f1915, c1916e]; rfl) ?_
             refine z0a ?_
             by_cases c1917 : w1367 = w1311
             ·rw [if_pos c1917] at h24
              have c1917e := eq_true c1917
              refine z0u rfl (by simp [c1917e]) (z0V rfl (z0v (z0e rfl (z0a (zr rfl rfl rfl (by simp; rfl) ?_)))))
              have ho := z0d h24
              refine z0f ho ?_
              simp [z4f]
             ·rw [if_neg c1917] at h24
              have c1917e := eq_false c1917
              refine z0n rfl (by simp [c1917e]) (z0i rfl (z0a (zq rfl (zr rfl rfl rfl (by simp; rfl) ?_))))
              refine z0a (zq rfl (zq rfl (zr rfl rfl rfl (by simp; rfl) ?_)))
              refine z0a (zb rfl (z0C h24 (z3P a0 v757 v950 w1056 w1311 w1367 w1368 v1381) rfl rfl (by simp [z3P]) fun s o13 h25 hr13 => ?_))
              obtain ⟨w1385, w1386⟩ := s
              simp only [z5T] at h25
              simp only [z3P]
              refine zq rfl (zr rfl rfl rfl (by simp; rfl) ?_)
              refine z0a (zq rfl ?_)
              by_cases c1931 : w1386 < (v757.length : Int)
              ·rw [if_pos c1931] at h25
               refine z0u rfl (by simp [c1931]) (z0i rfl (z0a (zq rfl (zb rfl (zq rfl ?_)))))
               obtain ⟨v1389, f1932, h26⟩ := z0R h25
               refine zr rfl rfl rfl (by simp [f1932]; rfl) ?_
               refine z0a ?_
               by_cases c1933 : w1385 = true
               ·rw [if_pos c1933] at h26
                by_cases c1934 : w1386 = w1367
                ·rw [if_pos c1934] at h26
                 have c1934e := eq_true c1934
                 refine zr rfl rfl rfl (by simp [c1933, c1934e]; rfl) ?_
                 refine z0g (z0a (zr rfl rfl rfl (by simp; rfl) ?_))
                 have ho := z0d h26
                 refine z0f ho ?_
                 simp [z3P, c1933]
                ·rw [if_neg c1934] at h26
                 have c1934e := eq_false c1934
                 by_cases c1935 : w1386 = w1311
                 ·rw [if_pos c1935] at h26
                  have c1935e := eq_true c1935
                  refine zr rfl rfl rfl (by simp [c1933, c1934e, c1935e]; rfl) ?_
                  refine z0g (z0a (zr rfl rfl rfl (by simp; rfl) ?_))
                  have ho := z0d h26
                  refine z0f ho ?_
                  simp [z3P, c1933]
                 ·rw [if_neg c1935] at h26
                  have c1935e := eq_false c1935
                  obtain ⟨v1390, f1936, h27⟩ := z0R h26
                  by_cases c1937 : (z2o .i64 v1389 v1390) = v1389
                  ·rw [if_pos c1937] at h27
                   have c1937e := eq_true c1937
                   refine zr rfl rfl rfl (by simp [c1933, c1934e, c1935e, f1936, c1937e]; rfl) ?_
                   refine z0g (z0a (zr rfl rfl rfl (by simp; rfl) ?_))
                   have ho := z0d h27
                   refine z0f ho ?_
                   simp [z3P, c1933]
                  ·rw [if_neg c1937] at h27
                   have c1937e := eq_false c1937
                   refine zr rfl rfl rfl (by simp [c1933, c1934e, c1935e, f1936, c1937e]; rfl) ?_
                   refine z0g (z0a (zr rfl rfl rfl (by simp; rfl) ?_))
                   have ho := z0d h27
                   refine z0f ho ?_
                   simp [z3P, c1933]
               ·rw [if_neg c1933] at h26
                refine zr rfl rfl rfl (by simp [c1933]; rfl) ?_
                refine z0g (z0a (zr rfl rfl rfl (by simp; rfl) ?_))
                have ho := z0d h26
                refine z0f ho ?_
                simp [z3P, c1933]
              ·rw [if_neg c1931] at h25
               refine z0n rfl (by simp [c1931]) (z0V rfl (z0v ?_))
               obtain ⟨rr13, h26, ho13⟩ := z0j h25
               have hs13 := hr13 _ ho13
               subst hs13
               refine z0m ho13 (z0e rfl (z0a (zq rfl (zr rfl rfl rfl (by simp; rfl) ?_))))
               refine z0a ?_
               by_cases c1938 : w1385 = true
               ·rw [if_pos c1938] at h26
                refine z0u rfl (by simp [c1938]) ?_
                obtain ⟨v1391, f1939, h27⟩ := z0R h26
                obtain ⟨f1940, h28⟩ := z7I h27
                refine zfL rfl rfl rfl rfl ?_
                refine zk5 [(0, 0, 3, 1), (1, 2, 3, 2), (2, 3, 3, 3), (3, 5, 3, 4), (4, 8, 3, 5), (5, 1, 2, 6), (5, 4, 2, 7), (5, 9, 1, 8), (6, 4, 2, 9), (6, 9, 1, 10), (7, 6, 3, 11), (8, 1, 2, 10), (8, 4, 2, 12), (9, 6, 0, 13), (10, 4, 2, 14), (11, 1, 2, 13), (11, 7, 2, 15), (11, 9, 1, 16), (12, 6, 3, 16), (13, 7, 2, 17), (13, 9, 1, 18), (14, 6, 0, 18), (15, 1, 2, 17), (15, 9, 1, 19), (16, 1, 2, 18), (16, 7, 2, 19), (17, 9, 1, 20), (18, 7, 2, 20), (19, 1, 2, 20), (19, 10, 2, 21), (20, 10, 2, 22), (21, 1, 2, 22), (22, 11, 0, 23), (23, 12, 2, 24)] 24 (by kernel_rfl) ?_
                refine z0k rfl rfl rfl rfl (by simp [z0c, z0b, f1939, f1940]; rfl) ?_
                refine z0k rfl rfl rfl rfl (by simp [z0c, z0b, f1939, f1940]; rfl) ?_
                refine z0k rfl rfl rfl rfl (by simp [z0c, z0b, f1939, f1940]; rfl) ?_
                refine z0k rfl rfl rfl rfl (by simp [z0c, z0b, f1939, f1940]; rfl) ?_
                refine z0k rfl rfl rfl rfl (by simp [z0c, z0b, f1939, f1940]; rfl) ?_
                refine z0k rfl rfl rfl rfl (by simp [z0c, z0b, f1939, f1940]; rfl) ?_
                refine z0k rfl rfl rfl rfl (by simp [z0c, z0b, f1939, f1940]; rfl) ?_
                refine z0k rfl rfl rfl rfl (by simp [z0c, z0b, f1939, f1940]; rfl) ?_
                refine z0k rfl rfl rfl rfl (by simp [z0c, z0b, f1939, f1940]; rfl) ?_
                refine z0k rfl rfl rfl rfl (by simp [z0c, z0b, f1939, f1940]; rfl) ?_
                refine z0k rfl rfl rfl rfl (by simp [z0c, z0b, f1939, f1940]; rfl) ?_
                refine z0o rfl rfl rfl rfl (by simp [z0c, z0b, f1939, f1940]) ?_
                refine z0k rfl rfl rfl rfl (by simp [z0c, z0b, f1939, f1940]; rfl) ?_
                refine z0k rfl rfl rfl rfl (by simp [z0c, z0b, f1939, f1940]; rfl) ?_
                refine z0k rfl rfl rfl rfl (by simp [z0c, z0b, f1939, f1940]; rfl) ?_
                refine z0o rfl rfl rfl rfl (by simp [z0c, z0b, f1939, f1940]) ?_
                refine z0k rfl rfl rfl rfl (by simp [z0c, z0b, f1939, f1940]; rfl) ?_
                refine z0k rfl rfl rfl rfl (by simp [z0c, z0b, f1939, f1940]; rfl) ?_
                refine z0o rfl rfl rfl rfl (by simp [z0c, z0b, f1939, f1940]) ?_
                refine z0k rfl rfl rfl rfl (by simp [z0c, z0b, f1939, f1940]; rfl) ?_
                refine z0k rfl rfl rfl rfl (by simp [z0c, z0b, f1939, f1940]; rfl) ?_
                refine z0o rfl rfl rfl rfl (by simp [z0c, z0b, f1939, f1940]) ?_
                refine z0o rfl rfl rfl rfl (by simp [z0c, z0b, f1939, f1940]) ?_
                refine z0k rfl rfl rfl rfl (by simp [z0c, z0b, f1939, f1940]; rfl) ?_
                refine z0o rfl rfl rfl rfl (by simp [z0c, z0b, f1939, f1940]) ?_
                refine z0o rfl rfl rfl rfl (by simp [z0c, z0b, f1939, f1940]) ?_
                refine z0k rfl rfl rfl rfl (by simp [z0c, z0b, f1939, f1940]; rfl) ?_
                refine z0o rfl rfl rfl rfl (by simp [z0c, z0b, f1939, f1940]) ?_
                refine z0o rfl rfl rfl rfl (by simp [z0c, z0b, f1939, f1940]) ?_
                refine z0k rfl rfl rfl rfl (by simp [z0c, z0b, f1939, f1940]; rfl) ?_
                refine z0k rfl rfl rfl rfl (by simp [z0c, z0b, f1939, f1940]; rfl) ?_
                refine z0o rfl rfl rfl rfl (by simp [z0c, z0b, f1939, f1940]) ?_
                refine z0k rfl rfl rfl rfl (by simp [z0c, z0b, f1939, f1940]; rfl) ?_
                refine z0k rfl rfl rfl rfl (by simp [z0c, z0b, f1939, f1940]; rfl) ?_
                refine zkR rfl ?_
                refine zfC rfl (by simp [f1939, f1940]; rfl) ?_
                refine z0g (z0a (zr rfl rfl rfl (by simp; rfl) ?_))
                have ho := z0d h28
                refine z0f ho ?_
                simp [z4f, c1938]
               ·rw [if_neg c1938] at h26
                refine z0n rfl (by simp [c1938]) (z0i rfl (z0g (z0a (zr rfl rfl rfl (by simp; rfl) ?_))))
                have ho := z0d h26
                refine z0f ho ?_
                simp [z4f, c1938]
            ·rw [if_neg c1916] at h24
             have c1916e := eq_false c1916
             refine zr rfl rfl rfl (by simp [f1915, c1916e]; rfl) ?_
             refine z0a (z0u rfl (by simp) (z0V rfl (z0v (z0e rfl (z0a (zr rfl rfl rfl (by simp; rfl) ?_))))))
             have ho := z0d h24
             refine z0f ho ?_
             simp [z4f]
           ·rw [if_neg c1913] at h22
            refine z0n rfl (by simp [c1913]) (z0V rfl (z0v ?_))
            obtain ⟨rr12, h23, ho12⟩ := z0j h22
            have hs12 := hr12 _ ho12
            subst hs12
            refine z0m ho12 (z0e rfl (z0g (z0a (zr rfl rfl rfl (by simp; rfl) ?_))))
            have ho := z0d h23
            refine z0f ho ?_
            simp [z5N]
         ·rw [if_neg c1855] at h19
          refine z0n rfl (by simp [c1855]) (z0V rfl (z0v ?_))
          obtain ⟨rr11, h20, ho11⟩ := z0j h19
          have hs11 := hr11 _ ho11
          subst hs11
          refine z0m ho11 (z0e rfl (z0a (zq rfl (zq rfl (zr rfl rfl rfl (by simp; rfl) ?_)))))
          refine z0a (zb rfl (z0C h20 (z7i a0 v757 v950 w1056 w1312) rfl rfl (by simp [z7i]) fun s o14 h21 hr14 => ?_))
          obtain ⟨w1430, w1431, w1432⟩ := s
          simp only [z7q] at h21
          simp only [z7i]
          refine zq rfl (zr rfl rfl rfl (by simp; rfl) ?_)
          refine z0a (zq rfl ?_)
          by_cases c2038 : w1430 < (v757.length : Int)
          ·rw [if_pos c2038] at h21
           refine z0u rfl (by simp [c2038]) (z0i rfl (z0a (zq rfl (zb rfl (zq rfl (zr rfl rfl rfl (by simp; rfl) ?_))))))
           refine z0a (zq rfl (zr rfl rfl rfl (by simp; rfl) ?_))
           refine z0a (zq rfl (zb rfl (z0C h21 (z7h a0 v757 v950 w1056 w1312 w1430 w1431 w1432) rfl rfl (by simp [z7h]) fun s o15 h22 hr15 => ?_)))
           obtain ⟨w1474, hs15⟩ : ∃ y, y = s := ⟨_, rfl⟩
           subst hs15
           simp only [z7p] at h22
           simp only [z7h]
           refine zq rfl (zq rfl ?_)
           obtain ⟨v1477, f2045, h23⟩ := z0R h22
           obtain ⟨v1478, f2046, h24⟩ := z0R h23
           refine z1s rfl rfl rfl rfl ?_; repeat' ((first | refine z0z rfl rfl fun Q' hQ => ?_ | refine z0q rfl fun Q' hQ => ?_); simp [f2045, f2046]; refine hQ.out _ ?_; clear hQ; clear Q')
           refine z0a ?_
           by_cases c2047 : v1477 = v1478
           ·rw [if_pos c2047] at h24
            have c2047e := eq_true c2047
            refine z0n rfl (by simp [c2047e]) (z0V rfl (z0v ?_))
            obtain ⟨rr15, h25, ho15⟩ := z0j h24
            have hs15 := hr15 _ ho15
            subst hs15
            refine z0m ho15 (z0e rfl (z0a (zq rfl ?_)))
            obtain ⟨v1479, f2048, h26⟩ := z0R h25
            obtain ⟨v1480, f2049, h27⟩ := z0h h26
            have f2049k := z5E f2049
            try simp at f2049k
            refine z1s rfl rfl rfl rfl ?_; repeat' ((first | refine z0z rfl rfl fun Q' hQ => ?_ | refine z0q rfl fun Q' hQ => ?_); simp [f2048, f2049k]; refine hQ.out _ ?_; clear hQ; clear Q')
            refine z0a (zq rfl (zq rfl (zr rfl rfl rfl (by simp; rfl) ?_)))
            refine z0a (zb rfl (z0C h27 (z5M a0 v757 v950 w1056 w1312 w1430 w1432 w1474 v1480) rfl rfl (by simp [z5M]) fun s o16 h28 hr16 => ?_))
            obtain ⟨w1485, w1486⟩ := s
            simp only [z5S] at h28
            simp only [z5M]
            refine zq rfl (zr rfl rfl rfl (by simp; rfl) ?_)
            refine z0a (zq rfl ?_)
            by_cases c2062 : w1485 < (v1480.1.length : Int)
            ·rw [if_pos c2062] at h28
             refine z0u rfl (by simp [c2062]) (z0i rfl (z0a (zq rfl (zb rfl (zq rfl ?_)))))
             obtain ⟨v1491, f2063, h29⟩ := z0R h28
             refine zr rfl rfl rfl (by simp [f2063]; rfl) ?_
             refine z0a (zq rfl ?_)
             obtain ⟨v1492, f2064, h30⟩ := z0R h29
             refine zr rfl rfl rfl (by simp [f2064]; rfl) ?_
             refine z0a ?_
             by_cases c2065 : v1491 = v1492
             ·rw [if_pos c2065] at h30
              have c2065e := eq_true c2065
              refine z0u rfl (by simp [c2065e]) ?_
              obtain ⟨v1493, f2066, h31⟩ := z0R h30
              obtain ⟨v1494, f2067, h32⟩ := z0R h31
              refine z1s rfl rfl rfl rfl ?_; repeat' ((first | refine z0z rfl rfl fun Q' hQ => ?_ | refine z0q rfl fun Q' hQ => ?_); simp [f2066, f2067]; refine hQ.out _ ?_; clear hQ; clear Q')
              refine z0g (z0a (zr rfl rfl rfl (by simp; rfl) ?_))
              have ho := z0d h32
              refine z0f ho ?_
              simp [z5M]
             ·rw [if_neg c2065] at h30
              have c2065e := eq_false c2065
              refine z0n rfl (by simp [c2065e]) (z0i rfl (z0g (z0a (zr rfl rfl rfl (by simp; rfl) ?_))))
              have ho := z0d h30
              refine z0f ho ?_
              simp [z5M]
            ·rw [if_neg c2062] at h28
             refine z0n rfl (by simp [c2062]) (z0V rfl (z0v ?_))
             obtain ⟨rr16, h29, ho16⟩ := z0j h28
             have hs16 := hr16 _ ho16
             subst hs16
             refine z0m ho16 (z0e rfl (z0a (zq rfl ?_)))
             obtain ⟨v1495, f2068, h30⟩ := z0R h29
             obtain ⟨v1496, f2069, h31⟩ := z0h h30
             have f2069k := z5E f2069
             try simp at f2069k
             refine z1s rfl rfl rfl rfl ?_; repeat' ((first | refine z0z rfl rfl fun Q' hQ => ?_ | refine z0q rfl fun Q' hQ => ?_); simp [f2068, f2069k]; refine hQ.out _ ?_; clear hQ; clear Q')
             refine z0a (zq rfl (zr rfl rfl rfl (by simp; rfl) ?_))
             refine z0a (zb rfl (z0C h31 (z5L a0 v757 v950 w1056 w1312 w1430 w1474 w1486 v1496) rfl rfl (by simp [z5L]) fun s o17 h32 hr17 => ?_))
             obtain ⟨w1501, w1502⟩ := s
             simp only [z5R] at h32
             simp only [z5L]
             refine zq rfl (zr rfl rfl rfl (by simp; rfl) ?_)
             refine z0a (zq rfl ?_)
             by_cases c2082 : w1501 < (v1496.1.length : Int)
             ·rw [if_pos c2082] at h32
              refine z0u rfl (by simp [c2082]) (z0i rfl (z0a (zq rfl (zb rfl (zq rfl ?_)))))
              obtain ⟨v1507, f2083, h33⟩ := z0R h32
              refine zr rfl rfl rfl (by simp [f2083]; rfl) ?_
              refine z0a (zq rfl ?_)
              obtain ⟨v1508, f2084, h34⟩ := z0R h33
              refine zr rfl rfl rfl (by simp [f2084]; rfl) ?_
              refine z0a ?_
              by_cases c2085 : v1507 = v1508
              ·rw [if_pos c2085] at h34
               have c2085e := eq_true c2085
               refine z0u rfl (by simp [c2085e]) ?_
               obtain ⟨v1509, f2086, h35⟩ := z0R h34
               obtain ⟨v1510, f2087, h36⟩ := z0R h35
               refine z1s rfl rfl rfl rfl ?_; repeat' ((first | refine z0z rfl rfl fun Q' hQ => ?_ | refine z0q rfl fun Q' hQ => ?_); simp [f2086, f2087]; refine hQ.out _ ?_; clear hQ; clear Q')
               refine z0g (z0a (zr rfl rfl rfl (by simp; rfl) ?_))
               have ho := z0d h36
               refine z0f ho ?_
               simp [z5L]
              ·rw [if_neg c2085] at h34
               have c2085e := eq_false c2085
               refine z0n rfl (by simp [c2085e]) (z0i rfl (z0g (z0a (zr rfl rfl rfl (by simp; rfl) ?_))))
               have ho := z0d h34
               refine z0f ho ?_
               simp [z5L]
             ·rw [if_neg c2082] at h32
              refine z0n rfl (by simp [c2082]) (z0V rfl (z0v ?_))
              obtain ⟨rr17, h33, ho17⟩ := z0j h32
              have hs17 := hr17 _ ho17
              subst hs17
              refine z0m ho17 (z0e rfl (z0g (z0a (zr rfl rfl rfl (by simp; rfl) ?_))))
              have ho := z0d h33
              refine z0f ho ?_
              simp [z7i]
           ·rw [if_neg c2047] at h24
            have c2047e := eq_false c2047
            refine z0u rfl (by simp [c2047e]) (z0i rfl (z0a (zb rfl (zr rfl rfl rfl (by simp; rfl) ?_))))
            refine z0g ?_
            have ho := z0d h24
            refine z0f ho ?_
            simp [z7h]
          ·rw [if_neg c2038] at h21
           refine z0n rfl (by simp [c2038]) (z0V rfl (z0v ?_))
           obtain ⟨rr14, h22, ho14⟩ := z0j h21
           have hs14 := hr14 _ ho14
           subst hs14
           refine z0m ho14 (z0e rfl (z0a (zq rfl (zr rfl rfl rfl (by simp; rfl) ?_))))
           refine z0a (z1t rfl ?_)
           cases h22
           simp
  ·rw [if_neg c1043] at h1
   have c1043e := eq_false c1043
   refine z0u rfl (by simp [c1043e]) (zq rfl (zr rfl rfl rfl (by simp; rfl) ?_))
   refine z0a (z1t rfl (z1b ?_))
   cases h1
   simp
end
end Go.Proofs.Ytbnnipkanechoaa
end
section
namespace Go.Proofs.Ytbnnipkanechoaa
open Go
set_option maxRecDepth 100000
theorem zcK : ∀ s : Nat, s < 128 → z4o (s : Int) = some ((szN s : Nat) : Int) := by decide +kernel
theorem zoP {a b : Nat} (ha : a < 128) (hb : b < 128) : z5K (a : Int) (b : Int) = some (!zmN b a) := by
  unfold z5K
  rw [zcK a ha, Option.bind_some, zcK b hb, Option.bind_some]
  by_cases h : szN a = szN b
  · rw [if_pos (by omega)]
    congr 1
    rw [Bool.eq_iff_iff]
    simp only [decide_eq_true_eq, Bool.not_eq_true', zjP]
    omega
  · rw [if_neg (by omega), Option.bind_some, Option.bind_some]
    congr 1
    rw [Bool.eq_iff_iff]
    simp only [decide_eq_true_eq, Bool.not_eq_true', zjP]
    omega
theorem zqD {S R : List Nat} {x : Nat} (hv : ∀ y ∈ S ++ [x], y < 128) (hs : ziD S) (hl : S.length < 2 ^ 40) {w : Nat} (hw : w = S.length) :
    ∃ S', z0W (z4D (w : Int)) LFm ((w : Int), toI (S ++ x :: R)) = some (.inl (((w + 1 : Nat) : Int), toI (S' ++ R))) ∧ ziD S' ∧ S'.Perm (S ++ [x]) := by
  refine Exists.elim (z2a (b := z4D (w : Int)) (fun z => ∃ S1 S2, S1 ++ S2 = S ∧ z = (((S1.length : Nat) : Int), toI (S1 ++ x :: (S2 ++ R))) ∧ ∀ y ∈ S2, zmN x y = true) (fun z => z.1.toNat)
    (fun r => ∃ S', r = .inl (((w + 1 : Nat) : Int), toI (S' ++ R)) ∧ ziD S' ∧ S'.Perm (S ++ [x])) ?_ LFm ((w : Int), toI (S ++ x :: R)) ⟨S, [], by simp, by rw [hw]; simp, by simp⟩ (by simp only [LFm]; omega)) fun r h => by
      obtain ⟨h1, S', rfl, h2, h3⟩ := h
      exact ⟨S', h1, h2, h3⟩
  rintro z ⟨S1, S2, rfl, rfl, h2⟩
  have hlen : S1.length + S2.length < 2 ^ 40 := by rw [List.length_append] at hl; omega
  have fin : (∀ y ∈ S1, zmN y x = true) → ziD (S1 ++ x :: S2) ∧ (S1 ++ x :: S2).Perm (S1 ++ S2 ++ [x]) := fun hle => by
    refine ⟨?_, ?_⟩
    · rw [ziD, List.pairwise_append] at hs ⊢
      refine ⟨hs.1, List.pairwise_cons.2 ⟨fun y hy => h2 y hy, hs.2.1⟩, fun a ha b hb => ?_⟩
      rcases List.mem_cons.1 hb with rfl | hb
      · exact hle a ha
      · exact hs.2.2 a ha b hb
    · rw [List.append_assoc]
      exact List.Perm.append_left _ (List.perm_append_singleton x S2).symm
  simp only [z4D]
  rcases List.eq_nil_or_concat S1 with rfl | ⟨S0, y, rfl⟩
  · right
    rw [if_neg (by simp)]
    obtain ⟨f1, f2⟩ := fin (fun y hy => by simp at hy)
    refine ⟨_, rfl, x :: S2, ?_, by simpa using f1, by simpa using f2⟩
    have : IntKind.i64.wrap ((w : Int) + 1) = ((w + 1 : Nat) : Int) := by rw [z2q (by omega) (by omega)]; omega
    rw [this]; simp
  · simp only [List.concat_eq_append] at *
    have hy : y < 128 := hv y (by simp)
    have hx : x < 128 := hv x (by simp)
    have e1 : toI (S0 ++ [y] ++ x :: (S2 ++ R)) = toI S0 ++ (y : Int) :: (x : Int) :: toI (S2 ++ R) := by simp [toI]
    have hn : (S0 ++ [y]).length = (toI S0).length + 1 := by simp [toI]
    have hj : IntKind.i64.wrap ((((toI S0).length + 1 : Nat) : Int) - 1) = (((toI S0).length : Nat) : Int) := by
      rw [hn] at hlen
      rw [z2q (by omega) (by omega)]; omega
    rw [e1, hn, if_pos (by omega), at1 _ _ _ _ rfl, Option.bind_some, hj, at0 _ _ _ rfl, Option.bind_some, zoP hx hy, Option.bind_some]
    cases hlt : zmN y x with
    | false =>
      left
      rw [if_pos (by rfl), Int.toNat_natCast, zsr _ _ _ _ _ rfl, at0 _ _ _ rfl, Option.bind_some, Int.toNat_natCast, zqI _ _ _ _ rfl]
      refine ⟨_, rfl, ⟨S0, y :: S2, by simp, ?_, fun z hz => ?_⟩, by simp only; omega⟩
      · simp [toI]
      · rcases List.mem_cons.1 hz with rfl | hz
        · rw [zjP] at hlt; rw [zcq]; omega
        · exact h2 z hz
    | true =>
      right
      rw [if_neg (by simp)]
      obtain ⟨f1, f2⟩ := fin (fun z hz => by
        rcases List.mem_append.1 hz with hz | hz
        · rw [ziD, List.pairwise_append, List.pairwise_append] at hs
          have := hs.1.2.2 z hz y (by simp)
          rw [zcq] at *
          omega
        · obtain rfl := List.mem_singleton.1 hz; exact hlt)
      refine ⟨_, rfl, S0 ++ [y] ++ x :: S2, ?_, f1, f2⟩
      have : IntKind.i64.wrap ((w : Int) + 1) = ((w + 1 : Nat) : Int) := by rw [z2q (by omega) (by omega)]; omega
      rw [this]; simp [toI]
theorem zpm {X : List Nat} (hv : ∀ y ∈ X, y < 128) (hl : X.length < 2 ^ 40) (V : List Int) (hV : V.length = X.length) : ∃ S, z0W (z4E V) LFm (0, toI X) = some (toI S) ∧ ziD S ∧ S.Perm X := by
  refine Exists.elim (z2a (b := z4E V) (fun z => ∃ S U, z = (((S.length : Nat) : Int), toI (S ++ U)) ∧ ziD S ∧ (S ++ U).Perm X) (fun z => X.length - z.1.toNat)
    (fun r => ∃ S, r = toI S ∧ ziD S ∧ S.Perm X) ?_ LFm (0, toI X) ⟨[], X, by simp, by simp, .refl _⟩ (by simp only [LFm]; omega)) fun r h => by
      obtain ⟨h1, S, rfl, h2, h3⟩ := h
      exact ⟨S, h1, h2, h3⟩
  rintro z ⟨S, U, rfl, h1, h2⟩
  have hlen := h2.length_eq
  rw [List.length_append] at hlen
  simp only [z4E]
  cases U with
  | nil =>
    right
    rw [if_neg (by simp at hlen ⊢; omega)]
    exact ⟨_, rfl, S, by simp, h1, by simpa using h2⟩
  | cons u U =>
    left
    rw [if_pos (by simp at hlen ⊢; omega)]
    have hvS : ∀ y ∈ S ++ [u], y < 128 := fun y hy => hv y (h2.mem_iff.1 (by
      rcases List.mem_append.1 hy with hy | hy
      · exact List.mem_append.2 (.inl hy)
      · obtain rfl := List.mem_singleton.1 hy; simp))
    obtain ⟨S', e, s1, s2⟩ := zqD (S := S) (R := U) (x := u) hvS h1 (by simp at hlen hl ⊢; omega) rfl
    rw [e]
    have hS' := s2.length_eq
    simp at hS'
    refine ⟨_, rfl, ⟨S', U, ?_, s1, ?_⟩, ?_⟩
    · simp only [hS']
    · refine List.Perm.trans ?_ h2
      have : S ++ u :: U = S ++ [u] ++ U := by simp
      rw [this]
      exact s2.append_right U
    · simp at hlen ⊢; omega
theorem zrf {d : DFA} {m n : Nat} (hd : DfaOk d m n) (hn : n ≤ 7) : z7T d = some (toI (zdR d m n)) := by
  have hp := Nat.two_pow_pos n
  have h128 : 2 ^ n ≤ 128 := Nat.pow_le_pow_right (n := 2) (by omega) hn
  have hf : 2 ^ n - 1 < 2 ^ n := by omega
  have hi := z4I hd hf
  have hl := z1m hi.nd hi.lt
  unfold z7T
  rw [zsn hd (by omega), Option.bind_some, zcV hd (by omega) hf, Option.bind_some]
  refine z1C (s := ((0 : Int), toI (z1p d m n (2 ^ n - 1)).1)) n (fun q => ((q : Int), toI (z7J (z1p d m n (2 ^ n - 1)).1 q))) rfl (by simp only [LFm]; omega) (fun q hq => ?_) ?_
  · have h3' := (z5z hi.nd q).2.2
    simp only [z6u]
    rw [if_pos (by rw [hd.fin]; omega), ziG (by omega), z0Y _ (by omega)]
    generalize hX : z7J (z1p d m n (2 ^ n - 1)).1 q = X at *
    refine z1C (s := (false, (0 : Int))) X.length (fun k => (decide (2 ^ q ∈ X.take k), (k : Int))) (by simp) (by simp only [LFm]; omega) (fun k hk => ?_) ?_
    · have ht : X.take (k + 1) = X.take k ++ [X.getD k 0] := by rw [List.getD, List.getElem?_eq_getElem hk, Option.getD_some, List.take_append_getElem]
      simp only [z6t]
      rw [if_pos (by rw [z0s]; omega), z2B hk, Option.bind_some, ziG (by omega), z6r (by omega), z1R (by omega), ht]
      by_cases h : 2 ^ q ∈ X.take k
      · rw [if_pos (by simpa using h)]
        congr 2
        simp [h]
      · rw [if_neg (by simpa using h)]
        congr 2
        rw [Bool.eq_iff_iff, decide_eq_true_iff, decide_eq_true_iff, List.mem_append, List.mem_singleton]
        constructor
        · intro h'; exact .inr (by omega)
        · rintro (h' | h')
          · exact absurd h' h
          · omega
    · simp only [z6t]
      rw [if_neg (by rw [z0s]; omega), List.take_length, z1R (by omega), z7J, hX]
      by_cases h : 2 ^ q ∈ X
      · rw [if_pos (by simpa using h), if_pos h]
      · rw [if_neg (by simpa using h), if_neg h, z0Y _ (by unfold z2Z; rw [z0s]; omega), ziG (by omega), z6r (by omega), z6o]
  · obtain ⟨h1, h2, h3⟩ := z5z hi.nd n
    simp only [z6u]
    rw [if_neg (by rw [hd.fin]; omega), z0Y _ (by unfold z2Z; rw [z0s]; omega)]
    have hv : ∀ y ∈ z7J (z1p d m n (2 ^ n - 1)).1 n, y < 128 := fun y hy => by
      rcases (h2 y).1 hy with h | ⟨i, hi', rfl⟩
      · have := hi.lt y h; omega
      · have : 2 ^ i < 2 ^ n := Nat.pow_lt_pow_right (by omega) hi'
        omega
    obtain ⟨S, e, s1, s2⟩ := zpm hv (by omega) (toI (z7J (z1p d m n (2 ^ n - 1)).1 n)) (z0s _)
    rw [e]
    have : S = zdR d m n := zfH (s2.trans (z9C _).symm) s1 (z8I _)
    rw [this]
end Go.Proofs.Ytbnnipkanechoaa
end
section
namespace Go.Proofs.Ytbnnipkanechoaa
open Go
set_option maxRecDepth 100000
theorem zim {N : Nat} {e : Nat → Nat → Bool} (he : EqvN N e) {i : Nat} (hi : i < N) :
    (z6P e N i < (z1z e i).length ∧ (z1z e i).getD (z6P e N i) 0 = (z1z e N).getD (z6P e N i) 0 ∧ z1z e (i + 1) = z1z e i) ∨
    (z6P e N i = (z1z e i).length ∧ (z1z e N).getD (z6P e N i) 0 = i ∧ z1z e (i + 1) = z1z e i ++ [i]) := by
  have hc := zqn he hi
  by_cases h : (z1z e i).any (e i) = true
  · left
    obtain ⟨x, hx, hp⟩ := List.any_eq_true.1 h
    have hlt : z6P e N i < (z1z e i).length := by rw [← hc]; exact List.findIdx_lt_length_of_exists ⟨x, hx, hp⟩
    refine ⟨hlt, ?_, by rw [z1z, if_pos h]⟩
    obtain ⟨R, hR⟩ := zeh e (i := i) N (by omega)
    rw [hR, List.getD, List.getD, List.getElem?_append_left hlt]
  · right
    have hlt : z6P e N i = (z1z e i).length := by
      rw [← hc]
      exact List.findIdx_eq_length.2 fun x hx => by
        cases hh : e i x with
        | false => rfl
        | true => exact absurd (List.any_eq_true.2 ⟨x, hx, hh⟩) h
    refine ⟨hlt, ?_, by rw [z1z, if_neg h]⟩
    obtain ⟨R, hR⟩ := zeh e (i := i + 1) N (by omega)
    rw [hR, z1z, if_neg h, hlt, List.getD, List.append_assoc, List.getElem?_append_right (Nat.le_refl _), Nat.sub_self]
    rfl
def zcz (N : Nat) (f : Nat → Nat → Bool) : List (List Bool) := (List.range N).map fun a => (List.range N).map (f a)
theorem z6d {N : Nat} {f g : Nat → Nat → Bool} (h : ∀ a b, a < N → b < N → f a b = g a b) : zcz N f = zcz N g :=
  List.map_congr_left fun a ha => List.map_congr_left fun b hb => h a b (List.mem_range.1 ha) (List.mem_range.1 hb)
theorem zqQ {N : Nat} {f : Nat → Nat → Bool} {i j : Nat} (hi : i < N) (hj : j < N) (v : Bool) : (zcz N f).set i (((List.range N).map (f i)).set j v) = zcz N fun a b => if a = i ∧ b = j then v else f a b := by
  apply List.ext_getElem (by simp [zcz])
  intro k h1 h2
  simp only [zcz, List.getElem_set, List.getElem_map, List.getElem_range]
  by_cases e : i = k
  · subst e
    rw [if_pos rfl]
    apply List.ext_getElem (by simp)
    intro l h3 h4
    simp only [List.getElem_set, List.getElem_map, List.getElem_range]
    by_cases e2 : j = l
    · subst e2; simp
    · rw [if_neg e2, if_neg (by omega)]
  · rw [if_neg e]
    apply List.ext_getElem (by simp)
    intro l h3 h4
    simp only [List.getElem_map, List.getElem_range]
    rw [if_neg (by omega)]
theorem zi4 {N : Nat} {f : Nat → Nat → Bool} {i : Nat} (h : i < N) : atI (zcz N f) (i : Int) = some ((List.range N).map (f i)) := z2V h
section
variable {d : DFA} {m n : Nat} {S : List Nat} (hd : DfaOk d m n) (hn : n ≤ 7) (hS : SetsP d m n S)
def pOf (S : List Nat) (a x : Nat) : Bool := decide (S.getD a 0 &&& x = S.getD a 0)
include hd hn hS
theorem zqB {j x : Nat} (hj : j < S.length) (hx : x < 2 ^ n) (w : Nat) (hw : w < 4611686018427387904) (f : Nat → Nat → Bool) :
    z0W (z5Z (toI S) (j : Int) (w : Int) (x : Int)) LFm (0, zcz S.length f) = z0B (((w + 1 : Nat) : Int), zcz S.length fun a b => if b = j then f a b || pOf S a x else f a b) := by
  have _u := hd
  have h128 : 2 ^ n ≤ 128 := Nat.pow_le_pow_right (n := 2) (by omega) hn
  have hSl := z1m hS.nd hS.lt
  refine z1C (s := ((0 : Int), zcz S.length f)) S.length (fun i => ((i : Int), zcz S.length fun a b => if b = j ∧ a < i then f a b || pOf S a x else f a b)) ?_ (by simp only [LFm]; omega) (fun i hi => ?_) ?_
  · refine Prod.ext rfl ?_
    exact z6d fun a b _ _ => by simp
  · have hil := hS.lt _ (z1q hi)
    simp only [z5Z]
    rw [if_pos (by rw [z0s]; omega), z2B hi, Option.bind_some, zbh (by omega) (by omega), z1R (by omega)]
    by_cases h : S.getD i 0 &&& x = S.getD i 0
    · rw [if_pos (by omega), zi4 hi, Option.bind_some, z2V hj, Option.bind_some, Int.toNat_natCast, Int.toNat_natCast, zqQ hi hj]
      congr 2
      refine z6d fun a b _ _ => ?_
      by_cases e : a = i ∧ b = j
      · obtain ⟨rfl, rfl⟩ := e
        have : pOf S a x = true := decide_eq_true h
        rw [if_pos ⟨rfl, rfl⟩, if_pos ⟨rfl, by omega⟩, this, Bool.or_true]
      · rw [if_neg e]
        by_cases e2 : b = j ∧ a < i
        · rw [if_pos e2, if_pos ⟨e2.1, by omega⟩]
        · rw [if_neg e2, if_neg (by omega)]
    · rw [if_neg (by omega)]
      congr 2
      refine z6d fun a b _ _ => ?_
      by_cases e : a = i ∧ b = j
      · obtain ⟨rfl, rfl⟩ := e
        have : pOf S a x = false := decide_eq_false h
        rw [if_neg (by omega), if_pos ⟨rfl, by omega⟩, this, Bool.or_false]
      · by_cases e2 : b = j ∧ a < i
        · rw [if_pos e2, if_pos ⟨e2.1, by omega⟩]
        · rw [if_neg e2, if_neg (by omega)]
  · simp only [z5Z]
    rw [if_neg (by rw [z0s]; omega), z1R hw]
    congr 2
    refine Prod.ext rfl ?_
    refine z6d fun a b ha _ => ?_
    by_cases e : b = j
    · rw [if_pos ⟨e, ha⟩, if_pos e]
    · rw [if_neg (fun h => e h.1), if_neg e]
theorem zqC {j : Nat} (hj : j < S.length) (W : List ByteArray) :
    z0W (z6a (toI S) (j : Int) (toI (z1p d m n (S.getD j 0)).1, W)) LFm (0, zcz S.length fun a b => decide (b < j) && z3k d m n S a b) = z0B (((j + 1 : Nat) : Int), zcz S.length fun a b => decide (b < j + 1) && z3k d m n S a b) := by
  have h128 : 2 ^ n ≤ 128 := Nat.pow_le_pow_right (n := 2) (by omega) hn
  have hSl := z1m hS.nd hS.lt
  have hinv := z4I hd (hS.lt _ (z1q hj))
  have hlt := hinv.lt
  have hl := z1m hinv.nd hinv.lt
  generalize hR : (z1p d m n (S.getD j 0)).1 = R at *
  refine z1C (s := ((0 : Int), zcz S.length fun a b => decide (b < j) && z3k d m n S a b)) R.length (fun k => ((k : Int), zcz S.length fun a b => if b = j then (R.take k).any (pOf S a) else decide (b < j) && z3k d m n S a b)) ?_ (by simp only [LFm]; omega) (fun k hk => ?_) ?_
  · refine Prod.ext rfl ?_
    refine z6d fun a b _ _ => ?_
    by_cases e : b = j
    · subst e; simp
    · rw [if_neg e]
  · have hx := hlt _ (z1q hk)
    simp only [z6a]
    rw [if_pos (by rw [z0s]; omega), z2B hk, Option.bind_some, zqB hd hn hS hj hx k (by omega)]
    congr 2
    refine z6d fun a b _ _ => ?_
    by_cases e : b = j
    · rw [if_pos e, if_pos e, if_pos e, List.take_succ_eq_append_getElem hk, List.any_append, List.getD, List.getElem?_eq_getElem hk, Option.getD_some]
      simp
    · rw [if_neg e, if_neg e, if_neg e]
  · simp only [z6a]
    rw [if_neg (by rw [z0s]; omega), z1R (by omega)]
    congr 2
    refine Prod.ext rfl ?_
    refine z6d fun a b _ _ => ?_
    by_cases e : b = j
    · rw [if_pos e, List.take_length, ← hR, e, decide_eq_true (Nat.lt_succ_self j), Bool.true_and]
      rfl
    · rw [if_neg e]
      congr 1
      exact decide_eq_decide.2 (by omega)
theorem zoq {i : Nat} (hi : i < S.length) : z5l d m n S i ≤ i := by
  have _u := hn
  rcases zim (zba hd hS) hi with ⟨h1, h2, _⟩ | ⟨h1, h2, _⟩
  · have := zb8 (z2w d m n S) i _ (z1q h1)
    rw [h2] at this
    exact Nat.le_of_lt this
  · exact Nat.le_of_eq h2
theorem zor {i : Nat} (hi : i < S.length) : z2w d m n S i (z5l d m n S i) = true := by
  have _u := hn
  exact (zet (zba hd hS) hi).2
theorem zkF {i j : Nat} (hi : i < S.length) (hj : j < S.length) (h : z2w d m n S i j = true) : z5l d m n S i = z5l d m n S j := by
  have _u := hn
  unfold z5l
  rw [(zgx (zba hd hS) hi hj).2 h]
theorem zpO {i : Nat} (hi : i < S.length) (Lc : List Int) (hL : Lc = z1F S.length (fun i => ((z5l d m n S i : Nat) : Int)) 0 i) :
    z0W (z5Y (zcz S.length (z3k d m n S)) (i : Int) Lc) LFm 0 = z0B (((i + 1 : Nat) : Int), z1F S.length (fun i => ((z5l d m n S i : Nat) : Int)) 0 (i + 1)) := by
  have h128 : 2 ^ n ≤ 128 := Nat.pow_le_pow_right (n := 2) (by omega) hn
  have hSl := z1m hS.nd hS.lt
  have hLl : Lc.length = S.length := by rw [hL, z9J]
  have hset : Lc.set i ((z5l d m n S i : Nat) : Int) = z1F S.length (fun i => ((z5l d m n S i : Nat) : Int)) 0 (i + 1) := by
    rw [hL]; exact z3T (f := fun i => ((z5l d m n S i : Nat) : Int)) (z := 0) hi
  rw [z8S (s := (0 : Int)) i (fun k => (k : Int)) (fun k => z2w d m n S i k) (fun k => z0B (((i + 1 : Nat) : Int), Lc.set i ((z5l d m n S k : Nat) : Int))) (x := z0B (((i + 1 : Nat) : Int), Lc.set i (i : Int))) rfl (by simp only [LFm]; omega)]
  · cases hf : (List.range i).find? fun k => z2w d m n S i k with
    | none =>
      have h0 := zeo.1 hf
      have : z5l d m n S i = i := by
        have h1 := zoq hd hn hS hi
        refine Classical.byContradiction fun hne => ?_
        have := h0 (z5l d m n S i) (by omega)
        rw [zor hd hn hS hi] at this
        cases this
      simp only
      rw [← hset, this]
    | some k =>
      obtain ⟨k1, k2, _⟩ := zen.1 hf
      simp only
      rw [← hset, zkF hd hn hS hi (by omega) k2]
  · intro k hk
    have hks : k < S.length := by omega
    have hat : atI (Lc.set i (i : Int)) (k : Int) = some ((z5l d m n S k : Nat) : Int) := by
      rw [z2p (by simp; omega)]
      simp only [List.getElem_set]
      rw [if_neg (by omega)]
      simp only [hL, z1F, List.getElem_map, List.getElem_range]
      rw [if_pos hk]
    simp only [z5Y]
    rw [if_pos (by omega), zi4 hi, Option.bind_some, z2V hks, Option.bind_some, z1R (by omega)]
    by_cases h1 : z3k d m n S i k = true
    · rw [if_pos h1, zi4 hks, Option.bind_some, z2V hi, Option.bind_some]
      by_cases h2 : z3k d m n S k i = true
      · rw [if_pos h2, if_pos (by simp [z2w, h1, h2]), Int.toNat_natCast, hat, Option.bind_some, zfI (by omega), Option.bind_some, zdS]
      · rw [if_neg h2, if_neg (by simp [z2w, h2]), z1R (by omega)]
    · rw [if_neg h1, if_neg (by simp [z2w, h1]), z1R (by omega)]
  · simp only [z5Y]
    rw [if_neg (by omega), z1R (by omega), Int.toNat_natCast]
end
def mpC : List Nat → Nat → List (Int × Int)
  | [], _ => []
  | f :: l, c => (((f : Nat) : Int), ((c : Nat) : Int)) :: mpC l (c + 1)
theorem zoj : ∀ (l : List Nat) (c0 c : Nat), l.Nodup → c < l.length → zef ((l.getD c 0 : Nat) : Int) (mpC l c0) = some ((c0 + c : Nat) : Int)
  | [], c0, c, _, h2 => by rw [List.length_nil] at h2; omega
  | f :: l, c0, 0, _, h2 => by
    simp only [mpC, zef, List.getD_cons_zero]
    rw [if_pos trivial]; rfl
  | f :: l, c0, c + 1, h1, h2 => by
    rw [List.length_cons] at h2
    rw [List.nodup_cons] at h1
    have hm := z1q (l := l) (i := c) (by omega)
    have hne : ¬ ((f : Nat) : Int) = ((l.getD c 0 : Nat) : Int) := fun e => h1.1 (by rw [show f = l.getD c 0 by omega]; exact hm)
    simp only [mpC, zef, List.getD_cons_succ]
    rw [if_neg hne, zoj l (c0 + 1) c h1.2 (by omega)]
    congr 2; omega
theorem zkz (x : Nat) : ∀ (l : List Nat) (c0 : Nat), x ∉ l → zef ((x : Nat) : Int) (mpC l c0) = none
  | [], c0, _ => rfl
  | f :: l, c0, h => by
    simp only [mpC, zef]
    rw [List.mem_cons] at h
    rw [if_neg (fun e => h (.inl (by omega))), zkz x l (c0 + 1) (fun hx => h (.inr hx))]
theorem znz (x v : Nat) : ∀ (l : List Nat) (c0 : Nat), x ∉ l → v = c0 + l.length → zg7 ((x : Nat) : Int) ((v : Nat) : Int) (mpC l c0) = mpC (l ++ [x]) c0
  | [], c0, _, h => by rw [List.length_nil] at h; subst h; rfl
  | f :: l, c0, h, hv => by
    rw [List.mem_cons] at h
    rw [List.length_cons] at hv
    simp only [mpC, zg7, List.cons_append]
    rw [if_neg (fun e => h (.inl (by omega))), znz x v l (c0 + 1) (fun hx => h (.inr hx)) (by omega)]
theorem zil (e : Nat → Nat → Bool) : ∀ i, (z1z e i).Nodup
  | 0 => by simp [z1z]
  | i + 1 => by
    have ih := zil e i
    unfold z1z
    split
    · exact ih
    · refine List.nodup_append.2 ⟨ih, by simp, fun a ha b hb => ?_⟩
      have := zb8 e i a ha
      obtain rfl := List.mem_singleton.1 hb
      omega
theorem ziA {d : DFA} {m n : Nat} {S : List Nat} (hd : DfaOk d m n) (hn : n ≤ 7) (hS : SetsP d m n S) : z4h ((List.range S.length).map fun i => ((z5l d m n S i : Nat) : Int)) = some (zmI d m n S) := by
  have h128 : 2 ^ n ≤ 128 := Nat.pow_le_pow_right (n := 2) (by omega) hn
  have hSl := z1m hS.nd hS.lt
  have he := zba hd hS
  have hlen : ((List.range S.length).map fun i => ((z5l d m n S i : Nat) : Int)).length = S.length := by simp
  unfold z4h
  rw [hlen, if_neg (by omega), z0Y _ (by unfold z1Y; omega), Int.toNat_natCast]
  have f1 : List.replicate S.length (0 : Int) = z1F S.length (fun i => ((z6P (z2w d m n S) S.length i : Nat) : Int)) 0 0 := (z7c _ _ _).symm
  rw [f1]
  refine z1C (s := ((0 : Int), (0 : Int), z1F S.length (fun i => ((z6P (z2w d m n S) S.length i : Nat) : Int)) 0 0, ([] : List (Int × Int)))) S.length (fun i => ((((z1z (z2w d m n S) i).length : Nat) : Int), (i : Int), z1F S.length (fun i => ((z6P (z2w d m n S) S.length i : Nat) : Int)) 0 i, mpC (z1z (z2w d m n S) i) 0)) rfl (by simp only [LFm]; omega) (fun i hi => ?_) ?_
  · have hF := zei (z2w d m n S) i
    have hset := z3T (f := fun i => ((z6P (z2w d m n S) S.length i : Nat) : Int)) (z := (0 : Int)) hi
    simp only [z4a]
    rw [if_pos (by rw [hlen]; omega), z2V hi, Option.bind_some, z5w hi, Option.bind_some, Int.toNat_natCast, z1R (by omega)]
    rcases zim he hi with ⟨q1, q2, q3⟩ | ⟨q1, q2, q3⟩
    · have g := zoj (z1z (z2w d m n S) i) 0 _ (zil _ i) q1
      rw [q2, Nat.zero_add] at g
      have g : zef ((z5l d m n S i : Nat) : Int) (mpC (z1z (z2w d m n S) i) 0) = some ((z6P (z2w d m n S) S.length i : Nat) : Int) := g
      rw [g, if_pos (by rfl), Option.getD_some, hset, q3]
    · have hni : i ∉ z1z (z2w d m n S) i := fun h => by have := zb8 _ _ _ h; omega
      have ef : z5l d m n S i = i := q2
      rw [ef, zkz i _ 0 hni, if_neg (by simp), Option.bind_some, z1R (by omega), znz i _ _ 0 hni (by omega), q3, ← q1, hset, q1, List.length_append, List.length_singleton]
  · simp only [z4a]
    rw [if_neg (by rw [hlen]; omega), z7b]
    rfl
end Go.Proofs.Ytbnnipkanechoaa
end
section
namespace Go.Proofs.Ytbnnipkanechoaa
open Go
set_option maxRecDepth 100000
def z6U (f : Nat → Nat) : Nat → Nat
  | 0 => 0
  | k + 1 => z6U f k + f k
theorem zg1 {f g : Nat → Nat} : ∀ k, (∀ i, i < k → f i ≤ g i) → z6U f k ≤ z6U g k
  | 0, _ => Nat.le_refl _
  | k + 1, h => Nat.add_le_add (zg1 k fun i hi => h i (by omega)) (h k (by omega))
theorem zq7 {f g : Nat → Nat} {p : Nat} : ∀ k, (∀ i, i < k → f i ≤ g i) → p < k → f p < g p → z6U f k < z6U g k
  | 0, _, hp, _ => by omega
  | k + 1, h, hp, hl => by
    simp only [z6U]
    have h1 := h k (by omega)
    by_cases e : p = k
    · subst e
      have := zg1 p fun i hi => h i (by omega)
      omega
    · have := zq7 k (fun i hi => h i (by omega)) (by omega) hl
      omega
theorem zhz {f : Nat → Nat} {B : Nat} : ∀ k, (∀ i, i < k → f i ≤ B) → z6U f k ≤ k * B
  | 0, _ => by simp [z6U]
  | k + 1, h => by
    have h1 := zhz k fun i hi => h i (by omega)
    have h2 := h k (by omega)
    simp only [z6U, Nat.add_mul, Nat.one_mul]
    omega
def hL (N : Nat) (h : Nat → Nat) : List Int := (List.range N).map fun i => ((h i : Nat) : Int)
theorem zs9 {N : Nat} {h : Nat → Nat} {i : Nat} (hi : i < N) (v : Nat) : (hL N h).set i ((v : Nat) : Int) = hL N fun a => if a = i then v else h a := by
  apply List.ext_getElem (by simp [hL])
  intro k h1 h2
  simp only [hL, List.getElem_set, List.getElem_map, List.getElem_range]
  by_cases e : i = k
  · rw [if_pos e, if_pos e.symm]
  · rw [if_neg e, if_neg (fun h => e h.symm)]
def okH (b : Nat → Nat → Bool) (z : Nat → Bool) (h : Nat → Nat) (i j : Nat) : Prop := z i = false → sbN b j i = true → h j < h i
theorem zpC {N : Nat} {b : Nat → Nat → Bool} (hb : BelN N b) {z : Nat → Bool} {i j : Nat} (hi : i < N) (hj : j < N) (hz : z i = false) (hs : sbN b j i = true) : zjz N b z j < zjz N b z i := by
  rw [zkv hb z i hi, hz]
  have := zpu (g := fun j => if sbN b j i = true then zjz N b z j + 1 else 0) hj
  simp only [hs, if_true] at this
  simp only [Bool.false_eq_true, if_false]
  omega
theorem zqY {N : Nat} {b : Nat → Nat → Bool} (hb : BelN N b) {z : Nat → Bool} {h : Nat → Nat} (hle : ∀ i, i < N → h i ≤ zjz N b z i) (ho : ∀ i j, i < N → j < N → okH b z h i j) : ∀ i, i < N → h i = zjz N b z i := by
  have : ∀ L i, i < N → zeJ N b i ≤ L → zjz N b z i ≤ h i := by
    intro L
    induction L with
    | zero =>
      intro i hi hl
      exfalso
      have := zfV (p := fun _ => false) (q := fun j => b j i) (k := N) (i := i) (fun j _ hf => by simp at hf) hi rfl (hb.refl i hi)
      unfold zeJ at hl; omega
    | succ L ih =>
      intro i hi hl
      rw [zkv hb z i hi]
      cases hz : z i with
      | true => simp
      | false =>
        simp only [Bool.false_eq_true, if_false]
        refine zan fun j hj => ?_
        by_cases hs : sbN b j i = true
        · have h1 := zkn hb hi hj hs
          have h2 := ih j hj (by omega)
          have h3 := ho i j hi hj hz hs
          simp only [hs, if_true]
          omega
        · simp [hs]
  exact fun i hi => Nat.le_antisymm (hle i hi) (this _ i hi (Nat.le_refl _))
structure RndH (N : Nat) (b : Nat → Nat → Bool) (z : Nat → Bool) (h0 : Nat → Nat) (ch : Bool) (h : Nat → Nat) : Prop where
  lo : ∀ i, i < N → h0 i ≤ h i
  hi : ∀ i, i < N → h i ≤ zjz N b z i
  no : ch = false → ∀ i, i < N → h i = h0 i
  yes : ch = true → ∃ i, i < N ∧ h0 i < h i
theorem zrC : ∀ s : Nat, s < 128 → s ≠ 0 → szN s ≠ 0 := by decide +kernel
section
variable {d : DFA} {m n : Nat} {S : List Nat} (hd : DfaOk d m n) (hn : n ≤ 7) (hS : SetsP d m n S) (hpos : ∀ x ∈ S, x ≠ 0)
include hd hn hS hpos
theorem zqX {h0 : Nat → Nat} {i : Nat} (hi : i < S.length) (ch : Bool) (h : Nat → Nat) (hr : RndH S.length (z3k d m n S) (z9c S) h0 ch h) (hk : ch = false → ∀ i', i' < i → ∀ j, j < S.length → okH (z3k d m n S) (z9c S) h0 i' j) :
    ∃ ch' h', z0W (z5V (toI S) (zcz S.length (z3k d m n S)) (i : Int)) LFm (ch, 0, hL S.length h) = z0B (ch', ((i + 1 : Nat) : Int), hL S.length h') ∧ RndH S.length (z3k d m n S) (z9c S) h0 ch' h' ∧ (ch' = false → ∀ i', i' < i + 1 → ∀ j, j < S.length → okH (z3k d m n S) (z9c S) h0 i' j) := by
  have h128 : 2 ^ n ≤ 128 := Nat.pow_le_pow_right (n := 2) (by omega) hn
  have hSl := z1m hS.nd hS.lt
  have hb := zl1 hd hS
  refine Exists.elim (z2a (b := z5V (toI S) (zcz S.length (z3k d m n S)) (i : Int)) (fun z => ∃ (ch : Bool) (j : Nat) (h : Nat → Nat), j ≤ S.length ∧ z = (ch, (j : Int), hL S.length h) ∧ RndH S.length (z3k d m n S) (z9c S) h0 ch h ∧ (ch = false → (∀ i', i' < i → ∀ j, j < S.length → okH (z3k d m n S) (z9c S) h0 i' j) ∧ ∀ j', j' < j → okH (z3k d m n S) (z9c S) h0 i j')) (fun z => S.length - z.2.1.toNat)
    (fun r => ∃ ch' h', r = .inl (ch', ((i + 1 : Nat) : Int), hL S.length h') ∧ RndH S.length (z3k d m n S) (z9c S) h0 ch' h' ∧ (ch' = false → ∀ i', i' < i + 1 → ∀ j, j < S.length → okH (z3k d m n S) (z9c S) h0 i' j)) ?_ LFm (ch, 0, hL S.length h) ⟨ch, 0, h, by omega, rfl, hr, fun e => ⟨hk e, fun j' hj' => by omega⟩⟩ (by simp only [LFm]; omega)) fun r hh => by
      obtain ⟨e1, ch', h', rfl, e2, e3⟩ := hh
      exact ⟨ch', h', e1, e2, e3⟩
  rintro z ⟨ch, j, h, hj, rfl, r1, r2⟩
  simp only [z5V]
  by_cases hlt : j < S.length
  · left
    have hil := hS.lt _ (z1q hi)
    have hz0 := zrC _ (by omega) (hpos _ (z1q hi))
    have hgi := zij hb (z9c S) hi
    have hgj := zij hb (z9c S) hlt
    have hhj := r1.hi j hlt
    have hhi := r1.hi i hi
    rw [if_pos (by rw [z0s]; omega), z2B hi, Option.bind_some, zcK _ (by omega), Option.bind_some, z1R (by omega)]
    have keep : okH (z3k d m n S) (z9c S) h i j → RndH S.length (z3k d m n S) (z9c S) h0 ch h ∧ (ch = false → (∀ i', i' < i → ∀ j, j < S.length → okH (z3k d m n S) (z9c S) h0 i' j) ∧ ∀ j', j' < j + 1 → okH (z3k d m n S) (z9c S) h0 i j') := fun ho => ⟨r1, fun e => ⟨(r2 e).1, fun j' hj' => by
      by_cases ej : j' = j
      · subst ej
        intro q1 q2
        have := ho q1 q2
        rw [r1.no e i hi, r1.no e j' hlt] at this
        exact this
      · exact (r2 e).2 j' (by omega)⟩⟩
    have same : okH (z3k d m n S) (z9c S) h i j → ∃ s', (z0B (ch, ((j + 1 : Nat) : Int), hL S.length h) : Option ((Bool × Int × List Int) ⊕ ((Bool × Int × List Int) ⊕ ((Bool × List Int) ⊕ (Imgs × Int))))) = some (.inl s') ∧ (∃ (ch : Bool) (j : Nat) (h : Nat → Nat), j ≤ S.length ∧ s' = (ch, (j : Int), hL S.length h) ∧ RndH S.length (z3k d m n S) (z9c S) h0 ch h ∧ (ch = false → (∀ i', i' < i → ∀ j, j < S.length → okH (z3k d m n S) (z9c S) h0 i' j) ∧ ∀ j', j' < j → okH (z3k d m n S) (z9c S) h0 i j')) ∧ S.length - s'.2.1.toNat < S.length - (ch, (j : Int), hL S.length h).2.1.toNat := fun ho =>
      ⟨_, rfl, ⟨ch, j + 1, h, by omega, rfl, (keep ho).1, (keep ho).2⟩, by simp only [Int.toNat_natCast]; omega⟩
    by_cases hz : szN (S.getD i 0) = 1
    · rw [if_neg (by omega)]
      exact same fun q1 _ => absurd hz (of_decide_eq_false q1)
    · rw [if_pos (by omega), zi4 hlt, Option.bind_some, z2V hi, Option.bind_some]
      have hbz : z9c S i = false := decide_eq_false hz
      by_cases h1 : z3k d m n S j i = true
      · rw [if_pos h1, zi4 hi, Option.bind_some, z2V hlt, Option.bind_some]
        by_cases h2 : z3k d m n S i j = true
        · rw [if_pos h2]
          exact same fun _ q2 => by simp [sbN, h2] at q2
        · have hs : sbN (z3k d m n S) j i = true := by simp [sbN, h1, h2]
          have hst := zpC hb hi hlt hbz hs
          have a1 : atI (hL S.length h) (i : Int) = some ((h i : Nat) : Int) := z2V hi
          have a2 : atI (hL S.length h) (j : Int) = some ((h j : Nat) : Int) := z2V hlt
          rw [if_neg h2, a1, Option.bind_some, a2, Option.bind_some]
          by_cases h3 : h i ≤ h j
          · rw [if_pos (by omega), z1R (by omega), Int.toNat_natCast, zs9 hi]
            refine ⟨_, rfl, ⟨true, j + 1, _, by omega, rfl, ⟨fun a ha => ?_, fun a ha => ?_, (fun e => by cases e), fun _ => ⟨i, hi, ?_⟩⟩, (fun e => by cases e)⟩, by simp only [Int.toNat_natCast]; omega⟩
            · have := r1.lo a ha
              by_cases e : a = i
              · subst e; rw [if_pos rfl]; omega
              · rw [if_neg e]; exact this
            · have := r1.hi a ha
              by_cases e : a = i
              · subst e; rw [if_pos rfl]; omega
              · rw [if_neg e]; exact this
            · have := r1.lo i hi
              rw [if_pos rfl]; omega
          · rw [if_neg (by omega)]
            exact same fun _ _ => by omega
      · rw [if_neg h1]
        exact same fun _ q2 => by simp [sbN, h1] at q2
  · right
    obtain rfl : j = S.length := by omega
    rw [if_neg (by rw [z0s]; omega), z1R (by omega)]
    refine ⟨_, rfl, ch, h, rfl, r1, fun e i' hi' => ?_⟩
    by_cases e2 : i' = i
    · subst e2; exact (r2 e).2
    · exact (r2 e).1 i' (by omega)
theorem zmt {h0 : Nat → Nat} (h1 : ∀ i, i < S.length → h0 i ≤ z7Z d m n S i) :
    ∃ ch' h', z0W (z5W (toI S) (zcz S.length (z3k d m n S))) LFm (false, 0, hL S.length h0) = z0B (ch', hL S.length h') ∧ RndH S.length (z3k d m n S) (z9c S) h0 ch' h' ∧ (ch' = false → ∀ i', i' < S.length → ∀ j, j < S.length → okH (z3k d m n S) (z9c S) h0 i' j) := by
  have h128 : 2 ^ n ≤ 128 := Nat.pow_le_pow_right (n := 2) (by omega) hn
  have hSl := z1m hS.nd hS.lt
  refine Exists.elim (z2a (b := z5W (toI S) (zcz S.length (z3k d m n S))) (fun z => ∃ (ch : Bool) (i : Nat) (h : Nat → Nat), i ≤ S.length ∧ z = (ch, (i : Int), hL S.length h) ∧ RndH S.length (z3k d m n S) (z9c S) h0 ch h ∧ (ch = false → ∀ i', i' < i → ∀ j, j < S.length → okH (z3k d m n S) (z9c S) h0 i' j)) (fun z => S.length - z.2.1.toNat)
    (fun r => ∃ ch' h', r = .inl (ch', hL S.length h') ∧ RndH S.length (z3k d m n S) (z9c S) h0 ch' h' ∧ (ch' = false → ∀ i', i' < S.length → ∀ j, j < S.length → okH (z3k d m n S) (z9c S) h0 i' j)) ?_ LFm (false, 0, hL S.length h0) ⟨false, 0, h0, by omega, rfl, ⟨fun _ _ => Nat.le_refl _, h1, fun _ _ _ => rfl, fun e => by cases e⟩, fun _ i' hi' => by omega⟩ (by simp only [LFm]; omega)) fun r hh => by
      obtain ⟨e1, ch', h', rfl, e2, e3⟩ := hh
      exact ⟨ch', h', e1, e2, e3⟩
  rintro z ⟨ch, i, h, hi, rfl, r1, r2⟩
  simp only [z5W]
  by_cases hlt : i < S.length
  · left
    obtain ⟨ch', h', e1, e2, e3⟩ := zqX hd hn hS hpos hlt ch h r1 r2
    rw [if_pos (by rw [z0s]; omega), e1]
    exact ⟨_, rfl, ⟨ch', i + 1, h', by omega, rfl, e2, e3⟩, by simp only [Int.toNat_natCast]; omega⟩
  · right
    obtain rfl : i = S.length := by omega
    rw [if_neg (by rw [z0s]; omega)]
    exact ⟨_, rfl, ch, h, rfl, r1, r2⟩
theorem zpD {r : Imgs × Int} (C : List Int)
    (hr : z0W (z4U d (toI S) C (zqZ d m n S)) LFm (0, List.replicate S.length ([] : List Int)) = some r) :
    z0W (z5X d (toI S) (zcz S.length (z3k d m n S)) C) LFm (true, List.replicate S.length (0 : Int)) = some r := by
  have h128 : 2 ^ n ≤ 128 := Nat.pow_le_pow_right (n := 2) (by omega) hn
  have hSl := z1m hS.nd hS.lt
  have hb := zl1 hd hS
  have f1 : List.replicate S.length (0 : Int) = hL S.length fun _ => 0 := by
    apply List.ext_getElem (by simp [hL]); intro i h1 h2; simp [hL]
  rw [f1]
  have hbound : z6U (fun i => z7Z d m n S i - 0) S.length ≤ S.length * S.length := zhz _ fun i hi => by
    have := zij hb (z9c S) hi
    show zjz _ _ _ i - 0 ≤ _
    omega
  have hsq : S.length * S.length ≤ 128 * 128 := Nat.mul_le_mul (by omega) (by omega)
  have mea : ∀ (ch : Bool) (h : Nat → Nat), (z6U (fun i => z7Z d m n S i - ((hL S.length h).getD i 0).toNat) S.length + (if ch = true then 1 else 0)) = z6U (fun i => z7Z d m n S i - h i) S.length + (if ch = true then 1 else 0) := fun ch h => by
    congr 1
    have : ∀ k, k ≤ S.length → z6U (fun i => z7Z d m n S i - ((hL S.length h).getD i 0).toNat) k = z6U (fun i => z7Z d m n S i - h i) k := by
      intro k
      induction k with
      | zero => intro _; rfl
      | succ k ih =>
        intro hk
        simp only [z6U]
        rw [ih (by omega)]
        congr 2
        simp [hL, List.getD, show k < S.length by omega]
    exact this _ (Nat.le_refl _)
  refine zaZ (fun z : Bool × List Int => ∃ h, z.2 = hL S.length h ∧ (∀ i, i < S.length → h i ≤ z7Z d m n S i) ∧ (z.1 = false → ∀ i, i < S.length → ∀ j, j < S.length → okH (z3k d m n S) (z9c S) h i j)) (fun z => z6U (fun i => z7Z d m n S i - (z.2.getD i 0).toNat) S.length + (if z.1 = true then 1 else 0)) (s := (true, hL S.length fun _ => 0)) ⟨fun _ => 0, rfl, fun _ _ => Nat.zero_le _, fun e => by cases e⟩ (by show z6U (fun i => z7Z d m n S i - ((hL S.length fun _ => 0).getD i 0).toNat) S.length + (if true = true then 1 else 0) < LFm; rw [mea]; simp only [LFm, if_true]; omega) ?_
  rintro ⟨ch, z⟩ ⟨h, rfl, q1, q2⟩
  cases ch with
  | false =>
    right
    have e : hL S.length h = zqZ d m n S := List.map_congr_left fun i hi => by
      rw [zqY hb (z := z9c S) q1 (fun i j hi hj => q2 rfl i hi j hj) i (List.mem_range.1 hi)]
      rfl
    simp only [z5X]
    rw [if_neg (by simp), z0s, Int.toNat_natCast, e, hr]
  | true =>
    left
    obtain ⟨ch', h', e1, e2, e3⟩ := zmt hd hn hS hpos q1
    simp only [z5X]
    rw [if_pos trivial, e1]
    refine ⟨_, rfl, ⟨h', rfl, e2.hi, fun e i hi j hj => ?_⟩, ?_⟩
    · intro p1 p2
      have := e3 e i hi j hj p1 p2
      rw [e2.no e i hi, e2.no e j hj]
      exact this
    · show z6U (fun i => z7Z d m n S i - ((hL S.length h').getD i 0).toNat) S.length + (if ch' = true then 1 else 0) < z6U (fun i => z7Z d m n S i - ((hL S.length h).getD i 0).toNat) S.length + (if true = true then 1 else 0)
      rw [mea, mea]
      cases ch' with
      | false =>
        have : z6U (fun i => z7Z d m n S i - h' i) S.length ≤ z6U (fun i => z7Z d m n S i - h i) S.length := zg1 _ fun i hi => by
          have := e2.lo i hi; omega
        simp only [if_true, Bool.false_eq_true, if_false]
        omega
      | true =>
        obtain ⟨p, p1, p2⟩ := e2.yes rfl
        have hp := e2.hi p p1
        have : z6U (fun i => z7Z d m n S i - h' i) S.length < z6U (fun i => z7Z d m n S i - h i) S.length := zq7 _ (fun i hi => by have := e2.lo i hi; omega) p1 (by
          show zjz _ _ _ p - h' p < zjz _ _ _ p - h p
          omega)
        simp only [if_true]
        omega
end
end Go.Proofs.Ytbnnipkanechoaa
end
section
namespace Go.Proofs.Ytbnnipkanechoaa
open Go
set_option maxRecDepth 100000
def ze4 (S : List Nat) (i j k : Nat) : Bool := !zcG S i k || (decide (k = j) || !decide (S.getD j 0 &&& S.getD k 0 = S.getD j 0))
def zi1 (S : List Nat) (i j : Nat) : Nat → Bool
  | 0 => true
  | k + 1 => zi1 S i j k && ze4 S i j k
theorem zi0 (S : List Nat) (i j : Nat) : ∀ k, zi1 S i j k = true ↔ ∀ x, x < k → ze4 S i j x = true
  | 0 => by simp [zi1]
  | k + 1 => by
    simp only [zi1, Bool.and_eq_true]
    rw [zi0 S i j k]
    constructor
    · rintro ⟨h1, h2⟩ x hx
      by_cases e : x = k
      · subst e; exact h2
      · exact h1 x (by omega)
    · intro h
      exact ⟨fun x hx => h x (by omega), h k (by omega)⟩
theorem znV (S : List Nat) (i j : Nat) : zi1 S i j S.length = zeF S i j := by
  rw [Bool.eq_iff_iff, zi0, zeF, List.all_eq_true]
  constructor
  · intro h x hx
    obtain ⟨h1, h2⟩ := List.mem_filter.1 hx
    have := h x (List.mem_range.1 h1)
    simp only [ze4, h2, Bool.not_true, Bool.false_or] at this
    exact this
  · intro h x hx
    unfold ze4
    cases hp : zcG S i x with
    | false => rfl
    | true =>
      have := h x (List.mem_filter.2 ⟨List.mem_range.2 hx, hp⟩)
      simp only [Bool.not_true, Bool.false_or]
      exact this
def tlN (S : List Nat) (i j : Nat) : List Nat := ((List.range j).filter (zcG S i)).filter (zeF S i)
theorem zqv (S : List Nat) (i j : Nat) : tlN S i (j + 1) = tlN S i j ++ (if zcG S i j = true ∧ zeF S i j = true then [j] else []) := by
  unfold tlN
  rw [List.range_succ, List.filter_append, List.filter_append]
  congr 1
  by_cases h1 : zcG S i j = true
  · by_cases h2 : zeF S i j = true
    · simp [h1, h2]
    · simp [h1, h2]
  · simp [h1]
theorem zrA (S : List Nat) (i j : Nat) : (tlN S i j).length ≤ j := by
  have h1 := List.length_filter_le (zeF S i) ((List.range j).filter (zcG S i))
  have h2 := List.length_filter_le (zcG S i) (List.range j)
  rw [List.length_range] at h2
  unfold tlN; omega
def zvk (S : List Nat) : Nat → List (Int × Int)
  | 0 => []
  | k + 1 => zg7 ((S.getD k 0 : Nat) : Int) (k : Int) (zvk S k)
section
variable {d : DFA} {m n : Nat} {S : List Nat} (hd : DfaOk d m n) (hn : n ≤ 7) (hS : SetsP d m n S) (hpos : ∀ x ∈ S, x ≠ 0)
include hd hn hS hpos
theorem znU {i j : Nat} (hi : i < S.length) (hj : j < S.length) (R : List (List Int)) (r : List Int) (hr : atI R (i : Int) = some r) (hrl : r.length ≤ 1000) :
    z0W (z5T (toI S) (i : Int) (j : Int) R ((S.getD j 0 : Nat) : Int)) LFm (true, 0) = z0B (((j + 1 : Nat) : Int), if zeF S i j = true then R.set i (r ++ [(j : Int)]) else R) := by
  have _u := hd
  have _u := hpos
  have h128 : 2 ^ n ≤ 128 := Nat.pow_le_pow_right (n := 2) (by omega) hn
  have hSl := z1m hS.nd hS.lt
  have hil := hS.lt _ (z1q hi)
  have hjl := hS.lt _ (z1q hj)
  refine z1C (s := (true, (0 : Int))) S.length (fun k => (zi1 S i j k, (k : Int))) rfl (by simp only [LFm]; omega) (fun k hk => ?_) ?_
  · have hkl := hS.lt _ (z1q hk)
    have tr : ze4 S i j k = true → (z0B ((!false : Bool), ((k + 1 : Nat) : Int)) : Option ((Bool × Int) ⊕ ((Int × List (List Int)) ⊕ ((Int × List (List Int)) ⊕ (Imgs × Int))))) = z0B (true && ze4 S i j k, ((k + 1 : Nat) : Int)) := fun h => by rw [h]; rfl
    simp only [z5T]
    rw [if_pos (by rw [z0s]; omega), z2B hk, Option.bind_some, z1R (by omega), zi1]
    cases hm : zi1 S i j k with
    | false => rw [if_neg (by simp)]; rfl
    | true =>
      rw [if_pos rfl]
      by_cases e1 : k = j
      · rw [if_pos (by omega)]
        exact tr (by simp [ze4, e1])
      · rw [if_neg (by omega)]
        by_cases e2 : k = i
        · rw [if_pos (by omega)]
          exact tr (by simp [ze4, zcG, e2])
        · rw [if_neg (by omega), z2B hi, Option.bind_some, zbh (by omega) (by omega), zbh (by omega) (by omega)]
          by_cases e3 : S.getD k 0 &&& S.getD i 0 = S.getD k 0
          · have hp : zcG S i k = true := by
              unfold zcG
              rw [decide_eq_false e2, decide_eq_true e3]; rfl
            have hq : ze4 S i j k = !decide (S.getD j 0 &&& S.getD k 0 = S.getD j 0) := by
              unfold ze4
              rw [hp, decide_eq_false e1]; rfl
            rw [if_pos (by omega), hq, show decide (((S.getD j 0 &&& S.getD k 0 : Nat) : Int) = ((S.getD j 0 : Nat) : Int)) = decide (S.getD j 0 &&& S.getD k 0 = S.getD j 0) from decide_eq_decide.2 (by omega)]
            rfl
          · rw [if_neg (by omega)]
            exact tr (by unfold ze4 zcG; rw [decide_eq_false e3]; simp)
  · simp only [z5T]
    rw [if_neg (by rw [z0s]; omega), znV]
    by_cases h : zeF S i j = true
    · rw [if_pos h, if_pos h, hr, Option.bind_some, z0Y _ (by unfold z2Z; omega), z1R (by omega), Int.toNat_natCast]
    · rw [if_neg h, if_neg h, z1R (by omega)]
theorem zp8 {i : Nat} (hi : i < S.length) (hz : szN (S.getD i 0) ≠ 1) (R : List (List Int)) (hR : R = z1F S.length (fun i => toI (zcu S i)) [] i) :
    z0W (z5U (toI S) (i : Int)) LFm (0, R) = z0B (((i + 1 : Nat) : Int), z1F S.length (fun i => toI (zcu S i)) [] (i + 1)) := by
  have h128 : 2 ^ n ≤ 128 := Nat.pow_le_pow_right (n := 2) (by omega) hn
  have hSl := z1m hS.nd hS.lt
  have hRl : R.length = S.length := by rw [hR, z9J]
  have hil := hS.lt _ (z1q hi)
  have hfin : R.set i (toI (tlN S i S.length)) = z1F S.length (fun i => toI (zcu S i)) [] (i + 1) := by
    have : tlN S i S.length = zcu S i := by unfold zcu; rw [if_neg hz]; rfl
    rw [this, hR]
    exact z3T (f := fun i => toI (zcu S i)) (z := []) hi
  have h0 : R = R.set i (toI (tlN S i 0)) := by
    have e : R[i]'(by omega) = [] := by simp [hR, z1F]
    have : toI (tlN S i 0) = R[i]'(by omega) := by rw [e]; rfl
    rw [this, List.set_getElem_self]
  refine z1C (s := ((0 : Int), R)) S.length (fun j => ((j : Int), R.set i (toI (tlN S i j)))) (by rw [← h0]; rfl) (by simp only [LFm]; omega) (fun j hj => ?_) ?_
  · have hjl := hS.lt _ (z1q hj)
    have hl := zrA S i j
    simp only [z5U]
    rw [if_pos (by rw [z0s]; omega), z2B hj, Option.bind_some, z2B hi, Option.bind_some, zbh (by omega) (by omega), zqv]
    by_cases e1 : S.getD j 0 &&& S.getD i 0 = S.getD j 0
    · rw [if_pos (by omega)]
      by_cases e2 : j = i
      · have hp : ¬ (zcG S i j = true ∧ zeF S i j = true) := fun h => by
          have := h.1
          simp [zcG, e2] at this
        rw [if_pos (by omega), if_neg hp, List.append_nil, z1R (by omega)]
      · have hp : zcG S i j = true := by
          unfold zcG
          rw [decide_eq_false e2, decide_eq_true e1]; rfl
        rw [if_neg (by omega), znU hd hn hS hpos hi hj _ (toI (tlN S i j)) (zfI (by omega)) (by rw [z0s]; omega)]
        by_cases h : zeF S i j = true
        · rw [if_pos h, if_pos ⟨hp, h⟩, zdS, z6o]
        · rw [if_neg h, if_neg (fun hh => h hh.2), List.append_nil]
    · have hp : ¬ (zcG S i j = true ∧ zeF S i j = true) := fun h => by
        have := h.1
        simp only [zcG, Bool.and_eq_true, decide_eq_true_eq] at this
        exact e1 this.2
      rw [if_neg (by omega), if_neg hp, List.append_nil, z1R (by omega)]
  · simp only [z5U]
    rw [if_neg (by rw [z0s]; omega), hfin, z1R (by omega)]
omit hpos in
theorem zoR {i k : Nat} (hi : i < S.length) (hk : k < S.length) (hm : S.getD k 0 ∈ (z1p d m n (S.getD i 0)).1) (he : k = z5l d m n S i) (W' B : List ByteArray) (hB : B = z1F S.length (zjQ d m n S) ByteArray.empty i) :
    z0W (z5R (toI S) (i : Int) (k : Int) W' (toI (z1p d m n (S.getD i 0)).1, (z1p d m n (S.getD i 0)).2)) LFm (0, B) = z0B (((i + 1 : Nat) : Int), W', z1F S.length (zjQ d m n S) ByteArray.empty (i + 1)) := by
  have h128 : 2 ^ n ≤ 128 := Nat.pow_le_pow_right (n := 2) (by omega) hn
  have hSl := z1m hS.nd hS.lt
  have hinv := z4I hd (hS.lt _ (z1q hi))
  have hnd := hinv.nd
  have hlen := hinv.len
  have hl := z1m hinv.nd hinv.lt
  have hfin : B.set i ((z1p d m n (S.getD i 0)).2.getD ((z1p d m n (S.getD i 0)).1.idxOf (S.getD k 0)) ByteArray.empty) = z1F S.length (zjQ d m n S) ByteArray.empty (i + 1) := by
    have e := z3T (f := zjQ d m n S) (z := ByteArray.empty) hi
    rw [hB, ← e]
    unfold zjQ z7K
    rw [← he]
  have hat : atI B (i : Int) = some ByteArray.empty := by rw [hB, z5w hi, if_neg (by omega)]
  generalize (z1p d m n (S.getD i 0)).1 = l at *
  generalize (z1p d m n (S.getD i 0)).2 = ws at *
  have hix := zcA hm
  have hgx := z8X hm
  refine z1C (s := ((0 : Int), B)) l.length (fun q => ((q : Int), if l.idxOf (S.getD k 0) < q then B.set i (ws.getD (l.idxOf (S.getD k 0)) ByteArray.empty) else B)) (by rw [if_neg (by omega)]; rfl) (by simp only [LFm]; omega) (fun q hq => ?_) ?_
  · simp only [z5R]
    rw [if_pos (by rw [z0s]; omega), z2B hq, Option.bind_some, z2B hk, Option.bind_some, z1R (by omega)]
    by_cases e : l.getD q 0 = S.getD k 0
    · have hqi := z8q hnd hq
      rw [e] at hqi
      rw [if_pos (by omega), zg2 (by omega), Option.bind_some, if_neg (by omega), hat, Option.bind_some, Int.toNat_natCast, if_pos (by omega), hqi]
    · have hqi : l.idxOf (S.getD k 0) ≠ q := fun h => e (by rw [← h]; exact hgx)
      rw [if_neg (by omega)]
      by_cases h : l.idxOf (S.getD k 0) < q
      · rw [if_pos h, if_pos (by omega)]
      · rw [if_neg h, if_neg (by omega)]
  · simp only [z5R]
    rw [if_neg (by rw [z0s]; omega), if_pos hix, hfin, z1R (by omega)]
omit hpos in
theorem zn2 {i k : Nat} (hi : i < S.length) (hk : k < S.length) (hm : S.getD i 0 ∈ (z1p d m n (S.getD k 0)).1) (hm' : S.getD k 0 ∈ (z1p d m n (S.getD i 0)).1) (he : k = z5l d m n S i) (W B : List ByteArray) (hW : W = z1F S.length (zeR d m n S) ByteArray.empty i) (hB : B = z1F S.length (zjQ d m n S) ByteArray.empty i) :
    z0W (z5S d (toI S) (i : Int) B (k : Int) (toI (z1p d m n (S.getD k 0)).1, (z1p d m n (S.getD k 0)).2)) LFm (0, W) = z0B (((i + 1 : Nat) : Int), z1F S.length (zeR d m n S) ByteArray.empty (i + 1), z1F S.length (zjQ d m n S) ByteArray.empty (i + 1)) := by
  have h128 : 2 ^ n ≤ 128 := Nat.pow_le_pow_right (n := 2) (by omega) hn
  have hSl := z1m hS.nd hS.lt
  have hinv := z4I hd (hS.lt _ (z1q hk))
  have hnd := hinv.nd
  have hlen := hinv.len
  have hl := z1m hinv.nd hinv.lt
  have hfin : W.set i ((z1p d m n (S.getD k 0)).2.getD ((z1p d m n (S.getD k 0)).1.idxOf (S.getD i 0)) ByteArray.empty) = z1F S.length (zeR d m n S) ByteArray.empty (i + 1) := by
    have e := z3T (f := zeR d m n S) (z := ByteArray.empty) hi
    rw [hW, ← e]
    unfold zeR z7K
    rw [← he]
  have hat : atI W (i : Int) = some ByteArray.empty := by rw [hW, z5w hi, if_neg (by omega)]
  have hback := zoR hd hn hS hi hk hm' he (z1F S.length (zeR d m n S) ByteArray.empty (i + 1)) B hB
  have hrch := zcV hd (show n ≤ 12 by omega) (hS.lt _ (z1q hi))
  generalize (z1p d m n (S.getD k 0)).1 = l at *
  generalize (z1p d m n (S.getD k 0)).2 = ws at *
  have hix := zcA hm
  have hgx := z8X hm
  refine z1C (s := ((0 : Int), W)) l.length (fun q => ((q : Int), if l.idxOf (S.getD i 0) < q then W.set i (ws.getD (l.idxOf (S.getD i 0)) ByteArray.empty) else W)) (by rw [if_neg (by omega)]; rfl) (by simp only [LFm]; omega) (fun q hq => ?_) ?_
  · simp only [z5S]
    rw [if_pos (by rw [z0s]; omega), z2B hq, Option.bind_some, z2B hi, Option.bind_some, z1R (by omega)]
    by_cases e : l.getD q 0 = S.getD i 0
    · have hqi := z8q hnd hq
      rw [e] at hqi
      rw [if_pos (by omega), zg2 (by omega), Option.bind_some, if_neg (by omega), hat, Option.bind_some, Int.toNat_natCast, if_pos (by omega), hqi]
    · have hqi : l.idxOf (S.getD i 0) ≠ q := fun h => e (by rw [← h]; exact hgx)
      rw [if_neg (by omega)]
      by_cases h : l.idxOf (S.getD i 0) < q
      · rw [if_pos h, if_pos (by omega)]
      · rw [if_neg h, if_neg (by omega)]
  · simp only [z5S]
    rw [if_neg (by rw [z0s]; omega), if_pos hix, hfin, z2B hi, Option.bind_some, hrch, Option.bind_some, hback]
theorem zqA : z0W (z4U d (toI S) (zmI d m n S) (zqZ d m n S)) LFm (0, List.replicate S.length ([] : List Int)) = some (z6k d m n S, 0) := by
  have h128 : 2 ^ n ≤ 128 := Nat.pow_le_pow_right (n := 2) (by omega) hn
  have hSl := z1m hS.nd hS.lt
  have he := zba hd hS
  have f1 : List.replicate S.length ([] : List Int) = z1F S.length (fun i => toI (zcu S i)) [] 0 := (z7c _ _ _).symm
  rw [f1]
  refine z1C (s := ((0 : Int), z1F S.length (fun i => toI (zcu S i)) [] 0)) S.length (fun i => ((i : Int), z1F S.length (fun i => toI (zcu S i)) [] i)) rfl (by simp only [LFm]; omega) (fun i hi => ?_) ?_
  · have hil := hS.lt _ (z1q hi)
    simp only [z4U]
    rw [if_pos (by rw [z0s]; omega), z2B hi, Option.bind_some, zcK _ (by omega), Option.bind_some]
    by_cases hz : szN (S.getD i 0) = 1
    · have : toI (zcu S i) = [] := by unfold zcu; rw [if_pos hz]; rfl
      rw [if_pos (by omega), z1R (by omega), zip (f := fun i => toI (zcu S i)) (z := []) this]
    · rw [if_neg (by omega)]
      exact zp8 hd hn hS hpos hi hz _ rfl
  · simp only [z4U]
    rw [if_neg (by rw [z0s]; omega), z0s, Int.toNat_natCast]
    congr 1
    have f2 : List.replicate S.length (ByteArray.empty : ByteArray) = z1F S.length (zeR d m n S) ByteArray.empty 0 := (z7c _ _ _).symm
    have f3 : List.replicate S.length (ByteArray.empty : ByteArray) = z1F S.length (zjQ d m n S) ByteArray.empty 0 := (z7c _ _ _).symm
    refine z1C (s := ((0 : Int), List.replicate S.length (ByteArray.empty : ByteArray), List.replicate S.length (ByteArray.empty : ByteArray))) S.length (fun i => ((i : Int), z1F S.length (zeR d m n S) ByteArray.empty i, z1F S.length (zjQ d m n S) ByteArray.empty i)) (by rw [← f2, ← f3]; rfl) (by simp only [LFm]; omega) (fun i hi => ?_) ?_
    · have hle := zoq hd hn hS hi
      have heq := zor hd hn hS hi
      have hk : z5l d m n S i < S.length := by omega
      have heq' := he.symm _ _ hi hk heq
      obtain ⟨_, z2⟩ := zkO hd hn hS hk hi heq
      obtain ⟨_, z4⟩ := zkO hd hn hS hi hk heq'
      simp only [z7q]
      rw [if_pos (by rw [z0s]; omega)]
      refine z1C (s := (0 : Int)) (z5l d m n S i) (fun q => (q : Int)) rfl (by simp only [LFm]; omega) (fun q hq => ?_) ?_
      · have hqs : q < S.length := by omega
        have hne : z6P (z2w d m n S) S.length q ≠ z6P (z2w d m n S) S.length i := fun h => by
          have h1 := zkF hd hn hS hqs hi ((zgx he hqs hi).1 h)
          have h2 := zoq hd hn hS hqs
          omega
        simp only [z7p]
        rw [zmI, z2V hqs, Option.bind_some, z2V hi, Option.bind_some, if_neg (by omega), z1R (by omega)]
      · have hcl := (zgx he hk hi).2 heq'
        simp only [z7p]
        rw [zmI, z2V hk, Option.bind_some, z2V hi, Option.bind_some, if_pos (by omega), z2B hk, Option.bind_some, zcV hd (by omega) (hS.lt _ (z1q hk)), Option.bind_some, zn2 hd hn hS hi hk z2 z4 rfl _ _ rfl rfl]
    · simp only [z7q]
      rw [if_neg (by rw [z0s]; omega), z7b, z7b, z7b]
      rfl
theorem zrc : z0W (z6b d (toI S)) LFm (0, ([] : List (Int × Int))) = some (z6k d m n S, 0) := by
  have h128 : 2 ^ n ≤ 128 := Nat.pow_le_pow_right (n := 2) (by omega) hn
  have hSl := z1m hS.nd hS.lt
  have hrest := zqA hd hn hS hpos
  refine z1C (s := ((0 : Int), ([] : List (Int × Int)))) S.length (fun k => ((k : Int), zvk S k)) rfl (by simp only [LFm]; omega) (fun k hk => ?_) ?_
  · simp only [z6b]
    rw [if_pos (by rw [z0s]; omega), z2B hk, Option.bind_some, z1R (by omega)]
    rfl
  · simp only [z6b]
    rw [if_neg (by rw [z0s]; omega), z0s, z0Y _ (by unfold z1Y; omega), Int.toNat_natCast]
    congr 1
    have f1 : List.replicate S.length ([] : List Bool) = z1F S.length (fun _ => List.replicate S.length false) [] 0 := (z7c _ _ _).symm
    rw [f1]
    refine z1C (s := ((0 : Int), z1F S.length (fun _ => List.replicate S.length false) [] 0)) S.length (fun k => ((k : Int), z1F S.length (fun _ => List.replicate S.length false) [] k)) rfl (by simp only [LFm]; omega) (fun k hk => ?_) ?_
    · have hs := z3T (f := fun _ : Nat => List.replicate S.length false) (z := ([] : List Bool)) hk
      simp only [z7t]
      rw [if_pos (by rw [z0s]; omega), z0s, z0Y _ (by unfold z1Y; omega), z5w hk, Option.bind_some, z1R (by omega), Int.toNat_natCast, Int.toNat_natCast, hs]
    · simp only [z7t]
      rw [if_neg (by rw [z0s]; omega), z7b]
      congr 1
      have f2 : ((List.range S.length).map fun _ => List.replicate S.length false) = zcz S.length fun a b => decide (b < 0) && z3k d m n S a b := by
        refine List.map_congr_left fun a _ => ?_
        apply List.ext_getElem (by simp)
        intro b h1 h2
        simp
      rw [f2]
      refine z1C (s := ((0 : Int), zcz S.length fun a b => decide (b < 0) && z3k d m n S a b)) S.length (fun j => ((j : Int), zcz S.length fun a b => decide (b < j) && z3k d m n S a b)) rfl (by simp only [LFm]; omega) (fun j hj => ?_) ?_
      · simp only [z7s]
        rw [if_pos (by rw [z0s]; omega), z2B hj, Option.bind_some, zcV hd (by omega) (hS.lt _ (z1q hj)), Option.bind_some]
        exact zqC hd hn hS hj _
      · have f3 : (zcz S.length fun a b => decide (b < S.length) && z3k d m n S a b) = zcz S.length (z3k d m n S) := z6d fun a b _ hb => by rw [decide_eq_true hb, Bool.true_and]
        simp only [z7s]
        rw [if_neg (by rw [z0s]; omega), z0s, z0Y _ (by unfold z1Y; omega), Int.toNat_natCast, f3]
        congr 1
        have f4 : List.replicate S.length (0 : Int) = z1F S.length (fun i => ((z5l d m n S i : Nat) : Int)) 0 0 := (z7c _ _ _).symm
        rw [f4]
        refine z1C (s := ((0 : Int), z1F S.length (fun i => ((z5l d m n S i : Nat) : Int)) 0 0)) S.length (fun i => ((i : Int), z1F S.length (fun i => ((z5l d m n S i : Nat) : Int)) 0 i)) rfl (by simp only [LFm]; omega) (fun i hi => ?_) ?_
        · simp only [z7r]
          rw [if_pos (by rw [z0s]; omega), z5w hi, Option.bind_some]
          exact zpO hd hn hS hi _ rfl
        · simp only [z7r]
          rw [if_neg (by rw [z0s]; omega), z7b, ziA hd hn hS, Option.bind_some, z0s, z0Y _ (by unfold z1Y; omega), z0Y _ (by unfold z1Y; omega), z0Y _ (by unfold z1Y; omega), Int.toNat_natCast, zpD hd hn hS hpos _ hrest]
end
theorem zpn {d : DFA} {m n : Nat} (hd : DfaOk d m n) (hn : n ≤ 7) : zaN d = some (z6k d m n (zdR d m n), 0) := by
  have h128 : 2 ^ n ≤ 128 := Nat.pow_le_pow_right (n := 2) (by omega) hn
  have hS := zjc hd
  have hSl := z1m hS.nd hS.lt
  unfold zaN
  rw [zsm (zql hd (by omega)), zqf hd (by omega), Option.bind_some, if_pos rfl, zrf hd hn, Option.bind_some, if_neg (by rw [z0s]; omega)]
  exact zrc hd hn hS fun x hx => zpd hd hx
end Go.Proofs.Ytbnnipkanechoaa
end
section
namespace Go.Proofs.Ytbnnipkanechoaa
open Go
set_option maxRecDepth 100000
def zsv (a : Nat) : ByteArray := ⟨#[UInt8.ofNat (IntKind.u8.wrap (IntKind.i64.wrap (97 + (a : Int)))).toNat]⟩
def zqa (W : List ByteArray) (w : ByteArray) : Nat → Option (List Int)
  | 0 => some []
  | a + 1 => match zqa W w a with
    | none => none
    | some row => if z9S w (zsv a) then (match z0W (z3h W (a : Int) row) LFm (w ++ zsv a, -1) with
      | some (.inl (x, r)) => if x = ((a + 1 : Nat) : Int) then some r else none
      | _ => none) else none
def zrq (m L : Nat) : Bool := match z9G m L with
  | none => false
  | some W => decide (1 ≤ W.length) && decide (W.length ≤ 7) && W.all fun w => match zqa W w m with
    | none => false
    | some r => decide (r.length = m) && r.all fun x => decide (0 ≤ x ∧ x < (W.length : Int))
theorem zr7 : zrq 1 1 = true ∧ zrq 1 2 = true ∧ zrq 2 1 = true ∧ zrq 2 2 = true := ⟨by kernel_rfl, by kernel_rfl, by kernel_rfl, by kernel_rfl⟩
theorem zsj {m : Nat} {W : List ByteArray} {i : Int} {fs : List Bool} {rs : List (List Int)} {w : ByteArray} {v : Int × Tape} {r : List Int} (hm : m ≤ 6) (h : zqa W w m = some r) :
    z0W (z2M (m : Int) W i fs rs w v) LFm (0, []) = chk (z2Z 24 (rs.length + 1)) (z0B (IntKind.i64.wrap (i + 1), v.2.l, v.2.at_, fs ++ [decide (v.1 = 1)], rs ++ [r])) := by
  have key : ∀ a, a ≤ m → ∃ r', zqa W w a = some r' := by
    have : ∀ j a, a + j = m → ∃ r', zqa W w a = some r' := by
      intro j
      induction j with
      | zero => intro a ha; obtain rfl : a = m := by omega
                exact ⟨r, h⟩
      | succ j ih =>
        intro a ha
        obtain ⟨r', hr'⟩ := ih (a + 1) (by omega)
        rw [zqa] at hr'
        split at hr'
        · cases hr'
        · rename_i row hrow; exact ⟨row, hrow⟩
    intro a ha
    exact this (m - a) a (by omega)
  refine z1C (s := ((0 : Int), ([] : List Int))) m (fun a => ((a : Int), (zqa W w a).getD [])) rfl (by simp only [LFm]; omega) (fun a ha => ?_) ?_
  · obtain ⟨r1, h1⟩ := key a (by omega)
    obtain ⟨r2, h2⟩ := key (a + 1) (by omega)
    rw [h1, h2, Option.getD_some, Option.getD_some]
    rw [zqa, h1] at h2
    simp only [z2M]
    rw [if_pos (by omega)]
    dsimp only at h2
    split at h2
    case isFalse => cases h2
    rename_i hc
    change chk (z9S w (zsv a)) (z0W (z3h W (a : Int) r1) LFm (w ++ zsv a, -1)) = _
    rw [z0Y _ hc]
    split at h2
    · rename_i x q hq
      split at h2
      · rename_i hx
        cases h2
        rw [← hx]
        exact hq
      · cases h2
    · cases h2
  · simp only [z2M]
    rw [if_neg (by omega), h, Option.getD_some]
theorem zjK {t : Tape} (ht : TapeOk t) (m : Nat) (hm : 1 ≤ m ∧ m ≤ 2) : ∃ d t' n, z3r t m = some (d, t') ∧ DfaOk d m n ∧ n ≤ 7 ∧ TapeOk t' := by
  unfold z3r
  obtain ⟨v, t1, e1, v0, v1, ht1⟩ := z6j ht 2 (by omega) (by omega)
  simp only [e1, Option.bind_some]
  obtain ⟨k, rfl⟩ := Int.eq_ofNat_of_zero_le v0
  have hw : IntKind.i64.wrap (1 + (k : Int)) = ((k + 1 : Nat) : Int) := by rw [z2q (by omega) (by omega)]; omega
  rw [hw]
  have hchk : zrq m (k + 1) = true := by
    obtain ⟨c1, c2, c3, c4⟩ := zr7
    rcases (by omega : (m = 1 ∧ k = 0) ∨ (m = 1 ∧ k = 1) ∨ (m = 2 ∧ k = 0) ∨ (m = 2 ∧ k = 1)) with ⟨rfl, rfl⟩ | ⟨rfl, rfl⟩ | ⟨rfl, rfl⟩ | ⟨rfl, rfl⟩
    · exact c1
    · exact c2
    · exact c3
    · exact c4
  unfold zrq at hchk
  split at hchk
  · cases hchk
  rename_i W hW
  simp only [Bool.and_eq_true, decide_eq_true_eq, List.all_eq_true] at hchk
  obtain ⟨⟨hW1, hW7⟩, hrow⟩ := hchk
  rw [hW, Option.bind_some]
  refine Exists.elim (z2a (b := z3q (m : Int) W) (fun z => 0 ≤ z.1 ∧ z.1 ≤ W.length ∧ TapeOk ⟨z.2.1, z.2.2.1⟩ ∧ (z.2.2.2.1.length : Int) = z.1 ∧ (z.2.2.2.2.length : Int) = z.1 ∧ ∀ r ∈ z.2.2.2.2, z8d m W.length r) (fun z => W.length + 1 - z.1.toNat)
    (fun r => DfaOk r.1 m W.length ∧ TapeOk r.2) ?_ LFm (0, t1.l, t1.at_, [], []) ⟨by simp, by simp, ht1, by simp, by simp, by simp⟩ (by simp only [LFm]; omega)) fun r h => ⟨r.1, r.2, W.length, h.1, h.2.1, hW7, h.2.2⟩
  rintro ⟨i, tl, ta, fs, rs⟩ ⟨i0, i1, i2, i3, i4, i5⟩
  simp only at i0 i1 i2 i3 i4 i5 ⊢
  obtain ⟨i, rfl⟩ := Int.eq_ofNat_of_zero_le i0
  simp only [z3q]
  by_cases hi : (i : Int) < (W.length : Int)
  · left
    have hi' : i < W.length := by omega
    rw [if_pos hi, z2p hi', Option.bind_some]
    obtain ⟨u, t3, e3, u0, u1, ht3⟩ := z6j i2 2 (by omega) (by omega)
    rw [e3, Option.bind_some, z0Y _ (by unfold z2Z; omega)]
    have hr := hrow _ (List.getElem_mem hi')
    split at hr
    · cases hr
    rename_i r hr0
    simp only [Bool.and_eq_true, decide_eq_true_eq, List.all_eq_true] at hr
    rw [zsj (by omega) hr0, z0Y _ (by unfold z2Z; omega), z2q (by omega) (by omega)]
    refine ⟨_, rfl, ⟨by simp only; omega, by simp only; omega, ht3, by simp only [List.length_append, List.length_singleton]; omega, by simp only [List.length_append, List.length_singleton]; omega, fun y hy => ?_⟩, by simp only; omega⟩
    rcases zaT.1 hy with h | rfl
    · exact i5 y h
    · exact ⟨hr.1, fun x hx => hr.2 x hx⟩
  · right
    rw [if_neg hi]
    exact ⟨_, rfl, ⟨rfl, by omega, by omega, by omega, by simp only; omega, by simp only; omega, by simp only; omega, by simp only; omega, i5⟩, i2⟩
theorem zsl {t : Tape} (ht : TapeOk t) (m most : Nat) (hm : 1 ≤ m ∧ m ≤ 2) (hk : 1 ≤ most ∧ most ≤ 7) : ∃ d t' n, z4v t m most = some (d, t') ∧ DfaOk d m n ∧ n ≤ 7 ∧ TapeOk t' := by
  unfold z4v
  obtain ⟨v, t1, e1, v0, v1, ht1⟩ := z6j ht 6 (by omega) (by omega)
  simp only [e1, Option.bind_some]
  split
  · obtain ⟨d, t', n, e, h1, h2, h3⟩ := zm8 ht1 m most (by omega) (by omega)
    exact ⟨d, t', n, by rw [e, Option.bind_some], h1, by omega, h3⟩
  · split
    · have : (if (4 : Int) < (most : Int) then (4 : Int) else (most : Int)) = ((min most 4 : Nat) : Int) := by split <;> omega
      rw [this]
      obtain ⟨d, t', n, e, h1, h2, h3⟩ := zpr ht1 m (min most 4) (by omega) (by omega)
      exact ⟨d, t', n, by rw [e, Option.bind_some], h1, by omega, h3⟩
    · split
      · obtain ⟨d, t', n, e, h1, h2, h3⟩ := zjK ht1 m hm
        exact ⟨d, t', n, by rw [e, Option.bind_some], h1, h2, h3⟩
      · obtain ⟨d, t', n, e, h1, h2, h3⟩ := zqk ht1 m most (by omega) (by omega)
        exact ⟨d, t', n, by rw [e, Option.bind_some], h1, by omega, h3⟩
end Go.Proofs.Ytbnnipkanechoaa
end
section
namespace Go.Proofs.Ytbnnipkanechoaa
def Mo (C0 C1 : z0G) : Prop := ∀ f a o, C0 f a = some o → C1 f a = some o
section
variable {P : Program} {C0 C1 : z0G}
theorem zcU (hMo : Mo C0 C1) {wio : FuncId → Nat → Bool} {fr fr' : Fr} {f : FuncId} {args : List E} {dst : Option Nat} (h : zbe C0 wio fr f args dst = some fr') : Ev fun m => zbe C1 wio fr f args dst = some fr' := by
  unfold zbe at h ⊢
  split at h
  · cases h
  · rename_i ts deps io ha
    split at h
    · cases h
    · rename_i r outs hc
      refine ⟨0, fun m _ => ?_⟩
      show (match C1 f ts with | none => none | some (r, outs) => _) = _
      rw [hMo _ _ _ hc]
      exact h
theorem znQ (hMo : Mo C0 C1) {wio : FuncId → Nat → Bool} {fr fr' : Fr} {o : Oper} (h : opF P C0 wio fr o = some fr') : Ev fun m => opF P C1 wio fr o = some fr' := by
  unfold opF at h ⊢
  split at h
  · exact .pure fun _ => h
  · split at h
    · exact zcU hMo h
    · cases h
  · exact .pure fun _ => h
  · exact .pure fun _ => h
theorem zkW (hMo : Mo C0 C1) {wio : FuncId → Nat → Bool} {fr fr' : Fr} {o : Oper} (h : z9T P C0 wio fr o = some fr') : Ev fun m => z9T P C1 wio fr o = some fr' := by
  unfold z9T at h ⊢
  split at h
  · split at h
    · split at h
      · exact zcU hMo h
      · cases h
    · cases h
  · exact .pure fun _ => h
theorem zq2 (hMo : Mo C0 C1) {wio : FuncId → Nat → Bool} {M : Nat → Bool} {fr fr' : Fr} {o : Oper} (h : wrF P C0 wio M fr o = some fr') : Ev fun m => wrF P C1 wio M fr o = some fr' := by
  unfold wrF at h ⊢
  split at h
  · split at h
    · cases h
    · split at h
      · exact zcU hMo h
      · split at h
        · rename_i hM
          simp only [hM, if_true]
          exact zcU hMo h
        · cases h
      · cases h
  · exact .pure fun _ => h
  · exact .pure fun _ => h
  · exact .pure fun _ => h
  · cases h
theorem zje (hMo : Mo C0 C1) {wio : FuncId → Nat → Bool} {ops : Array Oper} : ∀ {l : List Oper} {fr fr' : Fr}, zjf P C0 wio ops l fr = some fr' → Ev fun m => zjf P C1 wio ops l fr = some fr'
  | [], fr, fr', h => .pure fun _ => h
  | o :: rest, fr, fr', h => by
    simp only [zjf] at h ⊢
    split at h
    · cases h
    · split at h
      · rename_i fr1 h1
        exact (znQ hMo h1).both (zje hMo h) fun m a1 a2 => by rw [a1]; exact a2
      · cases h
    · split at h
      · rename_i fr1 h1
        exact (zje hMo h)
      · cases h
theorem zcR (hMo : Mo C0 C1) {wio : FuncId → Nat → Bool} {same : Bool} {M : Nat → Bool} {ops : Array Oper} : ∀ {l : List (Nat × Oper × Nat)} {fr fr' : Fr}, z8Z P C0 wio same M ops l fr = some fr' → Ev fun m => z8Z P C1 wio same M ops l fr = some fr'
  | [], fr, fr', h => .pure fun _ => h
  | (k, o, mk) :: rest, fr, fr', h => by
    simp only [z8Z] at h ⊢
    split at h
    · cases h
    · split at h
      · exact zcR hMo h
      · cases h
    · split at h
      · rename_i hm
        simp only [if_pos hm]
        split at h
        · split at h
          · exact zcR hMo h
          · cases h
        · cases h
      · rename_i hm
        simp only [if_neg hm]
        split at h
        · rename_i fr1 h1
          have h2 : Ev fun m => (if mk = 2 then opF P C1 wio fr o else if same = true then z9T P C1 wio fr o else wrF P C1 wio M fr o) = some fr1 := by
            by_cases e : mk = 2
            · simp only [if_pos e] at h1 ⊢; exact znQ hMo h1
            · simp only [if_neg e] at h1 ⊢
              by_cases e2 : same = true
              · simp only [if_pos e2] at h1 ⊢; exact zkW hMo h1
              · simp only [if_neg e2] at h1 ⊢; exact zq2 hMo h1
          exact h2.both (zcR hMo h) fun m a1 a2 => by rw [a1]; exact a2
        · cases h
theorem z9K (hMo : Mo C0 C1) {wio : FuncId → Nat → Bool} {same : Bool} {M : Nat → Bool} {ops : Array Oper} : ∀ {l : SchT} {fr fr' : Fr}, z5x P C0 wio same M ops l fr = some fr' → Ev fun m => z5x P C1 wio same M ops l fr = some fr'
  | .nil, fr, fr', h => .pure fun _ => h
  | .alt x y, fr, fr', h => by
    simp only [z5x] at h ⊢
    split at h
    · rename_i f1 f2 h1 h2
      obtain ⟨rfl, hs⟩ := zcf h
      exact (z9K hMo h1).both (z9K hMo h2) fun m a1 a2 => by rw [a1, a2]; exact zcN hs
    · cases h
  | .op k mk rest, fr, fr', h => by
    simp only [z5x] at h ⊢
    split at h
    · cases h
    rename_i o ho
    try simp only [ho]
    split at h
    · cases h
    · split at h
      · exact z9K hMo h
      · cases h
    · split at h
      · rename_i hm
        simp only [if_pos hm]
        split at h
        · split at h
          · exact z9K hMo h
          · cases h
        · cases h
      · rename_i hm
        simp only [if_neg hm]
        split at h
        · rename_i fr1 h1
          have h2 : Ev fun m => (if mk = 2 then opF P C1 wio fr o else if same = true then z9T P C1 wio fr o else wrF P C1 wio M fr o) = some fr1 := by
            by_cases e : mk = 2
            · simp only [if_pos e] at h1 ⊢; exact znQ hMo h1
            · simp only [if_neg e] at h1 ⊢
              by_cases e2 : same = true
              · simp only [if_pos e2] at h1 ⊢; exact zkW hMo h1
              · simp only [if_neg e2] at h1 ⊢; exact zq2 hMo h1
          exact h2.both (z9K hMo h) fun m a1 a2 => by rw [a1]; exact a2
        · cases h
theorem zmB (hMo : Mo C0 C1) {c : Cfg} {id : Nat} {ops : Array Oper} {fr fr' : Fr} (h : z7G P C0 c id ops fr = some fr') : Ev fun m => z7G P C1 c id ops fr = some fr' := by
  unfold z7G at h ⊢
  split at h
  · exact z9K hMo h
  · split at h
    · exact zcR hMo h
    · cases h
theorem zkq (hMo : Mo C0 C1) {B : z0G → Fr → Option (X × Fr)} {cn : Fr → Fr} (hB : ∀ fr o, B C0 fr = some o → Ev fun m => B C1 fr = some o) : ∀ {n : Nat} {fr : Fr} {o : X × Fr}, zb5 (B C0) cn n fr = some o → Ev fun m => zb5 (B C1) cn n fr = some o
  | 0, fr, o, h => by cases h
  | n + 1, fr, o, h => by
    simp only [zb5] at h ⊢
    split at h
    · rename_i fr1 h1
      exact (hB _ _ h1).both (zkq hMo hB h) fun m a1 a2 => by rw [a1]; exact a2
    · rename_i x fr1 hne h1
      refine (hB _ _ h1).imp fun m a1 => ?_
      rw [a1]
      cases x with
      | n => exact absurd rfl hne
      | x i => exact h
      | r => exact h
    · cases h
theorem zkU (hMo : Mo C0 C1) {c : Cfg} {LF : Nat} : ∀ (b : Code) {fr : Fr} {o : X × Fr}, z2R P C0 c LF b fr = some o → Ev fun m => z2R P C1 c LF b fr = some o := by
  intro b
  induction b with
  | skip => intro fr o h; exact .pure fun _ => h
  | label l => intro fr o h; exact .pure fun _ => h
  | exit id => intro fr o h; exact .pure fun _ => h
  | ret => intro fr o h; exact .pure fun _ => h
  | goto l => intro fr o h; cases h
  | scope c ih => intro fr o h; simp only [z2R] at h ⊢; exact ih h
  | refuse s => intro fr o h; cases h
  | rangeFunc => intro fr o h; cases h
  | region id ops draw =>
    intro fr o h
    simp only [z2R] at h ⊢
    split at h
    · rename_i hd
      simp only [hd, if_true]
      split at h
      · rename_i fr1 h1
        exact (zmB hMo h1).imp fun m a1 => by rw [a1]; exact h
      · cases h
    · rename_i hd
      simp only [hd, Bool.false_eq_true, if_false]
      split at h
      · rename_i fr1 h1
        exact (zje hMo h1).imp fun m a1 => by rw [a1]; exact h
      · cases h
  | seq a b ih1 ih2 =>
    intro fr o h
    simp only [z2R] at h ⊢
    split at h
    · rename_i fr1 h1
      exact (ih1 h1).both (ih2 h) fun m a1 a2 => by rw [a1]; exact a2
    · rename_i hne
      refine (ih1 h).imp fun m a1 => ?_
      rw [a1]
      obtain ⟨x, fr1⟩ := o
      cases x with
      | n => exact absurd h (hne _)
      | x i => rfl
      | r => rfl
  | cond c x y ih1 ih2 =>
    intro fr o h
    simp only [z2R] at h ⊢
    split at h
    · exact ih1 h
    · exact ih2 h
    · cases h
  | block id c ih =>
    intro fr o h
    simp only [z2R] at h ⊢
    split at h
    · rename_i i fr1 h1
      exact (ih h1).imp fun m a1 => by rw [a1]; exact h
    · rename_i hne
      refine (ih h).imp fun m a1 => ?_
      rw [a1]
      obtain ⟨x, fr1⟩ := o
      cases x with
      | n => rfl
      | x i => exact absurd h (hne _ _)
      | r => rfl
  | loop b ih =>
    intro fr o h
    simp only [z2R] at h ⊢
    exact zkq hMo (B := fun C fr => z2R P C c LF b fr) (fun fr o h => ih h) h
theorem znC (hMo : Mo C0 C1) {c : Cfg} {LF : Nat} {fn : Func} {args : List T} {o : T × List T} (h : zgH P C0 c LF fn args = some o) : Ev fun m => zgH P C1 c LF fn args = some o := by
  unfold zgH at h ⊢
  split at h
  · rename_i hc
    simp only [if_pos hc]
    split at h
    · cases h
    · rename_i b hb
      split at h
      · rename_i fr h1
        exact (zkU hMo _ h1).imp fun m a1 => by rw [a1]; exact h
      · rename_i fr h1
        exact (zkU hMo _ h1).imp fun m a1 => by rw [a1]; exact h
      · cases h
  · cases h
end
theorem zkl {P : Program} {X : z0G} {cf : FuncId → Option Cfg} : ∀ n, Mo (z3j P X cf n) (z3j P X cf (n + 1))
  | 0 => fun f a o h => by
    simp only [z3j] at h ⊢
    split at h
    · cases h
    · rename_i hc
      first
        | exact h
        | (rw [hc]; exact h)
  | n + 1 => fun f a o h => by
    simp only [z3j] at h
    split at h
    · rename_i c hc
      split at h
      · rename_i fn hfn
        obtain ⟨k, hk⟩ := znC (zkl n) h
        exact zi8 hc hfn (hk k (Nat.le_refl _))
      · cases h
    · rename_i hc
      simp only [z3j, hc]
      exact h
theorem zb0 {P : Program} {X : z0G} {cf : FuncId → Option Cfg} (n : Nat) {f : FuncId} {a : List T} {o : T × List T} (h : z3j P X cf n f a = some o) : Lim P X cf f a = some o := by
  refine zo4 (d := n) fun m hm => ?_
  obtain ⟨k, rfl⟩ := Nat.exists_eq_add_of_le hm
  clear hm
  induction k with
  | zero => exact h
  | succ k ih => exact zkl (n + k) f a o ih
def tab : List (FuncId × List T × T × List T) → z0G
  | [] => fun _ _ => none
  | (g, b, r, os) :: l => fun f a => if (Nat.beq g f && zkQ b a) = true then some (r, os) else tab l f a
theorem zq6 {C : z0G} : ∀ {l : List (FuncId × List T × T × List T)}, (∀ x ∈ l, C x.1 x.2.1 = some x.2.2) → Mo (tab l) C
  | [], _ => fun f a o h => by cases h
  | (g, b, r, os) :: l, hl => fun f a o h => by
    simp only [tab] at h
    split at h
    · rename_i hc
      simp only [Bool.and_eq_true] at hc
      cases h
      have := hl _ (List.mem_cons_self ..)
      rw [← Nat.eq_of_beq_eq_true hc.1, ← z7F hc.2]
      exact this
    · exact zq6 (fun x hx => hl x (List.mem_cons_of_mem _ hx)) f a o h
noncomputable def zia (P : Program) (X : z0G) (cf : FuncId → Option Cfg) (S : z0G) : Nat → z0G
  | 0 => S
  | n + 1 => fun f a => match S f a with
    | some o => some o
    | none => match cf f with
      | some c => (match P.funcs[f]? with | some fn => zgH P (zia P X cf S n) c LFm fn a | none => none)
      | none => X f a
theorem zi9 {P : Program} {X : z0G} {cf : FuncId → Option Cfg} {S : z0G} (hS : Mo S (Lim P X cf)) : ∀ n, Mo (zia P X cf S n) (Lim P X cf)
  | 0 => hS
  | n + 1 => fun f a o h => by
    simp only [zia] at h
    split at h
    · rename_i o' ho
      cases h
      exact hS f a o ho
    · split at h
      · rename_i c hc
        split at h
        · rename_i fn hfn
          obtain ⟨k, hk⟩ := znC (zi9 hS n) h
          exact zo3 hc hfn (hk k (Nat.le_refl _))
        · cases h
      · rename_i hc
        exact zo5 hc h
theorem zqS {P : Program} {X : z0G} {cf : FuncId → Option Cfg} (l : List (FuncId × List T × T × List T)) (n : Nat) {f : FuncId} {a : List T} {o : T × List T} (h : zia P X cf (tab l) n f a = some o) (hl : ∀ x ∈ l, Lim P X cf x.1 x.2.1 = some x.2.2) : Lim P X cf f a = some o :=
  zi9 (zq6 hl) n f a o h
end Go.Proofs.Ytbnnipkanechoaa
end
section
namespace Go.Proofs.Ytbnnipkanechoaa
open Go
set_option maxRecDepth 100000
def exT : T := .agg [.sc (.int .i64 2), .sc (.int .i64 0), .sl 3 [.sc (.bool true), .sc (.bool false), .sc (.bool false)], .sl 3 [.sl 2 [.sc (.int .i64 1), .sc (.int .i64 0)], .sl 2 [.sc (.int .i64 2), .sc (.int .i64 0)], .sl 2 [.sc (.int .i64 0), .sc (.int .i64 2)]]]
def zkN : List T := [.sc (.int .i64 7), .sc (.int .i64 3), .sc (.int .i64 5), .sc (.int .i64 6), .sc (.int .i64 1), .sc (.int .i64 2), .sc (.int .i64 4)]
def dgT : T := .agg [.sl 7 [.sc (.int .i64 7), .sc (.int .i64 3), .sc (.int .i64 5), .sc (.int .i64 6), .sc (.int .i64 1), .sc (.int .i64 2), .sc (.int .i64 4)], .sl 7 [.sl 2 [.sc (.int .i64 0), .sc (.int .i64 2)], .sl 2 [.sc (.int .i64 3), .sc (.int .i64 4)], .sl 2 [.sc (.int .i64 1), .sc (.int .i64 2)], .sl 2 [.sc (.int .i64 2), .sc (.int .i64 2)], .sl 2 [.sc (.int .i64 5), .sc (.int .i64 4)], .sl 2 [.sc (.int .i64 6), .sc (.int .i64 4)], .sl 2 [.sc (.int .i64 4), .sc (.int .i64 6)]], .sl 7 [.sl 7 [.sc (.bool true), .sc (.bool false), .sc (.bool false), .sc (.bool false), .sc (.bool false), .sc (.bool false), .sc (.bool false)], .sl 7 [.sc (.bool true), .sc (.bool true), .sc (.bool true), .sc (.bool true), .sc (.bool false), .sc (.bool false), .sc (.bool false)], .sl 7 [.sc (.bool true), .sc (.bool true), .sc (.bool true), .sc (.bool true), .sc (.bool false), .sc (.bool false), .sc (.bool false)], .sl 7 [.sc (.bool true), .sc (.bool true), .sc (.bool true), .sc (.bool true), .sc (.bool false), .sc (.bool false), .sc (.bool false)], .sl 7 [.sc (.bool true), .sc (.bool true), .sc (.bool true), .sc (.bool true), .sc (.bool true), .sc (.bool true), .sc (.bool true)], .sl 7 [.sc (.bool true), .sc (.bool true), .sc (.bool true), .sc (.bool true), .sc (.bool true), .sc (.bool true), .sc (.bool true)], .sl 7 [.sc (.bool true), .sc (.bool true), .sc (.bool true), .sc (.bool true), .sc (.bool true), .sc (.bool true), .sc (.bool true)]]]
theorem e36 : z3j Try.prog xt z1Z 10 36 [exT] = some (.os 1 7 zkN, [.dead]) := by kernel_rfl
theorem e37 : z3j Try.prog xt z1Z 10 37 [exT, .sl 7 zkN] = some (.agg [.sl 7 [.sc (.int .i64 7), .sc (.int .i64 3), .sc (.int .i64 5), .sc (.int .i64 6), .sc (.int .i64 1), .sc (.int .i64 2), .sc (.int .i64 4)], .os 1 7 [.os 1 2 [.sc (.int .i64 0), .sc (.int .i64 2)], .os 1 2 [.sc (.int .i64 3), .sc (.int .i64 4)], .os 1 2 [.sc (.int .i64 1), .sc (.int .i64 2)], .os 1 2 [.sc (.int .i64 2), .sc (.int .i64 2)], .os 1 2 [.sc (.int .i64 5), .sc (.int .i64 4)], .os 1 2 [.sc (.int .i64 6), .sc (.int .i64 4)], .os 1 2 [.sc (.int .i64 4), .sc (.int .i64 6)]], .os 1 7 [.os 1 7 [.sc (.bool true), .sc (.bool false), .sc (.bool false), .sc (.bool false), .sc (.bool false), .sc (.bool false), .sc (.bool false)], .os 1 7 [.sc (.bool true), .sc (.bool true), .sc (.bool true), .sc (.bool true), .sc (.bool false), .sc (.bool false), .sc (.bool false)], .os 1 7 [.sc (.bool true), .sc (.bool true), .sc (.bool true), .sc (.bool true), .sc (.bool false), .sc (.bool false), .sc (.bool false)], .os 1 7 [.sc (.bool true), .sc (.bool true), .sc (.bool true), .sc (.bool true), .sc (.bool false), .sc (.bool false), .sc (.bool false)], .os 1 7 [.sc (.bool true), .sc (.bool true), .sc (.bool true), .sc (.bool true), .sc (.bool true), .sc (.bool true), .sc (.bool true)], .os 1 7 [.sc (.bool true), .sc (.bool true), .sc (.bool true), .sc (.bool true), .sc (.bool true), .sc (.bool true), .sc (.bool true)], .os 1 7 [.sc (.bool true), .sc (.bool true), .sc (.bool true), .sc (.bool true), .sc (.bool true), .sc (.bool true), .sc (.bool true)]]], [.dead, .dead]) := by kernel_rfl
def sr0 : T := .tup [.os 1 7 [.sc (.int .i64 0), .sc (.int .i64 2), .sc (.int .i64 1), .sc (.int .i64 3), .sc (.int .i64 4), .sc (.int .i64 5), .sc (.int .i64 6)], .os 1 7 [.sc (.string ByteArray.empty), .sc (.string ⟨#[98, 97]⟩), .sc (.string ⟨#[98]⟩), .sc (.string ⟨#[98, 97, 97]⟩), .sc (.string ⟨#[98, 97, 98]⟩), .sc (.string ⟨#[98, 97, 98, 97]⟩), .sc (.string ⟨#[98, 97, 98, 97, 97]⟩)]]
theorem zt7 : z3j Try.prog xt z1Z 6 41 [dgT, .sc (.int .i64 0)] = some (sr0, [.dead, .dead]) := by kernel_rfl
def sr1 : T := .tup [.os 1 6 [.sc (.int .i64 1), .sc (.int .i64 3), .sc (.int .i64 4), .sc (.int .i64 2), .sc (.int .i64 5), .sc (.int .i64 6)], .os 1 7 [.sc (.string ByteArray.empty), .sc (.string ByteArray.empty), .sc (.string ⟨#[97, 97]⟩), .sc (.string ⟨#[97]⟩), .sc (.string ⟨#[98]⟩), .sc (.string ⟨#[98, 97]⟩), .sc (.string ⟨#[98, 97, 97]⟩)]]
theorem zt6 : z3j Try.prog xt z1Z 6 41 [dgT, .sc (.int .i64 1)] = some (sr1, [.dead, .dead]) := by kernel_rfl
def sr2 : T := .tup [.os 1 6 [.sc (.int .i64 2), .sc (.int .i64 1), .sc (.int .i64 3), .sc (.int .i64 4), .sc (.int .i64 5), .sc (.int .i64 6)], .os 1 7 [.sc (.string ByteArray.empty), .sc (.string ⟨#[97]⟩), .sc (.string ByteArray.empty), .sc (.string ⟨#[97, 97]⟩), .sc (.string ⟨#[97, 98]⟩), .sc (.string ⟨#[97, 98, 97]⟩), .sc (.string ⟨#[97, 98, 97, 97]⟩)]]
theorem zt5 : z3j Try.prog xt z1Z 6 41 [dgT, .sc (.int .i64 2)] = some (sr2, [.dead, .dead]) := by kernel_rfl
def sr3 : T := .tup [.os 1 6 [.sc (.int .i64 3), .sc (.int .i64 2), .sc (.int .i64 1), .sc (.int .i64 4), .sc (.int .i64 5), .sc (.int .i64 6)], .os 1 7 [.sc (.string ByteArray.empty), .sc (.string ⟨#[97, 97]⟩), .sc (.string ⟨#[97]⟩), .sc (.string ByteArray.empty), .sc (.string ⟨#[97, 97, 98]⟩), .sc (.string ⟨#[97, 97, 98, 97]⟩), .sc (.string ⟨#[97, 97, 98, 97, 97]⟩)]]
theorem zt4 : z3j Try.prog xt z1Z 6 41 [dgT, .sc (.int .i64 3)] = some (sr3, [.dead, .dead]) := by kernel_rfl
def sr4 : T := .tup [.os 1 3 [.sc (.int .i64 4), .sc (.int .i64 5), .sc (.int .i64 6)], .os 1 7 [.sc (.string ByteArray.empty), .sc (.string ByteArray.empty), .sc (.string ByteArray.empty), .sc (.string ByteArray.empty), .sc (.string ByteArray.empty), .sc (.string ⟨#[97]⟩), .sc (.string ⟨#[97, 97]⟩)]]
theorem zt3 : z3j Try.prog xt z1Z 6 41 [dgT, .sc (.int .i64 4)] = some (sr4, [.dead, .dead]) := by kernel_rfl
def sr5 : T := .tup [.os 1 3 [.sc (.int .i64 5), .sc (.int .i64 6), .sc (.int .i64 4)], .os 1 7 [.sc (.string ByteArray.empty), .sc (.string ByteArray.empty), .sc (.string ByteArray.empty), .sc (.string ByteArray.empty), .sc (.string ⟨#[98]⟩), .sc (.string ByteArray.empty), .sc (.string ⟨#[97]⟩)]]
theorem zt2 : z3j Try.prog xt z1Z 6 41 [dgT, .sc (.int .i64 5)] = some (sr5, [.dead, .dead]) := by kernel_rfl
def sr6 : T := .tup [.os 1 3 [.sc (.int .i64 6), .sc (.int .i64 4), .sc (.int .i64 5)], .os 1 7 [.sc (.string ByteArray.empty), .sc (.string ByteArray.empty), .sc (.string ByteArray.empty), .sc (.string ByteArray.empty), .sc (.string ⟨#[97]⟩), .sc (.string ⟨#[97, 97]⟩), .sc (.string ByteArray.empty)]]
theorem zt1 : z3j Try.prog xt z1Z 6 41 [dgT, .sc (.int .i64 6)] = some (sr6, [.dead, .dead]) := by kernel_rfl
def zpH : List (FuncId × List T × T × List T) := [(36, [exT], .os 1 7 zkN, [.dead]), (37, [exT, .sl 7 zkN], .agg [.sl 7 [.sc (.int .i64 7), .sc (.int .i64 3), .sc (.int .i64 5), .sc (.int .i64 6), .sc (.int .i64 1), .sc (.int .i64 2), .sc (.int .i64 4)], .os 1 7 [.os 1 2 [.sc (.int .i64 0), .sc (.int .i64 2)], .os 1 2 [.sc (.int .i64 3), .sc (.int .i64 4)], .os 1 2 [.sc (.int .i64 1), .sc (.int .i64 2)], .os 1 2 [.sc (.int .i64 2), .sc (.int .i64 2)], .os 1 2 [.sc (.int .i64 5), .sc (.int .i64 4)], .os 1 2 [.sc (.int .i64 6), .sc (.int .i64 4)], .os 1 2 [.sc (.int .i64 4), .sc (.int .i64 6)]], .os 1 7 [.os 1 7 [.sc (.bool true), .sc (.bool false), .sc (.bool false), .sc (.bool false), .sc (.bool false), .sc (.bool false), .sc (.bool false)], .os 1 7 [.sc (.bool true), .sc (.bool true), .sc (.bool true), .sc (.bool true), .sc (.bool false), .sc (.bool false), .sc (.bool false)], .os 1 7 [.sc (.bool true), .sc (.bool true), .sc (.bool true), .sc (.bool true), .sc (.bool false), .sc (.bool false), .sc (.bool false)], .os 1 7 [.sc (.bool true), .sc (.bool true), .sc (.bool true), .sc (.bool true), .sc (.bool false), .sc (.bool false), .sc (.bool false)], .os 1 7 [.sc (.bool true), .sc (.bool true), .sc (.bool true), .sc (.bool true), .sc (.bool true), .sc (.bool true), .sc (.bool true)], .os 1 7 [.sc (.bool true), .sc (.bool true), .sc (.bool true), .sc (.bool true), .sc (.bool true), .sc (.bool true), .sc (.bool true)], .os 1 7 [.sc (.bool true), .sc (.bool true), .sc (.bool true), .sc (.bool true), .sc (.bool true), .sc (.bool true), .sc (.bool true)]]], [.dead, .dead]), (41, [dgT, .sc (.int .i64 0)], sr0, [.dead, .dead]), (41, [dgT, .sc (.int .i64 1)], sr1, [.dead, .dead]), (41, [dgT, .sc (.int .i64 2)], sr2, [.dead, .dead]), (41, [dgT, .sc (.int .i64 3)], sr3, [.dead, .dead]), (41, [dgT, .sc (.int .i64 4)], sr4, [.dead, .dead]), (41, [dgT, .sc (.int .i64 5)], sr5, [.dead, .dead]), (41, [dgT, .sc (.int .i64 6)], sr6, [.dead, .dead])]
theorem zpG : ∀ x ∈ zpH, L x.1 x.2.1 = some x.2.2 := by
  simp only [zpH, List.forall_mem_cons]
  exact ⟨zb0 10 e36, zb0 10 e37, zb0 6 zt7, zb0 6 zt6, zb0 6 zt5, zb0 6 zt4, zb0 6 zt3, zb0 6 zt2, zb0 6 zt1, fun x h => by cases h⟩
theorem zxn : zia Try.prog xt z1Z (tab zpH) 14 17 [] = some (.sc (.bool true), []) := by kernel_rfl
theorem c17 : L 17 [] = some (.sc (.bool true), []) := zqS zpH 14 zxn zpG
def zq1 : Option Bool := some true
theorem zmW {r : Bool} (h : zq1 = some r) : L 17 [] = some (.sc (.bool r), []) := by cases h; exact c17
end Go.Proofs.Ytbnnipkanechoaa
end
section
namespace Go.Proofs.Ytbnnipkanechoaa
open Go
noncomputable section
set_option maxRecDepth 100000
set_option maxHeartbeats 1000000
def z5G (a0 : List Int) : Option (Bool) :=
  (zaX a0).bind fun v8 =>
  (z3K v8).bind fun v9 =>
  (z4v v9.2 v9.1 5).bind fun v10 =>
  (z8W v10.1).bind fun v11 =>
  (zaN v10.1).bind fun v12 =>
  if v11.2 = v12.2 then
    (z7U v11.1 v12.1).bind fun v13 =>
    if v13 = true then
      (zq1).bind fun v14 =>
      some v14
    else
      some false
  else
    some false
theorem zcg {a0 : List Int} {r : Bool} (h0 : z5G a0 = some r) : L 3 [.sl a0.length (a0.map fun x0 => .sc (.int .i64 x0))] = some (.sc (.bool r), [.dead]) := by
  simp only [z5G] at h0
  refine z2S zwA fn3 (z1w bd3 ⟨of_decide_eq_true rfl, of_decide_eq_true rfl⟩ ?_)
  simp only [z1E, z1A, z1y, z1G, z3i]
  refine zq rfl (zr rfl rfl rfl (by simp; rfl) ?_)
  refine z0a (zq rfl ?_)
  obtain ⟨v8, f10, h1⟩ := z0h h0
  have f10k := zjq f10
  try simp at f10k
  refine zr rfl rfl rfl (by simp [f10k]; rfl) ?_
  refine z0a (zq rfl ?_)
  obtain ⟨v9, f11, h2⟩ := z0h h1
  have f11k := z9O f11
  try simp at f11k
  obtain ⟨v10, f12, h3⟩ := z0h h2
  have f12k := zcE f12
  try simp at f12k
  refine zr rfl rfl rfl (by simp [f11k, f12k]; rfl) ?_
  refine z0a (zq rfl (zpq rfl rfl (by simp; rfl) ?_))
  obtain ⟨v11, f13, h4⟩ := z0h h3
  have f13k := zii f13
  try simp at f13k
  refine zr rfl rfl rfl (by simp [f13k]; rfl) ?_
  refine z0a (zq rfl ?_)
  obtain ⟨v12, f14, h5⟩ := z0h h4
  have f14k := zjg f14
  try simp at f14k
  refine zr rfl rfl rfl (by simp [f14k]; rfl) ?_
  refine z0a (zq rfl ?_)
  by_cases c15 : v11.2 = v12.2
  ·rw [if_pos c15] at h5
   have c15e := eq_true c15
   obtain ⟨v13, f16, h6⟩ := z0h h5
   have f16k := zgc f16
   try simp at f16k
   by_cases c17 : v13 = true
   ·rw [if_pos c17] at h6
    obtain ⟨v14, f18, h7⟩ := z0h h6
    have f18k := zmW f18
    try simp at f18k
    refine zr rfl rfl rfl (by simp [c15e, f16k, c17, f18k]; rfl) ?_
    refine z0a (z1t rfl ?_)
    cases h7
    simp [c17]
   ·rw [if_neg c17] at h6
    refine zr rfl rfl rfl (by simp [c15e, f16k, c17]; rfl) ?_
    refine z0a (z1t rfl ?_)
    cases h6
    simp [c17]
  ·rw [if_neg c15] at h5
   have c15e := eq_false c15
   refine zr rfl rfl rfl (by simp [c15e]; rfl) ?_
   refine z0a (z1t rfl ?_)
   cases h5
   simp
end
end Go.Proofs.Ytbnnipkanechoaa
end
section
namespace Go.Proofs.Ytbnnipkanechoaa
open Go
set_option maxRecDepth 100000
theorem zaL (a : List Int) (h : a.length < 4611686018427387904 ∧ a.length < LFm) : z3I a a = some true := by
  unfold z3I
  rw [if_pos rfl]
  refine z1C (s := (0 : Int)) a.length (fun k => (k : Int)) rfl h.2 (fun k hk => ?_) ?_
  · simp only [z6x]
    rw [if_pos (by omega), z2p hk, Option.bind_some, Option.bind_some, if_pos rfl, z1R (by omega)]
  · simp only [z6x]
    rw [if_neg (by omega)]
theorem znD (a : List (List Int)) (h : a.length < 4611686018427387904 ∧ a.length < LFm) (hr : ∀ x ∈ a, x.length < 4611686018427387904 ∧ x.length < LFm) : z3W a a = some true := by
  unfold z3W
  rw [if_pos rfl]
  refine z1C (s := (0 : Int)) a.length (fun k => (k : Int)) rfl h.2 (fun k hk => ?_) ?_
  · simp only [z4r]
    rw [if_pos (by omega), z2p hk, Option.bind_some, Option.bind_some, zaL _ (hr _ (List.getElem_mem hk)), Option.bind_some, if_pos rfl, z1R (by omega)]
  · simp only [z4r]
    rw [if_neg (by omega)]
theorem zhB (a : List ByteArray) (h : a.length < 4611686018427387904 ∧ a.length < LFm) : z4V a a = some true := by
  unfold z4V
  rw [if_pos rfl]
  refine z1C (s := (0 : Int)) a.length (fun k => (k : Int)) rfl h.2 (fun k hk => ?_) ?_
  · simp only [z6z]
    rw [if_pos (by omega), z2p hk, Option.bind_some, Option.bind_some, if_pos rfl, z1R (by omega)]
  · simp only [z6z]
    rw [if_neg (by omega)]
theorem zsX (l : List Int) (w0 : l.length ≤ maxLen) (z0 : ∀ x ∈ l, (Lit.int .i64 x).wf = true) : ∃ outs, L 3 [.sl l.length (l.map fun x => .sc (.int .i64 x))] = some (bT true, outs) := by
  obtain ⟨t0, e0, h0⟩ := zrT l
  obtain ⟨m, t1, e1, m1, m2, h1⟩ := zme h0
  obtain ⟨d, t2, n, e2, hd, hn, h2⟩ := zsl h1 m 5 ⟨m1, m2⟩ (by omega)
  have h128 : 2 ^ n ≤ 128 := Nat.pow_le_pow_right (n := 2) (by omega) hn
  have hS := zjc hd
  have hSl := z1m hS.nd hS.lt
  have key : z5G l = some true := by
    unfold z5G
    have e2' : z4v t1 (m : Int) 5 = some (d, t2) := e2
    rw [e0, Option.bind_some, e1, Option.bind_some]
    simp only
    rw [e2', Option.bind_some]
    simp only
    rw [zve hd hn, Option.bind_some, zpn hd hn, Option.bind_some, if_pos rfl]
    generalize zdR d m n = S at *
    have s1 : z3I (z6k d m n S).sets (z6k d m n S).sets = some true := zaL _ (by simp only [z6k, z0s, LFm]; omega)
    have s2 : z3I (z6k d m n S).class_ (z6k d m n S).class_ = some true := zaL _ (by simp only [z6k, zmI, List.length_map, List.length_range, LFm]; omega)
    have s3 : z3I (z6k d m n S).height (z6k d m n S).height = some true := zaL _ (by simp only [z6k, zqZ, List.length_map, List.length_range, LFm]; omega)
    have s4 : z3W (z6k d m n S).tiles (z6k d m n S).tiles = some true := znD _ (by simp only [z6k, List.length_map, List.length_range, LFm]; omega) (fun x hx => by
      simp only [z6k, List.mem_map] at hx
      obtain ⟨i, hi, rfl⟩ := hx
      have htl : (zcu S i).length ≤ S.length := z1m (zng S i) fun t ht => zoe (zqw ht).1
      simp only [z0s, LFm]; omega)
    have s5 : z4V (z6k d m n S).words (z6k d m n S).words = some true := zhB _ (by simp only [z6k, List.length_map, List.length_range, LFm]; omega)
    have s6 : z4V (z6k d m n S).back (z6k d m n S).back = some true := zhB _ (by simp only [z6k, List.length_map, List.length_range, LFm]; omega)
    have s7 : z7U (z6k d m n S) (z6k d m n S) = some true := by
      unfold z7U
      rw [s1, Option.bind_some, if_pos rfl, s2, Option.bind_some, if_pos rfl, s3, Option.bind_some, if_pos rfl, s4, Option.bind_some, if_pos rfl, s5, Option.bind_some, if_pos rfl, s6, Option.bind_some]
    simp only
    rw [s7, Option.bind_some, if_pos rfl]
    rfl
  exact ⟨_, zcg key⟩
end Go.Proofs.Ytbnnipkanechoaa
end
section
namespace Go.Proofs.Ytbnnipkanechoaa
open Go.RowKit
def Arr (w : World) (g n : Nat) (f : Nat → Value) : Prop :=
  ∀ i, i < n → w.cell? ⟨g, i, none⟩ = some (f i) ∧ w.frozen? ⟨g, i, none⟩ = false
theorem Arr.set {w : World} {g n : Nat} {f : Nat → Value} (h : Arr w g n f) (j : Nat) (hj : j < n) (c : Value) :
    Arr (w.setCell ⟨g, j, none⟩ c) g n (fun i => if i = j then c else f i) := by
  intro i hi
  refine ⟨?_, by rw [World.frozen?_setCell]; exact (h i hi).2⟩
  by_cases hij : i = j
  · subst hij
    rw [World.cell?_setCell_same _ _ _ (h i hi).1]; simp
  · rw [World.cell?_setCell_other _ _ _ _ (fun e => hij (by cases e; rfl)), (h i hi).1]; simp [hij]
theorem Arr.setOther {w : World} {g n : Nat} {f : Nat → Value} (h : Arr w g n f) {g' : Nat} (hg : g ≠ g') (j : Nat) (c : Value) : Arr (w.setCell ⟨g', j, none⟩ c) g n f := by
  intro i hi
  refine ⟨?_, by rw [World.frozen?_setCell]; exact (h i hi).2⟩
  rw [World.cell?_setCell_other _ _ _ _ (fun e => hg (by cases e; rfl))]; exact (h i hi).1
theorem Arr.drew {w : World} {g n : Nat} {f : Nat → Value} (h : Arr w g n f) : Arr w.drew g n f := h
theorem Arr.congr {w : World} {g n : Nat} {f f' : Nat → Value} (h : Arr w g n f) (e : ∀ i, i < n → f i = f' i) : Arr w g n f' :=
  fun i hi => by rw [← e i hi]; exact h i hi
theorem Arr.below {w w' : World} {g n B : Nat} {f : Nat → Value} (h : Arr w g n f) (hb : Below B w w') (hg : g < B) : Arr w' g n f :=
  fun i hi => ⟨(hb.cell (p := ⟨g, i, none⟩) hg).trans (h i hi).1, (hb.frozen (p := ⟨g, i, none⟩) hg).trans (h i hi).2⟩
theorem Arr.grown {w w' : World} {g n : Nat} {row : Option Nat} {f : Nat → Value} (h : Arr w g n f) (hb : w.grownBy w' row) (hg : some g ≠ row) : Arr w' g n f :=
  fun i hi => by
    have hlt := World.block_lt_of_cell? w _ (h i hi).1
    have e := hb.block g hlt hg
    exact ⟨(World.cell?_of_block (a := ⟨g, i, none⟩) e).trans (h i hi).1, (World.frozen?_of_block (a := ⟨g, i, none⟩) e).trans (h i hi).2⟩
theorem Arr.made (w : World) (z : Value) (n : Nat) (e : TypeId) : Arr (w.alloc (.cells (madeCells #[z] n) e)) w.heap.size n (fun _ => z) := by
  intro i hi
  refine ⟨?_, by rw [World.frozen?_alloc_new]⟩
  rw [World.cell?_alloc_new]
  simp [madeCells, hi, Nat.mod_one]
theorem Arr.lt {w : World} {g n : Nat} {f : Nat → Value} (h : Arr w g n f) (hn : 0 < n) : g < w.heap.size := World.block_lt_of_cell? w _ (h 0 hn).1
theorem Arr.get {w : World} {g n : Nat} {f : Nat → Value} (h : Arr w g n f) (i : Nat) (hi : i < n) {v : Value} (e : f i = v) : w.cell? ⟨g, i, none⟩ = some v := by rw [(h i hi).1, e]
theorem Arr.free {w : World} {g n : Nat} {f : Nat → Value} (h : Arr w g n f) (i : Nat) (hi : i < n) : w.frozen? ⟨g, i, none⟩ = false := (h i hi).2
end Go.Proofs.Ytbnnipkanechoaa
end
section
namespace Go.Proofs
open Go.Shelf
def Try.lays128_ren : Go.Shelf.Ren := ⟨fun | 128 => 88 | n => n, fun | 51 => 102 | 3 => 3 | 4 => 4 | 46 => 51 | 5 => 5 | 9 => 9 | n => n, fun | n => n⟩
theorem Try.lays128 : Go.Proofs.Lays.n128 Try.prog Try.lays128_ren := {
  mixed := by kernel_rfl
  f128 := Try.func88.trans (congrArg some (by kernel_rfl))
  t3 := Try.underlying3
  a3 := Try.isAgg3
  z3 := Try.sizeOf3
  v3 := Try.zeroValue3
  t4 := Try.underlying4
  a4 := Try.isAgg4
  z4 := Try.sizeOf4
  v4 := Try.zeroValue4
  t5 := Try.underlying5
  a5 := Try.isAgg5
  z5 := Try.sizeOf5
  v5 := Try.zeroValue5
  t9 := Try.underlying9
  a9 := Try.isAgg9
  z9 := Try.sizeOf9
  v9 := Try.zeroValue9
  t46 := Try.underlying51
  a46 := Try.isAgg51
  z46 := Try.sizeOf51
  v46 := Try.zeroValue51
  t51 := Try.underlying102
  a51 := Try.isAgg102
  z51 := Try.sizeOf102
  v51 := Try.zeroValue102 }
theorem Try.bits_Len32 (x : Int) (w : World) (h0 : 0 ≤ x) (h1 : x ≤ 4294967295) :
    Calls Try.prog 88 #[.int .u32 x] w fun e w' => e = .returned (.int .i64 (Lib.bitLen x.toNat)) ∧ w' = w := Any.bits_Len32 Try.lays128 x w h0 h1
def Try.lays125_ren : Go.Shelf.Ren := ⟨fun | 125 => 76 | 128 => 88 | 129 => 89 | n => n, fun | 46 => 51 | 3 => 3 | 51 => 102 | 53 => 104 | 4 => 4 | 5 => 5 | 9 => 9 | n => n, fun | n => n⟩
theorem Try.lays125 : Go.Proofs.Lays.n125 Try.prog Try.lays125_ren := {
  mixed := by kernel_rfl
  f125 := Try.func76.trans (congrArg some (by kernel_rfl))
  f128 := Try.func88.trans (congrArg some (by kernel_rfl))
  f129 := Try.func89.trans (congrArg some (by kernel_rfl))
  t3 := Try.underlying3
  a3 := Try.isAgg3
  z3 := Try.sizeOf3
  v3 := Try.zeroValue3
  t4 := Try.underlying4
  a4 := Try.isAgg4
  z4 := Try.sizeOf4
  v4 := Try.zeroValue4
  t5 := Try.underlying5
  a5 := Try.isAgg5
  z5 := Try.sizeOf5
  v5 := Try.zeroValue5
  t9 := Try.underlying9
  a9 := Try.isAgg9
  z9 := Try.sizeOf9
  v9 := Try.zeroValue9
  t46 := Try.underlying51
  a46 := Try.isAgg51
  z46 := Try.sizeOf51
  v46 := Try.zeroValue51
  t51 := Try.underlying102
  a51 := Try.isAgg102
  z51 := Try.sizeOf102
  v51 := Try.zeroValue102
  t53 := Try.underlying104
  a53 := Try.isAgg104
  z53 := Try.sizeOf104
  v53 := Try.zeroValue104 }
theorem Try.bits_Len (x : Int) (w : World) (h0 : 0 ≤ x) (h1 : x ≤ 18446744073709551615) :
    Calls Try.prog 76 #[.int .u64 x] w fun e w' => e = .returned (.int .i64 (Lib.bitLen x.toNat)) ∧ w' = w := Any.bits_Len Try.lays125 x w h0 h1
def Try.lays129_ren : Go.Shelf.Ren := ⟨fun | 129 => 89 | n => n, fun | 53 => 104 | 3 => 3 | 4 => 4 | 46 => 51 | 5 => 5 | 9 => 9 | n => n, fun | n => n⟩
theorem Try.lays129 : Go.Proofs.Lays.n129 Try.prog Try.lays129_ren := {
  mixed := by kernel_rfl
  f129 := Try.func89.trans (congrArg some (by kernel_rfl))
  t3 := Try.underlying3
  a3 := Try.isAgg3
  z3 := Try.sizeOf3
  v3 := Try.zeroValue3
  t4 := Try.underlying4
  a4 := Try.isAgg4
  z4 := Try.sizeOf4
  v4 := Try.zeroValue4
  t5 := Try.underlying5
  a5 := Try.isAgg5
  z5 := Try.sizeOf5
  v5 := Try.zeroValue5
  t9 := Try.underlying9
  a9 := Try.isAgg9
  z9 := Try.sizeOf9
  v9 := Try.zeroValue9
  t46 := Try.underlying51
  a46 := Try.isAgg51
  z46 := Try.sizeOf51
  v46 := Try.zeroValue51
  t53 := Try.underlying104
  a53 := Try.isAgg104
  z53 := Try.sizeOf104
  v53 := Try.zeroValue104 }
theorem Try.bits_Len64 (x : Int) (w : World) (h0 : 0 ≤ x) (h1 : x ≤ 18446744073709551615) :
    Calls Try.prog 89 #[.int .u64 x] w fun e w' => e = .returned (.int .i64 (Lib.bitLen x.toNat)) ∧ w' = w := Any.bits_Len64 Try.lays129 x w h0 h1
def Try.laysNm237_ren : Go.Shelf.Ren := ⟨fun | 37 => 77 | n => n, fun | 3 => 3 | 4 => 4 | n => n, fun | n => n⟩
theorem Try.laysNm237 : Go.Proofs.Lays2.n37 Try.prog Try.laysNm237_ren := {
  mixed := by kernel_rfl
  f37 := Try.func77.trans (congrArg some (by kernel_rfl))
  t3 := Try.underlying3
  a3 := Try.isAgg3
  z3 := Try.sizeOf3
  v3 := Try.zeroValue3
  t4 := Try.underlying4
  a4 := Try.isAgg4
  z4 := Try.sizeOf4
  v4 := Try.zeroValue4 }
open Go.RowKit Go.Lib in
theorem Try.cmp_isNaN_int2 (x : Int) (w : World) :
    Calls Try.prog 77 #[.int .i64 x] w fun e w' => e = .returned (.bool false) ∧ w' = w := Any.cmp_isNaN_int2 Try.laysNm237 x w
def Try.laysSlC27_f77_ren : Go.Shelf.Ren := ⟨fun | 7 => 77 | n => n, fun | 22 => 3 | 4 => 4 | n => n, fun | n => n⟩
theorem Try.laysSlC27_f77 : Go.Proofs.SlLaysC2.n7 Try.prog Try.laysSlC27_f77_ren := {
  mixed := by kernel_rfl
  f7 := ⟨Try.f77.name, by decide, Try.func77.trans (congrArg some (by kernel_rfl))⟩
  t4 := Try.underlying4
  a4 := Try.isAgg4
  z4 := Try.sizeOf4
  v4 := Try.zeroValue4
  t22 := Try.underlying3
  a22 := Try.isAgg3
  z22 := Try.sizeOf3
  v22 := Try.zeroValue3 }
open Go.Lib in
theorem Try.cmp_isNaN_int (x : Int) (w : World) :
    Calls Try.prog 77 #[.int .i64 x] w fun e w' => e = .returned (.bool false) ∧ w' = w := AnyG.cmp_isNaN_int Try.laysSlC27_f77 x w
def Try.laysSlC25_f67_ren : Go.Shelf.Ren := ⟨fun | 5 => 67 | 7 => 77 | n => n, fun | 22 => 3 | 3 => 3 | 4 => 4 | n => n, fun | n => n⟩
theorem Try.laysSlC25_f67 : Go.Proofs.SlLaysC2.n5 Try.prog Try.laysSlC25_f67_ren := {
  mixed := by kernel_rfl
  f5 := ⟨Try.f67.name, by decide, Try.func67.trans (congrArg some (by kernel_rfl))⟩
  f7 := ⟨Try.f77.name, by decide, Try.func77.trans (congrArg some (by kernel_rfl))⟩
  t3 := Try.underlying3
  a3 := Try.isAgg3
  z3 := Try.sizeOf3
  v3 := Try.zeroValue3
  t4 := Try.underlying4
  a4 := Try.isAgg4
  z4 := Try.sizeOf4
  v4 := Try.zeroValue4
  t22 := Try.underlying3
  a22 := Try.isAgg3
  z22 := Try.sizeOf3
  v22 := Try.zeroValue3 }
open Go.Lib in
theorem Try.cmp_Compare_int (x y : Int) (w : World) :
    Calls Try.prog 67 #[.int .i64 x, .int .i64 y] w fun e w' => e = .returned (.int .i64 (Lib.compareInt x y)) ∧ w' = w := AnyG.cmp_Compare_int Try.laysSlC25_f67 x y w
def Try.laysSlF20_f80_ren : Go.Shelf.Ren := ⟨fun | 20 => 80 | n => n, fun | 24 => 3 | 22 => 22 | 3 => 3 | 25 => 46 | 4 => 4 | 0 => 0 | n => n, fun | n => n⟩
theorem Try.laysSlF20_f80 : Go.Proofs.SlLaysF.n20 Try.prog Try.laysSlF20_f80_ren := {
  mixed := by kernel_rfl
  f20 := ⟨Try.f80.name, by decide, Try.func80.trans (congrArg some (by kernel_rfl))⟩
  t0 := Try.underlying0
  a0 := Try.isAgg0
  z0 := Try.sizeOf0
  v0 := Try.zeroValue0
  t3 := Try.underlying3
  a3 := Try.isAgg3
  z3 := Try.sizeOf3
  v3 := Try.zeroValue3
  t4 := Try.underlying4
  a4 := Try.isAgg4
  z4 := Try.sizeOf4
  v4 := Try.zeroValue4
  t22 := Try.underlying22
  a22 := Try.isAgg22
  z22 := Try.sizeOf22
  v22 := Try.zeroValue22
  a24 := Try.isAgg3
  z24 := Try.sizeOf3
  t25 := Try.underlying46
  a25 := Try.isAgg46
  z25 := Try.sizeOf46
  v25 := Try.zeroValue46 }
open Go.RowKit Go.Lib Go.Sort in
theorem Try.insertionSortCmpFunc_one {α : Type} [Inhabited α] (enc : α → Value) (hO : OneCell enc) (cf : α → α → Int) (g : Nat) (cb : Array Value) (blk off cap a b : Nat) (d : Array α) (w : World) (eg : ∀ args w, (callFunc g args).run Try.prog w = .ok (.enter g args) w) (hcmp : CmpReads Try.prog g cb enc cf blk off d.size w) (hH : Holds enc w blk off d) (hab : a ≤ b) (hb : b ≤ d.size) (hsz : d.size < 4611686018427387904) :
    Calls Try.prog 80 #[.slice (some ⟨blk, off, none⟩) d.size cap, .int .i64 a, .int .i64 b, .func (.func g) #[] cb] w fun e w' =>
      e = .returned (.tuple #[]) ∧ ∃ n, w' = (putRow enc w blk off (Sort.insertionSort (ltOf cf) d a b)).drewN n := Any.insertionSortCmpFunc_one Try.laysSlF20_f80 enc hO cf g cb blk off cap a b d w eg hcmp hH hab hb hsz
def Try.laysSlF46_f93_ren : Go.Shelf.Ren := ⟨fun | 46 => 93 | n => n, fun | 24 => 3 | 22 => 22 | 3 => 3 | 25 => 46 | 4 => 4 | 0 => 0 | n => n, fun | n => n⟩
theorem Try.laysSlF46_f93 : Go.Proofs.SlLaysF.n46 Try.prog Try.laysSlF46_f93_ren := {
  mixed := by kernel_rfl
  f46 := ⟨Try.f93.name, by decide, Try.func93.trans (congrArg some (by kernel_rfl))⟩
  t0 := Try.underlying0
  a0 := Try.isAgg0
  z0 := Try.sizeOf0
  v0 := Try.zeroValue0
  t3 := Try.underlying3
  a3 := Try.isAgg3
  z3 := Try.sizeOf3
  v3 := Try.zeroValue3
  t4 := Try.underlying4
  a4 := Try.isAgg4
  z4 := Try.sizeOf4
  v4 := Try.zeroValue4
  t22 := Try.underlying22
  a22 := Try.isAgg22
  z22 := Try.sizeOf22
  v22 := Try.zeroValue22
  a24 := Try.isAgg3
  z24 := Try.sizeOf3
  t25 := Try.underlying46
  a25 := Try.isAgg46
  z25 := Try.sizeOf46
  v25 := Try.zeroValue46 }
open Go.RowKit Go.Lib Go.Sort in
theorem Try.siftDownCmpFunc {α : Type} [Inhabited α] (enc : α → Value) (cf : α → α → Int) (g : Nat) (cb : Array Value) (blk off cap lo hi first : Nat) (d0 d : Array α) (w0 w : World) (eg : ∀ args w, (callFunc g args).run Try.prog w = .ok (.enter g args) w) (hcmp : CmpLays1 Try.prog g cb enc cf blk off d0.size w0) (R : Row1 enc w0 blk off d0) (hs : d0.size = d.size) (S : SW enc w0 blk off d w) (hlo : lo ≤ hi) (hb : first + hi ≤ d.size) (hsz : d.size < 4611686018427387904) :
    Calls Try.prog 93 #[.slice (some ⟨blk, off, none⟩) d.size cap, .int .i64 lo, .int .i64 hi, .int .i64 first, .func (.func g) #[] cb] w fun e w' =>
      e = .returned (.tuple #[]) ∧ SW enc w0 blk off (siftDown (ltOf cf) hi first lo d) w' := Any.siftDownCmpFunc Try.laysSlF46_f93 enc cf g cb blk off cap lo hi first d0 d w0 w eg hcmp R hs S hlo hb hsz
def Try.laysSlF21_f81_ren : Go.Shelf.Ren := ⟨fun | 21 => 81 | 46 => 93 | n => n, fun | 24 => 3 | 22 => 22 | 3 => 3 | 25 => 46 | 4 => 4 | 0 => 0 | n => n, fun | n => n⟩
theorem Try.laysSlF21_f81 : Go.Proofs.SlLaysF.n21 Try.prog Try.laysSlF21_f81_ren := {
  mixed := by kernel_rfl
  f21 := ⟨Try.f81.name, by decide, Try.func81.trans (congrArg some (by kernel_rfl))⟩
  f46 := ⟨Try.f93.name, by decide, Try.func93.trans (congrArg some (by kernel_rfl))⟩
  t0 := Try.underlying0
  a0 := Try.isAgg0
  z0 := Try.sizeOf0
  v0 := Try.zeroValue0
  t3 := Try.underlying3
  a3 := Try.isAgg3
  z3 := Try.sizeOf3
  v3 := Try.zeroValue3
  t4 := Try.underlying4
  a4 := Try.isAgg4
  z4 := Try.sizeOf4
  v4 := Try.zeroValue4
  t22 := Try.underlying22
  a22 := Try.isAgg22
  z22 := Try.sizeOf22
  v22 := Try.zeroValue22
  a24 := Try.isAgg3
  z24 := Try.sizeOf3
  t25 := Try.underlying46
  a25 := Try.isAgg46
  z25 := Try.sizeOf46
  v25 := Try.zeroValue46 }
open Go.RowKit Go.Lib Go.Sort in
theorem Try.heapSortCmpFunc {α : Type} [Inhabited α] (enc : α → Value) (cf : α → α → Int) (g : Nat) (cb : Array Value) (blk off cap a b : Nat) (d0 d : Array α) (w0 w : World) (eg : ∀ args w, (callFunc g args).run Try.prog w = .ok (.enter g args) w) (hcmp : CmpLays1 Try.prog g cb enc cf blk off d0.size w0) (R : Row1 enc w0 blk off d0) (hs : d0.size = d.size) (S : SW enc w0 blk off d w) (hab : a ≤ b) (hb : b ≤ d.size) (hsz : d.size < 4611686018427387904) :
    Calls Try.prog 81 #[.slice (some ⟨blk, off, none⟩) d.size cap, .int .i64 a, .int .i64 b, .func (.func g) #[] cb] w fun e w' =>
      e = .returned (.tuple #[]) ∧ SW enc w0 blk off (heapSort (ltOf cf) d a b) w' := Any.heapSortCmpFunc Try.laysSlF21_f81 enc cf g cb blk off cap a b d0 d w0 w eg hcmp R hs S hab hb hsz
open Go.RowKit Go.Lib Go.Sort in
theorem Try.insertionSortCmpFunc_s {α : Type} [Inhabited α] (enc : α → Value) (cf : α → α → Int) (g : Nat) (cb : Array Value) (blk off cap a b : Nat) (d0 d : Array α) (w0 w : World) (eg : ∀ args w, (callFunc g args).run Try.prog w = .ok (.enter g args) w) (hcmp : CmpLays1 Try.prog g cb enc cf blk off d0.size w0) (R : Row1 enc w0 blk off d0) (hs : d0.size = d.size) (S : SW enc w0 blk off d w) (hab : a ≤ b) (hb : b ≤ d.size) (hsz : d.size < 4611686018427387904) :
    Calls Try.prog 80 #[.slice (some ⟨blk, off, none⟩) d.size cap, .int .i64 a, .int .i64 b, .func (.func g) #[] cb] w fun e w' => e = .returned (.tuple #[]) ∧ SW enc w0 blk off (Sort.insertionSort (ltOf cf) d a b) w' := Any.insertionSortCmpFunc_s Try.laysSlF20_f80 enc cf g cb blk off cap a b d0 d w0 w eg hcmp R hs S hab hb hsz
def Try.laysSlF57_f99_ren : Go.Shelf.Ren := ⟨fun | 57 => 99 | n => n, fun | 24 => 3 | 22 => 22 | 3 => 3 | 70 => 109 | 25 => 46 | 0 => 0 | 4 => 4 | n => n, fun | n => n⟩
theorem Try.laysSlF57_f99 : Go.Proofs.SlLaysF.n57 Try.prog Try.laysSlF57_f99_ren := {
  mixed := by kernel_rfl
  f57 := ⟨Try.f99.name, by decide, Try.func99.trans (congrArg some (by kernel_rfl))⟩
  t0 := Try.underlying0
  a0 := Try.isAgg0
  z0 := Try.sizeOf0
  v0 := Try.zeroValue0
  t3 := Try.underlying3
  a3 := Try.isAgg3
  z3 := Try.sizeOf3
  v3 := Try.zeroValue3
  t4 := Try.underlying4
  a4 := Try.isAgg4
  z4 := Try.sizeOf4
  v4 := Try.zeroValue4
  t22 := Try.underlying22
  a22 := Try.isAgg22
  z22 := Try.sizeOf22
  v22 := Try.zeroValue22
  a24 := Try.isAgg3
  z24 := Try.sizeOf3
  t25 := Try.underlying46
  a25 := Try.isAgg46
  z25 := Try.sizeOf46
  v25 := Try.zeroValue46
  t70 := Try.underlying109
  a70 := Try.isAgg109
  z70 := Try.sizeOf109
  v70 := Try.zeroValue109 }
open Go.RowKit Go.Lib Go.Sort in
theorem Try.order2CmpFunc {α : Type} [Inhabited α] (enc : α → Value) (cf : α → α → Int) (g : Nat) (cb : Array Value) (blk off cap a b c s : Nat) (d0 d : Array α) (w0 W : World) (eg : ∀ args w, (callFunc g args).run Try.prog w = .ok (.enter g args) w) (hcmp : CmpLays1 Try.prog g cb enc cf blk off d0.size w0) (R : Row1 enc w0 blk off d0) (hs : d0.size = d.size) (C : Cnt1 enc w0 blk off d c s W) (ha : a < d.size) (hb : b < d.size) (hsz : d.size < 4611686018427387904) (hss : s < 4611686018427387904) :
    Calls Try.prog 99 #[.slice (some ⟨blk, off, none⟩) d.size cap, .int .i64 a, .int .i64 b, .pointer (some ⟨c, 0, none⟩), .func (.func g) #[] cb] W fun e w' =>
      e = .returned (.tuple #[.int .i64 (order2 (ltOf cf) d a b s).1, .int .i64 (order2 (ltOf cf) d a b s).2.1]) ∧ Cnt1 enc w0 blk off d c (order2 (ltOf cf) d a b s).2.2 w' := Any.order2CmpFunc Try.laysSlF57_f99 enc cf g cb blk off cap a b c s d0 d w0 W eg hcmp R hs C ha hb hsz hss
def Try.laysSlF50_f97_ren : Go.Shelf.Ren := ⟨fun | 50 => 97 | 57 => 99 | n => n, fun | 24 => 3 | 22 => 22 | 3 => 3 | 70 => 109 | 25 => 46 | 77 => 112 | 0 => 0 | 4 => 4 | n => n, fun | n => n⟩
theorem Try.laysSlF50_f97 : Go.Proofs.SlLaysF.n50 Try.prog Try.laysSlF50_f97_ren := {
  mixed := by kernel_rfl
  f50 := ⟨Try.f97.name, by decide, Try.func97.trans (congrArg some (by kernel_rfl))⟩
  f57 := ⟨Try.f99.name, by decide, Try.func99.trans (congrArg some (by kernel_rfl))⟩
  t0 := Try.underlying0
  a0 := Try.isAgg0
  z0 := Try.sizeOf0
  v0 := Try.zeroValue0
  t3 := Try.underlying3
  a3 := Try.isAgg3
  z3 := Try.sizeOf3
  v3 := Try.zeroValue3
  t4 := Try.underlying4
  a4 := Try.isAgg4
  z4 := Try.sizeOf4
  v4 := Try.zeroValue4
  t22 := Try.underlying22
  a22 := Try.isAgg22
  z22 := Try.sizeOf22
  v22 := Try.zeroValue22
  a24 := Try.isAgg3
  z24 := Try.sizeOf3
  t25 := Try.underlying46
  a25 := Try.isAgg46
  z25 := Try.sizeOf46
  v25 := Try.zeroValue46
  t70 := Try.underlying109
  a70 := Try.isAgg109
  z70 := Try.sizeOf109
  v70 := Try.zeroValue109
  t77 := Try.underlying112
  a77 := Try.isAgg112
  z77 := Try.sizeOf112
  v77 := Try.zeroValue112 }
open Go.RowKit Go.Lib Go.Sort in
theorem Try.medianCmpFunc {α : Type} [Inhabited α] (enc : α → Value) (cf : α → α → Int) (g : Nat) (cb : Array Value) (blk off cap a b c' c s : Nat) (d0 d : Array α) (w0 W : World) (eg : ∀ args w, (callFunc g args).run Try.prog w = .ok (.enter g args) w) (hcmp : CmpLays1 Try.prog g cb enc cf blk off d0.size w0) (R : Row1 enc w0 blk off d0) (hs : d0.size = d.size) (C : Cnt1 enc w0 blk off d c s W) (ha : a < d.size) (hb : b < d.size) (hc : c' < d.size) (hsz : d.size < 4611686018427387904) (hss : s + 3 < 4611686018427387904) :
    Calls Try.prog 97 #[.slice (some ⟨blk, off, none⟩) d.size cap, .int .i64 a, .int .i64 b, .int .i64 c', .pointer (some ⟨c, 0, none⟩), .func (.func g) #[] cb] W fun e w' =>
      e = .returned (.int .i64 (median (ltOf cf) d a b c' s).1) ∧ Cnt1 enc w0 blk off d c (median (ltOf cf) d a b c' s).2 w' := Any.medianCmpFunc Try.laysSlF50_f97 enc cf g cb blk off cap a b c' c s d0 d w0 W eg hcmp R hs C ha hb hc hsz hss
def Try.laysSlF49_f96_ren : Go.Shelf.Ren := ⟨fun | 49 => 96 | 50 => 97 | 57 => 99 | n => n, fun | 24 => 3 | 22 => 22 | 3 => 3 | 70 => 109 | 25 => 46 | 77 => 112 | 0 => 0 | 4 => 4 | n => n, fun | n => n⟩
theorem Try.laysSlF49_f96 : Go.Proofs.SlLaysF.n49 Try.prog Try.laysSlF49_f96_ren := {
  mixed := by kernel_rfl
  f49 := ⟨Try.f96.name, by decide, Try.func96.trans (congrArg some (by kernel_rfl))⟩
  f50 := ⟨Try.f97.name, by decide, Try.func97.trans (congrArg some (by kernel_rfl))⟩
  f57 := ⟨Try.f99.name, by decide, Try.func99.trans (congrArg some (by kernel_rfl))⟩
  t0 := Try.underlying0
  a0 := Try.isAgg0
  z0 := Try.sizeOf0
  v0 := Try.zeroValue0
  t3 := Try.underlying3
  a3 := Try.isAgg3
  z3 := Try.sizeOf3
  v3 := Try.zeroValue3
  t4 := Try.underlying4
  a4 := Try.isAgg4
  z4 := Try.sizeOf4
  v4 := Try.zeroValue4
  t22 := Try.underlying22
  a22 := Try.isAgg22
  z22 := Try.sizeOf22
  v22 := Try.zeroValue22
  a24 := Try.isAgg3
  z24 := Try.sizeOf3
  t25 := Try.underlying46
  a25 := Try.isAgg46
  z25 := Try.sizeOf46
  v25 := Try.zeroValue46
  t70 := Try.underlying109
  a70 := Try.isAgg109
  z70 := Try.sizeOf109
  v70 := Try.zeroValue109
  t77 := Try.underlying112
  a77 := Try.isAgg112
  z77 := Try.sizeOf112
  v77 := Try.zeroValue112 }
open Go.RowKit Go.Lib Go.Sort in
theorem Try.medianAdjacentCmpFunc {α : Type} [Inhabited α] (enc : α → Value) (cf : α → α → Int) (g : Nat) (cb : Array Value) (blk off cap a c s : Nat) (d0 d : Array α) (w0 W : World) (eg : ∀ args w, (callFunc g args).run Try.prog w = .ok (.enter g args) w) (hcmp : CmpLays1 Try.prog g cb enc cf blk off d0.size w0) (R : Row1 enc w0 blk off d0) (hs : d0.size = d.size) (C : Cnt1 enc w0 blk off d c s W) (ha1 : 1 ≤ a) (ha2 : a + 1 < d.size) (hsz : d.size < 4611686018427387904) (hss : s + 3 < 4611686018427387904) :
    Calls Try.prog 96 #[.slice (some ⟨blk, off, none⟩) d.size cap, .int .i64 a, .pointer (some ⟨c, 0, none⟩), .func (.func g) #[] cb] W fun e w' =>
      e = .returned (.int .i64 (medianAdjacent (ltOf cf) d a s).1) ∧ Cnt1 enc w0 blk off d c (medianAdjacent (ltOf cf) d a s).2 w' := Any.medianAdjacentCmpFunc Try.laysSlF49_f96 enc cf g cb blk off cap a c s d0 d w0 W eg hcmp R hs C ha1 ha2 hsz hss
def Try.laysSlF23_f83_ren : Go.Shelf.Ren := ⟨fun | 23 => 83 | 49 => 96 | 50 => 97 | 57 => 99 | n => n, fun | 24 => 3 | 22 => 22 | 3 => 3 | 25 => 46 | 45 => 95 | 0 => 0 | 4 => 4 | 70 => 109 | 77 => 112 | n => n, fun | n => n⟩
theorem Try.laysSlF23_f83 : Go.Proofs.SlLaysF.n23 Try.prog Try.laysSlF23_f83_ren := {
  mixed := by kernel_rfl
  f23 := ⟨Try.f83.name, by decide, Try.func83.trans (congrArg some (by kernel_rfl))⟩
  f49 := ⟨Try.f96.name, by decide, Try.func96.trans (congrArg some (by kernel_rfl))⟩
  f50 := ⟨Try.f97.name, by decide, Try.func97.trans (congrArg some (by kernel_rfl))⟩
  f57 := ⟨Try.f99.name, by decide, Try.func99.trans (congrArg some (by kernel_rfl))⟩
  t0 := Try.underlying0
  a0 := Try.isAgg0
  z0 := Try.sizeOf0
  v0 := Try.zeroValue0
  t3 := Try.underlying3
  a3 := Try.isAgg3
  z3 := Try.sizeOf3
  v3 := Try.zeroValue3
  t4 := Try.underlying4
  a4 := Try.isAgg4
  z4 := Try.sizeOf4
  v4 := Try.zeroValue4
  t22 := Try.underlying22
  a22 := Try.isAgg22
  z22 := Try.sizeOf22
  v22 := Try.zeroValue22
  a24 := Try.isAgg3
  z24 := Try.sizeOf3
  t25 := Try.underlying46
  a25 := Try.isAgg46
  z25 := Try.sizeOf46
  v25 := Try.zeroValue46
  t45 := Try.underlying95
  a45 := Try.isAgg95
  z45 := Try.sizeOf95
  v45 := Try.zeroValue95
  t70 := Try.underlying109
  a70 := Try.isAgg109
  z70 := Try.sizeOf109
  v70 := Try.zeroValue109
  t77 := Try.underlying112
  a77 := Try.isAgg112
  z77 := Try.sizeOf112
  v77 := Try.zeroValue112 }
open Go.RowKit Go.Lib Go.Sort in
theorem Try.choosePivotCmpFunc {α : Type} [Inhabited α] (enc : α → Value) (cf : α → α → Int) (g : Nat) (cb : Array Value) (blk off cap a b : Nat) (d0 d : Array α) (w0 W : World) (eg : ∀ args w, (callFunc g args).run Try.prog w = .ok (.enter g args) w) (hcmp : CmpLays1 Try.prog g cb enc cf blk off d0.size w0) (R : Row1 enc w0 blk off d0) (hs : d0.size = d.size) (S : SW enc w0 blk off d W) (hab : a < b) (hb : b ≤ d.size) (hsz : d.size < 4611686018427387904) :
    Calls Try.prog 83 #[.slice (some ⟨blk, off, none⟩) d.size cap, .int .i64 a, .int .i64 b, .func (.func g) #[] cb] W fun e w' =>
      e = .returned (.tuple #[.int .i64 (choosePivot (ltOf cf) d a b).1, .int .i64 (hintCode (choosePivot (ltOf cf) d a b).2)]) ∧ SW enc w0 blk off d w' := Any.choosePivotCmpFunc Try.laysSlF23_f83 enc cf g cb blk off cap a b d0 d w0 W eg hcmp R hs S hab hb hsz
def Try.laysSlF24_f84_ren : Go.Shelf.Ren := ⟨fun | 24 => 84 | n => n, fun | 24 => 3 | 22 => 22 | 3 => 3 | 25 => 46 | 4 => 4 | 0 => 0 | n => n, fun | n => n⟩
theorem Try.laysSlF24_f84 : Go.Proofs.SlLaysF.n24 Try.prog Try.laysSlF24_f84_ren := {
  mixed := by kernel_rfl
  f24 := ⟨Try.f84.name, by decide, Try.func84.trans (congrArg some (by kernel_rfl))⟩
  t0 := Try.underlying0
  a0 := Try.isAgg0
  z0 := Try.sizeOf0
  v0 := Try.zeroValue0
  t3 := Try.underlying3
  a3 := Try.isAgg3
  z3 := Try.sizeOf3
  v3 := Try.zeroValue3
  t4 := Try.underlying4
  a4 := Try.isAgg4
  z4 := Try.sizeOf4
  v4 := Try.zeroValue4
  t22 := Try.underlying22
  a22 := Try.isAgg22
  z22 := Try.sizeOf22
  v22 := Try.zeroValue22
  a24 := Try.isAgg3
  z24 := Try.sizeOf3
  t25 := Try.underlying46
  a25 := Try.isAgg46
  z25 := Try.sizeOf46
  v25 := Try.zeroValue46 }
open Go.RowKit Go.Lib Go.Sort in
theorem Try.reverseRangeCmpFunc {α : Type} [Inhabited α] (enc : α → Value) (g : Nat) (cb : Array Value) (blk off cap a b : Nat) (d0 d : Array α) (w0 w : World) (R : Row1 enc w0 blk off d0) (hs : d0.size = d.size) (S : SW enc w0 blk off d w) (hab : a ≤ b) (hb : b ≤ d.size) (hsz : d.size < 4611686018427387904) :
    Calls Try.prog 84 #[.slice (some ⟨blk, off, none⟩) d.size cap, .int .i64 a, .int .i64 b, .func (.func g) #[] cb] w fun e w' => e = .returned (.tuple #[]) ∧ SW enc w0 blk off (reverseRange d a b) w' := Any.reverseRangeCmpFunc Try.laysSlF24_f84 enc g cb blk off cap a b d0 d w0 w R hs S hab hb hsz
def Try.laysSlF25_f85_ren : Go.Shelf.Ren := ⟨fun | 25 => 85 | n => n, fun | 24 => 3 | 22 => 22 | 3 => 3 | 25 => 46 | 4 => 4 | 0 => 0 | n => n, fun | n => n⟩
theorem Try.laysSlF25_f85 : Go.Proofs.SlLaysF.n25 Try.prog Try.laysSlF25_f85_ren := {
  mixed := by kernel_rfl
  f25 := ⟨Try.f85.name, by decide, Try.func85.trans (congrArg some (by kernel_rfl))⟩
  t0 := Try.underlying0
  a0 := Try.isAgg0
  z0 := Try.sizeOf0
  v0 := Try.zeroValue0
  t3 := Try.underlying3
  a3 := Try.isAgg3
  z3 := Try.sizeOf3
  v3 := Try.zeroValue3
  t4 := Try.underlying4
  a4 := Try.isAgg4
  z4 := Try.sizeOf4
  v4 := Try.zeroValue4
  t22 := Try.underlying22
  a22 := Try.isAgg22
  z22 := Try.sizeOf22
  v22 := Try.zeroValue22
  a24 := Try.isAgg3
  z24 := Try.sizeOf3
  t25 := Try.underlying46
  a25 := Try.isAgg46
  z25 := Try.sizeOf46
  v25 := Try.zeroValue46 }
open Go.RowKit Go.Lib Go.Sort in
theorem Try.partialInsertionSortCmpFunc {α : Type} [Inhabited α] (enc : α → Value) (cf : α → α → Int) (g : Nat) (cb : Array Value) (blk off cap a b : Nat) (d0 d : Array α) (w0 w : World) (eg : ∀ args w, (callFunc g args).run Try.prog w = .ok (.enter g args) w) (hcmp : CmpLays1 Try.prog g cb enc cf blk off d0.size w0) (R : Row1 enc w0 blk off d0) (hs : d0.size = d.size) (S : SW enc w0 blk off d w) (hab : a < b) (hb : b ≤ d.size) (hsz : d.size < 4611686018427387904) :
    Calls Try.prog 85 #[.slice (some ⟨blk, off, none⟩) d.size cap, .int .i64 a, .int .i64 b, .func (.func g) #[] cb] w fun e w' =>
      e = .returned (.bool (Sort.partialInsertionSort (ltOf cf) d a b).2) ∧ SW enc w0 blk off (Sort.partialInsertionSort (ltOf cf) d a b).1 w' := Any.partialInsertionSortCmpFunc Try.laysSlF25_f85 enc cf g cb blk off cap a b d0 d w0 w eg hcmp R hs S hab hb hsz
def Try.laysSlF26_f86_ren : Go.Shelf.Ren := ⟨fun | 26 => 86 | n => n, fun | 24 => 3 | 22 => 22 | 3 => 3 | 25 => 46 | 0 => 0 | 4 => 4 | n => n, fun | n => n⟩
theorem Try.laysSlF26_f86 : Go.Proofs.SlLaysF.n26 Try.prog Try.laysSlF26_f86_ren := {
  mixed := by kernel_rfl
  f26 := ⟨Try.f86.name, by decide, Try.func86.trans (congrArg some (by kernel_rfl))⟩
  t0 := Try.underlying0
  a0 := Try.isAgg0
  z0 := Try.sizeOf0
  v0 := Try.zeroValue0
  t3 := Try.underlying3
  a3 := Try.isAgg3
  z3 := Try.sizeOf3
  v3 := Try.zeroValue3
  t4 := Try.underlying4
  a4 := Try.isAgg4
  z4 := Try.sizeOf4
  v4 := Try.zeroValue4
  t22 := Try.underlying22
  a22 := Try.isAgg22
  z22 := Try.sizeOf22
  v22 := Try.zeroValue22
  a24 := Try.isAgg3
  z24 := Try.sizeOf3
  t25 := Try.underlying46
  a25 := Try.isAgg46
  z25 := Try.sizeOf46
  v25 := Try.zeroValue46 }
open Go.RowKit Go.Lib Go.Sort in
theorem Try.partitionEqualCmpFunc {α : Type} [Inhabited α] (enc : α → Value) (cf : α → α → Int) (g : Nat) (cb : Array Value) (blk off cap a b pivot : Nat) (d0 d : Array α) (w0 w : World) (eg : ∀ args w, (callFunc g args).run Try.prog w = .ok (.enter g args) w) (hcmp : CmpLays1 Try.prog g cb enc cf blk off d0.size w0) (R : Row1 enc w0 blk off d0) (hs : d0.size = d.size) (S : SW enc w0 blk off d w) (hap : a ≤ pivot) (hpb : pivot < b) (hb : b ≤ d.size) (hsz : d.size < 4611686018427387904) :
    Calls Try.prog 86 #[.slice (some ⟨blk, off, none⟩) d.size cap, .int .i64 a, .int .i64 b, .int .i64 pivot, .func (.func g) #[] cb] w fun e w' =>
      e = .returned (.int .i64 (Sort.partitionEqual (ltOf cf) d a b pivot).1) ∧ SW enc w0 blk off (Sort.partitionEqual (ltOf cf) d a b pivot).2 w' := Any.partitionEqualCmpFunc Try.laysSlF26_f86 enc cf g cb blk off cap a b pivot d0 d w0 w eg hcmp R hs S hap hpb hb hsz
def Try.laysSlF27_f87_ren : Go.Shelf.Ren := ⟨fun | 27 => 87 | n => n, fun | 24 => 3 | 22 => 22 | 3 => 3 | 25 => 46 | 4 => 4 | 0 => 0 | n => n, fun | n => n⟩
theorem Try.laysSlF27_f87 : Go.Proofs.SlLaysF.n27 Try.prog Try.laysSlF27_f87_ren := {
  mixed := by kernel_rfl
  f27 := ⟨Try.f87.name, by decide, Try.func87.trans (congrArg some (by kernel_rfl))⟩
  t0 := Try.underlying0
  a0 := Try.isAgg0
  z0 := Try.sizeOf0
  v0 := Try.zeroValue0
  t3 := Try.underlying3
  a3 := Try.isAgg3
  z3 := Try.sizeOf3
  v3 := Try.zeroValue3
  t4 := Try.underlying4
  a4 := Try.isAgg4
  z4 := Try.sizeOf4
  v4 := Try.zeroValue4
  t22 := Try.underlying22
  a22 := Try.isAgg22
  z22 := Try.sizeOf22
  v22 := Try.zeroValue22
  a24 := Try.isAgg3
  z24 := Try.sizeOf3
  t25 := Try.underlying46
  a25 := Try.isAgg46
  z25 := Try.sizeOf46
  v25 := Try.zeroValue46 }
open Go.RowKit Go.Lib Go.Sort in
theorem Try.partitionCmpFunc {α : Type} [Inhabited α] (enc : α → Value) (cf : α → α → Int) (g : Nat) (cb : Array Value) (blk off cap a b pivot : Nat) (d0 d : Array α) (w0 w : World) (eg : ∀ args w, (callFunc g args).run Try.prog w = .ok (.enter g args) w) (hcmp : CmpLays1 Try.prog g cb enc cf blk off d0.size w0) (R : Row1 enc w0 blk off d0) (hs : d0.size = d.size) (S : SW enc w0 blk off d w) (hap : a ≤ pivot) (hpb : pivot < b) (hb : b ≤ d.size) (hsz : d.size < 4611686018427387904) :
    Calls Try.prog 87 #[.slice (some ⟨blk, off, none⟩) d.size cap, .int .i64 a, .int .i64 b, .int .i64 pivot, .func (.func g) #[] cb] w fun e w' =>
      e = .returned (.tuple #[.int .i64 (Sort.partition (ltOf cf) d a b pivot).1, .bool (Sort.partition (ltOf cf) d a b pivot).2.1]) ∧ SW enc w0 blk off (Sort.partition (ltOf cf) d a b pivot).2.2 w' := Any.partitionCmpFunc Try.laysSlF27_f87 enc cf g cb blk off cap a b pivot d0 d w0 w eg hcmp R hs S hap hpb hb hsz
def Try.laysSlF14_f75_ren : Go.Shelf.Ren := ⟨fun | 14 => 75 | 20 => 80 | 21 => 81 | 22 => 82 | 23 => 83 | 24 => 84 | 25 => 85 | 26 => 86 | 27 => 87 | 46 => 93 | 47 => 94 | 48 => 95 | 49 => 96 | 50 => 97 | 15 => 76 | 57 => 99 | 28 => 88 | 29 => 89 | n => n, fun | 24 => 3 | 22 => 22 | 3 => 3 | 25 => 46 | 4 => 4 | 0 => 0 | 46 => 96 | 45 => 95 | 50 => 42 | 66 => 105 | 39 => 51 | 55 => 104 | 70 => 109 | 76 => 111 | 77 => 112 | 53 => 102 | 5 => 5 | 9 => 9 | n => n, fun | n => n⟩
theorem Try.laysSlF14_f75 : Go.Proofs.SlLaysF.n14 Try.prog Try.laysSlF14_f75_ren := {
  mixed := by kernel_rfl
  f14 := ⟨Try.f75.name, by decide, Try.func75.trans (congrArg some (by kernel_rfl))⟩
  f15 := Try.func76.trans (congrArg some (by kernel_rfl))
  f20 := ⟨Try.f80.name, by decide, Try.func80.trans (congrArg some (by kernel_rfl))⟩
  f21 := ⟨Try.f81.name, by decide, Try.func81.trans (congrArg some (by kernel_rfl))⟩
  f22 := ⟨Try.f82.name, by decide, Try.func82.trans (congrArg some (by kernel_rfl))⟩
  f23 := ⟨Try.f83.name, by decide, Try.func83.trans (congrArg some (by kernel_rfl))⟩
  f24 := ⟨Try.f84.name, by decide, Try.func84.trans (congrArg some (by kernel_rfl))⟩
  f25 := ⟨Try.f85.name, by decide, Try.func85.trans (congrArg some (by kernel_rfl))⟩
  f26 := ⟨Try.f86.name, by decide, Try.func86.trans (congrArg some (by kernel_rfl))⟩
  f27 := ⟨Try.f87.name, by decide, Try.func87.trans (congrArg some (by kernel_rfl))⟩
  f28 := Try.func88.trans (congrArg some (by kernel_rfl))
  f29 := Try.func89.trans (congrArg some (by kernel_rfl))
  f46 := ⟨Try.f93.name, by decide, Try.func93.trans (congrArg some (by kernel_rfl))⟩
  f47 := Try.func94.trans (congrArg some (by kernel_rfl))
  f48 := Try.func95.trans (congrArg some (by kernel_rfl))
  f49 := ⟨Try.f96.name, by decide, Try.func96.trans (congrArg some (by kernel_rfl))⟩
  f50 := ⟨Try.f97.name, by decide, Try.func97.trans (congrArg some (by kernel_rfl))⟩
  f57 := ⟨Try.f99.name, by decide, Try.func99.trans (congrArg some (by kernel_rfl))⟩
  t0 := Try.underlying0
  a0 := Try.isAgg0
  z0 := Try.sizeOf0
  v0 := Try.zeroValue0
  t3 := Try.underlying3
  a3 := Try.isAgg3
  z3 := Try.sizeOf3
  v3 := Try.zeroValue3
  t4 := Try.underlying4
  a4 := Try.isAgg4
  z4 := Try.sizeOf4
  v4 := Try.zeroValue4
  t5 := Try.underlying5
  a5 := Try.isAgg5
  z5 := Try.sizeOf5
  v5 := Try.zeroValue5
  t9 := Try.underlying9
  a9 := Try.isAgg9
  z9 := Try.sizeOf9
  v9 := Try.zeroValue9
  t22 := Try.underlying22
  a22 := Try.isAgg22
  z22 := Try.sizeOf22
  v22 := Try.zeroValue22
  a24 := Try.isAgg3
  z24 := Try.sizeOf3
  t25 := Try.underlying46
  a25 := Try.isAgg46
  z25 := Try.sizeOf46
  v25 := Try.zeroValue46
  t39 := Try.underlying51
  a39 := Try.isAgg51
  z39 := Try.sizeOf51
  v39 := Try.zeroValue51
  t45 := Try.underlying95
  a45 := Try.isAgg95
  z45 := Try.sizeOf95
  v45 := Try.zeroValue95
  t46 := Try.underlying96
  a46 := Try.isAgg96
  z46 := Try.sizeOf96
  v46 := Try.zeroValue96
  t50 := Try.underlying42
  a50 := Try.isAgg42
  z50 := Try.sizeOf42
  v50 := Try.zeroValue42
  t53 := Try.underlying102
  a53 := Try.isAgg102
  z53 := Try.sizeOf102
  v53 := Try.zeroValue102
  t55 := Try.underlying104
  a55 := Try.isAgg104
  z55 := Try.sizeOf104
  v55 := Try.zeroValue104
  t66 := Try.underlying105
  a66 := Try.isAgg105
  z66 := Try.sizeOf105
  v66 := Try.zeroValue105
  t70 := Try.underlying109
  a70 := Try.isAgg109
  z70 := Try.sizeOf109
  v70 := Try.zeroValue109
  t76 := Try.underlying111
  a76 := Try.isAgg111
  z76 := Try.sizeOf111
  v76 := Try.zeroValue111
  t77 := Try.underlying112
  a77 := Try.isAgg112
  z77 := Try.sizeOf112
  v77 := Try.zeroValue112 }
open Go.RowKit Go.Lib Go.Sort in
theorem Try.pdqsortCmpFunc_all {α : Type} [Inhabited α] (enc : α → Value) (cf : α → α → Int) (g : Nat) (cb : Array Value) (hO : SWO (ltOf cf)) (blk off cap : Nat) (d0 : Array α) (w0 : World) (eg : ∀ args w, (callFunc g args).run Try.prog w = .ok (.enter g args) w) (hcmp : CmpLays1 Try.prog g cb enc cf blk off d0.size w0) (R : Row1 enc w0 blk off d0) :
    ∀ (N a b limit : Nat) (d : Array α) (w : World), b - a < N → d0.size = d.size → SW enc w0 blk off d w → a ≤ b → b ≤ d.size → d.size < 4611686018427387904 → limit < 4611686018427387904 → Below (ltOf cf) a b d →
    Calls Try.prog 75 #[.slice (some ⟨blk, off, none⟩) d.size cap, .int .i64 a, .int .i64 b, .int .i64 limit, .func (.func g) #[] cb] w fun e w' => e = .returned (.tuple #[]) ∧ SW enc w0 blk off (pdq (ltOf cf) d a b limit true true) w' := Any.pdqsortCmpFunc_all Try.laysSlF14_f75 enc cf g cb hO blk off cap d0 w0 eg hcmp R
def Try.laysSlF6_f64_ren : Go.Shelf.Ren := ⟨fun | 6 => 64 | 15 => 76 | 14 => 75 | 28 => 88 | 29 => 89 | 20 => 80 | 21 => 81 | 22 => 82 | 23 => 83 | 24 => 84 | 25 => 85 | 26 => 86 | 27 => 87 | 46 => 93 | 47 => 94 | 48 => 95 | 49 => 96 | 50 => 97 | 57 => 99 | n => n, fun | 22 => 22 | 24 => 3 | 25 => 46 | 3 => 3 | 39 => 51 | 0 => 0 | 53 => 102 | 55 => 104 | 4 => 4 | 46 => 96 | 45 => 95 | 50 => 42 | 5 => 5 | 9 => 9 | 66 => 105 | 70 => 109 | 76 => 111 | 77 => 112 | n => n, fun | n => n⟩
theorem Try.laysSlF6_f64 : Go.Proofs.SlLaysF.n6 Try.prog Try.laysSlF6_f64_ren := {
  mixed := by kernel_rfl
  f6 := ⟨Try.f64.name, by decide, Try.func64.trans (congrArg some (by kernel_rfl))⟩
  f14 := ⟨Try.f75.name, by decide, Try.func75.trans (congrArg some (by kernel_rfl))⟩
  f15 := Try.func76.trans (congrArg some (by kernel_rfl))
  f20 := ⟨Try.f80.name, by decide, Try.func80.trans (congrArg some (by kernel_rfl))⟩
  f21 := ⟨Try.f81.name, by decide, Try.func81.trans (congrArg some (by kernel_rfl))⟩
  f22 := ⟨Try.f82.name, by decide, Try.func82.trans (congrArg some (by kernel_rfl))⟩
  f23 := ⟨Try.f83.name, by decide, Try.func83.trans (congrArg some (by kernel_rfl))⟩
  f24 := ⟨Try.f84.name, by decide, Try.func84.trans (congrArg some (by kernel_rfl))⟩
  f25 := ⟨Try.f85.name, by decide, Try.func85.trans (congrArg some (by kernel_rfl))⟩
  f26 := ⟨Try.f86.name, by decide, Try.func86.trans (congrArg some (by kernel_rfl))⟩
  f27 := ⟨Try.f87.name, by decide, Try.func87.trans (congrArg some (by kernel_rfl))⟩
  f28 := Try.func88.trans (congrArg some (by kernel_rfl))
  f29 := Try.func89.trans (congrArg some (by kernel_rfl))
  f46 := ⟨Try.f93.name, by decide, Try.func93.trans (congrArg some (by kernel_rfl))⟩
  f47 := Try.func94.trans (congrArg some (by kernel_rfl))
  f48 := Try.func95.trans (congrArg some (by kernel_rfl))
  f49 := ⟨Try.f96.name, by decide, Try.func96.trans (congrArg some (by kernel_rfl))⟩
  f50 := ⟨Try.f97.name, by decide, Try.func97.trans (congrArg some (by kernel_rfl))⟩
  f57 := ⟨Try.f99.name, by decide, Try.func99.trans (congrArg some (by kernel_rfl))⟩
  t0 := Try.underlying0
  a0 := Try.isAgg0
  z0 := Try.sizeOf0
  v0 := Try.zeroValue0
  t3 := Try.underlying3
  a3 := Try.isAgg3
  z3 := Try.sizeOf3
  v3 := Try.zeroValue3
  t4 := Try.underlying4
  a4 := Try.isAgg4
  z4 := Try.sizeOf4
  v4 := Try.zeroValue4
  t5 := Try.underlying5
  a5 := Try.isAgg5
  z5 := Try.sizeOf5
  v5 := Try.zeroValue5
  t9 := Try.underlying9
  a9 := Try.isAgg9
  z9 := Try.sizeOf9
  v9 := Try.zeroValue9
  t22 := Try.underlying22
  a22 := Try.isAgg22
  z22 := Try.sizeOf22
  v22 := Try.zeroValue22
  a24 := Try.isAgg3
  z24 := Try.sizeOf3
  t25 := Try.underlying46
  a25 := Try.isAgg46
  z25 := Try.sizeOf46
  v25 := Try.zeroValue46
  t39 := Try.underlying51
  a39 := Try.isAgg51
  z39 := Try.sizeOf51
  v39 := Try.zeroValue51
  t45 := Try.underlying95
  a45 := Try.isAgg95
  z45 := Try.sizeOf95
  v45 := Try.zeroValue95
  t46 := Try.underlying96
  a46 := Try.isAgg96
  z46 := Try.sizeOf96
  v46 := Try.zeroValue96
  t50 := Try.underlying42
  a50 := Try.isAgg42
  z50 := Try.sizeOf42
  v50 := Try.zeroValue42
  t53 := Try.underlying102
  a53 := Try.isAgg102
  z53 := Try.sizeOf102
  v53 := Try.zeroValue102
  t55 := Try.underlying104
  a55 := Try.isAgg104
  z55 := Try.sizeOf104
  v55 := Try.zeroValue104
  t66 := Try.underlying105
  a66 := Try.isAgg105
  z66 := Try.sizeOf105
  v66 := Try.zeroValue105
  t70 := Try.underlying109
  a70 := Try.isAgg109
  z70 := Try.sizeOf109
  v70 := Try.zeroValue109
  t76 := Try.underlying111
  a76 := Try.isAgg111
  z76 := Try.sizeOf111
  v76 := Try.zeroValue111
  t77 := Try.underlying112
  a77 := Try.isAgg112
  z77 := Try.sizeOf112
  v77 := Try.zeroValue112 }
open Go.RowKit Go.Lib Go.Sort in
theorem Try.slices_SortFunc_eq {α : Type} [Inhabited α] (enc : α → Value) (h1 : OneCell enc) (cf : α → α → Int) (hO : SWO (ltOf cf)) (g : Nat) (cb : Array Value) (blk off cap : Nat) (d : Array α) (w : World) (eg : ∀ args w, (callFunc g args).run Try.prog w = .ok (.enter g args) w) (hcmp : CmpLays1 Try.prog g cb enc cf blk off d.size w) (hH : Holds enc w blk off d) (hblk : blk < w.heap.size) (hsz : d.size < 4611686018427387904) :
    Calls Try.prog 64 #[.slice (some ⟨blk, off, none⟩) d.size cap, .func (.func g) #[] cb] w fun e w' =>
      e = .returned (.tuple #[]) ∧ ∃ n os, w' = sortWorld enc w blk off n (pdq (ltOf cf) d 0 d.size (Lib.bitLen d.size) true true) os := Any.slices_SortFunc_eq Try.laysSlF6_f64 enc h1 cf hO g cb blk off cap d w eg hcmp hH hblk hsz
open Go.RowKit Go.Lib Go.Sort in
theorem Try.slices_SortFunc {α : Type} [Inhabited α] (enc : α → Value) (h1 : OneCell enc) (cf : α → α → Int) (hO : SWO (ltOf cf)) (g : Nat) (cb : Array Value) (blk off cap : Nat) (d : Array α) (w : World) (eg : ∀ args w, (callFunc g args).run Try.prog w = .ok (.enter g args) w) (hcmp : CmpLays1 Try.prog g cb enc cf blk off d.size w) (hH : Holds enc w blk off d) (hblk : blk < w.heap.size) (hsz : d.size < 4611686018427387904) :
    Calls Try.prog 64 #[.slice (some ⟨blk, off, none⟩) d.size cap, .func (.func g) #[] cb] w fun e w' =>
      e = .returned (.tuple #[]) ∧ ∃ d' n os, PermIn 0 d.size d d' ∧ SortedIn (ltOf cf) 0 d.size d' ∧ w' = sortWorld enc w blk off n d' os := Any.slices_SortFunc Try.laysSlF6_f64 enc h1 cf hO g cb blk off cap d w eg hcmp hH hblk hsz
end Go.Proofs
end
