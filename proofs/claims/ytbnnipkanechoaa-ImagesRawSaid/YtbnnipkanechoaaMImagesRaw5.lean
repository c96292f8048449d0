/- Proved here: a part of the proof of the law at hand, in one text: no condition. -/
import Derived.Test.YtbnnipkanechoaaMImagesRaw4
import Derived.KernelRfl
import Derived.ChangeOld
import Derived.ChangeReads
import Derived.Below
import Derived.ChangeSlices
import Derived.Deep.Grids
import Derived.WideShapes
import Derived.WalkKit
import Derived.ProofKit
set_option linter.unusedVariables false
set_option linter.unusedSimpArgs false
section
namespace Go.Proofs.Ytbnnipkanechoaa
open Go
set_option maxRecDepth 100000
structure EqvN (N : Nat) (e : Nat -> Nat -> Bool) : Prop where
  refl : ∀ i, i < N -> e i i = true
  symm : ∀ i j, i < N -> j < N -> e i j = true -> e j i = true
  trans : ∀ i j k, i < N -> j < N -> k < N -> e i j = true -> e j k = true -> e i k = true
def z1E (e : Nat -> Nat -> Bool) : Nat -> List Nat
  | 0 => []
  | i + 1 => if (z1E e i).any (e i) = true then z1E e i else z1E e i ++ [i]
def z6T (e : Nat -> Nat -> Bool) (N i : Nat) : Nat := (z1E e N).findIdx (e i)
theorem zer (e : Nat -> Nat -> Bool) {i : Nat} : ∀ j, i <= j -> ∃ R, z1E e j = z1E e i ++ R
  | 0, h => by
    obtain rfl : i = 0 := by omega
    exact ⟨[], by simp⟩
  | j + 1, h => by
    by_cases e0 : i = j + 1
    · subst e0; exact ⟨[], by simp⟩
    · obtain ⟨R, hR⟩ := zer e (i := i) j (by omega)
      rw [show z1E e (j + 1) = if (z1E e j).any (e j) = true then z1E e j else z1E e j ++ [j] from rfl]
      split
      · exact ⟨R, hR⟩
      · exact ⟨R ++ [j], by rw [hR, List.append_assoc]⟩
theorem zbf (e : Nat -> Nat -> Bool) : ∀ i, ∀ f ∈ z1E e i, f < i
  | 0, f, h => by simp [z1E] at h
  | i + 1, f, h => by
    unfold z1E at h
    split at h
    · have := zbf e i f h; omega
    · rcases List.mem_append.1 h with h | h
      · have := zbf e i f h; omega
      · have := List.mem_singleton.1 h; omega
theorem zes (e : Nat -> Nat -> Bool) : ∀ i, (z1E e i).length <= i
  | 0 => by simp [z1E]
  | i + 1 => by
    have := zes e i
    unfold z1E
    split
    · omega
    · rw [List.length_append, List.length_singleton]; omega
theorem zet {N : Nat} {e : Nat -> Nat -> Bool} (he : EqvN N e) : ∀ i, i <= N -> (z1E e i).Pairwise fun f g => e f g = false /\ e g f = false
  | 0, _ => by simp [z1E]
  | i + 1, hi => by
    have ih := zet he i (by omega)
    unfold z1E
    split
    · exact ih
    · rename_i h
      refine List.pairwise_append.2 ⟨ih, by simp, fun a ha b hb => ?_⟩
      obtain rfl := List.mem_singleton.1 hb
      have hlt := zbf e b a ha
      have h1 : e b a = false := by
        cases hh : e b a with
        | false => rfl
        | true => exact absurd (List.any_eq_true.2 ⟨a, ha, hh⟩) h
      refine ⟨?_, h1⟩
      cases hh : e a b with
      | false => rfl
      | true => rw [he.symm a b (by omega) (by omega) hh] at h1; cases h1
theorem zoM {N : Nat} {e : Nat -> Nat -> Bool} (he : EqvN N e) {i c c' : Nat} {l : List Nat} (hl : l.Pairwise fun f g => e f g = false /\ e g f = false) (hlt : ∀ f ∈ l, f < N) (hi : i < N) (hc : c < l.length) (hc' : c' < l.length) (h : e i (l.getD c 0) = true) (h' : e i (l.getD c' 0) = true) : c = c' := by
  have m1 : l.getD c 0 < N := hlt _ (z1u hc)
  have m2 : l.getD c' 0 < N := hlt _ (z1u hc')
  have hcc := he.trans _ _ _ m1 hi m2 (he.symm _ _ hi m1 h) h'
  rcases Nat.lt_trichotomy c c' with hlt' | rfl | hlt'
  · have := (List.pairwise_iff_getElem.1 hl c c' hc hc' hlt').1
    rw [List.getD, List.getD, List.getElem?_eq_getElem hc, List.getElem?_eq_getElem hc', Option.getD_some, Option.getD_some, this] at hcc
    cases hcc
  · rfl
  · have := (List.pairwise_iff_getElem.1 hl c' c hc' hc hlt').2
    rw [List.getD, List.getD, List.getElem?_eq_getElem hc, List.getElem?_eq_getElem hc', Option.getD_some, Option.getD_some, this] at hcc
    cases hcc
theorem zqK {N : Nat} {e : Nat -> Nat -> Bool} (he : EqvN N e) {i : Nat} (hi : i < N) : (z1E e i).findIdx (e i) = z6T e N i := by
  unfold z6T
  obtain ⟨R, hR⟩ := zer e (i := i + 1) N (by omega)
  rw [hR]
  by_cases h : (z1E e i).any (e i) = true
  · have : z1E e (i + 1) = z1E e i := by rw [z1E, if_pos h]
    rw [this, List.findIdx_append, if_pos]
    obtain ⟨x, hx, hp⟩ := List.any_eq_true.1 h
    exact List.findIdx_lt_length_of_exists ⟨x, hx, hp⟩
  · have e1 : z1E e (i + 1) = z1E e i ++ [i] := by rw [z1E, if_neg h]
    have e2 : (z1E e i).findIdx (e i) = (z1E e i).length := List.findIdx_eq_length.2 fun x hx => by
      cases hh : e i x with
      | false => rfl
      | true => exact absurd (List.any_eq_true.2 ⟨x, hx, hh⟩) h
    rw [e1, List.append_assoc, List.findIdx_append, if_neg (by rw [e2]; omega), List.singleton_append, List.findIdx_cons, he.refl i hi, e2]
    simp
theorem zeD {N : Nat} {e : Nat -> Nat -> Bool} (he : EqvN N e) {i : Nat} (hi : i < N) : z6T e N i < (z1E e N).length /\ e i ((z1E e N).getD (z6T e N i) 0) = true := by
  have hex : ∃ x ∈ z1E e N, e i x = true := by
    obtain ⟨R, hR⟩ := zer e (i := i + 1) N (by omega)
    by_cases h : (z1E e i).any (e i) = true
    · obtain ⟨x, hx, hp⟩ := List.any_eq_true.1 h
      refine ⟨x, ?_, hp⟩
      rw [hR, z1E, if_pos h]
      exact List.mem_append.2 (.inl hx)
    · refine ⟨i, ?_, he.refl i hi⟩
      rw [hR, z1E, if_neg h]; simp
  have hlt : z6T e N i < (z1E e N).length := List.findIdx_lt_length_of_exists hex
  refine ⟨hlt, ?_⟩
  rw [List.getD, List.getElem?_eq_getElem hlt, Option.getD_some]
  exact List.findIdx_getElem (w := hlt)
theorem zgQ {N : Nat} {e : Nat -> Nat -> Bool} (he : EqvN N e) {i j : Nat} (hi : i < N) (hj : j < N) : z6T e N i = z6T e N j ↔ e i j = true := by
  obtain ⟨a1, a2⟩ := zeD he hi
  obtain ⟨b1, b2⟩ := zeD he hj
  have hF := zbf e N
  have m1 := hF _ (z1u a1)
  constructor
  · intro h
    rw [← h] at b2
    exact he.trans _ _ _ hi m1 hj a2 (he.symm _ _ hj m1 b2)
  · intro h
    exact zoM he (zet he N (Nat.le_refl _)) hF hj a1 b1 (he.trans _ _ _ hj hi m1 (he.symm _ _ hi hj h) a2) b2
def z2y (d : DFA) (m n : Nat) (S : List Nat) (i j : Nat) : Bool := z3h d m n S i j && z3h d m n S j i
theorem zbh {d : DFA} {m n : Nat} (hd : DfaOk d m n) {S : List Nat} (hS : SetsP d m n S) : EqvN S.length (z2y d m n S) where
  refl i hi := by
    have := (z4w hd hS hi (i := i)).2 (zll d m _)
    simp [z2y, this]
  symm i j hi hj h := by
    simp only [z2y, Bool.and_eq_true] at h ⊢
    exact ⟨h.2, h.1⟩
  trans i j k hi hj hk h1 h2 := by
    simp only [z2y, Bool.and_eq_true] at h1 h2 ⊢
    exact ⟨(z4w hd hS hk).2 (zeJ hd ((z4w hd hS hj).1 h1.1) ((z4w hd hS hk).1 h2.1)), (z4w hd hS hi).2 (zeJ hd ((z4w hd hS hj).1 h2.2) ((z4w hd hS hi).1 h1.2))⟩
theorem zln {d : DFA} {m n : Nat} {S : List Nat} {i : Nat} (hi : i < S.length) : atI (zql d m n S) (i : Int) = some ((List.range S.length).map (z3h d m n S i)) := z2S hi
def zn4 (d : DFA) (m n : Nat) (S : List Nat) : List Int := (List.range S.length).map fun i => ((z6T (z2y d m n S) S.length i : Nat) : Int)
def zjW (d : DFA) (m n : Nat) (S : List Nat) : List Nat := z1E (z2y d m n S) S.length
theorem zn5 {d : DFA} {m n : Nat} (hd : DfaOk d m n) (hn : n <= 12) {S : List Nat} (hS : SetsP d m n S) : z2A (dgm d m n S) = some (zn4 d m n S, toI (zjW d m n S)) := by
  have h12 := zau hn
  have hSl := z1j hS.nd hS.lt
  have he := zbh hd hS
  unfold z2A
  have ed : (dgm d m n S).sets = toI S := rfl
  have eb : (dgm d m n S).below = zql d m n S := rfl
  rw [ed, z0q, z1q _ (by unfold z2g; omega), Int.toNat_natCast]
  have f1 : List.replicate S.length (0 : Int) = z1I S.length (fun i => ((z6T (z2y d m n S) S.length i : Nat) : Int)) 0 0 := (z7i _ _ _).symm
  rw [f1]
  refine z1G (s := ((0 : Int), z1I S.length (fun i => ((z6T (z2y d m n S) S.length i : Nat) : Int)) 0 0, ([] : List Int))) S.length (fun k => ((k : Int), z1I S.length (fun i => ((z6T (z2y d m n S) S.length i : Nat) : Int)) 0 k, toI (z1E (z2y d m n S) k))) rfl (by simp only [LFm]; omega) (fun i hi => ?_) ?_
  · have hF := zes (z2y d m n S) i
    have hFl := zbf (z2y d m n S) i
    have hap := zet he i (by omega)
    have hcl := zqK he hi
    simp only [z2G]
    rw [ed, if_pos (by rw [z0q]; omega), z5z hi, Option.bind_some, z0q, Int.toNat_natCast]
    generalize hL : z1I S.length (fun i => ((z6T (z2y d m n S) S.length i : Nat) : Int)) 0 i = L at *
    have hLl : L.length = S.length := by rw [← hL, z9U]
    have hstep : ∀ c, c < (z1E (z2y d m n S) i).length -> (z2y d m n S i ((z1E (z2y d m n S) i).getD c 0) = true ↔ (z1E (z2y d m n S) i).findIdx (z2y d m n S i) = c) := fun c hc => by
      constructor
      · intro h
        have hex : (z1E (z2y d m n S) i).findIdx (z2y d m n S i) < (z1E (z2y d m n S) i).length := List.findIdx_lt_length_of_exists ⟨_, z1u hc, h⟩
        have hp : z2y d m n S i ((z1E (z2y d m n S) i).getD ((z1E (z2y d m n S) i).findIdx (z2y d m n S i)) 0) = true := by
          rw [List.getD, List.getElem?_eq_getElem hex, Option.getD_some]
          exact List.findIdx_getElem (w := hex)
        exact zoM he hap (fun f hf => by have := hFl f hf; omega) hi hex hc hp h
      · intro h
        have hex : (z1E (z2y d m n S) i).findIdx (z2y d m n S i) < (z1E (z2y d m n S) i).length := by omega
        have hp : z2y d m n S i ((z1E (z2y d m n S) i)[(z1E (z2y d m n S) i).findIdx (z2y d m n S i)]) = true := List.findIdx_getElem (w := hex)
        rw [← h, List.getD, List.getElem?_eq_getElem hex, Option.getD_some]
        exact hp
    refine z1G (s := ((0 : Int), L.set i (((z1E (z2y d m n S) i).length : Nat) : Int))) (z1E (z2y d m n S) i).length (fun c => ((c : Int), L.set i (((if (z1E (z2y d m n S) i).findIdx (z2y d m n S i) < c then (z1E (z2y d m n S) i).findIdx (z2y d m n S i) else (z1E (z2y d m n S) i).length : Nat)) : Int))) (by simp) (by simp only [LFm]; omega) (fun c hc => ?_) ?_
    · have hf := hFl _ (z1u hc)
      simp only [z2F]
      rw [eb, if_pos (by rw [z0q]; omega), z2v hc, Option.bind_some, zln hi, Option.bind_some, z2S (by omega), Option.bind_some, z1M (by omega)]
      by_cases h1 : z3h d m n S i ((z1E (z2y d m n S) i).getD c 0) = true
      · rw [if_pos h1, zln (by omega), Option.bind_some, z2S hi, Option.bind_some]
        by_cases h2 : z3h d m n S ((z1E (z2y d m n S) i).getD c 0) i = true
        · have := (hstep c hc).1 ((Bool.and_eq_true _ _).mpr ⟨h1, h2⟩)
          rw [if_pos h2, zfX (by omega), Option.bind_some, Int.toNat_natCast, ze2, this, if_pos (by omega)]
        · have : ¬ (z1E (z2y d m n S) i).findIdx (z2y d m n S i) = c := fun h => by
            have := (hstep c hc).2 h
            simp only [z2y, Bool.and_eq_true] at this
            exact h2 this.2
          rw [if_neg h2]
          congr 3
          by_cases h3 : (z1E (z2y d m n S) i).findIdx (z2y d m n S i) < c
          · rw [if_pos h3, if_pos (by omega)]
          · rw [if_neg h3, if_neg (by omega)]
      · have : ¬ (z1E (z2y d m n S) i).findIdx (z2y d m n S i) = c := fun h => by
          have := (hstep c hc).2 h
          simp only [z2y, Bool.and_eq_true] at this
          exact h1 this.1
        rw [if_neg h1]
        congr 3
        by_cases h3 : (z1E (z2y d m n S) i).findIdx (z2y d m n S i) < c
        · rw [if_pos h3, if_pos (by omega)]
        · rw [if_neg h3, if_neg (by omega)]
    · have hle : (z1E (z2y d m n S) i).findIdx (z2y d m n S i) <= (z1E (z2y d m n S) i).length := List.findIdx_le_length
      have hv : (if (z1E (z2y d m n S) i).findIdx (z2y d m n S i) < (z1E (z2y d m n S) i).length then (z1E (z2y d m n S) i).findIdx (z2y d m n S i) else (z1E (z2y d m n S) i).length) = (z1E (z2y d m n S) i).findIdx (z2y d m n S i) := by split <;> omega
      have hset : L.set i ((z6T (z2y d m n S) S.length i : Nat) : Int) = z1I S.length (fun i => ((z6T (z2y d m n S) S.length i : Nat) : Int)) 0 (i + 1) := by
        rw [← hL]; exact z3P (f := fun i => ((z6T (z2y d m n S) S.length i : Nat) : Int)) (z := 0) hi
      simp only [z2F]
      rw [if_neg (by rw [z0q]; omega), hv, zfX (by omega), Option.bind_some, hcl, hset, z1M (by omega), z0q, z1E]
      by_cases h : (z1E (z2y d m n S) i).any (z2y d m n S i) = true
      · obtain ⟨x, hx, hpx⟩ := List.any_eq_true.1 h
        have := List.findIdx_lt_length_of_exists ⟨x, hx, hpx⟩
        rw [if_pos h, if_neg (by omega)]
      · have e2 : (z1E (z2y d m n S) i).findIdx (z2y d m n S i) = (z1E (z2y d m n S) i).length := List.findIdx_eq_length.2 fun x hx => by
          cases hh : z2y d m n S i x with
          | false => rfl
          | true => exact absurd (List.any_eq_true.2 ⟨x, hx, hh⟩) h
        rw [if_neg h, if_pos (by omega), z1q _ (by unfold z5B; omega), z6s]
  · simp only [z2G]
    rw [ed, if_neg (by rw [z0q]; omega), z7h]
    rfl
end Go.Proofs.Ytbnnipkanechoaa
end
section
namespace Go.Proofs.Ytbnnipkanechoaa
open Go
set_option maxRecDepth 100000
def z7j (g : Nat -> Nat) : Nat -> Nat
  | 0 => 0
  | k + 1 => max (z7j g k) (g k)
theorem zpR {g : Nat -> Nat} {k j : Nat} (h : j < k) : g j <= z7j g k := by
  induction k with
  | zero => omega
  | succ k ih =>
    simp only [z7j]
    by_cases e : j = k
    · subst e; omega
    · have := ih (by omega); omega
theorem zay {g : Nat -> Nat} {k b : Nat} (h : ∀ j, j < k -> g j <= b) : z7j g k <= b := by
  induction k with
  | zero => simp [z7j]
  | succ k ih =>
    have := ih fun j hj => h j (by omega)
    have := h k (by omega)
    simp only [z7j]; omega
theorem zjK {g g' : Nat -> Nat} {k : Nat} (h : ∀ j, j < k -> g j = g' j) : z7j g k = z7j g' k := by
  induction k with
  | zero => rfl
  | succ k ih => simp only [z7j]; rw [ih fun j hj => h j (by omega), h k (by omega)]
def z7k (p : Nat -> Bool) : Nat -> Nat
  | 0 => 0
  | k + 1 => z7k p k + (if p k = true then 1 else 0)
theorem zp3 (p : Nat -> Bool) (k : Nat) : z7k p k <= k := by
  induction k with
  | zero => simp [z7k]
  | succ k ih => simp only [z7k]; split <;> omega
theorem zlg {p q : Nat -> Bool} {k : Nat} (h : ∀ j, j < k -> p j = true -> q j = true) : z7k p k <= z7k q k := by
  induction k with
  | zero => simp [z7k]
  | succ k ih =>
    have := ih fun j hj => h j (by omega)
    have := h k (by omega)
    simp only [z7k]
    by_cases h1 : p k = true
    · rw [if_pos h1, if_pos (this h1)]; omega
    · rw [if_neg h1]; split <;> omega
theorem zgb {p q : Nat -> Bool} {k i : Nat} (h : ∀ j, j < k -> p j = true -> q j = true) (hi : i < k) (hp : p i = false) (hq : q i = true) : z7k p k < z7k q k := by
  induction k with
  | zero => omega
  | succ k ih =>
    simp only [z7k]
    by_cases e : i = k
    · subst e
      have := zlg (p := p) (q := q) (k := i) fun j hj => h j (by omega)
      rw [hp, hq]; simp; omega
    · have h1 := ih (fun j hj => h j (by omega)) (by omega)
      have := h k (by omega)
      by_cases h2 : p k = true
      · rw [if_pos h2, if_pos (this h2)]; omega
      · rw [if_neg h2]; split <;> omega
structure BelN (N : Nat) (b : Nat -> Nat -> Bool) : Prop where
  refl : ∀ i, i < N -> b i i = true
  trans : ∀ i j k, i < N -> j < N -> k < N -> b i j = true -> b j k = true -> b i k = true
def zeY (N : Nat) (b : Nat -> Nat -> Bool) (i : Nat) : Nat := z7k (fun j => b j i) N
def sbN (b : Nat -> Nat -> Bool) (j i : Nat) : Bool := b j i && !b i j
theorem zkJ {N : Nat} {b : Nat -> Nat -> Bool} (hb : BelN N b) {i j : Nat} (hi : i < N) (hj : j < N) (h : sbN b j i = true) : zeY N b j < zeY N b i := by
  simp only [sbN, Bool.and_eq_true, Bool.not_eq_true'] at h
  exact zgb (fun k hk hkj => hb.trans k j i hk hj hi hkj h.1) hi h.2 (hb.refl i hi)
def zvE (N : Nat) (b : Nat -> Nat -> Bool) (z : Nat -> Bool) (h : Nat -> Nat) : Prop := ∀ i, i < N -> h i = if z i = true then 0 else z7j (fun j => if sbN b j i = true then h j + 1 else 0) N
def zsx (N : Nat) (b : Nat -> Nat -> Bool) (z : Nat -> Bool) : Nat -> Nat -> Nat
  | 0, _ => 0
  | f + 1, i => if z i = true then 0 else z7j (fun j => if sbN b j i = true then zsx N b z f j + 1 else 0) N
def zjU (N : Nat) (b : Nat -> Nat -> Bool) (z : Nat -> Bool) (i : Nat) : Nat := zsx N b z N i
theorem zg7 {N : Nat} {b : Nat -> Nat -> Bool} (hb : BelN N b) (z : Nat -> Bool) : ∀ f i, i < N -> zeY N b i <= f -> ∀ g, zeY N b i <= g -> zsx N b z f i = zsx N b z g i
  | 0, i, hi, hl, g, hg => by
    exfalso
    have := zgb (p := fun _ => false) (q := fun j => b j i) (k := N) (i := i) (fun j _ hf => by simp at hf) hi rfl (hb.refl i hi)
    unfold zeY at hl; omega
  | f + 1, i, hi, hl, 0, hg => by
    exfalso
    have := zgb (p := fun _ => false) (q := fun j => b j i) (k := N) (i := i) (fun j _ hf => by simp at hf) hi rfl (hb.refl i hi)
    unfold zeY at hg; omega
  | f + 1, i, hi, hl, g + 1, hg => by
    simp only [zsx]
    split
    · rfl
    · refine zjK fun j hj => ?_
      by_cases hs : sbN b j i = true
      · have := zkJ hb hi hj hs
        rw [if_pos hs, if_pos hs, zg7 hb z f j hj (by omega) g (by omega)]
      · rw [if_neg hs, if_neg hs]
theorem zkR {N : Nat} {b : Nat -> Nat -> Bool} (hb : BelN N b) (z : Nat -> Bool) : zvE N b z (zjU N b z) := fun i hi => by
  have hl : zeY N b i <= N := zp3 _ _
  unfold zjU
  rw [zg7 hb z N i hi hl (N + 1) (by omega)]
  rfl
theorem ziE {N : Nat} {b : Nat -> Nat -> Bool} (hb : BelN N b) (z : Nat -> Bool) {i : Nat} (hi : i < N) : zjU N b z i <= N := by
  have : ∀ L i, i < N -> zeY N b i <= L -> zjU N b z i <= L := by
    intro L
    induction L with
    | zero =>
      intro i hi hl
      exfalso
      have := zgb (p := fun _ => false) (q := fun j => b j i) (k := N) (i := i) (fun j _ hf => by simp at hf) hi rfl (hb.refl i hi)
      unfold zeY at hl; omega
    | succ L ih =>
      intro i hi hl
      rw [zkR hb z i hi]
      split
      · omega
      · refine zay fun j hj => ?_
        by_cases hs : sbN b j i = true
        · have := zkJ hb hi hj hs
          have := ih j hj (by omega)
          rw [if_pos hs]; omega
        · rw [if_neg hs]; omega
  exact this N i hi (zp3 _ _)
theorem zlm {d : DFA} {m n : Nat} (hd : DfaOk d m n) {S : List Nat} (hS : SetsP d m n S) : BelN S.length (z3h d m n S) where
  refl i hi := (z4w hd hS hi).2 (zll d m _)
  trans i j k hi hj hk h1 h2 := (z4w hd hS hk).2 (zeJ hd ((z4w hd hS hj).1 h1) ((z4w hd hS hk).1 h2))
theorem znR {s : Nat} (h : s < 128) : z5w (s : Int) = some ((szN s : Nat) : Int) := by
  unfold z5w z3O
  rw [zj4 (by omega)]
  have : z2H (s : Int) = some ((szN s : Nat) : Int) := by
    unfold z2H
    rw [z1q _ (by omega), z1q _ (by omega), z1q _ (by omega), z1q _ (by omega), z1q _ (by omega), z1q _ (by omega)]
    congr 1
    revert s
    decide +kernel
  rw [this]; rfl
def z9n (S : List Nat) (i : Nat) : Bool := decide (szN (S.getD i 0) = 1)
def z8i (d : DFA) (m n : Nat) (S : List Nat) (i : Nat) : Nat := zjU S.length (z3h d m n S) (z9n S) i
def zrr (d : DFA) (m n : Nat) (S : List Nat) : List Int := (List.range S.length).map fun i => ((z8i d m n S i : Nat) : Int)
theorem znD (N : Nat) : toI (List.range N) = (List.range N).map fun i => ((i : Nat) : Int) := rfl
theorem zmB {d : DFA} {m n : Nat} {S : List Nat} (hl : S.length < 4611686018427387904) {i : Nat} (hi : i < S.length) (C O : List Int) (L : List Int) (hL : L.length = S.length) (h0 : L.getD i 0 = 0) :
    z0Z (z2d (dgm d m n S) (i : Int) O) LFm (0, L) = z0B (((i + 1 : Nat) : Int), L.set i ((zeY S.length (z3h d m n S) i : Nat) : Int), O.set i (i : Int)) := by
  refine z1G (s := ((0 : Int), L)) S.length (fun k => ((k : Int), L.set i ((z7k (fun j => z3h d m n S j i) k : Nat) : Int))) ?_ (by simp only [LFm]; omega) (fun k hk => ?_) ?_
  · refine Prod.ext rfl ?_
    show L = L.set i 0
    apply List.ext_getElem (by simp)
    intro j h1 h2
    rw [List.getElem_set]
    by_cases e : i = j
    · subst e
      rw [if_pos rfl]
      rw [List.getD, List.getElem?_eq_getElem h1, Option.getD_some] at h0
      exact h0
    · rw [if_neg e]
  · have hc := zp3 (fun j => z3h d m n S j i) k
    have ed : (dgm d m n S).sets = toI S := rfl
    have eb : (dgm d m n S).below = zql d m n S := rfl
    simp only [z2d]
    rw [ed, eb, if_pos (by rw [z0q]; omega), zln hk, Option.bind_some, z2S hi, Option.bind_some, z1M (by omega)]
    simp only [z7k]
    by_cases h : z3h d m n S k i = true
    · rw [if_pos h, if_pos h, zfX (by omega), Option.bind_some, Int.toNat_natCast, ze2, z1M (by omega)]
    · rw [if_neg h, if_neg h]; rfl
  · have ed : (dgm d m n S).sets = toI S := rfl
    simp only [z2d]
    rw [ed, if_neg (by rw [z0q]; omega), z1M (by omega), Int.toNat_natCast]
    rfl
theorem zoF {d : DFA} {m n : Nat} (hd : DfaOk d m n) {S : List Nat} (hS : SetsP d m n S) (hl : S.length < 100000) (k : Int) {i : Nat} (hi : i < S.length) {H : Nat -> Nat} (h0 : H i = 0) (hlow : ∀ j, j < S.length -> sbN (z3h d m n S) j i = true -> H j = z8i d m n S j) :
    z0Z (z1Y (dgm d m n S) (zn4 d m n S) k (i : Int)) LFm (0, (List.range S.length).map fun j => ((H j : Nat) : Int)) = z0B (IntKind.i64.wrap (k + 1), (List.range S.length).map fun j => (((if j = i then z7j (fun j => if sbN (z3h d m n S) j i = true then z8i d m n S j + 1 else 0) S.length else H j) : Nat) : Int)) := by
  have he := zbh hd hS
  have hb := zlm hd hS
  have ed : (dgm d m n S).sets = toI S := rfl
  have eb : (dgm d m n S).below = zql d m n S := rfl
  refine z1G (s := ((0 : Int), (List.range S.length).map fun j => ((H j : Nat) : Int))) S.length (fun q => ((q : Int), (List.range S.length).map fun j => (((if j = i then z7j (fun j => if sbN (z3h d m n S) j i = true then z8i d m n S j + 1 else 0) q else H j) : Nat) : Int))) ?_ (by simp only [LFm]; omega) (fun q hq => ?_) ?_
  · refine Prod.ext rfl ?_
    refine List.map_congr_left fun j hj => ?_
    by_cases e : j = i
    · subst e; simp [z7j, h0]
    · rw [if_neg e]
  · have hle := ziE hb (z9n S) hq
    have hmx : z7j (fun j => if sbN (z3h d m n S) j i = true then z8i d m n S j + 1 else 0) q <= S.length + 1 := zay fun j hj => by
      have := ziE hb (z9n S) (i := j) (by omega)
      unfold z8i; split <;> omega
    have hse : z3h d m n S q i = true -> (sbN (z3h d m n S) q i = true ↔ ¬ z6T (z2y d m n S) S.length q = z6T (z2y d m n S) S.length i) := fun h => by
      rw [zgQ he hq hi]
      simp only [sbN, z2y, h, Bool.true_and, Bool.not_eq_true', Bool.not_eq_true]
    have hfin : ∀ v : Nat, v = (if sbN (z3h d m n S) q i = true then max (z7j (fun j => if sbN (z3h d m n S) j i = true then z8i d m n S j + 1 else 0) q) (z8i d m n S q + 1) else z7j (fun j => if sbN (z3h d m n S) j i = true then z8i d m n S j + 1 else 0) q) -> ((List.range S.length).map fun j => (((if j = i then v else H j) : Nat) : Int)) = (List.range S.length).map fun j => (((if j = i then z7j (fun j => if sbN (z3h d m n S) j i = true then z8i d m n S j + 1 else 0) (q + 1) else H j) : Nat) : Int) := fun v hv => by
      refine List.map_congr_left fun j hj => ?_
      by_cases e : j = i
      · rw [if_pos e, if_pos e, hv]
        simp only [z7j]
        by_cases h : sbN (z3h d m n S) q i = true
        · rw [if_pos h, if_pos h]
        · rw [if_neg h, if_neg h]; congr 1; omega
      · rw [if_neg e, if_neg e]
    simp only [z1Y]
    rw [ed, eb, if_pos (by rw [z0q]; omega), zln hq, Option.bind_some, z2S hi, Option.bind_some, z1M (by omega)]
    by_cases h : z3h d m n S q i = true
    · rw [if_pos h, zn4, z2S hq, Option.bind_some, z2S hi, Option.bind_some]
      by_cases hc : z6T (z2y d m n S) S.length q = z6T (z2y d m n S) S.length i
      · have hs : ¬ sbN (z3h d m n S) q i = true := fun hh => (hse h).1 hh hc
        rw [if_pos (by rw [hc]), hfin _ (by rw [if_neg hs])]
      · have hs := (hse h).2 hc
        have hqi : q ≠ i := fun e => by subst e; exact hc rfl
        rw [if_neg (by omega), z2S hi, Option.bind_some, z2S hq, Option.bind_some, if_pos rfl, if_neg hqi, hlow q hq hs, z1M (by unfold z8i; omega), Int.toNat_natCast]
        have hset : ∀ v : Nat, ((List.range S.length).map fun j => (((if j = i then z7j (fun j => if sbN (z3h d m n S) j i = true then z8i d m n S j + 1 else 0) q else H j) : Nat) : Int)).set i (v : Int) = (List.range S.length).map fun j => (((if j = i then v else H j) : Nat) : Int) := fun v => by
          apply List.ext_getElem (by simp)
          intro j h1 h2
          simp only [List.getElem_set, List.getElem_map, List.getElem_range]
          by_cases e : i = j
          · subst e; rw [if_pos rfl, if_pos rfl]
          · rw [if_neg e, if_neg (fun hh => e hh.symm), if_neg (fun hh => e hh.symm)]
        by_cases hlt : ((z7j (fun j => if sbN (z3h d m n S) j i = true then z8i d m n S j + 1 else 0) q : Nat) : Int) < ((z8i d m n S q + 1 : Nat) : Int)
        · rw [if_pos hlt, hset, hfin _ (by rw [if_pos hs]; omega)]
        · rw [if_neg hlt, hset, hfin _ (by rw [if_pos hs]; omega)]
    · have hs : ¬ sbN (z3h d m n S) q i = true := fun hh => by simp only [sbN, Bool.and_eq_true] at hh; exact h hh.1
      rw [if_neg h, hfin _ (by rw [if_neg hs])]
  · simp only [z1Y]
    rw [ed, if_neg (by rw [z0q]; omega)]
theorem zmQ {d : DFA} {m n : Nat} (hd : DfaOk d m n) (hn : n <= 7) {S : List Nat} (hS : SetsP d m n S) : z2z (dgm d m n S) (zn4 d m n S) = some (zrr d m n S) := by
  have h128 : 2 ^ n <= 128 := Nat.pow_le_pow_right (n := 2) (by omega) hn
  have hSl := z1j hS.nd hS.lt
  have hb := zlm hd hS
  have he := zbh hd hS
  have ed : (dgm d m n S).sets = toI S := rfl
  unfold z2z
  rw [ed, z0q, z1q _ (by unfold z2g; omega), Int.toNat_natCast]
  have f1 : List.replicate S.length (0 : Int) = z1I S.length (fun i => ((zeY S.length (z3h d m n S) i : Nat) : Int)) 0 0 := (z7i _ _ _).symm
  have f2 : (List.replicate S.length (0 : Int)) = z1I S.length (fun i => ((i : Nat) : Int)) 0 0 := (z7i _ _ _).symm
  conv => lhs; arg 3; rw [show ((0 : Int), List.replicate S.length (0 : Int), List.replicate S.length (0 : Int)) = ((0 : Int), z1I S.length (fun i => ((zeY S.length (z3h d m n S) i : Nat) : Int)) 0 0, z1I S.length (fun i => ((i : Nat) : Int)) 0 0) by rw [← f1, ← f2]]
  refine z1G (s := ((0 : Int), z1I S.length (fun i => ((zeY S.length (z3h d m n S) i : Nat) : Int)) 0 0, z1I S.length (fun i => ((i : Nat) : Int)) 0 0)) S.length (fun k => ((k : Int), z1I S.length (fun i => ((zeY S.length (z3h d m n S) i : Nat) : Int)) 0 k, z1I S.length (fun i => ((i : Nat) : Int)) 0 k)) rfl (by simp only [LFm]; omega) (fun i hi => ?_) ?_
  · simp only [z2E]
    rw [ed, if_pos (by rw [z0q]; omega), z5z hi, Option.bind_some, zmB (by omega) hi [] _ _ (z9U _ _ _ _) (by simp [z1I, List.getD, hi])]
    have e1 := z3P (f := fun i => ((zeY S.length (z3h d m n S) i : Nat) : Int)) (z := 0) hi
    have e2 := z3P (f := fun i => ((i : Nat) : Int)) (z := 0) hi
    rw [e1, e2]
  · simp only [z2E]
    rw [ed, if_neg (by rw [z0q]; omega), z7h, z7h]
    have hK : ((List.range S.length).map fun i => ((zeY S.length (z3h d m n S) i : Nat) : Int)).length = S.length := by simp
    have hv : zgZ ((List.range S.length).map fun i => ((zeY S.length (z3h d m n S) i : Nat) : Int)) (toI (List.range S.length)) := fun x hx => by
      simp only [toI, List.mem_map, List.mem_range] at hx
      obtain ⟨i, hi, rfl⟩ := hx
      exact ⟨by omega, by rw [hK]; omega⟩
    obtain ⟨O, hO, hs, hp⟩ := znN hv (by rw [z0q, List.length_range]; omega)
    rw [← znD, hO, Option.bind_some, z0q, z1q _ (by unfold z2g; omega), Int.toNat_natCast]
    have hOl : O.length = S.length := by rw [hp.length_eq, z0q, List.length_range]
    have hOn : O.Nodup := hp.nodup_iff.2 (by
      unfold toI
      exact List.Pairwise.map _ (fun a b h e => h (by omega)) List.nodup_range)
    have hmem : ∀ x, x ∈ O ↔ ∃ i, i < S.length /\ x = (i : Int) := fun x => by
      rw [hp.mem_iff]; simp only [toI, List.mem_map, List.mem_range]
      constructor
      · rintro ⟨i, hi, rfl⟩; exact ⟨i, hi, rfl⟩
      · rintro ⟨i, hi, rfl⟩; exact ⟨i, hi, rfl⟩
    have hkv : ∀ i, i < S.length -> kv ((List.range S.length).map fun i => ((zeY S.length (z3h d m n S) i : Nat) : Int)) (i : Int) = ((zeY S.length (z3h d m n S) i : Nat) : Int) := fun i hi => by
      simp [kv, List.getD, hi]
    congr 1
    have f3 : List.replicate S.length (0 : Int) = (List.range S.length).map fun (j : Nat) => (((if (j : Int) ∈ O.take 0 then z8i d m n S j else 0) : Nat) : Int) := by
      apply List.ext_getElem (by simp); intro i h1 h2; simp
    rw [f3]
    refine z1G (s := ((0 : Int), (List.range S.length).map fun (j : Nat) => (((if (j : Int) ∈ O.take 0 then z8i d m n S j else 0) : Nat) : Int))) S.length (fun k => ((k : Int), (List.range S.length).map fun (j : Nat) => (((if (j : Int) ∈ O.take k then z8i d m n S j else 0) : Nat) : Int))) rfl (by simp only [LFm]; omega) (fun k hk => ?_) ?_
    · have hkO : k < O.length := by omega
      obtain ⟨i, hi, hOk⟩ := (hmem O[k]).1 (List.getElem_mem hkO)
      have hnot : (i : Int) ∉ O.take k := fun h => by
        obtain ⟨j, hj, hji⟩ := List.getElem_of_mem h
        rw [List.length_take] at hj
        rw [List.getElem_take, ← hOk] at hji
        have := (List.getElem_inj hOn).1 hji
        omega
      have htake : ∀ j : Nat, (j : Int) ∈ O.take (k + 1) ↔ (j = i ∨ (j : Int) ∈ O.take k) := fun j => by
        rw [List.take_succ_eq_append_getElem hkO, List.mem_append, List.mem_singleton, hOk]
        constructor
        · rintro (h | h)
          · exact .inr h
          · exact .inl (by omega)
        · rintro (h | h)
          · exact .inr (by omega)
          · exact .inl h
      have hupd : ((List.range S.length).map fun (j : Nat) => (((if j = i then z8i d m n S i else if (j : Int) ∈ O.take k then z8i d m n S j else 0) : Nat) : Int)) = (List.range S.length).map fun (j : Nat) => (((if (j : Int) ∈ O.take (k + 1) then z8i d m n S j else 0) : Nat) : Int) := by
        refine List.map_congr_left fun j hj => ?_
        by_cases e : j = i
        · subst e; rw [if_pos rfl, if_pos ((htake j).2 (.inl rfl))]
        · rw [if_neg e]
          by_cases h : (j : Int) ∈ O.take k
          · rw [if_pos h, if_pos ((htake j).2 (.inr h))]
          · rw [if_neg h, if_neg (fun hh => ((htake j).1 hh).elim e h)]
      have hlt128 : S.getD i 0 < 2 ^ n := hS.lt _ (z1u hi)
      simp only [z2x]
      rw [if_pos (by omega), z2w hkO, Option.bind_some, hOk, ed, z2v hi, Option.bind_some, znR (by omega), Option.bind_some]
      have hok := zkR hb (z9n S) i hi
      by_cases hz : szN (S.getD i 0) = 1
      · rw [if_pos (by omega), z1M (by omega)]
        have hh : z8i d m n S i = 0 := by
          unfold z8i; rw [hok, if_pos (by simp only [z9n, hz, decide_true])]
        refine congrArg z0B (Prod.ext rfl ?_)
        refine List.map_congr_left fun j hj => ?_
        by_cases e : j = i
        · subst e; rw [if_neg hnot, if_pos ((htake j).2 (.inl rfl)), hh]
        · by_cases h : (j : Int) ∈ O.take k
          · rw [if_pos h, if_pos ((htake j).2 (.inr h))]
          · rw [if_neg h, if_neg (fun hh => ((htake j).1 hh).elim e h)]
      · rw [if_neg (by omega), zoF hd hS (by omega) (k : Int) hi (H := fun (j : Nat) => if (j : Int) ∈ O.take k then z8i d m n S j else 0) (if_neg hnot) (fun j hj hsb => ?_), z1M (by omega)]
        · have hh : z7j (fun j => if sbN (z3h d m n S) j i = true then z8i d m n S j + 1 else 0) S.length = z8i d m n S i := by
            have : z8i d m n S i = _ := hok
            rw [this, if_neg (by simp only [z9n, hz, decide_false]; simp)]; rfl
          rw [hh, hupd]
        · have hl := zkJ hb hi hj hsb
          have hjO : (j : Int) ∈ O := (hmem _).2 ⟨j, hj, rfl⟩
          obtain ⟨p, hpO, hpj⟩ := List.getElem_of_mem hjO
          refine if_pos ?_
          rcases Nat.lt_trichotomy p k with h | h | h
          · rw [← hpj]
            exact List.mem_take_iff_getElem.2 ⟨p, by omega, rfl⟩
          · subst h
            rw [hOk] at hpj
            have : i = j := by omega
            subst this; omega
          · have := List.pairwise_iff_getElem.1 hs k p hkO hpO h
            rw [hOk, hpj, hkv i hi, hkv j hj] at this
            omega
    · simp only [z2x]
      rw [if_neg (by omega)]
      congr 2
      unfold zrr
      refine List.map_congr_left fun j hj => ?_
      rw [List.take_of_length_le (by omega), if_pos ((hmem _).2 ⟨j, List.mem_range.1 hj, rfl⟩)]
end Go.Proofs.Ytbnnipkanechoaa
end
section
namespace Go.Proofs.Ytbnnipkanechoaa
open Go
set_option maxRecDepth 100000
def zcN (S : List Nat) (i j : Nat) : Bool := !decide (j = i) && decide (S.getD j 0 &&& S.getD i 0 = S.getD j 0)
def zeQ (S : List Nat) (i : Nat) : List Nat := (List.range S.length).filter (zcN S i)
def zeT (S : List Nat) (i j : Nat) : Bool := (zeQ S i).all fun k => decide (k = j) || !decide (S.getD j 0 &&& S.getD k 0 = S.getD j 0)
def zcA (S : List Nat) (i : Nat) : List Nat := if szN (S.getD i 0) = 1 then [] else (zeQ S i).filter (zeT S i)
theorem zeA {α : Type} {p : α -> Bool} {l : List α} {k : Nat} (h : k < l.length) : (l.take (k + 1)).filter p = (l.take k).filter p ++ (if p l[k] = true then [l[k]] else []) := by
  rw [List.take_succ_eq_append_getElem h, List.filter_append, List.filter_cons, List.filter_nil]
theorem zoB {S : List Nat} {i j : Nat} (h : j ∈ zeQ S i) : j < S.length := List.mem_range.1 (List.mem_filter.1 h).1
theorem zcp {α : Type} (p : α -> Bool) (l : List α) : (l.filter p).length <= l.length := List.length_filter_le p l
theorem zpx {d : DFA} {m n : Nat} (hn : n <= 7) {S : List Nat} (hS : SetsP d m n S) {i : Nat} (hi : i < S.length) : z2X (dgm d m n S) (i : Int) = some (toI (zcA S i)) := by
  have h128 : 2 ^ n <= 128 := Nat.pow_le_pow_right (n := 2) (by omega) hn
  have hSl := z1j hS.nd hS.lt
  have ed : (dgm d m n S).sets = toI S := rfl
  have lt62 : ∀ j, j < S.length -> S.getD j 0 < 2 ^ 62 := fun j hj => by have := hS.lt _ (z1u hj); omega
  have hil := hS.lt _ (z1u hi)
  unfold z2X zcA
  rw [ed, z2v hi, Option.bind_some, znR (by omega), Option.bind_some]
  by_cases hz : szN (S.getD i 0) = 1
  · rw [if_pos (by omega), if_pos hz]; rfl
  rw [if_neg (by omega), if_neg hz]
  have hrl : (List.range S.length).length = S.length := List.length_range
  refine z1G (s := ((0 : Int), ([] : List Int))) S.length (fun j => ((j : Int), toI (((List.range S.length).take j).filter (zcN S i)))) rfl (by simp only [LFm]; omega) (fun j hj => ?_) ?_
  · have hfl : (((List.range S.length).take j).filter (zcN S i)).length <= j := Nat.le_trans (zcp _ _) (by rw [List.length_take]; omega)
    have hst := zeA (p := zcN S i) (l := List.range S.length) (k := j) (by omega)
    rw [List.getElem_range] at hst
    simp only [z2Y]
    rw [ed, if_pos (by rw [z0q]; omega), z2v hj, Option.bind_some, z1M (by omega), hst]
    by_cases e : j = i
    · have : zcN S i j = false := by unfold zcN; rw [decide_eq_true e]; rfl
      rw [if_pos (by omega), this, if_neg (by simp), List.append_nil]
    · rw [if_neg (by omega), z2v hi, Option.bind_some, z8E (lt62 i hi) (lt62 j hj), Option.bind_some]
      have : zcN S i j = decide (S.getD j 0 &&& S.getD i 0 = S.getD j 0) := by unfold zcN; rw [decide_eq_false e]; rfl
      rw [this]
      by_cases h : decide (S.getD j 0 &&& S.getD i 0 = S.getD j 0) = true
      · rw [if_pos h, if_pos h, z1q _ (by unfold z5B; rw [z0q]; omega), z6s]
      · rw [if_neg h, if_neg h, List.append_nil]
  · simp only [z2Y]
    rw [ed, if_neg (by rw [z0q]; omega), List.take_of_length_le (by omega)]
    congr 1
    have hil : (zeQ S i).length <= S.length := Nat.le_trans (zcp _ _) (by omega)
    show z0Z (z2n (dgm d m n S) (toI (zeQ S i))) LFm (0, []) = _
    refine z1G (s := ((0 : Int), ([] : List Int))) (zeQ S i).length (fun q => ((q : Int), toI (((zeQ S i).take q).filter (zeT S i)))) rfl (by simp only [LFm]; omega) (fun q hq => ?_) ?_
    · have hfl : (((zeQ S i).take q).filter (zeT S i)).length <= q := Nat.le_trans (zcp _ _) (by rw [List.length_take]; omega)
      have hst := zeA (p := zeT S i) (l := zeQ S i) (k := q) hq
      have hg : (zeQ S i).getD q 0 = (zeQ S i)[q] := by rw [List.getD, List.getElem?_eq_getElem hq, Option.getD_some]
      have hjl : (zeQ S i)[q] < S.length := zoB (List.getElem_mem hq)
      simp only [z2n]
      rw [if_pos (by rw [z0q]; omega), z2v hq, Option.bind_some, hg, hst]
      generalize (zeQ S i)[q] = j at hjl
      rw [z6j (s := (0 : Int)) (zeQ S i).length (fun k => (k : Int)) (fun k => !(decide ((zeQ S i).getD k 0 = j) || !decide (S.getD j 0 &&& S.getD ((zeQ S i).getD k 0) 0 = S.getD j 0))) (fun _ => z0B (((q + 1 : Nat) : Int), toI (((zeQ S i).take q).filter (zeT S i)))) (x := z0B (((q + 1 : Nat) : Int), toI (((zeQ S i).take q).filter (zeT S i)) ++ [(j : Int)])) rfl (by simp only [LFm]; omega)]
      · rw [zgK]
        simp only [Bool.not_not]
        rw [zeb (fun k => decide (k = j) || !decide (S.getD j 0 &&& S.getD k 0 = S.getD j 0))]
        show (if zeT S i j = true then _ else _) = _
        by_cases h : zeT S i j = true
        · rw [if_pos h, if_pos h, z6s]
        · rw [if_neg h, if_neg h, List.append_nil]
      · intro k hk
        have hkl : (zeQ S i).getD k 0 < S.length := zoB (z1u hk)
        simp only [z2T]
        rw [if_pos (by rw [z0q]; omega), z2v hk, Option.bind_some]
        by_cases e : (zeQ S i).getD k 0 = j
        · rw [if_pos (by omega), decide_eq_true e, z1M (by omega)]; rfl
        · rw [if_neg (by omega), decide_eq_false e, ed, z2v hkl, Option.bind_some, z2v hjl, Option.bind_some, z8E (lt62 _ hkl) (lt62 _ hjl), Option.bind_some, Bool.false_or, Bool.not_not, z1M (by omega), z1M (by omega)]
      · simp only [z2T]
        rw [if_neg (by rw [z0q]; omega), z1q _ (by unfold z5B; rw [z0q]; omega), z1M (by omega)]
    · simp only [z2n]
      rw [if_neg (by rw [z0q]; omega), List.take_length]
def z5p (d : DFA) (m n : Nat) (S : List Nat) (i : Nat) : Nat := (zjW d m n S).getD (z6T (z2y d m n S) S.length i) 0
def zf6 (d : DFA) (m n : Nat) (S : List Nat) (i : Nat) : ByteArray := z7T (z1d d m n (S.getD (z5p d m n S i) 0)) (S.getD i 0)
def zka (d : DFA) (m n : Nat) (S : List Nat) (i : Nat) : ByteArray := z7T (z1d d m n (S.getD i 0)) (S.getD (z5p d m n S i) 0)
def zcO (d : DFA) (m n : Nat) (S : List Nat) : Imgs := ⟨toI S, zn4 d m n S, zrr d m n S, (List.range S.length).map fun i => toI (zcA S i), (List.range S.length).map (zf6 d m n S), (List.range S.length).map (zka d m n S)⟩
theorem zoN {d : DFA} {m n : Nat} {S : List Nat} {c : Nat} (hc : c < (zjW d m n S).length) : (zjW d m n S).getD c 0 < S.length := zbf _ _ _ (z1u hc)
theorem zj5 {d : DFA} {m n : Nat} (hd : DfaOk d m n) {S : List Nat} (hS : SetsP d m n S) (hSl : S.length < 100000) {c : Nat} (hc : c < (zjW d m n S).length) (q : List Int) :
    z0Z (z5j (toI S) (zn4 d m n S, toI (zjW d m n S)) (c : Int) (q, zh3 S (z1d d m n (S.getD ((zjW d m n S).getD c 0) 0)))) LFm (0, (List.range S.length).map fun j => if z6T (z2y d m n S) S.length j < c then zf6 d m n S j else ByteArray.empty) =
      z0B (((c + 1 : Nat) : Int), (List.range S.length).map fun j => if z6T (z2y d m n S) S.length j < c + 1 then zf6 d m n S j else ByteArray.empty) := by
  have hcl : (zjW d m n S).length <= S.length := zes _ _
  refine z1G (s := ((0 : Int), (List.range S.length).map fun j => if z6T (z2y d m n S) S.length j < c then zf6 d m n S j else ByteArray.empty)) S.length (fun k => ((k : Int), (List.range S.length).map fun j => if z6T (z2y d m n S) S.length j < c ∨ (z6T (z2y d m n S) S.length j = c /\ j < k) then zf6 d m n S j else ByteArray.empty)) ?_ (by simp only [LFm]; omega) (fun k hk => ?_) ?_
  · refine Prod.ext rfl (List.map_congr_left fun j hj => ?_)
    simp
  · simp only [z5j]
    rw [if_pos (by rw [z0q]; omega), zn4, z2S hk, Option.bind_some, z1M (by omega)]
    by_cases h : z6T (z2y d m n S) S.length k = c
    · have hw : z7T (z1d d m n (S.getD ((zjW d m n S).getD c 0) 0)) (S.getD k 0) = zf6 d m n S k := by unfold zf6 z5p; rw [h]
      rw [if_pos (by omega), zh3, z2S hk, Option.bind_some, hw, z2S hk, Option.bind_some, Int.toNat_natCast]
      refine congrArg z0B (Prod.ext rfl ?_)
      apply List.ext_getElem (by simp)
      intro j h1 h2
      simp only [List.getElem_set, List.getElem_map, List.getElem_range]
      by_cases e : k = j
      · subst e; rw [if_pos rfl, if_pos (.inr ⟨h, by omega⟩)]
      · rw [if_neg e]
        congr 1
        refine propext ⟨fun hh => hh.imp id fun hh => ⟨hh.1, by omega⟩, fun hh => hh.imp id fun hh => ⟨hh.1, by omega⟩⟩
    · rw [if_neg (by omega)]
      refine congrArg z0B (Prod.ext rfl (List.map_congr_left fun j hj => ?_))
      congr 1
      refine propext ⟨fun hh => hh.imp id fun hh => ⟨hh.1, by omega⟩, fun hh => hh.imp id fun hh => ⟨hh.1, ?_⟩⟩
      have : j ≠ k := fun e => h (e ▸ hh.1)
      omega
  · simp only [z5j]
    rw [if_neg (by rw [z0q]; omega), z1M (by omega)]
    congr 3
    refine List.map_congr_left fun j hj => ?_
    have hj := List.mem_range.1 hj
    congr 1
    refine propext ⟨fun hh => ?_, fun hh => ?_⟩
    · rcases hh with hh | hh <;> omega
    · by_cases e : z6T (z2y d m n S) S.length j = c
      · exact .inr ⟨e, hj⟩
      · exact .inl (by omega)
theorem zsK {d : DFA} {m n : Nat} (hd : DfaOk d m n) (hn : n <= 7) : z4j d = some (zcO d m n (ze1 d m n), 0) := by
  have h128 : 2 ^ n <= 128 := Nat.pow_le_pow_right (n := 2) (by omega) hn
  have hS := zjz hd
  have hSl := z1j hS.nd hS.lt
  have he := zbh hd hS
  unfold z4j
  rw [z5s (zga hd (by omega)), zg2 hd (by omega), Option.bind_some, if_pos rfl, zri hd hn, Option.bind_some]
  generalize ze1 d m n = S at hS hSl he
  have hcl : (zjW d m n S).length <= S.length := zes _ _
  rw [if_neg (by rw [z0q]; omega), zmZ hd (by omega) hS, Option.bind_some, zn5 hd (by omega) hS, Option.bind_some]
  simp only
  rw [zmQ hd hn hS, Option.bind_some, z0q, z1q _ (by unfold z2g; omega), z1q _ (by unfold z2g; omega), Int.toNat_natCast]
  have f1 : List.replicate S.length ([] : List Int) = z1I S.length (fun i => toI (zcA S i)) [] 0 := (z7i _ _ _).symm
  have f2 : List.replicate S.length (ByteArray.empty : ByteArray) = z1I S.length (zka d m n S) ByteArray.empty 0 := (z7i _ _ _).symm
  rw [f1, f2]
  refine z1G (s := ((0 : Int), z1I S.length (fun i => toI (zcA S i)) [] 0, z1I S.length (zka d m n S) ByteArray.empty 0)) S.length (fun k => ((k : Int), z1I S.length (fun i => toI (zcA S i)) [] k, z1I S.length (zka d m n S) ByteArray.empty k)) rfl (by simp only [LFm]; omega) (fun k hk => ?_) ?_
  · obtain ⟨c1, c2⟩ := zeD he hk
    have c1 : z6T (z2y d m n S) S.length k < (zjW d m n S).length := c1
    have hf : (zjW d m n S).getD (z6T (z2y d m n S) S.length k) 0 < S.length := zoN c1
    simp only [z6L]
    rw [if_pos (by rw [z0q]; omega), zpx hn hS hk, Option.bind_some, z5z hk, Option.bind_some, show dgm d m n S = ⟨toI S, zrL d m S, zql d m n S⟩ from rfl, ze4 hd (by omega) hS _ hk, Option.bind_some, zn4, z2S hk, Option.bind_some, z2v c1, Option.bind_some, show (zeX S (z1d d m n (S.getD k 0)), zh3 S (z1d d m n (S.getD k 0))).2 = zh3 S (z1d d m n (S.getD k 0)) from rfl, zh3, z2S hf, Option.bind_some, z5z hk, Option.bind_some, z1M (by omega), Int.toNat_natCast]
    have e1 := z3P (f := fun i => toI (zcA S i)) (z := []) hk
    have e2 := z3P (f := zka d m n S) (z := ByteArray.empty) hk
    have e3 : z7T (z1d d m n (S.getD k 0)) (S.getD ((zjW d m n S).getD (z6T (z2y d m n S) S.length k) 0) 0) = zka d m n S k := rfl
    rw [e1, e3, e2]
  · simp only [z6L]
    rw [if_neg (by rw [z0q]; omega), z0q, z7h, z7h, Int.toNat_natCast]
    congr 1
    have f3 : List.replicate S.length (ByteArray.empty : ByteArray) = (List.range S.length).map fun j => if z6T (z2y d m n S) S.length j < 0 then zf6 d m n S j else ByteArray.empty := by
      apply List.ext_getElem (by simp); intro i h1 h2; simp
    rw [f3]
    refine z1G (s := ((0 : Int), (List.range S.length).map fun j => if z6T (z2y d m n S) S.length j < 0 then zf6 d m n S j else ByteArray.empty)) (zjW d m n S).length (fun c => ((c : Int), (List.range S.length).map fun j => if z6T (z2y d m n S) S.length j < c then zf6 d m n S j else ByteArray.empty)) rfl (by simp only [LFm]; omega) (fun c hc => ?_) ?_
    · have hf := zoN hc
      simp only [z6K]
      rw [if_pos (by rw [z0q]; omega), z2v hc, Option.bind_some, show dgm d m n S = ⟨toI S, zrL d m S, zql d m n S⟩ from rfl, ze4 hd (by omega) hS _ hf, Option.bind_some, zj5 hd hS (by omega) hc]
    · simp only [z6K]
      rw [if_neg (by rw [z0q]; omega)]
      have : ((List.range S.length).map fun j => if z6T (z2y d m n S) S.length j < (zjW d m n S).length then zf6 d m n S j else ByteArray.empty) = (List.range S.length).map (zf6 d m n S) := List.map_congr_left fun j hj => if_pos (zeD he (List.mem_range.1 hj)).1
      rw [this]; rfl
end Go.Proofs.Ytbnnipkanechoaa
end
section
namespace Go.Proofs.Ytbnnipkanechoaa
open Go
set_option maxRecDepth 100000
theorem zhU (s : Nat) : szN s = z7k (fun q => s.testBit q) 7 := by
  simp only [szN, z7k, List.range, List.range.loop, List.countP_cons, List.countP_nil]
  omega
theorem zxY {s : Nat} (h : s < 128) {q : Nat} (hq : s.testBit q = true) : q < 7 := by
  rcases Nat.lt_or_ge q 7 with h' | h'
  · exact h'
  · have : s.testBit q = false := Nat.testBit_lt_two_pow (Nat.lt_of_lt_of_le h (Nat.pow_le_pow_right (n := 2) (by omega) h'))
    rw [this] at hq; cases hq
theorem znI {a b : Nat} (h : zh0 a b) : szN a <= szN b := by
  rw [zhU, zhU]; exact zlg fun q _ hq => z5E.1 h q hq
theorem zt7 {a b : Nat} (hb : b < 128) (h : zh0 a b) (hne : a ≠ b) : szN a < szN b := by
  have : ∃ q, b.testBit q = true /\ a.testBit q = false := by
    refine Classical.byContradiction fun hn => hne (zhW h (z5E.2 fun q hq => ?_))
    cases ha : a.testBit q with
    | true => rfl
    | false => exact absurd ⟨q, hq, ha⟩ hn
  obtain ⟨q, h1, h2⟩ := this
  rw [zhU, zhU]
  exact zgb (fun q _ hq => z5E.1 h q hq) (zxY hb h1) h2 h1
theorem zt8 {a b : Nat} (hb : b < 128) (h : zh0 a b) (he : szN b <= szN a) : a = b := by
  refine Classical.byContradiction fun hne => ?_
  have := zt7 hb h hne
  omega
theorem znH {x p : Nat} (hx : x < 128) (hp : p < 7) : szN (x ||| 2 ^ p) <= szN x + 1 := by
  revert p; revert x; decide +kernel
abbrev zsq (m : Nat) (w : List UInt8) : Prop := ∀ c ∈ w, 97 <= c.toNat /\ c.toNat < 97 + m
theorem zoo {m : Nat} {c : UInt8} {w : List UInt8} (h : zsq m (c :: w)) : zsq m w /\ c.toNat - 97 < m := ⟨fun c' hc' => h c' (List.mem_cons_of_mem _ hc'), by have := h c (List.mem_cons_self ..); omega⟩
theorem ztd {d : DFA} {m n : Nat} (hd : DfaOk d m n) (hn : n <= 7) {s a : Nat} (hs : s < 2 ^ n) (ha : a < m) : szN (mvN d s a) <= szN s := by
  have h128 : 2 ^ n <= 128 := Nat.pow_le_pow_right (n := 2) (by omega) hn
  have key : ∀ q, q <= n -> szN (zij d.next s a q) <= z7k (fun q => s.testBit q) q := by
    intro q
    induction q with
    | zero => intro _; exact (by decide : szN 0 <= 0)
    | succ q ih =>
      intro hq
      have hlt := zee hd (s := s) ha q (by omega)
      obtain ⟨h1, h2, e, h3, h4⟩ := ze6 hd (q := q) (by omega) ha
      simp only [zij, z7k]
      by_cases hb : s.testBit q = true
      · rw [if_pos hb, if_pos hb]
        have := znH (x := zij d.next s a q) (p := ((d.next.getD q []).getD a 0).toNat) (by omega) (by rw [e]; omega)
        have := ih (by omega)
        omega
      · rw [if_neg hb, if_neg hb]
        have := ih (by omega)
        omega
  have h1 := key n (Nat.le_refl _)
  have h2 : z7k (fun q => s.testBit q) n <= szN s := by
    rw [zhU]
    have : ∀ j, z7k (fun q => s.testBit q) n <= z7k (fun q => s.testBit q) (n + j) := by
      intro j
      induction j with
      | zero => exact Nat.le_refl _
      | succ j ih => rw [← Nat.add_assoc]; simp only [z7k]; omega
    have := this (7 - n)
    rwa [show n + (7 - n) = 7 by omega] at this
  unfold mvN
  rw [hd.nl]
  omega
theorem zjA {d : DFA} {m n : Nat} (hd : DfaOk d m n) (hn : n <= 7) : ∀ {w : List UInt8} {s : Nat}, s < 2 ^ n -> zsq m w -> szN (zeO d s w) <= szN s
  | [], s, _, _ => Nat.le_refl _
  | c :: w, s, hs, hw => by
    obtain ⟨h1, h2⟩ := zoo hw
    simp only [zeO]
    exact Nat.le_trans (zjA hd hn (zg1 hd h2) h1) (ztd hd hn hs h2)
theorem zsj {d : DFA} {m n : Nat} (hd : DfaOk d m n) {s a : Nat} (hs : s < 2 ^ n) (h0 : s ≠ 0) (ha : a < m) : mvN d s a ≠ 0 := by
  obtain ⟨q, hq⟩ : ∃ q, s.testBit q = true := Nat.exists_testBit_of_ne_zero h0
  have hqn : q < n := by
    rcases Nat.lt_or_ge q n with h' | h'
    · exact h'
    · have : s.testBit q = false := Nat.testBit_lt_two_pow (Nat.lt_of_lt_of_le hs (Nat.pow_le_pow_right (n := 2) (by omega) h'))
      rw [this] at hq; cases hq
  intro h
  have := (zgx hd ha (s := s) ((d.next.getD q []).getD a 0).toNat).2 ⟨q, hqn, hq, rfl⟩
  rw [h, Nat.zero_testBit] at this
  cases this
theorem zpD {d : DFA} {m n : Nat} (hd : DfaOk d m n) {x : Nat} (hx : x ∈ ze1 d m n) : x ≠ 0 := by
  have hp := Nat.two_pow_pos n
  have h2n : 2 <= 2 ^ n := by have := Nat.pow_le_pow_right (n := 2) (by omega) hd.n1; omega
  have hf : 2 ^ n - 1 < 2 ^ n := by omega
  have hi := z3S hd hf
  obtain ⟨_, h2, _⟩ := z5D hi.nd n
  have hpm := z9N (z7R (z1d d m n (2 ^ n - 1)).1 n)
  rcases (h2 x).1 (hpm.mem_iff.1 hx) with h | ⟨i, _, rfl⟩
  · obtain ⟨i, hil, rfl⟩ := List.getElem_of_mem h
    obtain ⟨_, o2, o3⟩ := hi.ok i hil
    rw [List.getD, List.getD, List.getElem?_eq_getElem hil, Option.getD_some] at o3
    rw [← o3]
    have : ∀ {w : List UInt8} {s : Nat}, s < 2 ^ n -> s ≠ 0 -> zsq m w -> zeO d s w ≠ 0 := by
      intro w
      induction w with
      | nil => intro s _ h0 _; exact h0
      | cons c w ih =>
        intro s hs h0 hw
        obtain ⟨q1, q2⟩ := zoo hw
        exact ih (zg1 hd q2) (zsj hd hs h0 q2) q1
    exact this hf (by omega) o2
  · exact Nat.ne_of_gt (Nat.two_pow_pos i)
theorem znG {S : List Nat} {i j : Nat} (hz : szN (S.getD i 0) ≠ 1) : j ∈ zcA S i ↔ j ∈ zeQ S i /\ zeT S i j = true := by
  unfold zcA
  rw [if_neg hz, List.mem_filter]
theorem zqU {S : List Nat} {i j : Nat} (h : j ∈ zcA S i) : j ∈ zeQ S i /\ zeT S i j = true /\ szN (S.getD i 0) ≠ 1 := by
  by_cases hz : szN (S.getD i 0) = 1
  · unfold zcA at h; rw [if_pos hz] at h; simp at h
  · exact ⟨((znG hz).1 h).1, ((znG hz).1 h).2, hz⟩
theorem znF (S : List Nat) (i : Nat) : (zcA S i).Nodup := by
  unfold zcA
  split
  · simp
  · exact List.Pairwise.filter _ (List.Pairwise.filter _ List.nodup_range)
end Go.Proofs.Ytbnnipkanechoaa
end
section
namespace Go.Proofs.Ytbnnipkanechoaa
open Go
set_option maxRecDepth 100000
structure Lead (d : DFA) (m n K I : Nat) (w : List UInt8) : Prop where
  hw : zsq m w
  hK : K < 2 ^ n
  hI : I < 2 ^ n
  run : zeO d K w = I
  sz : szN I = szN K
section
variable {d : DFA} {m n : Nat} {S : List Nat} (hd : DfaOk d m n) (hn : n <= 7) (hS : SetsP d m n S)
include hd hn hS
theorem zla {k i : Nat} (hk : k < S.length) (hi : i < S.length) (he : z2y d m n S i k = true) : szN (S.getD i 0) = szN (S.getD k 0) /\ S.getD i 0 ∈ (z1d d m n (S.getD k 0)).1 := by
  have h128 : 2 ^ n <= 128 := Nat.pow_le_pow_right (n := 2) (by omega) hn
  simp only [z2y, Bool.and_eq_true] at he
  obtain ⟨w, w1, w2⟩ := (z4w hd hS hk).1 he.1
  obtain ⟨v, v1, v2⟩ := (z4w hd hS hi).1 he.2
  have hkl := hS.lt _ (z1u hk)
  have hil := hS.lt _ (z1u hi)
  have a1 := znI w2
  have a2 := zjA hd hn hkl w1
  have a3 := znI v2
  have a4 := zjA hd hn hil v1
  refine ⟨by omega, ?_⟩
  have hrl := zgr hd hkl w1
  have := zt8 (by omega) w2 (by omega)
  rw [this]
  exact ze9 hd hkl w1 (zcj hd hkl)
end
end Go.Proofs.Ytbnnipkanechoaa
end
section
namespace Go.Proofs.Ytbnnipkanechoaa
open Go
noncomputable section
set_option maxRecDepth 100000
set_option maxHeartbeats 1000000
def z5Q (a0 : Int) (a1 : Int) : Option (Bool) :=
  (z4q a0).bind fun v5 =>
  (z4q a1).bind fun v6 =>
  if v5 = v6 then
    some (decide (a0 < a1))
  else
    (z4q a0).bind fun v7 =>
    (z4q a1).bind fun v8 =>
    some (decide (v8 < v7))
theorem ze7 {a0 : Int} {a1 : Int} {r : Bool} (h0 : z5Q a0 a1 = some r) : L 72 [.sc (.int .i64 a0), .sc (.int .i64 a1)] = some (.sc (.bool r), [.dead, .dead]) := by
  simp only [z5Q] at h0
  refine z2B zuR zwg (z1v zy8 ⟨of_decide_eq_true rfl, of_decide_eq_true rfl⟩ ?_)
  simp only [z1D, z1A, z1z, z1F, z3d]
  refine zq rfl (zr rfl rfl rfl (by simp; rfl) ?_)
  refine z0a (zq rfl (zq rfl ?_))
  obtain ⟨v5, f6, h1⟩ := z0b h0
  have f6k := z4p f6
  try simp at f6k
  obtain ⟨v6, f7, h2⟩ := z0b h1
  have f7k := z4p f7
  try simp at f7k
  refine zr rfl rfl rfl (by simp [f6k, f7k]; rfl) ?_
  refine z0a ?_
  by_cases c8 : v5 = v6
  ·rw [if_pos c8] at h2
   have c8e := eq_true c8
   refine z0l rfl (by simp [c8e]) (z0e rfl (z0a (zq rfl (zr rfl rfl rfl (by simp; rfl) ?_))))
   refine z0a (z0F rfl ?_)
   cases h2
   simp
  ·rw [if_neg c8] at h2
   have c8e := eq_false c8
   refine z0n rfl (by simp [c8e]) (zq rfl ?_)
   obtain ⟨v7, f9, h3⟩ := z0b h2
   have f9k := z4p f9
   try simp at f9k
   obtain ⟨v8, f10, h4⟩ := z0b h3
   have f10k := z4p f10
   try simp at f10k
   refine zr rfl rfl rfl (by simp [f9k, f10k]; rfl) ?_
   refine z0a (z0F rfl (z0p ?_))
   cases h4
   simp
def z6y (w98 : Int) (w99 : List Int) : Bool × Int -> Option ((Bool × Int) ⊕ ((Int × List Int) ⊕ List Int))
  | (w106, w107) =>
  if w107 < (w99.length : Int) then
    (atI w99 w107).bind fun v109 =>
    if w106 = true then
      z0B (true, IntKind.i64.wrap (w107 + 1))
    else
      z0B (decide (v109 = (zfW .i64 1 (IntKind.u64.wrap w98))), IntKind.i64.wrap (w107 + 1))
  else
    z1i <|
    if w106 = true then
      z0B (IntKind.i64.wrap (w98 + 1), w99)
    else
      chk (z5B 8 (w99.length + 1)) <|
      z0B (IntKind.i64.wrap (w98 + 1), w99 ++ [zfW .i64 1 (IntKind.u64.wrap w98)])
def z5b (a0 : DFA) (w98 : Int) (w99 : List Int) : Bool × Int -> Fr
  | (w106, w107) => ⟨92, [(3, .one (.h 3 [])), (6, .one (.t none (.sc (.int .i64 (zfW .i64 1 (IntKind.u64.wrap w98)))))), (7, .one (.t none (.sc (.bool w106)))), (22, .one (.t none (.sc (.int .i64 (a0.final.length : Int))))), (23, .one (.t none (.sc (.int .i64 w98)))), (29, .one (.h 3 [])), (30, .one (.t none (.sc (.int .i64 (w99.length : Int))))), (31, .one (.t none (.sc (.int .i64 w107))))], [(3, .os 1 w99.length (w99.map fun x0 => .sc (.int .i64 x0)))]⟩
def z4C (w133 : Int) : Int × List Int -> Option ((Int × List Int) ⊕ ((Int × List Int) ⊕ List Int))
  | (w165, w166) =>
  if 0 < w165 then
    (atI w166 w165).bind fun v174 =>
    (atI w166 (IntKind.i64.wrap (w165 - 1))).bind fun v175 =>
    (z5Q v174 v175).bind fun v176 =>
    if v176 = true then
      (atI (w166.set w165.toNat v175) (IntKind.i64.wrap (w165 - 1))).bind fun v180 =>
      z0B (IntKind.i64.wrap (w165 - 1), ((w166.set w165.toNat v175).set (IntKind.i64.wrap (w165 - 1)).toNat v174))
    else
      z1i <|
      z0B (IntKind.i64.wrap (w133 + 1), w166)
  else
    z1i <|
    z0B (IntKind.i64.wrap (w133 + 1), w166)
def z5I (w99 : List Int) (w133 : Int) : Int × List Int -> Fr
  | (w165, w166) => ⟨92, [(10, .one (.h 10 [])), (12, .one (.t none (.sc (.int .i64 w165)))), (53, .one (.t none (.sc (.int .i64 (w99.length : Int))))), (54, .one (.t none (.sc (.int .i64 w133))))], [(10, .os 1 w166.length (w166.map fun x0 => .sc (.int .i64 x0)))]⟩
def z4D (w99 : List Int) : Int × List Int -> Option ((Int × List Int) ⊕ List Int)
  | (w133, w134) =>
  if w133 < (w99.length : Int) then
    z0Z (z4C w133) LFm (w133, w134)
  else
    z1i <|
    some w134
def z4B (w99 : List Int) : Int × List Int -> Fr
  | (w133, w134) => ⟨92, [(10, .one (.h 10 [])), (53, .one (.t none (.sc (.int .i64 (w99.length : Int))))), (54, .one (.t none (.sc (.int .i64 w133))))], [(10, .os 1 w134.length (w134.map fun x0 => .sc (.int .i64 x0)))]⟩
def z6z (a0 : DFA) : Int × List Int -> Option ((Int × List Int) ⊕ List Int)
  | (w98, w99) =>
  if w98 < (a0.final.length : Int) then
    chk (¬ (IntKind.u64.wrap w98) < 0) <|
    z0Z (z6y w98 w99) LFm (false, 0)
  else
    z1i <|
    chk (z5B 8 (w99.length)) <|
    z0Z (z4D w99) LFm (0, w99)
def z5c (a0 : DFA) : Int × List Int -> Fr
  | (w98, w99) => ⟨92, [(3, .one (.h 3 [])), (22, .one (.t none (.sc (.int .i64 (a0.final.length : Int))))), (23, .one (.t none (.sc (.int .i64 w98))))], [(3, .os 1 w99.length (w99.map fun x0 => .sc (.int .i64 x0)))]⟩
def z8d (a0 : DFA) : Option (List Int) :=
  (z8e a0).bind fun v91 =>
  (z3L a0 v91).bind fun v92 =>
  z0Z (z6z a0) LFm (0, v92.1)
theorem zgu {a0 : DFA} {r : List Int} (h0 : z8d a0 = some r) : L 42 [.agg [.sc (.int .i64 a0.letters), .sc (.int .i64 a0.start), .sl a0.final.length (a0.final.map fun x0 => .sc (.bool x0)), .sl a0.next.length (a0.next.map fun x0 => .sl x0.length (x0.map fun x1 => .sc (.int .i64 x1)))]] = some (.os 1 r.length (r.map fun x0 => .sc (.int .i64 x0)), [.dead]) := by
  simp only [z8d] at h0
  refine z2B zvg zwF (z1v zyx ⟨of_decide_eq_true rfl, of_decide_eq_true rfl⟩ ?_)
  simp only [z1D, z1A, z1z, z1F, z3d]
  refine zq rfl (zr rfl rfl rfl (by simp; rfl) ?_)
  refine z0a (zq rfl ?_)
  obtain ⟨v91, f97, h1⟩ := z0b h0
  have f97k := zcC f97
  try simp at f97k
  obtain ⟨v92, f98, h2⟩ := z0b h1
  have f98k := z4E f98
  try simp at f98k
  refine z1B rfl rfl rfl rfl ?_; repeat' ((first | refine z0z rfl rfl fun Q' hQ => ?_ | refine z0s rfl fun Q' hQ => ?_); simp [f97k, f98k]; refine hQ.out _ ?_; clear hQ; clear Q')
  refine z0a (zq rfl (zq rfl (zr rfl rfl rfl (by simp; rfl) ?_)))
  refine z0a (zb rfl (z0G h2 (z5c a0) rfl rfl (by simp [z5c]) fun s o1 h3 hr1 => ?_))
  obtain ⟨w98, w99⟩ := s
  simp only [z6z] at h3
  simp only [z5c]
  refine zq rfl (zr rfl rfl rfl (by simp; rfl) ?_)
  refine z0a (zq rfl ?_)
  by_cases c123 : w98 < (a0.final.length : Int)
  ·rw [if_pos c123] at h3
   refine z0n rfl (by simp [c123]) (z0e rfl (z0a (zq rfl (zb rfl (zq rfl (zr rfl rfl rfl (by simp; rfl) ?_))))))
   refine z0a (zq rfl ?_)
   obtain ⟨f124, h4⟩ := z1O h3
   refine zr rfl rfl rfl (by simp [f124]; rfl) ?_
   refine z0a (zq rfl (zr rfl rfl rfl (by simp; rfl) ?_))
   refine z0a (zq rfl (zq rfl (zr rfl rfl rfl (by simp; rfl) ?_)))
   refine z0a (zb rfl (z0G h4 (z5b a0 w98 w99) rfl rfl (by simp [z5b]) fun s o2 h5 hr2 => ?_))
   obtain ⟨w106, w107⟩ := s
   simp only [z6y] at h5
   simp only [z5b]
   refine zq rfl (zr rfl rfl rfl (by simp; rfl) ?_)
   refine z0a (zq rfl ?_)
   by_cases c130 : w107 < (w99.length : Int)
   ·rw [if_pos c130] at h5
    refine z0n rfl (by simp [c130]) (z0e rfl (z0a (zq rfl (zb rfl (zq rfl ?_)))))
    obtain ⟨v109, f131, h6⟩ := z0T h5
    refine zr rfl rfl rfl (by simp [f131]; rfl) ?_
    refine z0a ?_
    by_cases c132 : w106 = true
    ·rw [if_pos c132] at h6
     refine zr rfl rfl rfl (by simp [c132]; rfl) ?_
     refine z0h (z0a (zr rfl rfl rfl (by simp; rfl) ?_))
     have ho := z0c h6
     refine z0g ho ?_
     simp [z5b, c132]
    ·rw [if_neg c132] at h6
     refine zr rfl rfl rfl (by simp [c132]; rfl) ?_
     refine z0h (z0a (zr rfl rfl rfl (by simp; rfl) ?_))
     have ho := z0c h6
     refine z0g ho ?_
     simp [z5b, c132]
   ·rw [if_neg c130] at h5
    refine z0l rfl (by simp [c130]) (z1b rfl (z0x ?_))
    obtain ⟨rr2, h6, ho2⟩ := z0f h5
    have hs2 := hr2 _ ho2
    subst hs2
    refine z0o ho2 (z0d rfl (z0a (zq rfl (zr rfl rfl rfl (by simp; rfl) ?_))))
    refine z0a ?_
    by_cases c133 : w106 = true
    ·rw [if_pos c133] at h6
     refine z0l rfl (by simp [c133]) (z0e rfl (z0h (z0a (zr rfl rfl rfl (by simp; rfl) ?_))))
     have ho := z0c h6
     refine z0g ho ?_
     simp [z5c, c133]
    ·rw [if_neg c133] at h6
     refine z0n rfl (by simp [c133]) ?_
     obtain ⟨f134, h7⟩ := zcR h6
     refine zr rfl rfl rfl (by simp [f134]; rfl) ?_
     refine z0h (z0a (zr rfl rfl rfl (by simp; rfl) ?_))
     have ho := z0c h7
     refine z0g ho ?_
     simp [z5c, c133]
  ·rw [if_neg c123] at h3
   refine z0l rfl (by simp [c123]) (z1b rfl (z0x ?_))
   obtain ⟨rr1, h4, ho1⟩ := z0f h3
   have hs1 := hr1 _ ho1
   subst hs1
   refine z0o ho1 (z0d rfl (z0a (zq rfl ?_)))
   obtain ⟨f135, h5⟩ := zcR h4
   refine zr rfl rfl rfl (by simp [f135]; rfl) ?_
   refine z0a (zq rfl (zq rfl (zr rfl rfl rfl (by simp; rfl) ?_)))
   refine z0a (zb rfl (z0G h5 (z4B w99) rfl rfl (by simp [z4B]) fun s o3 h6 hr3 => ?_))
   obtain ⟨w133, w134⟩ := s
   simp only [z4D] at h6
   simp only [z4B]
   refine zq rfl (zr rfl rfl rfl (by simp; rfl) ?_)
   refine z0a (zq rfl ?_)
   by_cases c174 : w133 < (w99.length : Int)
   ·rw [if_pos c174] at h6
    refine z0n rfl (by simp [c174]) (z0e rfl (z0a (zq rfl (zb rfl (zq rfl (zr rfl rfl rfl (by simp; rfl) ?_))))))
    refine z0a (zq rfl (zr rfl rfl rfl (by simp; rfl) ?_))
    refine z0a (zb rfl (z0G h6 (z5I w99 w133) rfl rfl (by simp [z5I]) fun s o4 h7 hr4 => ?_))
    obtain ⟨w165, w166⟩ := s
    simp only [z4C] at h7
    simp only [z5I]
    refine zq rfl (zq rfl ?_)
    by_cases c187 : 0 < w165
    ·rw [if_pos c187] at h7
     obtain ⟨v174, f188, h8⟩ := z0T h7
     obtain ⟨v175, f189, h9⟩ := z0T h8
     obtain ⟨v176, f190, h10⟩ := z0b h9
     have f190k := ze7 f190
     try simp at f190k
     refine z1B rfl rfl rfl rfl ?_; repeat' (first | (refine z0z rfl rfl fun Q' hQ => ?_; simp [c187, f188, f189, f190k]; refine hQ.out _ ?_; clear hQ; clear Q') | (refine z2f rfl rfl fun Q1 Q2 h1 h2 => ?_; simp [c187, f188, f189, f190k, z3R]; (first | refine h1.out ?_ | refine h2.out ?_); clear h1 h2; clear Q1 Q2; intro Q' hQ; simp [c187, f188, f189, f190k]; refine hQ.out _ ?_; clear hQ; clear Q') | (refine z0s rfl fun Q' hQ => ?_; simp [c187, f188, f189, f190k]; refine hQ.out _ ?_; clear hQ; clear Q'))
     refine z0a ?_
     by_cases c191 : v176 = true
     ·rw [if_pos c191] at h10
      refine z0n rfl (by simp [c191]) (z0e rfl (z0a (zq rfl (zb rfl ?_))))
      obtain ⟨v180, f192, h11⟩ := z0b h10
      obtain ⟨f192a, f192b, f192c, f192d, f192e⟩ := z7E f192
      try simp only [List.length_set] at f192b f192c
      have f192s : ∀ hh, ((w166.set w165.toNat v175).map (fun x0 : Int => (.sc (.int .i64 x0) : T)))[(IntKind.i64.wrap (w165 - 1)).toNat]'hh = (fun x0 : Int => (.sc (.int .i64 x0) : T)) v180 := fun hh => by rw [List.getElem_map]; exact congrArg (fun x0 : Int => (.sc (.int .i64 x0) : T)) (f192e _)
      try simp only [List.map_set] at f192s
      refine z1B rfl rfl rfl rfl ?_; repeat' ((first | refine z0z rfl rfl fun Q' hQ => ?_ | refine z0s rfl fun Q' hQ => ?_); simp [f189, f188, f192a, f192b, f192c, f192d, f192e, f192s]; refine hQ.out _ ?_; clear hQ; clear Q')
      refine z0h (z0a (zr rfl rfl rfl (by simp; rfl) ?_))
      have ho := z0c h11
      refine z0g ho ?_
      simp [z5I, c191]
     ·rw [if_neg c191] at h10
      refine z0l rfl (by simp [c191]) (z1b rfl (z0x ?_))
      obtain ⟨rr4, h11, ho4⟩ := z0f h10
      have hs4 := hr4 _ ho4
      subst hs4
      refine z0o ho4 (z0d rfl (z0h (z0a (zr rfl rfl rfl (by simp; rfl) ?_))))
      have ho := z0c h11
      refine z0g ho ?_
      simp [z4B, c191]
    ·rw [if_neg c187] at h7
     refine z1B rfl rfl rfl rfl ?_; repeat' (first | (refine z0z rfl rfl fun Q' hQ => ?_; simp [c187]; refine hQ.out _ ?_; clear hQ; clear Q') | (refine z2f rfl rfl fun Q1 Q2 h1 h2 => ?_; simp [c187, z3R]; (first | refine h1.out ?_ | refine h2.out ?_); clear h1 h2; clear Q1 Q2; intro Q' hQ; simp [c187]; refine hQ.out _ ?_; clear hQ; clear Q') | (refine z0s rfl fun Q' hQ => ?_; simp [c187]; refine hQ.out _ ?_; clear hQ; clear Q'))
     refine z0a (z0l rfl (by simp) (z1b rfl (z0x ?_)))
     obtain ⟨rr4, h8, ho4⟩ := z0f h7
     have hs4 := hr4 _ ho4
     subst hs4
     refine z0o ho4 (z0d rfl (z0h (z0a (zr rfl rfl rfl (by simp; rfl) ?_))))
     have ho := z0c h8
     refine z0g ho ?_
     simp [z4B]
   ·rw [if_neg c174] at h6
    refine z0l rfl (by simp [c174]) (z1b rfl (z0x ?_))
    obtain ⟨rr3, h7, ho3⟩ := z0f h6
    have hs3 := hr3 _ ho3
    subst hs3
    refine z0o ho3 (z0d rfl (z0a (zq rfl (zr rfl rfl rfl (by simp; rfl) ?_))))
    refine z0a (z0F rfl ?_)
    cases h7
    simp
def z3X (a0 : List Int) : Int × Int × List Int × (List (Int × Int)) -> Option ((Int × Int × List Int × (List (Int × Int))) ⊕ List Int)
  | (w15, w13, w14, w16) =>
  if w13 < (a0.length : Int) then
    (atI a0 w13).bind fun v20 =>
    if ((zep v20 w16).isSome) = true then
      (atI w14 w13).bind fun v21 =>
      z0B (w15, IntKind.i64.wrap (w13 + 1), (w14.set w13.toNat ((zep v20 w16).getD 0)), w16)
    else
      (atI w14 w13).bind fun v22 =>
      z0B (IntKind.i64.wrap (w15 + 1), IntKind.i64.wrap (w13 + 1), (w14.set w13.toNat w15), zgo v20 w15 w16)
  else
    z1i <|
    some w14
def z3k (a0 : List Int) : Int × Int × List Int × (List (Int × Int)) -> Fr
  | (w15, w13, w14, w16) => ⟨44, [(3, .one (.h 3 [])), (4, .one (.t none (.sc (.int .i64 w15)))), (5, .one (.h 5 [])), (17, .one (.t none (.sl a0.length (a0.map fun x0 => .sc (.int .i64 x0))))), (18, .one (.t none (.sc (.int .i64 (a0.length : Int))))), (19, .one (.t none (.sc (.int .i64 w13))))], [(3, .os 1 w14.length (w14.map fun x0 => .sc (.int .i64 x0))), (5, .mp (some .i64) (w16.map fun x0 => (.int .i64 x0.1, .int .i64 x0.2)))]⟩
def z4e (a0 : List Int) : Option (List Int) :=
  if 4096 < (a0.length : Int) then
    some []
  else
    chk (z2g 8 (a0.length : Int)) <|
    z0Z (z3X a0) LFm (0, 0, List.replicate (a0.length : Int).toNat (0 : Int), ([] : List (Int × Int)))
theorem zb0 {a0 : List Int} {r : List Int} (h0 : z4e a0 = some r) : L 44 [.sl a0.length (a0.map fun x0 => .sc (.int .i64 x0))] = some (.os 1 r.length (r.map fun x0 => .sc (.int .i64 x0)), [.dead]) := by
  simp only [z4e] at h0
  refine z2B zve zwD (z1v zyv ⟨of_decide_eq_true rfl, of_decide_eq_true rfl⟩ ?_)
  simp only [z1D, z1A, z1z, z1F, z3d]
  refine zq rfl (zr rfl rfl rfl (by simp; rfl) ?_)
  refine z0a (zq rfl (zq rfl (zr rfl rfl rfl (by simp; rfl) ?_)))
  refine z0a ?_
  by_cases c18 : 4096 < (a0.length : Int)
  ·rw [if_pos c18] at h0
   refine z0n rfl (by simp [c18]) (zq rfl (zr rfl rfl rfl (by simp; rfl) ?_))
   refine z0a (z0F rfl (z0p ?_))
   cases h0
   simp
  ·rw [if_neg c18] at h0
   refine z0l rfl (by simp [c18]) (z0e rfl (z0a (zq rfl ?_)))
   obtain ⟨f19, h1⟩ := zjJ h0
   refine zr rfl rfl rfl (by simp [f19]; rfl) ?_
   refine z0a (zq rfl (zr rfl rfl rfl (by simp; rfl) ?_))
   refine z0a (zq rfl (zr rfl rfl rfl (by simp; rfl) ?_))
   refine z0a (zq rfl (zq rfl (zr rfl rfl rfl (by simp; rfl) ?_)))
   refine z0a (zb rfl (z0G h1 (z3k a0) rfl rfl (by simp [z3k]) fun s o1 h2 hr1 => ?_))
   obtain ⟨w15, w13, w14, w16⟩ := s
   simp only [z3X] at h2
   simp only [z3k]
   refine zq rfl (zr rfl rfl rfl (by simp; rfl) ?_)
   refine z0a (zq rfl ?_)
   by_cases c30 : w13 < (a0.length : Int)
   ·rw [if_pos c30] at h2
    refine z0n rfl (by simp [c30]) (z0e rfl (z0a (zq rfl (zb rfl (zq rfl ?_)))))
    obtain ⟨v20, f31, h3⟩ := z0T h2
    refine zr rfl rfl rfl (by simp [f31]; rfl) ?_
    refine z0a (zq rfl (zr rfl rfl rfl (by simp; rfl) ?_))
    refine z0a (zq rfl (zq rfl (zr rfl rfl rfl (by simp; rfl) ?_)))
    refine z0a ?_
    by_cases c32 : ((zep v20 w16).isSome) = true
    ·rw [if_pos c32] at h3
     refine z0l rfl (by simp [c32]) (z0e rfl (z0a ?_))
     obtain ⟨v21, f33, h4⟩ := z0T h3
     refine zr rfl rfl rfl (by simp [f33]; rfl) ?_
     refine z0h (z0a (zr rfl rfl rfl (by simp; rfl) ?_))
     have ho := z0c h4
     refine z0g ho ?_
     simp [z3k, c32]
    ·rw [if_neg c32] at h3
     have c32s : (zep v20 w16) = none := by simpa using c32
     refine z0n rfl (by simp [c32, c32s]) (zq rfl (zr rfl rfl rfl (by simp; rfl) ?_))
     refine z0a (zq rfl (zr rfl rfl rfl (by simp; rfl) ?_))
     refine z0a (zr rfl rfl rfl (by simp; rfl) ?_)
     refine z0a ?_
     obtain ⟨v22, f34, h4⟩ := z0T h3
     refine zr rfl rfl rfl (by simp [f34]; rfl) ?_
     refine z0h (z0a (zr rfl rfl rfl (by simp; rfl) ?_))
     have ho := z0c h4
     refine z0g ho ?_
     simp [z3k, c32, c32s]
   ·rw [if_neg c30] at h2
    refine z0l rfl (by simp [c30]) (z1b rfl (z0x ?_))
    obtain ⟨rr1, h3, ho1⟩ := z0f h2
    have hs1 := hr1 _ ho1
    subst hs1
    refine z0o ho1 (z0d rfl (z0a (zq rfl (zr rfl rfl rfl (by simp; rfl) ?_))))
    refine z0a (z0F rfl ?_)
    cases h3
    simp
def z6f (v757 : List Int) (w807 : Int) (w863 : Int) (v877 : Int) : Int × List (List Bool) -> Option ((Int × List (List Bool)) ⊕ ((Int × List (List Bool)) ⊕ ((Int × List (List Bool)) ⊕ (Imgs × Int))))
  | (w881, w882) =>
  if w881 < (v757.length : Int) then
    (atI v757 w881).bind fun v886 =>
    if (z2r .i64 v886 v877) = v886 then
      (atI w882 w881).bind fun v887 =>
      (atI v887 w807).bind fun v888 =>
      z0B (IntKind.i64.wrap (w881 + 1), (w882.set w881.toNat (v887.set w807.toNat true)))
    else
      z0B (IntKind.i64.wrap (w881 + 1), w882)
  else
    z1i <|
    z0B (IntKind.i64.wrap (w863 + 1), w882)
def z5W (a0 : DFA) (v757 : List Int) (w807 : Int) (v850 : List Int × List ByteArray) (w863 : Int) (v877 : Int) : Int × List (List Bool) -> Fr
  | (w881, w882) => ⟨418, [(1, .one (.a 1 [] (0))), (2, .one (.a 2 [] (0))), (5, .one (.a 5 [] (0))), (6, .one (.t none (.sc (.int .i64 (v757.length : Int))))), (10, .one (.h 10 [])), (12, .one (.t none (.sc (.int .i64 w807)))), (17, .one (.t none (.sc (.int .i64 v877)))), (82, .one (.h 5 [0])), (83, .one (.t none (.sc (.int .i64 (v757.length : Int))))), (84, .one (.t none (.sc (.int .i64 w807)))), (95, .one (.h 14 [])), (96, .one (.t none (.sc (.int .i64 (v850.1.length : Int))))), (97, .one (.t none (.sc (.int .i64 w863)))), (102, .one (.h 5 [0])), (103, .one (.t none (.sc (.int .i64 (v757.length : Int))))), (104, .one (.t none (.sc (.int .i64 w881))))], [(1, .vr [.sc (.int .i64 a0.letters), .sc (.int .i64 a0.start), .sl a0.final.length (a0.final.map fun x0 => .sc (.bool x0)), .sl a0.next.length (a0.next.map fun x0 => .sl x0.length (x0.map fun x1 => .sc (.int .i64 x1)))]), (2, .vr [.os 1 0 [], .os 1 0 [], .os 1 0 [], .os 1 0 [], .os 1 0 [], .os 1 0 []]), (5, .vr [.os 1 v757.length (v757.map fun x0 => .sc (.int .i64 x0)), .os 1 0 [], .os 1 0 [], .os 1 0 [], .os 1 0 [], .os 1 0 []]), (10, .os 1 w882.length (w882.map fun x0 => .os 1 x0.length (x0.map fun x1 => .sc (.bool x1)))), (14, .os 1 v850.1.length (v850.1.map fun x0 => .sc (.int .i64 x0)))]⟩
def z6g (v757 : List Int) (w807 : Int) (v850 : List Int × List ByteArray) : Int × List (List Bool) -> Option ((Int × List (List Bool)) ⊕ ((Int × List (List Bool)) ⊕ (Imgs × Int)))
  | (w863, w864) =>
  if w863 < (v850.1.length : Int) then
    (atI v850.1 w863).bind fun v877 =>
    z0Z (z6f v757 w807 w863 v877) LFm (0, w864)
  else
    z1i <|
    z0B (IntKind.i64.wrap (w807 + 1), w864)
def z7r (a0 : DFA) (v757 : List Int) (w807 : Int) (v850 : List Int × List ByteArray) : Int × List (List Bool) -> Fr
  | (w863, w864) => ⟨418, [(1, .one (.a 1 [] (0))), (2, .one (.a 2 [] (0))), (5, .one (.a 5 [] (0))), (6, .one (.t none (.sc (.int .i64 (v757.length : Int))))), (10, .one (.h 10 [])), (12, .one (.t none (.sc (.int .i64 w807)))), (82, .one (.h 5 [0])), (83, .one (.t none (.sc (.int .i64 (v757.length : Int))))), (84, .one (.t none (.sc (.int .i64 w807)))), (95, .one (.h 14 [])), (96, .one (.t none (.sc (.int .i64 (v850.1.length : Int))))), (97, .one (.t none (.sc (.int .i64 w863))))], [(1, .vr [.sc (.int .i64 a0.letters), .sc (.int .i64 a0.start), .sl a0.final.length (a0.final.map fun x0 => .sc (.bool x0)), .sl a0.next.length (a0.next.map fun x0 => .sl x0.length (x0.map fun x1 => .sc (.int .i64 x1)))]), (2, .vr [.os 1 0 [], .os 1 0 [], .os 1 0 [], .os 1 0 [], .os 1 0 [], .os 1 0 []]), (5, .vr [.os 1 v757.length (v757.map fun x0 => .sc (.int .i64 x0)), .os 1 0 [], .os 1 0 [], .os 1 0 [], .os 1 0 [], .os 1 0 []]), (10, .os 1 w864.length (w864.map fun x0 => .os 1 x0.length (x0.map fun x1 => .sc (.bool x1)))), (14, .os 1 v850.1.length (v850.1.map fun x0 => .sc (.int .i64 x0)))]⟩
def z6e (w808 : List (List Bool)) (w908 : Int) (w909 : List Int) : Int -> Option (Int ⊕ ((Int × List Int) ⊕ (Imgs × Int)))
  | w937 =>
  if w937 < w908 then
    (atI w808 w908).bind fun v944 =>
    (atI v944 w937).bind fun v945 =>
    if v945 = true then
      (atI w808 w937).bind fun v946 =>
      (atI v946 w908).bind fun v947 =>
      if v947 = true then
        (atI (w909.set w908.toNat w908) w937).bind fun v948 =>
        (atI (w909.set w908.toNat w908) w908).bind fun v949 =>
        z1i <|
        z0B (IntKind.i64.wrap (w908 + 1), ((w909.set w908.toNat w908).set w908.toNat v948))
      else
        z0B (IntKind.i64.wrap (w937 + 1))
    else
      z0B (IntKind.i64.wrap (w937 + 1))
  else
    z1i <|
    z0B (IntKind.i64.wrap (w908 + 1), (w909.set w908.toNat w908))
def z5U (a0 : DFA) (v757 : List Int) (w808 : List (List Bool)) (w908 : Int) (w909 : List Int) : Int -> Fr
  | w937 => ⟨418, [(1, .one (.a 1 [] (0))), (2, .one (.a 2 [] (0))), (5, .one (.a 5 [] (0))), (6, .one (.t none (.sc (.int .i64 (v757.length : Int))))), (10, .one (.h 10 [])), (20, .one (.h 20 [])), (21, .one (.t none (.sc (.int .i64 w908)))), (22, .one (.t none (.sc (.int .i64 w937)))), (126, .one (.t none (.sc (.int .i64 (v757.length : Int))))), (127, .one (.t none (.sc (.int .i64 w908))))], [(1, .vr [.sc (.int .i64 a0.letters), .sc (.int .i64 a0.start), .sl a0.final.length (a0.final.map fun x0 => .sc (.bool x0)), .sl a0.next.length (a0.next.map fun x0 => .sl x0.length (x0.map fun x1 => .sc (.int .i64 x1)))]), (2, .vr [.os 1 0 [], .os 1 0 [], .os 1 0 [], .os 1 0 [], .os 1 0 [], .os 1 0 []]), (5, .vr [.os 1 v757.length (v757.map fun x0 => .sc (.int .i64 x0)), .os 1 0 [], .os 1 0 [], .os 1 0 [], .os 1 0 [], .os 1 0 []]), (10, .os 1 w808.length (w808.map fun x0 => .os 1 x0.length (x0.map fun x1 => .sc (.bool x1)))), (20, .os 1 (w909.set w908.toNat w908).length ((w909.set w908.toNat w908).map fun x0 => .sc (.int .i64 x0)))]⟩
def z6b (v757 : List Int) (w808 : List (List Bool)) (w1205 : Int) : Bool × Int × List Int -> Option ((Bool × Int × List Int) ⊕ ((Bool × Int × List Int) ⊕ ((Bool × List Int) ⊕ (Imgs × Int))))
  | (w1251, w1250, w1252) =>
  if w1250 < (v757.length : Int) then
    (atI v757 w1205).bind fun v1263 =>
    (z4q v1263).bind fun v1264 =>
    if 1 < v1264 then
      (atI w808 w1250).bind fun v1265 =>
      (atI v1265 w1205).bind fun v1266 =>
      if v1266 = true then
        (atI w808 w1205).bind fun v1267 =>
        (atI v1267 w1250).bind fun v1268 =>
        if v1268 = true then
          z0B (w1251, IntKind.i64.wrap (w1250 + 1), w1252)
        else
          (atI w1252 w1205).bind fun v1269 =>
          (atI w1252 w1250).bind fun v1270 =>
          if v1269 <= v1270 then
            z0B (true, IntKind.i64.wrap (w1250 + 1), (w1252.set w1205.toNat (IntKind.i64.wrap (v1270 + 1))))
          else
            z0B (w1251, IntKind.i64.wrap (w1250 + 1), w1252)
      else
        z0B (w1251, IntKind.i64.wrap (w1250 + 1), w1252)
    else
      z0B (w1251, IntKind.i64.wrap (w1250 + 1), w1252)
  else
    z1i <|
    z0B (w1251, IntKind.i64.wrap (w1205 + 1), w1252)
def z3J (a0 : DFA) (v757 : List Int) (w808 : List (List Bool)) (v950 : List Int) (w1205 : Int) : Bool × Int × List Int -> Fr
  | (w1251, w1250, w1252) => ⟨418, [(1, .one (.a 1 [] (0))), (2, .one (.a 2 [] (0))), (5, .one (.a 5 [] (0))), (10, .one (.h 10 [])), (23, .one (.t none (.sc (.bool w1251)))), (24, .one (.t none (.sc (.int .i64 w1205)))), (181, .one (.t none (.sc (.int .i64 (v757.length : Int))))), (182, .one (.t none (.sc (.int .i64 w1205)))), (187, .one (.t none (.sc (.int .i64 (v757.length : Int))))), (188, .one (.t none (.sc (.int .i64 w1250))))], [(1, .vr [.sc (.int .i64 a0.letters), .sc (.int .i64 a0.start), .sl a0.final.length (a0.final.map fun x0 => .sc (.bool x0)), .sl a0.next.length (a0.next.map fun x0 => .sl x0.length (x0.map fun x1 => .sc (.int .i64 x1)))]), (2, .vr [.os 1 0 [], .os 1 0 [], .os 1 0 [], .os 1 0 [], .os 1 0 [], .os 1 0 []]), (5, .vr [.os 1 v757.length (v757.map fun x0 => .sc (.int .i64 x0)), .os 1 v950.length (v950.map fun x0 => .sc (.int .i64 x0)), .os 1 w1252.length (w1252.map fun x0 => .sc (.int .i64 x0)), .os 1 (List.replicate (v757.length : Int).toNat ([] : List Int)).length ((List.replicate (v757.length : Int).toNat ([] : List Int)).map fun x0 => .os 1 x0.length (x0.map fun x1 => .sc (.int .i64 x1))), .os 1 (List.replicate (v757.length : Int).toNat (ByteArray.empty : ByteArray)).length ((List.replicate (v757.length : Int).toNat (ByteArray.empty : ByteArray)).map fun x0 => .sc (.string x0)), .os 1 (List.replicate (v757.length : Int).toNat (ByteArray.empty : ByteArray)).length ((List.replicate (v757.length : Int).toNat (ByteArray.empty : ByteArray)).map fun x0 => .sc (.string x0))]), (10, .os 1 w808.length (w808.map fun x0 => .os 1 x0.length (x0.map fun x1 => .sc (.bool x1))))]⟩
def z6c (v757 : List Int) (w808 : List (List Bool)) : Bool × Int × List Int -> Option ((Bool × Int × List Int) ⊕ ((Bool × List Int) ⊕ (Imgs × Int)))
  | (w1204, w1205, w1206) =>
  if w1205 < (v757.length : Int) then
    z0Z (z6b v757 w808 w1205) LFm (w1204, 0, w1206)
  else
    z1i <|
    z0B (w1204, w1206)
def z7p (a0 : DFA) (v757 : List Int) (w808 : List (List Bool)) (v950 : List Int) : Bool × Int × List Int -> Fr
  | (w1204, w1205, w1206) => ⟨418, [(1, .one (.a 1 [] (0))), (2, .one (.a 2 [] (0))), (5, .one (.a 5 [] (0))), (10, .one (.h 10 [])), (23, .one (.t none (.sc (.bool w1204)))), (181, .one (.t none (.sc (.int .i64 (v757.length : Int))))), (182, .one (.t none (.sc (.int .i64 w1205))))], [(1, .vr [.sc (.int .i64 a0.letters), .sc (.int .i64 a0.start), .sl a0.final.length (a0.final.map fun x0 => .sc (.bool x0)), .sl a0.next.length (a0.next.map fun x0 => .sl x0.length (x0.map fun x1 => .sc (.int .i64 x1)))]), (2, .vr [.os 1 0 [], .os 1 0 [], .os 1 0 [], .os 1 0 [], .os 1 0 [], .os 1 0 []]), (5, .vr [.os 1 v757.length (v757.map fun x0 => .sc (.int .i64 x0)), .os 1 v950.length (v950.map fun x0 => .sc (.int .i64 x0)), .os 1 w1206.length (w1206.map fun x0 => .sc (.int .i64 x0)), .os 1 (List.replicate (v757.length : Int).toNat ([] : List Int)).length ((List.replicate (v757.length : Int).toNat ([] : List Int)).map fun x0 => .os 1 x0.length (x0.map fun x1 => .sc (.int .i64 x1))), .os 1 (List.replicate (v757.length : Int).toNat (ByteArray.empty : ByteArray)).length ((List.replicate (v757.length : Int).toNat (ByteArray.empty : ByteArray)).map fun x0 => .sc (.string x0)), .os 1 (List.replicate (v757.length : Int).toNat (ByteArray.empty : ByteArray)).length ((List.replicate (v757.length : Int).toNat (ByteArray.empty : ByteArray)).map fun x0 => .sc (.string x0))]), (10, .os 1 w808.length (w808.map fun x0 => .os 1 x0.length (x0.map fun x1 => .sc (.bool x1))))]⟩
def z5Z (v757 : List Int) (w1311 : Int) (w1367 : Int) (w1368 : List (List Int)) (v1381 : Int) : Bool × Int -> Option ((Bool × Int) ⊕ ((Int × List (List Int)) ⊕ ((Int × List (List Int)) ⊕ (Imgs × Int))))
  | (w1385, w1386) =>
  if w1386 < (v757.length : Int) then
    (atI v757 w1386).bind fun v1389 =>
    if w1385 = true then
      if w1386 = w1367 then
        z0B (!false, IntKind.i64.wrap (w1386 + 1))
      else
        if w1386 = w1311 then
          z0B (!false, IntKind.i64.wrap (w1386 + 1))
        else
          (atI v757 w1311).bind fun v1390 =>
          if (z2r .i64 v1389 v1390) = v1389 then
            z0B (!(decide ((z2r .i64 v1381 v1389) = v1381)), IntKind.i64.wrap (w1386 + 1))
          else
            z0B (!false, IntKind.i64.wrap (w1386 + 1))
    else
      z0B (false, IntKind.i64.wrap (w1386 + 1))
  else
    z1i <|
    if w1385 = true then
      (atI w1368 w1311).bind fun v1391 =>
      chk (z5B 8 (v1391.length + 1)) <|
      z0B (IntKind.i64.wrap (w1367 + 1), (w1368.set w1311.toNat (v1391 ++ [w1367])))
    else
      z0B (IntKind.i64.wrap (w1367 + 1), w1368)
def z3I (a0 : DFA) (v757 : List Int) (v950 : List Int) (w1056 : List Int) (w1311 : Int) (w1367 : Int) (w1368 : List (List Int)) (v1381 : Int) : Bool × Int -> Fr
  | (w1385, w1386) => ⟨418, [(1, .one (.a 1 [] (0))), (2, .one (.a 2 [] (0))), (5, .one (.a 5 [] (0))), (26, .one (.t none (.sc (.int .i64 w1311)))), (27, .one (.t none (.sc (.int .i64 w1367)))), (28, .one (.t none (.sc (.int .i64 v1381)))), (29, .one (.t none (.sc (.bool w1385)))), (244, .one (.t none (.sc (.int .i64 (v757.length : Int))))), (245, .one (.t none (.sc (.int .i64 w1311)))), (256, .one (.h 5 [0])), (257, .one (.t none (.sc (.int .i64 (v757.length : Int))))), (258, .one (.t none (.sc (.int .i64 w1367)))), (278, .one (.h 5 [0])), (279, .one (.t none (.sc (.int .i64 (v757.length : Int))))), (280, .one (.t none (.sc (.int .i64 w1386))))], [(1, .vr [.sc (.int .i64 a0.letters), .sc (.int .i64 a0.start), .sl a0.final.length (a0.final.map fun x0 => .sc (.bool x0)), .sl a0.next.length (a0.next.map fun x0 => .sl x0.length (x0.map fun x1 => .sc (.int .i64 x1)))]), (2, .vr [.os 1 0 [], .os 1 0 [], .os 1 0 [], .os 1 0 [], .os 1 0 [], .os 1 0 []]), (5, .vr [.os 1 v757.length (v757.map fun x0 => .sc (.int .i64 x0)), .os 1 v950.length (v950.map fun x0 => .sc (.int .i64 x0)), .os 1 w1056.length (w1056.map fun x0 => .sc (.int .i64 x0)), .os 1 w1368.length (w1368.map fun x0 => .os 1 x0.length (x0.map fun x1 => .sc (.int .i64 x1))), .os 1 (List.replicate (v757.length : Int).toNat (ByteArray.empty : ByteArray)).length ((List.replicate (v757.length : Int).toNat (ByteArray.empty : ByteArray)).map fun x0 => .sc (.string x0)), .os 1 (List.replicate (v757.length : Int).toNat (ByteArray.empty : ByteArray)).length ((List.replicate (v757.length : Int).toNat (ByteArray.empty : ByteArray)).map fun x0 => .sc (.string x0))])]⟩
def z6a (v757 : List Int) (w1311 : Int) : Int × List (List Int) -> Option ((Int × List (List Int)) ⊕ ((Int × List (List Int)) ⊕ (Imgs × Int)))
  | (w1367, w1368) =>
  if w1367 < (v757.length : Int) then
    (atI v757 w1367).bind fun v1381 =>
    (atI v757 w1311).bind fun v1382 =>
    if (z2r .i64 v1381 v1382) = v1381 then
      if w1367 = w1311 then
        z0B (IntKind.i64.wrap (w1367 + 1), w1368)
      else
        z0Z (z5Z v757 w1311 w1367 w1368 v1381) LFm (true, 0)
    else
      z0B (IntKind.i64.wrap (w1367 + 1), w1368)
  else
    z1i <|
    z0B (IntKind.i64.wrap (w1311 + 1), w1368)
def z4c (a0 : DFA) (v757 : List Int) (v950 : List Int) (w1056 : List Int) (w1311 : Int) : Int × List (List Int) -> Fr
  | (w1367, w1368) => ⟨418, [(1, .one (.a 1 [] (0))), (2, .one (.a 2 [] (0))), (5, .one (.a 5 [] (0))), (26, .one (.t none (.sc (.int .i64 w1311)))), (244, .one (.t none (.sc (.int .i64 (v757.length : Int))))), (245, .one (.t none (.sc (.int .i64 w1311)))), (256, .one (.h 5 [0])), (257, .one (.t none (.sc (.int .i64 (v757.length : Int))))), (258, .one (.t none (.sc (.int .i64 w1367))))], [(1, .vr [.sc (.int .i64 a0.letters), .sc (.int .i64 a0.start), .sl a0.final.length (a0.final.map fun x0 => .sc (.bool x0)), .sl a0.next.length (a0.next.map fun x0 => .sl x0.length (x0.map fun x1 => .sc (.int .i64 x1)))]), (2, .vr [.os 1 0 [], .os 1 0 [], .os 1 0 [], .os 1 0 [], .os 1 0 [], .os 1 0 []]), (5, .vr [.os 1 v757.length (v757.map fun x0 => .sc (.int .i64 x0)), .os 1 v950.length (v950.map fun x0 => .sc (.int .i64 x0)), .os 1 w1056.length (w1056.map fun x0 => .sc (.int .i64 x0)), .os 1 w1368.length (w1368.map fun x0 => .os 1 x0.length (x0.map fun x1 => .sc (.int .i64 x1))), .os 1 (List.replicate (v757.length : Int).toNat (ByteArray.empty : ByteArray)).length ((List.replicate (v757.length : Int).toNat (ByteArray.empty : ByteArray)).map fun x0 => .sc (.string x0)), .os 1 (List.replicate (v757.length : Int).toNat (ByteArray.empty : ByteArray)).length ((List.replicate (v757.length : Int).toNat (ByteArray.empty : ByteArray)).map fun x0 => .sc (.string x0))])]⟩
def z5X (v757 : List Int) (w1430 : Int) (w1474 : Int) (w1486 : List ByteArray) (v1496 : List Int × List ByteArray) : Int × List ByteArray -> Option ((Int × List ByteArray) ⊕ ((Int × List ByteArray × List ByteArray) ⊕ (Imgs × Int)))
  | (w1501, w1502) =>
  if w1501 < (v1496.1.length : Int) then
    (atI v1496.1 w1501).bind fun v1507 =>
    (atI v757 w1474).bind fun v1508 =>
    if v1507 = v1508 then
      (atI v1496.2 w1501).bind fun v1509 =>
      (atI w1502 w1430).bind fun v1510 =>
      z0B (IntKind.i64.wrap (w1501 + 1), (w1502.set w1430.toNat v1509))
    else
      z0B (IntKind.i64.wrap (w1501 + 1), w1502)
  else
    z1i <|
    z0B (IntKind.i64.wrap (w1430 + 1), w1486, w1502)
def z5R (a0 : DFA) (v757 : List Int) (v950 : List Int) (w1056 : List Int) (w1312 : List (List Int)) (w1430 : Int) (w1474 : Int) (w1486 : List ByteArray) (v1496 : List Int × List ByteArray) : Int × List ByteArray -> Fr
  | (w1501, w1502) => ⟨418, [(1, .one (.a 1 [] (0))), (2, .one (.a 2 [] (0))), (5, .one (.a 5 [] (0))), (32, .one (.t none (.sc (.int .i64 w1430)))), (33, .one (.t none (.sc (.int .i64 w1474)))), (35, .one (.h 35 [])), (333, .one (.t none (.sc (.int .i64 (v757.length : Int))))), (334, .one (.t none (.sc (.int .i64 w1430)))), (393, .one (.h 34 [])), (394, .one (.t none (.sc (.int .i64 (v1496.1.length : Int))))), (395, .one (.t none (.sc (.int .i64 w1501))))], [(1, .vr [.sc (.int .i64 a0.letters), .sc (.int .i64 a0.start), .sl a0.final.length (a0.final.map fun x0 => .sc (.bool x0)), .sl a0.next.length (a0.next.map fun x0 => .sl x0.length (x0.map fun x1 => .sc (.int .i64 x1)))]), (2, .vr [.os 1 0 [], .os 1 0 [], .os 1 0 [], .os 1 0 [], .os 1 0 [], .os 1 0 []]), (5, .vr [.os 1 v757.length (v757.map fun x0 => .sc (.int .i64 x0)), .os 1 v950.length (v950.map fun x0 => .sc (.int .i64 x0)), .os 1 w1056.length (w1056.map fun x0 => .sc (.int .i64 x0)), .os 1 w1312.length (w1312.map fun x0 => .os 1 x0.length (x0.map fun x1 => .sc (.int .i64 x1))), .os 1 w1486.length (w1486.map fun x0 => .sc (.string x0)), .os 1 w1502.length (w1502.map fun x0 => .sc (.string x0))]), (35, .os 1 v1496.2.length (v1496.2.map fun x0 => .sc (.string x0))), (34, .os 1 v1496.1.length (v1496.1.map fun x0 => .sc (.int .i64 x0)))]⟩
def z5Y (a0 : DFA) (v757 : List Int) (w1430 : Int) (w1432 : List ByteArray) (w1474 : Int) (v1480 : List Int × List ByteArray) : Int × List ByteArray -> Option ((Int × List ByteArray) ⊕ ((Int × List ByteArray × List ByteArray) ⊕ (Imgs × Int)))
  | (w1485, w1486) =>
  if w1485 < (v1480.1.length : Int) then
    (atI v1480.1 w1485).bind fun v1491 =>
    (atI v757 w1430).bind fun v1492 =>
    if v1491 = v1492 then
      (atI v1480.2 w1485).bind fun v1493 =>
      (atI w1486 w1430).bind fun v1494 =>
      z0B (IntKind.i64.wrap (w1485 + 1), (w1486.set w1430.toNat v1493))
    else
      z0B (IntKind.i64.wrap (w1485 + 1), w1486)
  else
    z1i <|
    (atI v757 w1430).bind fun v1495 =>
    (z3L a0 v1495).bind fun v1496 =>
    z0Z (z5X v757 w1430 w1474 w1486 v1496) LFm (0, w1432)
def z5S (a0 : DFA) (v757 : List Int) (v950 : List Int) (w1056 : List Int) (w1312 : List (List Int)) (w1430 : Int) (w1432 : List ByteArray) (w1474 : Int) (v1480 : List Int × List ByteArray) : Int × List ByteArray -> Fr
  | (w1485, w1486) => ⟨418, [(1, .one (.a 1 [] (0))), (2, .one (.a 2 [] (0))), (5, .one (.a 5 [] (0))), (32, .one (.t none (.sc (.int .i64 w1430)))), (33, .one (.t none (.sc (.int .i64 w1474)))), (35, .one (.h 35 [])), (333, .one (.t none (.sc (.int .i64 (v757.length : Int))))), (334, .one (.t none (.sc (.int .i64 w1430)))), (360, .one (.h 34 [])), (361, .one (.t none (.sc (.int .i64 (v1480.1.length : Int))))), (362, .one (.t none (.sc (.int .i64 w1485))))], [(1, .vr [.sc (.int .i64 a0.letters), .sc (.int .i64 a0.start), .sl a0.final.length (a0.final.map fun x0 => .sc (.bool x0)), .sl a0.next.length (a0.next.map fun x0 => .sl x0.length (x0.map fun x1 => .sc (.int .i64 x1)))]), (2, .vr [.os 1 0 [], .os 1 0 [], .os 1 0 [], .os 1 0 [], .os 1 0 [], .os 1 0 []]), (5, .vr [.os 1 v757.length (v757.map fun x0 => .sc (.int .i64 x0)), .os 1 v950.length (v950.map fun x0 => .sc (.int .i64 x0)), .os 1 w1056.length (w1056.map fun x0 => .sc (.int .i64 x0)), .os 1 w1312.length (w1312.map fun x0 => .os 1 x0.length (x0.map fun x1 => .sc (.int .i64 x1))), .os 1 w1486.length (w1486.map fun x0 => .sc (.string x0)), .os 1 w1432.length (w1432.map fun x0 => .sc (.string x0))]), (35, .os 1 v1480.2.length (v1480.2.map fun x0 => .sc (.string x0))), (34, .os 1 v1480.1.length (v1480.1.map fun x0 => .sc (.int .i64 x0)))]⟩
def z7v (a0 : DFA) (v757 : List Int) (v950 : List Int) (w1430 : Int) (w1431 : List ByteArray) (w1432 : List ByteArray) : Int -> Option (Int ⊕ ((Int × List ByteArray × List ByteArray) ⊕ (Imgs × Int)))
  | w1474 =>
  (atI v950 w1474).bind fun v1477 =>
  (atI v950 w1430).bind fun v1478 =>
  if v1477 = v1478 then
    z1i <|
    (atI v757 w1474).bind fun v1479 =>
    (z3L a0 v1479).bind fun v1480 =>
    z0Z (z5Y a0 v757 w1430 w1432 w1474 v1480) LFm (0, w1431)
  else
    z0B (IntKind.i64.wrap (w1474 + 1))
def z7n (a0 : DFA) (v757 : List Int) (v950 : List Int) (w1056 : List Int) (w1312 : List (List Int)) (w1430 : Int) (w1431 : List ByteArray) (w1432 : List ByteArray) : Int -> Fr
  | w1474 => ⟨418, [(1, .one (.a 1 [] (0))), (2, .one (.a 2 [] (0))), (5, .one (.a 5 [] (0))), (32, .one (.t none (.sc (.int .i64 w1430)))), (33, .one (.t none (.sc (.int .i64 w1474)))), (333, .one (.t none (.sc (.int .i64 (v757.length : Int))))), (334, .one (.t none (.sc (.int .i64 w1430))))], [(1, .vr [.sc (.int .i64 a0.letters), .sc (.int .i64 a0.start), .sl a0.final.length (a0.final.map fun x0 => .sc (.bool x0)), .sl a0.next.length (a0.next.map fun x0 => .sl x0.length (x0.map fun x1 => .sc (.int .i64 x1)))]), (2, .vr [.os 1 0 [], .os 1 0 [], .os 1 0 [], .os 1 0 [], .os 1 0 [], .os 1 0 []]), (5, .vr [.os 1 v757.length (v757.map fun x0 => .sc (.int .i64 x0)), .os 1 v950.length (v950.map fun x0 => .sc (.int .i64 x0)), .os 1 w1056.length (w1056.map fun x0 => .sc (.int .i64 x0)), .os 1 w1312.length (w1312.map fun x0 => .os 1 x0.length (x0.map fun x1 => .sc (.int .i64 x1))), .os 1 w1431.length (w1431.map fun x0 => .sc (.string x0)), .os 1 w1432.length (w1432.map fun x0 => .sc (.string x0))])]⟩
def z7w (a0 : DFA) (v757 : List Int) (v950 : List Int) (w1056 : List Int) (w1312 : List (List Int)) : Int × List ByteArray × List ByteArray -> Option ((Int × List ByteArray × List ByteArray) ⊕ (Imgs × Int))
  | (w1430, w1431, w1432) =>
  if w1430 < (v757.length : Int) then
    z0Z (z7v a0 v757 v950 w1430 w1431 w1432) LFm 0
  else
    z1i <|
    some ((⟨v757, v950, w1056, w1312, w1431, w1432⟩ : Imgs), 0)
def z7o (a0 : DFA) (v757 : List Int) (v950 : List Int) (w1056 : List Int) (w1312 : List (List Int)) : Int × List ByteArray × List ByteArray -> Fr
  | (w1430, w1431, w1432) => ⟨418, [(1, .one (.a 1 [] (0))), (2, .one (.a 2 [] (0))), (5, .one (.a 5 [] (0))), (333, .one (.t none (.sc (.int .i64 (v757.length : Int))))), (334, .one (.t none (.sc (.int .i64 w1430))))], [(1, .vr [.sc (.int .i64 a0.letters), .sc (.int .i64 a0.start), .sl a0.final.length (a0.final.map fun x0 => .sc (.bool x0)), .sl a0.next.length (a0.next.map fun x0 => .sl x0.length (x0.map fun x1 => .sc (.int .i64 x1)))]), (2, .vr [.os 1 0 [], .os 1 0 [], .os 1 0 [], .os 1 0 [], .os 1 0 [], .os 1 0 []]), (5, .vr [.os 1 v757.length (v757.map fun x0 => .sc (.int .i64 x0)), .os 1 v950.length (v950.map fun x0 => .sc (.int .i64 x0)), .os 1 w1056.length (w1056.map fun x0 => .sc (.int .i64 x0)), .os 1 w1312.length (w1312.map fun x0 => .os 1 x0.length (x0.map fun x1 => .sc (.int .i64 x1))), .os 1 w1431.length (w1431.map fun x0 => .sc (.string x0)), .os 1 w1432.length (w1432.map fun x0 => .sc (.string x0))])]⟩
def z4T (a0 : DFA) (v757 : List Int) (v950 : List Int) (w1056 : List Int) : Int × List (List Int) -> Option ((Int × List (List Int)) ⊕ (Imgs × Int))
  | (w1311, w1312) =>
  if w1311 < (v757.length : Int) then
    (atI v757 w1311).bind fun v1353 =>
    (z4q v1353).bind fun v1354 =>
    if v1354 = 1 then
      z0B (IntKind.i64.wrap (w1311 + 1), w1312)
    else
      z0Z (z6a v757 w1311) LFm (0, w1312)
  else
    z1i <|
    z0Z (z7w a0 v757 v950 w1056 w1312) LFm (0, List.replicate (v757.length : Int).toNat (ByteArray.empty : ByteArray), List.replicate (v757.length : Int).toNat (ByteArray.empty : ByteArray))
def z5T (a0 : DFA) (v757 : List Int) (v950 : List Int) (w1056 : List Int) : Int × List (List Int) -> Fr
  | (w1311, w1312) => ⟨418, [(1, .one (.a 1 [] (0))), (2, .one (.a 2 [] (0))), (5, .one (.a 5 [] (0))), (244, .one (.t none (.sc (.int .i64 (v757.length : Int))))), (245, .one (.t none (.sc (.int .i64 w1311))))], [(1, .vr [.sc (.int .i64 a0.letters), .sc (.int .i64 a0.start), .sl a0.final.length (a0.final.map fun x0 => .sc (.bool x0)), .sl a0.next.length (a0.next.map fun x0 => .sl x0.length (x0.map fun x1 => .sc (.int .i64 x1)))]), (2, .vr [.os 1 0 [], .os 1 0 [], .os 1 0 [], .os 1 0 [], .os 1 0 [], .os 1 0 []]), (5, .vr [.os 1 v757.length (v757.map fun x0 => .sc (.int .i64 x0)), .os 1 v950.length (v950.map fun x0 => .sc (.int .i64 x0)), .os 1 w1056.length (w1056.map fun x0 => .sc (.int .i64 x0)), .os 1 w1312.length (w1312.map fun x0 => .os 1 x0.length (x0.map fun x1 => .sc (.int .i64 x1))), .os 1 (List.replicate (v757.length : Int).toNat (ByteArray.empty : ByteArray)).length ((List.replicate (v757.length : Int).toNat (ByteArray.empty : ByteArray)).map fun x0 => .sc (.string x0)), .os 1 (List.replicate (v757.length : Int).toNat (ByteArray.empty : ByteArray)).length ((List.replicate (v757.length : Int).toNat (ByteArray.empty : ByteArray)).map fun x0 => .sc (.string x0))])]⟩
def z6d (a0 : DFA) (v757 : List Int) (w808 : List (List Bool)) (v950 : List Int) : Bool × List Int -> Option ((Bool × List Int) ⊕ (Imgs × Int))
  | (w1055, w1056) =>
  if w1055 = true then
    z0Z (z6c v757 w808) LFm (false, 0, w1056)
  else
    z1i <|
    z0Z (z4T a0 v757 v950 w1056) LFm (0, List.replicate (v757.length : Int).toNat ([] : List Int))
def z7q (a0 : DFA) (v757 : List Int) (w808 : List (List Bool)) (v950 : List Int) : Bool × List Int -> Fr
  | (w1055, w1056) => ⟨418, [(1, .one (.a 1 [] (0))), (2, .one (.a 2 [] (0))), (5, .one (.a 5 [] (0))), (10, .one (.h 10 [])), (23, .one (.t none (.sc (.bool w1055))))], [(1, .vr [.sc (.int .i64 a0.letters), .sc (.int .i64 a0.start), .sl a0.final.length (a0.final.map fun x0 => .sc (.bool x0)), .sl a0.next.length (a0.next.map fun x0 => .sl x0.length (x0.map fun x1 => .sc (.int .i64 x1)))]), (2, .vr [.os 1 0 [], .os 1 0 [], .os 1 0 [], .os 1 0 [], .os 1 0 [], .os 1 0 []]), (5, .vr [.os 1 v757.length (v757.map fun x0 => .sc (.int .i64 x0)), .os 1 v950.length (v950.map fun x0 => .sc (.int .i64 x0)), .os 1 w1056.length (w1056.map fun x0 => .sc (.int .i64 x0)), .os 1 (List.replicate (v757.length : Int).toNat ([] : List Int)).length ((List.replicate (v757.length : Int).toNat ([] : List Int)).map fun x0 => .os 1 x0.length (x0.map fun x1 => .sc (.int .i64 x1))), .os 1 (List.replicate (v757.length : Int).toNat (ByteArray.empty : ByteArray)).length ((List.replicate (v757.length : Int).toNat (ByteArray.empty : ByteArray)).map fun x0 => .sc (.string x0)), .os 1 (List.replicate (v757.length : Int).toNat (ByteArray.empty : ByteArray)).length ((List.replicate (v757.length : Int).toNat (ByteArray.empty : ByteArray)).map fun x0 => .sc (.string x0))]), (10, .os 1 w808.length (w808.map fun x0 => .os 1 x0.length (x0.map fun x1 => .sc (.bool x1))))]⟩
def z7x (a0 : DFA) (v757 : List Int) (w808 : List (List Bool)) : Int × List Int -> Option ((Int × List Int) ⊕ (Imgs × Int))
  | (w908, w909) =>
  if w908 < (v757.length : Int) then
    (atI w909 w908).bind fun v930 =>
    z0Z (z6e w808 w908 w909) LFm 0
  else
    z1i <|
    (z4e w909).bind fun v950 =>
    chk (z2g 8 (v757.length : Int)) <|
    chk (z2g 24 (v757.length : Int)) <|
    chk (z2g 16 (v757.length : Int)) <|
    z0Z (z6d a0 v757 w808 v950) LFm (true, List.replicate (v757.length : Int).toNat (0 : Int))
def z5V (a0 : DFA) (v757 : List Int) (w808 : List (List Bool)) : Int × List Int -> Fr
  | (w908, w909) => ⟨418, [(1, .one (.a 1 [] (0))), (2, .one (.a 2 [] (0))), (5, .one (.a 5 [] (0))), (6, .one (.t none (.sc (.int .i64 (v757.length : Int))))), (10, .one (.h 10 [])), (20, .one (.h 20 [])), (126, .one (.t none (.sc (.int .i64 (v757.length : Int))))), (127, .one (.t none (.sc (.int .i64 w908))))], [(1, .vr [.sc (.int .i64 a0.letters), .sc (.int .i64 a0.start), .sl a0.final.length (a0.final.map fun x0 => .sc (.bool x0)), .sl a0.next.length (a0.next.map fun x0 => .sl x0.length (x0.map fun x1 => .sc (.int .i64 x1)))]), (2, .vr [.os 1 0 [], .os 1 0 [], .os 1 0 [], .os 1 0 [], .os 1 0 [], .os 1 0 []]), (5, .vr [.os 1 v757.length (v757.map fun x0 => .sc (.int .i64 x0)), .os 1 0 [], .os 1 0 [], .os 1 0 [], .os 1 0 [], .os 1 0 []]), (10, .os 1 w808.length (w808.map fun x0 => .os 1 x0.length (x0.map fun x1 => .sc (.bool x1)))), (20, .os 1 w909.length (w909.map fun x0 => .sc (.int .i64 x0)))]⟩
def z7y (a0 : DFA) (v757 : List Int) : Int × List (List Bool) -> Option ((Int × List (List Bool)) ⊕ (Imgs × Int))
  | (w807, w808) =>
  if w807 < (v757.length : Int) then
    (atI v757 w807).bind fun v849 =>
    (z3L a0 v849).bind fun v850 =>
    z0Z (z6g v757 w807 v850) LFm (0, w808)
  else
    z1i <|
    chk (z2g 8 (v757.length : Int)) <|
    z0Z (z7x a0 v757 w808) LFm (0, List.replicate (v757.length : Int).toNat (0 : Int))
def z7s (a0 : DFA) (v757 : List Int) : Int × List (List Bool) -> Fr
  | (w807, w808) => ⟨418, [(1, .one (.a 1 [] (0))), (2, .one (.a 2 [] (0))), (5, .one (.a 5 [] (0))), (6, .one (.t none (.sc (.int .i64 (v757.length : Int))))), (10, .one (.h 10 [])), (82, .one (.h 5 [0])), (83, .one (.t none (.sc (.int .i64 (v757.length : Int))))), (84, .one (.t none (.sc (.int .i64 w807))))], [(1, .vr [.sc (.int .i64 a0.letters), .sc (.int .i64 a0.start), .sl a0.final.length (a0.final.map fun x0 => .sc (.bool x0)), .sl a0.next.length (a0.next.map fun x0 => .sl x0.length (x0.map fun x1 => .sc (.int .i64 x1)))]), (2, .vr [.os 1 0 [], .os 1 0 [], .os 1 0 [], .os 1 0 [], .os 1 0 [], .os 1 0 []]), (5, .vr [.os 1 v757.length (v757.map fun x0 => .sc (.int .i64 x0)), .os 1 0 [], .os 1 0 [], .os 1 0 [], .os 1 0 [], .os 1 0 []]), (10, .os 1 w808.length (w808.map fun x0 => .os 1 x0.length (x0.map fun x1 => .sc (.bool x1))))]⟩
def z7z (a0 : DFA) (v757 : List Int) : Int × List (List Bool) -> Option ((Int × List (List Bool)) ⊕ (Imgs × Int))
  | (w763, w764) =>
  if w763 < (v757.length : Int) then
    chk (z2g 1 (v757.length : Int)) <|
    (atI w764 w763).bind fun v766 =>
    z0B (IntKind.i64.wrap (w763 + 1), (w764.set w763.toNat (List.replicate (v757.length : Int).toNat (false : Bool))))
  else
    z1i <|
    z0Z (z7y a0 v757) LFm (0, w764)
def z7t (a0 : DFA) (v757 : List Int) : Int × List (List Bool) -> Fr
  | (w763, w764) => ⟨418, [(1, .one (.a 1 [] (0))), (2, .one (.a 2 [] (0))), (5, .one (.a 5 [] (0))), (6, .one (.t none (.sc (.int .i64 (v757.length : Int))))), (10, .one (.h 10 [])), (71, .one (.t none (.sc (.int .i64 (v757.length : Int))))), (72, .one (.t none (.sc (.int .i64 w763))))], [(1, .vr [.sc (.int .i64 a0.letters), .sc (.int .i64 a0.start), .sl a0.final.length (a0.final.map fun x0 => .sc (.bool x0)), .sl a0.next.length (a0.next.map fun x0 => .sl x0.length (x0.map fun x1 => .sc (.int .i64 x1)))]), (2, .vr [.os 1 0 [], .os 1 0 [], .os 1 0 [], .os 1 0 [], .os 1 0 [], .os 1 0 []]), (5, .vr [.os 1 v757.length (v757.map fun x0 => .sc (.int .i64 x0)), .os 1 0 [], .os 1 0 [], .os 1 0 [], .os 1 0 [], .os 1 0 []]), (10, .os 1 w764.length (w764.map fun x0 => .os 1 x0.length (x0.map fun x1 => .sc (.bool x1))))]⟩
def z6h (a0 : DFA) (v757 : List Int) : Int × (List (Int × Int)) -> Option ((Int × (List (Int × Int))) ⊕ (Imgs × Int))
  | (w759, w760) =>
  if w759 < (v757.length : Int) then
    (atI v757 w759).bind fun v762 =>
    z0B (IntKind.i64.wrap (w759 + 1), zgo v762 w759 w760)
  else
    z1i <|
    chk (z2g 24 (v757.length : Int)) <|
    z0Z (z7z a0 v757) LFm (0, List.replicate (v757.length : Int).toNat ([] : List Bool))
def z7u (a0 : DFA) (v757 : List Int) : Int × (List (Int × Int)) -> Fr
  | (w759, w760) => ⟨418, [(1, .one (.a 1 [] (0))), (2, .one (.a 2 [] (0))), (5, .one (.a 5 [] (0))), (6, .one (.t none (.sc (.int .i64 (v757.length : Int))))), (7, .one (.h 7 [])), (57, .one (.h 5 [0])), (58, .one (.t none (.sc (.int .i64 (v757.length : Int))))), (59, .one (.t none (.sc (.int .i64 w759))))], [(1, .vr [.sc (.int .i64 a0.letters), .sc (.int .i64 a0.start), .sl a0.final.length (a0.final.map fun x0 => .sc (.bool x0)), .sl a0.next.length (a0.next.map fun x0 => .sl x0.length (x0.map fun x1 => .sc (.int .i64 x1)))]), (2, .vr [.os 1 0 [], .os 1 0 [], .os 1 0 [], .os 1 0 [], .os 1 0 [], .os 1 0 []]), (5, .vr [.os 1 v757.length (v757.map fun x0 => .sc (.int .i64 x0)), .os 1 0 [], .os 1 0 [], .os 1 0 [], .os 1 0 [], .os 1 0 []]), (7, .mp (some .i64) (w760.map fun x0 => (.int .i64 x0.1, .int .i64 x0.2)))]⟩
def z6B (a0 : DFA) : Option (Imgs × Int) :=
  (z5d a0).bind fun v756 =>
  if v756 = 0 then
    (z8d a0).bind fun v757 =>
    if 400 < (v757.length : Int) then
      some ((⟨[], [], [], [], [], []⟩ : Imgs), 3)
    else
      z0Z (z6h a0 v757) LFm (0, ([] : List (Int × Int)))
  else
    some ((⟨[], [], [], [], [], []⟩ : Imgs), v756)
theorem ze8 {a0 : DFA} {r : Imgs × Int} (h0 : z6B a0 = some r) : L 15 [.agg [.sc (.int .i64 a0.letters), .sc (.int .i64 a0.start), .sl a0.final.length (a0.final.map fun x0 => .sc (.bool x0)), .sl a0.next.length (a0.next.map fun x0 => .sl x0.length (x0.map fun x1 => .sc (.int .i64 x1)))]] = some (.tup [.agg [.os 1 r.1.sets.length (r.1.sets.map fun x0 => .sc (.int .i64 x0)), .os 1 r.1.class_.length (r.1.class_.map fun x0 => .sc (.int .i64 x0)), .os 1 r.1.height.length (r.1.height.map fun x0 => .sc (.int .i64 x0)), .os 1 r.1.tiles.length (r.1.tiles.map fun x0 => .os 1 x0.length (x0.map fun x1 => .sc (.int .i64 x1))), .os 1 r.1.words.length (r.1.words.map fun x0 => .sc (.string x0)), .os 1 r.1.back.length (r.1.back.map fun x0 => .sc (.string x0))], .sc (.int .i64 r.2)], [.dead]) := by
  simp only [z6B] at h0
  refine z2B zvy zvK (z1v zvN ⟨of_decide_eq_true rfl, of_decide_eq_true rfl⟩ ?_)
  simp only [z1D, z1A, z1z, z1F, z3d]
  refine zq rfl (zr rfl rfl rfl (by simp; rfl) ?_)
  refine z0a (zq rfl (zq rfl ?_))
  obtain ⟨v756, f1042, h1⟩ := z0b h0
  have f1042k := z7A f1042
  try simp at f1042k
  refine zr rfl rfl rfl (by simp [f1042k]; rfl) ?_
  refine z0a (zq rfl (zr rfl rfl rfl (by simp; rfl) ?_))
  refine z0a ?_
  by_cases c1043 : v756 = 0
  ·rw [if_pos c1043] at h1
   have c1043e := eq_true c1043
   refine z0l rfl (by simp [c1043e]) (z0e rfl (z0a (zq rfl ?_)))
   obtain ⟨v757, f1044, h2⟩ := z0b h1
   have f1044k := zgu f1044
   try simp at f1044k
   refine zr rfl rfl rfl (by simp [f1044k]; rfl) ?_
   refine z0a (zq rfl (zr rfl rfl rfl (by simp; rfl) ?_))
   refine z0a (zq rfl (zq rfl (zr rfl rfl rfl (by simp; rfl) ?_)))
   refine z0a ?_
   by_cases c1045 : 400 < (v757.length : Int)
   ·rw [if_pos c1045] at h2
    refine z0n rfl (by simp [c1045]) (zq rfl (zr rfl rfl rfl (by simp; rfl) ?_))
    refine z0a (z0F rfl (z0p ?_))
    cases h2
    simp
   ·rw [if_neg c1045] at h2
    refine z0l rfl (by simp [c1045]) (z0e rfl (z0a (zq rfl (zr rfl rfl rfl (by simp; rfl) ?_))))
    refine z0a (zq rfl (zq rfl (zr rfl rfl rfl (by simp; rfl) ?_)))
    refine z0a (zb rfl (z0G h2 (z7u a0 v757) rfl rfl (by simp [z7u]) fun s o1 h3 hr1 => ?_))
    obtain ⟨w759, w760⟩ := s
    simp only [z6h] at h3
    simp only [z7u]
    refine zq rfl (zr rfl rfl rfl (by simp; rfl) ?_)
    refine z0a (zq rfl ?_)
    by_cases c1050 : w759 < (v757.length : Int)
    ·rw [if_pos c1050] at h3
     refine z0n rfl (by simp [c1050]) (z0e rfl (z0a (zq rfl (zb rfl (zq rfl ?_)))))
     obtain ⟨v762, f1051, h4⟩ := z0T h3
     refine zr rfl rfl rfl (by simp [f1051]; rfl) ?_
     refine z0a (zr rfl rfl rfl (by simp; rfl) ?_)
     refine z0h (z0a (zr rfl rfl rfl (by simp; rfl) ?_))
     have ho := z0c h4
     refine z0g ho ?_
     simp [z7u]
    ·rw [if_neg c1050] at h3
     refine z0l rfl (by simp [c1050]) (z1b rfl (z0x ?_))
     obtain ⟨rr1, h4, ho1⟩ := z0f h3
     have hs1 := hr1 _ ho1
     subst hs1
     refine z0o ho1 (z0d rfl (z0a (zq rfl ?_)))
     obtain ⟨f1052, h5⟩ := zjJ h4
     refine zr rfl rfl rfl (by simp [f1052]; rfl) ?_
     refine z0a (zq rfl (zq rfl (zr rfl rfl rfl (by simp [f1052]; rfl) ?_)))
     refine z0a (zb rfl (z0G h5 (z7t a0 v757) rfl rfl (by simp [z7t]) fun s o2 h6 hr2 => ?_))
     obtain ⟨w763, w764⟩ := s
     simp only [z7z] at h6
     simp only [z7t]
     refine zq rfl (zr rfl rfl rfl (by simp; rfl) ?_)
     refine z0a (zq rfl ?_)
     by_cases c1059 : w763 < (v757.length : Int)
     ·rw [if_pos c1059] at h6
      refine z0n rfl (by simp [c1059]) (z0e rfl (z0a (zq rfl (zb rfl (zq rfl (zr rfl rfl rfl (by simp; rfl) ?_))))))
      refine z0a ?_
      obtain ⟨f1060, h7⟩ := zsP h6
      obtain ⟨v766, f1061, h8⟩ := z0T h7
      refine zr rfl rfl rfl (by simp [f1060, f1061]; rfl) ?_
      refine z0h (z0a (zr rfl rfl rfl (by simp; rfl) ?_))
      have ho := z0c h8
      refine z0g ho ?_
      simp [z7t]
     ·rw [if_neg c1059] at h6
      refine z0l rfl (by simp [c1059]) (z1b rfl (z0x ?_))
      obtain ⟨rr2, h7, ho2⟩ := z0f h6
      have hs2 := hr2 _ ho2
      subst hs2
      refine z0o ho2 (z0d rfl (z0a (zq rfl (zq rfl (zr rfl rfl rfl (by simp; rfl) ?_)))))
      refine z0a (zb rfl (z0G h7 (z7s a0 v757) rfl rfl (by simp [z7s]) fun s o3 h8 hr3 => ?_))
      obtain ⟨w807, w808⟩ := s
      simp only [z7y] at h8
      simp only [z7s]
      refine zq rfl (zr rfl rfl rfl (by simp; rfl) ?_)
      refine z0a (zq rfl ?_)
      by_cases c1170 : w807 < (v757.length : Int)
      ·rw [if_pos c1170] at h8
       refine z0n rfl (by simp [c1170]) (z0e rfl (z0a (zq rfl (zb rfl (zq rfl ?_)))))
       obtain ⟨v849, f1171, h9⟩ := z0T h8
       refine zr rfl rfl rfl (by simp [f1171]; rfl) ?_
       refine z0a (zq rfl ?_)
       obtain ⟨v850, f1172, h10⟩ := z0b h9
       have f1172k := z4E f1172
       try simp at f1172k
       refine zr rfl rfl rfl (by simp [f1172k]; rfl) ?_
       refine z0a (zq rfl (zr rfl rfl rfl (by simp; rfl) ?_))
       refine z0a (zb rfl (z0G h10 (z7r a0 v757 w807 v850) rfl rfl (by simp [z7r]) fun s o4 h11 hr4 => ?_))
       obtain ⟨w863, w864⟩ := s
       simp only [z6g] at h11
       simp only [z7r]
       refine zq rfl (zr rfl rfl rfl (by simp; rfl) ?_)
       refine z0a (zq rfl ?_)
       by_cases c1207 : w863 < (v850.1.length : Int)
       ·rw [if_pos c1207] at h11
        refine z0n rfl (by simp [c1207]) (z0e rfl (z0a (zq rfl (zb rfl (zq rfl ?_)))))
        obtain ⟨v877, f1208, h12⟩ := z0T h11
        refine zr rfl rfl rfl (by simp [f1208]; rfl) ?_
        refine z0a (zq rfl (zr rfl rfl rfl (by simp; rfl) ?_))
        refine z0a (zb rfl (z0G h12 (z5W a0 v757 w807 v850 w863 v877) rfl rfl (by simp [z5W]) fun s o5 h13 hr5 => ?_))
        obtain ⟨w881, w882⟩ := s
        simp only [z6f] at h13
        simp only [z5W]
        refine zq rfl (zr rfl rfl rfl (by simp; rfl) ?_)
        refine z0a (zq rfl ?_)
        by_cases c1219 : w881 < (v757.length : Int)
        ·rw [if_pos c1219] at h13
         refine z0n rfl (by simp [c1219]) (z0e rfl (z0a (zq rfl (zb rfl (zq rfl ?_)))))
         obtain ⟨v886, f1220, h14⟩ := z0T h13
         refine zr rfl rfl rfl (by simp [f1220]; rfl) ?_
         refine z0a (zq rfl (zr rfl rfl rfl (by simp; rfl) ?_))
         refine z0a ?_
         by_cases c1221 : (z2r .i64 v886 v877) = v886
         ·rw [if_pos c1221] at h14
          have c1221e := eq_true c1221
          refine z0n rfl (by simp [c1221e]) ?_
          obtain ⟨v887, f1222, h15⟩ := z0T h14
          obtain ⟨v888, f1223, h16⟩ := z0T h15
          refine zr rfl rfl rfl (by simp [f1222, f1223]; rfl) ?_
          refine z0h (z0a (zr rfl rfl rfl (by simp [f1222]; rfl) ?_))
          have ho := z0c h16
          refine z0g ho ?_
          simp [z5W]
         ·rw [if_neg c1221] at h14
          have c1221e := eq_false c1221
          refine z0l rfl (by simp [c1221e]) (z0e rfl (z0h (z0a (zr rfl rfl rfl (by simp; rfl) ?_))))
          have ho := z0c h14
          refine z0g ho ?_
          simp [z5W]
        ·rw [if_neg c1219] at h13
         refine z0l rfl (by simp [c1219]) (z1b rfl (z0x ?_))
         obtain ⟨rr5, h14, ho5⟩ := z0f h13
         have hs5 := hr5 _ ho5
         subst hs5
         refine z0o ho5 (z0d rfl (z0h (z0a (zr rfl rfl rfl (by simp; rfl) ?_))))
         have ho := z0c h14
         refine z0g ho ?_
         simp [z7r]
       ·rw [if_neg c1207] at h11
        refine z0l rfl (by simp [c1207]) (z1b rfl (z0x ?_))
        obtain ⟨rr4, h12, ho4⟩ := z0f h11
        have hs4 := hr4 _ ho4
        subst hs4
        refine z0o ho4 (z0d rfl (z0h (z0a (zr rfl rfl rfl (by simp; rfl) ?_))))
        have ho := z0c h12
        refine z0g ho ?_
        simp [z7s]
      ·rw [if_neg c1170] at h8
       refine z0l rfl (by simp [c1170]) (z1b rfl (z0x ?_))
       obtain ⟨rr3, h9, ho3⟩ := z0f h8
       have hs3 := hr3 _ ho3
       subst hs3
       refine z0o ho3 (z0d rfl (z0a (zq rfl ?_)))
       obtain ⟨f1224, h10⟩ := zjJ h9
       refine zr rfl rfl rfl (by simp [f1224]; rfl) ?_
       refine z0a (zq rfl (zq rfl (zr rfl rfl rfl (by simp [f1224]; rfl) ?_)))
       refine z0a (zb rfl (z0G h10 (z5V a0 v757 w808) rfl rfl (by simp [z5V]) fun s o6 h11 hr6 => ?_))
       obtain ⟨w908, w909⟩ := s
       simp only [z7x] at h11
       simp only [z5V]
       refine zq rfl (zr rfl rfl rfl (by simp; rfl) ?_)
       refine z0a (zq rfl ?_)
       by_cases c1279 : w908 < (v757.length : Int)
       ·rw [if_pos c1279] at h11
        refine z0n rfl (by simp [c1279]) (z0e rfl (z0a (zq rfl (zb rfl (zq rfl (zr rfl rfl rfl (by simp; rfl) ?_))))))
        refine z0a (zq rfl ?_)
        obtain ⟨v930, f1280, h12⟩ := z0T h11
        refine zr rfl rfl rfl (by simp [f1280]; rfl) ?_
        refine z0a (zq rfl (zr rfl rfl rfl (by simp; rfl) ?_))
        refine z0a (zb rfl (z0G h12 (z5U a0 v757 w808 w908 w909) rfl rfl (by simp [z5U]) fun s o7 h13 hr7 => ?_))
        obtain ⟨w937, hs7⟩ : ∃ y, y = s := ⟨_, rfl⟩
        subst hs7
        simp only [z6e] at h13
        simp only [z5U]
        refine zq rfl (zq rfl (zr rfl rfl rfl (by simp; rfl) ?_))
        refine z0a ?_
        by_cases c1299 : w937 < w908
        ·rw [if_pos c1299] at h13
         refine z0n rfl (by simp [c1299]) (z0e rfl (z0a (zq rfl (zb rfl (zq rfl ?_)))))
         obtain ⟨v944, f1300, h14⟩ := z0T h13
         obtain ⟨v945, f1301, h15⟩ := z0T h14
         by_cases c1302 : v945 = true
         ·rw [if_pos c1302] at h15
          obtain ⟨v946, f1303, h16⟩ := z0T h15
          obtain ⟨v947, f1304, h17⟩ := z0T h16
          refine zr rfl rfl rfl (by simp [f1300, f1301, c1302, f1303, f1304]; rfl) ?_
          refine z0a ?_
          by_cases c1305 : v947 = true
          ·rw [if_pos c1305] at h17
           refine z0n rfl (by simp [c1305]) (zq rfl ?_)
           obtain ⟨v948, f1306, h18⟩ := z0b h17
           obtain ⟨f1306a, f1306b, f1306c, f1306d, f1306e⟩ := z7E f1306
           try simp only [List.length_set] at f1306b f1306c
           have f1306s : ∀ hh, ((w909.set w908.toNat w908).map (fun x0 : Int => (.sc (.int .i64 x0) : T)))[w937.toNat]'hh = (fun x0 : Int => (.sc (.int .i64 x0) : T)) v948 := fun hh => by rw [List.getElem_map]; exact congrArg (fun x0 : Int => (.sc (.int .i64 x0) : T)) (f1306e _)
           try simp only [List.map_set] at f1306s
           obtain ⟨v949, f1307, h19⟩ := z0b h18
           obtain ⟨f1307a, f1307b, f1307c, f1307d, f1307e⟩ := z7E f1307
           try simp only [List.length_set] at f1307b f1307c
           have f1307s : ∀ hh, ((w909.set w908.toNat w908).map (fun x0 : Int => (.sc (.int .i64 x0) : T)))[w908.toNat]'hh = (fun x0 : Int => (.sc (.int .i64 x0) : T)) v949 := fun hh => by rw [List.getElem_map]; exact congrArg (fun x0 : Int => (.sc (.int .i64 x0) : T)) (f1307e _)
           try simp only [List.map_set] at f1307s
           refine zr rfl rfl rfl (by simp [f1300, f1303, f1306a, f1306b, f1306c, f1306d, f1306e, f1306s, f1307a, f1307b, f1307c, f1307d, f1307e, f1307s]; rfl) ?_
           refine z0a (z1b rfl (z8F rfl (z0x ?_)))
           obtain ⟨rr7, h20, ho7⟩ := z0f h19
           have hs7 := hr7 _ ho7
           subst hs7
           refine z0o ho7 (z0d rfl (z0h (z0a (zr rfl rfl rfl (by simp [f1300, f1303]; rfl) ?_))))
           have ho := z0c h20
           refine z0g ho ?_
           simp [z5V, c1302, c1305]
          ·rw [if_neg c1305] at h17
           refine z0l rfl (by simp [c1305]) (z0e rfl (z0h (z0a (zr rfl rfl rfl (by simp [f1300, f1303]; rfl) ?_))))
           have ho := z0c h17
           refine z0g ho ?_
           simp [z5U, c1302, c1305]
         ·rw [if_neg c1302] at h15
          refine zr rfl rfl rfl (by simp [f1300, f1301, c1302]; rfl) ?_
          refine z0a (z0l rfl (by simp) (z0e rfl (z0h (z0a (zr rfl rfl rfl (by simp [f1300]; rfl) ?_)))))
          have ho := z0c h15
          refine z0g ho ?_
          simp [z5U, c1302]
        ·rw [if_neg c1299] at h13
         refine z0l rfl (by simp [c1299]) (z1b rfl (z0x ?_))
         obtain ⟨rr7, h14, ho7⟩ := z0f h13
         have hs7 := hr7 _ ho7
         subst hs7
         refine z0o ho7 (z0d rfl (z0h (z0a (zr rfl rfl rfl (by simp; rfl) ?_))))
         have ho := z0c h14
         refine z0g ho ?_
         simp [z5V]
       ·rw [if_neg c1279] at h11
        refine z0l rfl (by simp [c1279]) (z1b rfl (z0x ?_))
        obtain ⟨rr6, h12, ho6⟩ := z0f h11
        have hs6 := hr6 _ ho6
        subst hs6
        refine z0o ho6 (z0d rfl (z0a (zq rfl ?_)))
        obtain ⟨v950, f1308, h13⟩ := z0b h12
        have f1308k := zb0 f1308
        try simp at f1308k
        refine zr rfl rfl rfl (by simp [f1308k]; rfl) ?_
        refine z0a (zq rfl ?_)
        obtain ⟨f1309, h14⟩ := zjJ h13
        obtain ⟨f1310, h15⟩ := zjJ h14
        obtain ⟨f1311, h16⟩ := zjJ h15
        refine zic rfl rfl rfl rfl ?_
        refine znC [(0, 0, 0, 1), (1, 2, 3, 2), (2, 4, 3, 3), (3, 6, 3, 4), (4, 1, 1, 5), (4, 3, 1, 6), (4, 5, 1, 7), (4, 7, 1, 8), (5, 8, 0, 12), (6, 1, 1, 9), (6, 5, 1, 13), (6, 7, 1, 14), (7, 1, 1, 10), (7, 3, 1, 13), (7, 7, 1, 15), (8, 1, 1, 11), (8, 3, 1, 14), (8, 5, 1, 15), (9, 8, 0, 18), (10, 8, 0, 20), (11, 8, 0, 21), (12, 3, 1, 18), (12, 5, 1, 20), (12, 7, 1, 21), (12, 9, 2, 22), (13, 1, 1, 16), (13, 7, 1, 23), (14, 1, 1, 17), (14, 5, 1, 23), (15, 1, 1, 19), (15, 3, 1, 23), (16, 8, 0, 25), (17, 8, 0, 26), (18, 5, 1, 25), (18, 7, 1, 26), (18, 9, 2, 27), (19, 8, 0, 28), (20, 3, 1, 25), (20, 7, 1, 28), (20, 9, 2, 29), (21, 3, 1, 26), (21, 5, 1, 28), (21, 9, 2, 30), (22, 3, 1, 27), (22, 5, 1, 29), (22, 7, 1, 30), (23, 1, 1, 24), (24, 8, 0, 31), (25, 7, 1, 31), (25, 9, 2, 32), (26, 5, 1, 31), (26, 9, 2, 33), (27, 10, 0, 34), (28, 3, 1, 31), (28, 9, 2, 35), (29, 3, 1, 32), (29, 7, 1, 35), (30, 3, 1, 33), (30, 5, 1, 35), (31, 9, 2, 36), (32, 10, 0, 37), (33, 10, 0, 38), (34, 5, 1, 37), (34, 7, 1, 38), (34, 11, 2, 39), (35, 3, 1, 36), (36, 10, 0, 40), (37, 7, 1, 40), (37, 11, 2, 41), (38, 5, 1, 40), (38, 11, 2, 42), (39, 5, 1, 41), (39, 7, 1, 42), (40, 11, 2, 43), (41, 12, 0, 44), (42, 5, 1, 43), (43, 12, 0, 45), (44, 7, 1, 45), (44, 13, 2, 46), (45, 13, 2, 47), (46, 7, 1, 47), (47, 14, 0, 48), (48, 15, 2, 49)] 49 (by kernel_rfl) ?_
        refine z0A rfl rfl rfl rfl (by simp [z0j, z0i, f1309, f1310, f1311]; rfl) ?_
        refine z0A rfl rfl rfl rfl (by simp [z0j, z0i, f1309, f1310, f1311]; rfl) ?_
        refine z0A rfl rfl rfl rfl (by simp [z0j, z0i, f1309, f1310, f1311]; rfl) ?_
        refine z0A rfl rfl rfl rfl (by simp [z0j, z0i, f1309, f1310, f1311]; rfl) ?_
        refine z0A rfl rfl rfl rfl (by simp [z0j, z0i, f1309, f1310, f1311]; rfl) ?_
        refine z0A rfl rfl rfl rfl (by simp [z0j, z0i, f1309, f1310, f1311]; rfl) ?_
        refine z0A rfl rfl rfl rfl (by simp [z0j, z0i, f1309, f1310, f1311]; rfl) ?_
        refine z0A rfl rfl rfl rfl (by simp [z0j, z0i, f1309, f1310, f1311]; rfl) ?_
        refine z0A rfl rfl rfl rfl (by simp [z0j, z0i, f1309, f1310, f1311]; rfl) ?_
        refine z0A rfl rfl rfl rfl (by simp [z0j, z0i, f1309, f1310, f1311]; rfl) ?_
        refine z0A rfl rfl rfl rfl (by simp [z0j, z0i, f1309, f1310, f1311]; rfl) ?_
        refine z0A rfl rfl rfl rfl (by simp [z0j, z0i, f1309, f1310, f1311]; rfl) ?_
        refine z0A rfl rfl rfl rfl (by simp [z0j, z0i, f1309, f1310, f1311]; rfl) ?_
        refine z0X rfl rfl rfl rfl (by simp [z0j, z0i, f1309, f1310, f1311]) ?_
        refine z0A rfl rfl rfl rfl (by simp [z0j, z0i, f1309, f1310, f1311]; rfl) ?_
        refine z0A rfl rfl rfl rfl (by simp [z0j, z0i, f1309, f1310, f1311]; rfl) ?_
        refine z0X rfl rfl rfl rfl (by simp [z0j, z0i, f1309, f1310, f1311]) ?_
        refine z0X rfl rfl rfl rfl (by simp [z0j, z0i, f1309, f1310, f1311]) ?_
        refine z0A rfl rfl rfl rfl (by simp [z0j, z0i, f1309, f1310, f1311]; rfl) ?_
        refine z0A rfl rfl rfl rfl (by simp [z0j, z0i, f1309, f1310, f1311]; rfl) ?_
        refine z0A rfl rfl rfl rfl (by simp [z0j, z0i, f1309, f1310, f1311]; rfl) ?_
        refine z0X rfl rfl rfl rfl (by simp [z0j, z0i, f1309, f1310, f1311]) ?_
        refine z0X rfl rfl rfl rfl (by simp [z0j, z0i, f1309, f1310, f1311]) ?_
        refine z0X rfl rfl rfl rfl (by simp [z0j, z0i, f1309, f1310, f1311]) ?_
        refine z0A rfl rfl rfl rfl (by simp [z0j, z0i, f1309, f1310, f1311]; rfl) ?_
        refine z0A rfl rfl rfl rfl (by simp [z0j, z0i, f1309, f1310, f1311]; rfl) ?_
        refine z0A rfl rfl rfl rfl (by simp [z0j, z0i, f1309, f1310, f1311]; rfl) ?_
        refine z0A rfl rfl rfl rfl (by simp [z0j, z0i, f1309, f1310, f1311]; rfl) ?_
        refine z0X rfl rfl rfl rfl (by simp [z0j, z0i, f1309, f1310, f1311]) ?_
        refine z0A rfl rfl rfl rfl (by simp [z0j, z0i, f1309, f1310, f1311]; rfl) ?_
        refine z0X rfl rfl rfl rfl (by simp [z0j, z0i, f1309, f1310, f1311]) ?_
        refine z0A rfl rfl rfl rfl (by simp [z0j, z0i, f1309, f1310, f1311]; rfl) ?_
        refine z0A rfl rfl rfl rfl (by simp [z0j, z0i, f1309, f1310, f1311]; rfl) ?_
        refine z0X rfl rfl rfl rfl (by simp [z0j, z0i, f1309, f1310, f1311]) ?_
        refine z0X rfl rfl rfl rfl (by simp [z0j, z0i, f1309, f1310, f1311]) ?_
        refine z0A rfl rfl rfl rfl (by simp [z0j, z0i, f1309, f1310, f1311]; rfl) ?_
        refine z0A rfl rfl rfl rfl (by simp [z0j, z0i, f1309, f1310, f1311]; rfl) ?_
        refine z0X rfl rfl rfl rfl (by simp [z0j, z0i, f1309, f1310, f1311]) ?_
        refine z0X rfl rfl rfl rfl (by simp [z0j, z0i, f1309, f1310, f1311]) ?_
        refine z0A rfl rfl rfl rfl (by simp [z0j, z0i, f1309, f1310, f1311]; rfl) ?_
        refine z0X rfl rfl rfl rfl (by simp [z0j, z0i, f1309, f1310, f1311]) ?_
        refine z0X rfl rfl rfl rfl (by simp [z0j, z0i, f1309, f1310, f1311]) ?_
        refine z0A rfl rfl rfl rfl (by simp [z0j, z0i, f1309, f1310, f1311]; rfl) ?_
        refine z0X rfl rfl rfl rfl (by simp [z0j, z0i, f1309, f1310, f1311]) ?_
        refine z0X rfl rfl rfl rfl (by simp [z0j, z0i, f1309, f1310, f1311]) ?_
        refine z0X rfl rfl rfl rfl (by simp [z0j, z0i, f1309, f1310, f1311]) ?_
        refine z0A rfl rfl rfl rfl (by simp [z0j, z0i, f1309, f1310, f1311]; rfl) ?_
        refine z0A rfl rfl rfl rfl (by simp [z0j, z0i, f1309, f1310, f1311]; rfl) ?_
        refine z0X rfl rfl rfl rfl (by simp [z0j, z0i, f1309, f1310, f1311]) ?_
        refine z0A rfl rfl rfl rfl (by simp [z0j, z0i, f1309, f1310, f1311]; rfl) ?_
        refine z0X rfl rfl rfl rfl (by simp [z0j, z0i, f1309, f1310, f1311]) ?_
        refine z0A rfl rfl rfl rfl (by simp [z0j, z0i, f1309, f1310, f1311]; rfl) ?_
        refine z0A rfl rfl rfl rfl (by simp [z0j, z0i, f1309, f1310, f1311]; rfl) ?_
        refine z0X rfl rfl rfl rfl (by simp [z0j, z0i, f1309, f1310, f1311]) ?_
        refine z0A rfl rfl rfl rfl (by simp [z0j, z0i, f1309, f1310, f1311]; rfl) ?_
        refine z0X rfl rfl rfl rfl (by simp [z0j, z0i, f1309, f1310, f1311]) ?_
        refine z0X rfl rfl rfl rfl (by simp [z0j, z0i, f1309, f1310, f1311]) ?_
        refine z0X rfl rfl rfl rfl (by simp [z0j, z0i, f1309, f1310, f1311]) ?_
        refine z0X rfl rfl rfl rfl (by simp [z0j, z0i, f1309, f1310, f1311]) ?_
        refine z0A rfl rfl rfl rfl (by simp [z0j, z0i, f1309, f1310, f1311]; rfl) ?_
        refine z0A rfl rfl rfl rfl (by simp [z0j, z0i, f1309, f1310, f1311]; rfl) ?_
        refine z0A rfl rfl rfl rfl (by simp [z0j, z0i, f1309, f1310, f1311]; rfl) ?_
        refine z0X rfl rfl rfl rfl (by simp [z0j, z0i, f1309, f1310, f1311]) ?_
        refine z0X rfl rfl rfl rfl (by simp [z0j, z0i, f1309, f1310, f1311]) ?_
        refine z0A rfl rfl rfl rfl (by simp [z0j, z0i, f1309, f1310, f1311]; rfl) ?_
        refine z0X rfl rfl rfl rfl (by simp [z0j, z0i, f1309, f1310, f1311]) ?_
        refine z0A rfl rfl rfl rfl (by simp [z0j, z0i, f1309, f1310, f1311]; rfl) ?_
        refine z0X rfl rfl rfl rfl (by simp [z0j, z0i, f1309, f1310, f1311]) ?_
        refine z0A rfl rfl rfl rfl (by simp [z0j, z0i, f1309, f1310, f1311]; rfl) ?_
        refine z0X rfl rfl rfl rfl (by simp [z0j, z0i, f1309, f1310, f1311]) ?_
        refine z0A rfl rfl rfl rfl (by simp [z0j, z0i, f1309, f1310, f1311]; rfl) ?_
        refine z0X rfl rfl rfl rfl (by simp [z0j, z0i, f1309, f1310, f1311]) ?_
        refine z0X rfl rfl rfl rfl (by simp [z0j, z0i, f1309, f1310, f1311]) ?_
        refine z0A rfl rfl rfl rfl (by simp [z0j, z0i, f1309, f1310, f1311]; rfl) ?_
        refine z0A rfl rfl rfl rfl (by simp [z0j, z0i, f1309, f1310, f1311]; rfl) ?_
        refine z0X rfl rfl rfl rfl (by simp [z0j, z0i, f1309, f1310, f1311]) ?_
        refine z0A rfl rfl rfl rfl (by simp [z0j, z0i, f1309, f1310, f1311]; rfl) ?_
        refine z0X rfl rfl rfl rfl (by simp [z0j, z0i, f1309, f1310, f1311]) ?_
        refine z0A rfl rfl rfl rfl (by simp [z0j, z0i, f1309, f1310, f1311]; rfl) ?_
        refine z0A rfl rfl rfl rfl (by simp [z0j, z0i, f1309, f1310, f1311]; rfl) ?_
        refine z0X rfl rfl rfl rfl (by simp [z0j, z0i, f1309, f1310, f1311]) ?_
        refine z0A rfl rfl rfl rfl (by simp [z0j, z0i, f1309, f1310, f1311]; rfl) ?_
        refine z0A rfl rfl rfl rfl (by simp [z0j, z0i, f1309, f1310, f1311]; rfl) ?_
        refine zp1 rfl ?_
        refine zhS rfl (by simp [f1309, f1310, f1311]; rfl) ?_
        refine z0a (zq rfl (zq rfl (zr rfl rfl rfl (by simp; rfl) ?_)))
        refine z0a (zb rfl (z0G h16 (z7q a0 v757 w808 v950) rfl rfl (by simp [z7q]) fun s o8 h17 hr8 => ?_))
        obtain ⟨w1055, w1056⟩ := s
        simp only [z6d] at h17
        simp only [z7q]
        refine zq rfl (zq rfl (zr rfl rfl rfl (by simp; rfl) ?_))
        refine z0a ?_
        by_cases c1567 : w1055 = true
        ·rw [if_pos c1567] at h17
         refine z0n rfl (by simp [c1567]) (z0e rfl (z0a (zb rfl (zq rfl (zr rfl rfl rfl (by simp; rfl) ?_)))))
         refine z0a (zq rfl (zr rfl rfl rfl (by simp; rfl) ?_))
         refine z0a (zb rfl (z0G h17 (z7p a0 v757 w808 v950) rfl rfl (by simp [z7p]) fun s o9 h18 hr9 => ?_))
         obtain ⟨w1204, w1205, w1206⟩ := s
         simp only [z6c] at h18
         simp only [z7p]
         refine zq rfl (zr rfl rfl rfl (by simp; rfl) ?_)
         refine z0a (zq rfl ?_)
         by_cases c1655 : w1205 < (v757.length : Int)
         ·rw [if_pos c1655] at h18
          refine z0n rfl (by simp [c1655]) (z0e rfl (z0a (zq rfl (zb rfl (zq rfl (zr rfl rfl rfl (by simp; rfl) ?_))))))
          refine z0a (zq rfl (zr rfl rfl rfl (by simp; rfl) ?_))
          refine z0a (zb rfl (z0G h18 (z3J a0 v757 w808 v950 w1205) rfl rfl (by simp [z3J]) fun s o10 h19 hr10 => ?_))
          obtain ⟨w1251, w1250, w1252⟩ := s
          simp only [z6b] at h19
          simp only [z3J]
          refine zq rfl (zr rfl rfl rfl (by simp; rfl) ?_)
          refine z0a (zq rfl ?_)
          by_cases c1682 : w1250 < (v757.length : Int)
          ·rw [if_pos c1682] at h19
           refine z0n rfl (by simp [c1682]) (z0e rfl (z0a (zq rfl (zb rfl (zq rfl (zr rfl rfl rfl (by simp; rfl) ?_))))))
           refine z0a (zq rfl ?_)
           obtain ⟨v1263, f1683, h20⟩ := z0T h19
           obtain ⟨v1264, f1684, h21⟩ := z0b h20
           have f1684k := z4p f1684
           try simp at f1684k
           by_cases c1685 : 1 < v1264
           ·rw [if_pos c1685] at h21
            obtain ⟨v1265, f1686, h22⟩ := z0T h21
            obtain ⟨v1266, f1687, h23⟩ := z0T h22
            by_cases c1688 : v1266 = true
            ·rw [if_pos c1688] at h23
             obtain ⟨v1267, f1689, h24⟩ := z0T h23
             obtain ⟨v1268, f1690, h25⟩ := z0T h24
             by_cases c1691 : v1268 = true
             ·rw [if_pos c1691] at h25
              refine z1B rfl rfl rfl rfl ?_; repeat' (first | (refine z0z rfl rfl fun Q' hQ => ?_; simp [f1683, f1684k, c1685, f1686, f1687, c1688, f1689, f1690, c1691]; refine hQ.out _ ?_; clear hQ; clear Q') | (refine z2f rfl rfl fun Q1 Q2 h1 h2 => ?_; simp [f1683, f1684k, c1685, f1686, f1687, c1688, f1689, f1690, c1691, z3R]; (first | refine h1.out ?_ | refine h2.out ?_); clear h1 h2; clear Q1 Q2; intro Q' hQ; simp [f1683, f1684k, c1685, f1686, f1687, c1688, f1689, f1690, c1691]; refine hQ.out _ ?_; clear hQ; clear Q') | (refine z0s rfl fun Q' hQ => ?_; simp [f1683, f1684k, c1685, f1686, f1687, c1688, f1689, f1690, c1691]; refine hQ.out _ ?_; clear hQ; clear Q'))
              refine z0a (z0l rfl (by simp) (z0e rfl (z0h (z0a (zr rfl rfl rfl (by simp [f1686, f1689]; rfl) ?_)))))
              have ho := z0c h25
              refine z0g ho ?_
              simp [z3J, c1688, c1691]
             ·rw [if_neg c1691] at h25
              obtain ⟨v1269, f1692, h26⟩ := z0T h25
              obtain ⟨v1270, f1693, h27⟩ := z0T h26
              refine z1B rfl rfl rfl rfl ?_; repeat' (first | (refine z0z rfl rfl fun Q' hQ => ?_; simp [f1683, f1684k, c1685, f1686, f1687, c1688, f1689, f1690, c1691, f1692, f1693]; refine hQ.out _ ?_; clear hQ; clear Q') | (refine z2f rfl rfl fun Q1 Q2 h1 h2 => ?_; simp [f1683, f1684k, c1685, f1686, f1687, c1688, f1689, f1690, c1691, f1692, f1693, z3R]; (first | refine h1.out ?_ | refine h2.out ?_); clear h1 h2; clear Q1 Q2; intro Q' hQ; simp [f1683, f1684k, c1685, f1686, f1687, c1688, f1689, f1690, c1691, f1692, f1693]; refine hQ.out _ ?_; clear hQ; clear Q') | (refine z0s rfl fun Q' hQ => ?_; simp [f1683, f1684k, c1685, f1686, f1687, c1688, f1689, f1690, c1691, f1692, f1693]; refine hQ.out _ ?_; clear hQ; clear Q'))
              refine z0a ?_
              by_cases c1694 : v1269 <= v1270
              ·rw [if_pos c1694] at h27
               refine z0n rfl (by simp [c1694]) (zq rfl ?_)
               refine z1B rfl rfl rfl rfl ?_; repeat' ((first | refine z0z rfl rfl fun Q' hQ => ?_ | refine z0s rfl fun Q' hQ => ?_); simp [f1686, f1689, f1693, f1692]; refine hQ.out _ ?_; clear hQ; clear Q')
               refine z0a (zr rfl rfl rfl (by simp [f1686, f1689]; rfl) ?_)
               refine z0h (z0a (zr rfl rfl rfl (by simp [f1686, f1689]; rfl) ?_))
               have ho := z0c h27
               refine z0g ho ?_
               simp [z3J, c1688, c1691]
              ·rw [if_neg c1694] at h27
               refine z0l rfl (by simp [c1694]) (z0e rfl (z0h (z0a (zr rfl rfl rfl (by simp [f1686, f1689]; rfl) ?_))))
               have ho := z0c h27
               refine z0g ho ?_
               simp [z3J, c1688, c1691]
            ·rw [if_neg c1688] at h23
             refine z1B rfl rfl rfl rfl ?_; repeat' (first | (refine z0z rfl rfl fun Q' hQ => ?_; simp [f1683, f1684k, c1685, f1686, f1687, c1688]; refine hQ.out _ ?_; clear hQ; clear Q') | (refine z2f rfl rfl fun Q1 Q2 h1 h2 => ?_; simp [f1683, f1684k, c1685, f1686, f1687, c1688, z3R]; (first | refine h1.out ?_ | refine h2.out ?_); clear h1 h2; clear Q1 Q2; intro Q' hQ; simp [f1683, f1684k, c1685, f1686, f1687, c1688]; refine hQ.out _ ?_; clear hQ; clear Q') | (refine z0s rfl fun Q' hQ => ?_; simp [f1683, f1684k, c1685, f1686, f1687, c1688]; refine hQ.out _ ?_; clear hQ; clear Q'))
             refine z0a (z0l rfl (by simp) (z0e rfl (z0h (z0a (zr rfl rfl rfl (by simp [f1686]; rfl) ?_)))))
             have ho := z0c h23
             refine z0g ho ?_
             simp [z3J, c1688]
           ·rw [if_neg c1685] at h21
            refine z1B rfl rfl rfl rfl ?_; repeat' (first | (refine z0z rfl rfl fun Q' hQ => ?_; simp [f1683, f1684k, c1685]; refine hQ.out _ ?_; clear hQ; clear Q') | (refine z2f rfl rfl fun Q1 Q2 h1 h2 => ?_; simp [f1683, f1684k, c1685, z3R]; (first | refine h1.out ?_ | refine h2.out ?_); clear h1 h2; clear Q1 Q2; intro Q' hQ; simp [f1683, f1684k, c1685]; refine hQ.out _ ?_; clear hQ; clear Q') | (refine z0s rfl fun Q' hQ => ?_; simp [f1683, f1684k, c1685]; refine hQ.out _ ?_; clear hQ; clear Q'))
            refine z0a (z0l rfl (by simp) (z0e rfl (z0h (z0a (zr rfl rfl rfl (by simp; rfl) ?_)))))
            have ho := z0c h21
            refine z0g ho ?_
            simp [z3J]
          ·rw [if_neg c1682] at h19
           refine z0l rfl (by simp [c1682]) (z1b rfl (z0x ?_))
           obtain ⟨rr10, h20, ho10⟩ := z0f h19
           have hs10 := hr10 _ ho10
           subst hs10
           refine z0o ho10 (z0d rfl (z0h (z0a (zr rfl rfl rfl (by simp; rfl) ?_))))
           have ho := z0c h20
           refine z0g ho ?_
           simp [z7p]
         ·rw [if_neg c1655] at h18
          refine z0l rfl (by simp [c1655]) (z1b rfl (z0x ?_))
          obtain ⟨rr9, h19, ho9⟩ := z0f h18
          have hs9 := hr9 _ ho9
          subst hs9
          refine z0o ho9 (z0d rfl (z0h ?_))
          have ho := z0c h19
          refine z0g ho ?_
          simp [z7q]
        ·rw [if_neg c1567] at h17
         refine z0l rfl (by simp [c1567]) (z1b rfl (z0x ?_))
         obtain ⟨rr8, h18, ho8⟩ := z0f h17
         have hs8 := hr8 _ ho8
         subst hs8
         refine z0o ho8 (z0d rfl (z0a (zq rfl (zq rfl (zr rfl rfl rfl (by simp; rfl) ?_)))))
         refine z0a (zb rfl (z0G h18 (z5T a0 v757 v950 w1056) rfl rfl (by simp [z5T]) fun s o11 h19 hr11 => ?_))
         obtain ⟨w1311, w1312⟩ := s
         simp only [z4T] at h19
         simp only [z5T]
         refine zq rfl (zr rfl rfl rfl (by simp; rfl) ?_)
         refine z0a (zq rfl ?_)
         by_cases c1855 : w1311 < (v757.length : Int)
         ·rw [if_pos c1855] at h19
          refine z0n rfl (by simp [c1855]) (z0e rfl (z0a (zq rfl (zb rfl (zq rfl (zr rfl rfl rfl (by simp; rfl) ?_))))))
          refine z0a (zq rfl (zq rfl ?_))
          obtain ⟨v1353, f1856, h20⟩ := z0T h19
          obtain ⟨v1354, f1857, h21⟩ := z0b h20
          have f1857k := z4p f1857
          try simp at f1857k
          refine zr rfl rfl rfl (by simp [f1856, f1857k]; rfl) ?_
          refine z0a ?_
          by_cases c1858 : v1354 = 1
          ·rw [if_pos c1858] at h21
           have c1858e := eq_true c1858
           refine z0n rfl (by simp [c1858e]) (z1b rfl (z0x (z0d rfl (z0a (zr rfl rfl rfl (by simp; rfl) ?_)))))
           have ho := z0c h21
           refine z0g ho ?_
           simp [z5T]
          ·rw [if_neg c1858] at h21
           have c1858e := eq_false c1858
           refine z0l rfl (by simp [c1858e]) (z0e rfl (z0a (zq rfl (zr rfl rfl rfl (by simp; rfl) ?_))))
           refine z0a (zb rfl (z0G h21 (z4c a0 v757 v950 w1056 w1311) rfl rfl (by simp [z4c]) fun s o12 h22 hr12 => ?_))
           obtain ⟨w1367, w1368⟩ := s
           simp only [z6a] at h22
           simp only [z4c]
           refine zq rfl (zr rfl rfl rfl (by simp; rfl) ?_)
           refine z0a (zq rfl ?_)
           by_cases c1913 : w1367 < (v757.length : Int)
           ·rw [if_pos c1913] at h22
            refine z0n rfl (by simp [c1913]) (z0e rfl (z0a (zq rfl (zb rfl (zq rfl ?_)))))
            obtain ⟨v1381, f1914, h23⟩ := z0T h22
            refine zr rfl rfl rfl (by simp [f1914]; rfl) ?_
            refine z0a (zq rfl (zq rfl ?_))
            obtain ⟨v1382, f1915, h24⟩ := z0T h23
            by_cases c1916 : (z2r .i64 v1381 v1382) = v1381
            ·rw [if_pos c1916] at h24
             have c1916e := eq_true c1916
             refine zr rfl rfl rfl (by simp [f1915, c1916e]; rfl) ?_
             refine z0a ?_
             by_cases c1917 : w1367 = w1311
             ·rw [if_pos c1917] at h24
              have c1917e := eq_true c1917
              refine z0n rfl (by simp [c1917e]) (z1b rfl (z0x (z0d rfl (z0a (zr rfl rfl rfl (by simp; rfl) ?_)))))
              have ho := z0c h24
              refine z0g ho ?_
              simp [z4c]
             ·rw [if_neg c1917] at h24
              have c1917e := eq_false c1917
              refine z0l rfl (by simp [c1917e]) (z0e rfl (z0a (zq rfl (zr rfl rfl rfl (by simp; rfl) ?_))))
              refine z0a (zq rfl (zq rfl (zr rfl rfl rfl (by simp; rfl) ?_)))
              refine z0a (zb rfl (z0G h24 (z3I a0 v757 v950 w1056 w1311 w1367 w1368 v1381) rfl rfl (by simp [z3I]) fun s o13 h25 hr13 => ?_))
              obtain ⟨w1385, w1386⟩ := s
              simp only [z5Z] at h25
              simp only [z3I]
              refine zq rfl (zr rfl rfl rfl (by simp; rfl) ?_)
              refine z0a (zq rfl ?_)
              by_cases c1931 : w1386 < (v757.length : Int)
              ·rw [if_pos c1931] at h25
               refine z0n rfl (by simp [c1931]) (z0e rfl (z0a (zq rfl (zb rfl (zq rfl ?_)))))
               obtain ⟨v1389, f1932, h26⟩ := z0T h25
               refine zr rfl rfl rfl (by simp [f1932]; rfl) ?_
               refine z0a ?_
               by_cases c1933 : w1385 = true
               ·rw [if_pos c1933] at h26
                by_cases c1934 : w1386 = w1367
                ·rw [if_pos c1934] at h26
                 have c1934e := eq_true c1934
                 refine zr rfl rfl rfl (by simp [c1933, c1934e]; rfl) ?_
                 refine z0h (z0a (zr rfl rfl rfl (by simp; rfl) ?_))
                 have ho := z0c h26
                 refine z0g ho ?_
                 simp [z3I, c1933]
                ·rw [if_neg c1934] at h26
                 have c1934e := eq_false c1934
                 by_cases c1935 : w1386 = w1311
                 ·rw [if_pos c1935] at h26
                  have c1935e := eq_true c1935
                  refine zr rfl rfl rfl (by simp [c1933, c1934e, c1935e]; rfl) ?_
                  refine z0h (z0a (zr rfl rfl rfl (by simp; rfl) ?_))
                  have ho := z0c h26
                  refine z0g ho ?_
                  simp [z3I, c1933]
                 ·rw [if_neg c1935] at h26
                  have c1935e := eq_false c1935
                  obtain ⟨v1390, f1936, h27⟩ := z0T h26
                  by_cases c1937 : (z2r .i64 v1389 v1390) = v1389
                  ·rw [if_pos c1937] at h27
                   have c1937e := eq_true c1937
                   refine zr rfl rfl rfl (by simp [c1933, c1934e, c1935e, f1936, c1937e]; rfl) ?_
                   refine z0h (z0a (zr rfl rfl rfl (by simp; rfl) ?_))
                   have ho := z0c h27
                   refine z0g ho ?_
                   simp [z3I, c1933]
                  ·rw [if_neg c1937] at h27
                   have c1937e := eq_false c1937
                   refine zr rfl rfl rfl (by simp [c1933, c1934e, c1935e, f1936, c1937e]; rfl) ?_
                   refine z0h (z0a (zr rfl rfl rfl (by simp; rfl) ?_))
                   have ho := z0c h27
                   refine z0g ho ?_
                   simp [z3I, c1933]
               ·rw [if_neg c1933] at h26
                refine zr rfl rfl rfl (by simp [c1933]; rfl) ?_
                refine z0h (z0a (zr rfl rfl rfl (by simp; rfl) ?_))
                have ho := z0c h26
                refine z0g ho ?_
                simp [z3I, c1933]
              ·rw [if_neg c1931] at h25
               refine z0l rfl (by simp [c1931]) (z1b rfl (z0x ?_))
               obtain ⟨rr13, h26, ho13⟩ := z0f h25
               have hs13 := hr13 _ ho13
               subst hs13
               refine z0o ho13 (z0d rfl (z0a (zq rfl (zr rfl rfl rfl (by simp; rfl) ?_))))
               refine z0a ?_
               by_cases c1938 : w1385 = true
               ·rw [if_pos c1938] at h26
                refine z0n rfl (by simp [c1938]) ?_
                obtain ⟨v1391, f1939, h27⟩ := z0T h26
                obtain ⟨f1940, h28⟩ := zcR h27
                refine zic rfl rfl rfl rfl ?_
                refine znC [(0, 0, 3, 1), (1, 2, 3, 2), (2, 3, 3, 3), (3, 5, 3, 4), (4, 8, 3, 5), (5, 1, 2, 6), (5, 4, 2, 7), (5, 9, 1, 8), (6, 4, 2, 9), (6, 9, 1, 10), (7, 6, 3, 11), (8, 1, 2, 10), (8, 4, 2, 12), (9, 6, 0, 13), (10, 4, 2, 14), (11, 1, 2, 13), (11, 7, 2, 15), (11, 9, 1, 16), (12, 6, 3, 16), (13, 7, 2, 17), (13, 9, 1, 18), (14, 6, 0, 18), (15, 1, 2, 17), (15, 9, 1, 19), (16, 1, 2, 18), (16, 7, 2, 19), (17, 9, 1, 20), (18, 7, 2, 20), (19, 1, 2, 20), (19, 10, 2, 21), (20, 10, 2, 22), (21, 1, 2, 22), (22, 11, 0, 23), (23, 12, 2, 24)] 24 (by kernel_rfl) ?_
                refine z0A rfl rfl rfl rfl (by simp [z0j, z0i, f1939, f1940]; rfl) ?_
                refine z0A rfl rfl rfl rfl (by simp [z0j, z0i, f1939, f1940]; rfl) ?_
                refine z0A rfl rfl rfl rfl (by simp [z0j, z0i, f1939, f1940]; rfl) ?_
                refine z0A rfl rfl rfl rfl (by simp [z0j, z0i, f1939, f1940]; rfl) ?_
                refine z0A rfl rfl rfl rfl (by simp [z0j, z0i, f1939, f1940]; rfl) ?_
                refine z0A rfl rfl rfl rfl (by simp [z0j, z0i, f1939, f1940]; rfl) ?_
                refine z0A rfl rfl rfl rfl (by simp [z0j, z0i, f1939, f1940]; rfl) ?_
                refine z0A rfl rfl rfl rfl (by simp [z0j, z0i, f1939, f1940]; rfl) ?_
                refine z0A rfl rfl rfl rfl (by simp [z0j, z0i, f1939, f1940]; rfl) ?_
                refine z0A rfl rfl rfl rfl (by simp [z0j, z0i, f1939, f1940]; rfl) ?_
                refine z0A rfl rfl rfl rfl (by simp [z0j, z0i, f1939, f1940]; rfl) ?_
                refine z0X rfl rfl rfl rfl (by simp [z0j, z0i, f1939, f1940]) ?_
                refine z0A rfl rfl rfl rfl (by simp [z0j, z0i, f1939, f1940]; rfl) ?_
                refine z0A rfl rfl rfl rfl (by simp [z0j, z0i, f1939, f1940]; rfl) ?_
                refine z0A rfl rfl rfl rfl (by simp [z0j, z0i, f1939, f1940]; rfl) ?_
                refine z0X rfl rfl rfl rfl (by simp [z0j, z0i, f1939, f1940]) ?_
                refine z0A rfl rfl rfl rfl (by simp [z0j, z0i, f1939, f1940]; rfl) ?_
                refine z0A rfl rfl rfl rfl (by simp [z0j, z0i, f1939, f1940]; rfl) ?_
                refine z0X rfl rfl rfl rfl (by simp [z0j, z0i, f1939, f1940]) ?_
                refine z0A rfl rfl rfl rfl (by simp [z0j, z0i, f1939, f1940]; rfl) ?_
                refine z0A rfl rfl rfl rfl (by simp [z0j, z0i, f1939, f1940]; rfl) ?_
                refine z0X rfl rfl rfl rfl (by simp [z0j, z0i, f1939, f1940]) ?_
                refine z0X rfl rfl rfl rfl (by simp [z0j, z0i, f1939, f1940]) ?_
                refine z0A rfl rfl rfl rfl (by simp [z0j, z0i, f1939, f1940]; rfl) ?_
                refine z0X rfl rfl rfl rfl (by simp [z0j, z0i, f1939, f1940]) ?_
                refine z0X rfl rfl rfl rfl (by simp [z0j, z0i, f1939, f1940]) ?_
                refine z0A rfl rfl rfl rfl (by simp [z0j, z0i, f1939, f1940]; rfl) ?_
                refine z0X rfl rfl rfl rfl (by simp [z0j, z0i, f1939, f1940]) ?_
                refine z0X rfl rfl rfl rfl (by simp [z0j, z0i, f1939, f1940]) ?_
                refine z0A rfl rfl rfl rfl (by simp [z0j, z0i, f1939, f1940]; rfl) ?_
                refine z0A rfl rfl rfl rfl (by simp [z0j, z0i, f1939, f1940]; rfl) ?_
                refine z0X rfl rfl rfl rfl (by simp [z0j, z0i, f1939, f1940]) ?_
                refine z0A rfl rfl rfl rfl (by simp [z0j, z0i, f1939, f1940]; rfl) ?_
                refine z0A rfl rfl rfl rfl (by simp [z0j, z0i, f1939, f1940]; rfl) ?_
                refine zp1 rfl ?_
                refine zhS rfl (by simp [f1939, f1940]; rfl) ?_
                refine z0h (z0a (zr rfl rfl rfl (by simp; rfl) ?_))
                have ho := z0c h28
                refine z0g ho ?_
                simp [z4c, c1938]
               ·rw [if_neg c1938] at h26
                refine z0l rfl (by simp [c1938]) (z0e rfl (z0h (z0a (zr rfl rfl rfl (by simp; rfl) ?_))))
                have ho := z0c h26
                refine z0g ho ?_
                simp [z4c, c1938]
            ·rw [if_neg c1916] at h24
             have c1916e := eq_false c1916
             refine zr rfl rfl rfl (by simp [f1915, c1916e]; rfl) ?_
             refine z0a (z0n rfl (by simp) (z1b rfl (z0x (z0d rfl (z0a (zr rfl rfl rfl (by simp; rfl) ?_))))))
             have ho := z0c h24
             refine z0g ho ?_
             simp [z4c]
           ·rw [if_neg c1913] at h22
            refine z0l rfl (by simp [c1913]) (z1b rfl (z0x ?_))
            obtain ⟨rr12, h23, ho12⟩ := z0f h22
            have hs12 := hr12 _ ho12
            subst hs12
            refine z0o ho12 (z0d rfl (z0h (z0a (zr rfl rfl rfl (by simp; rfl) ?_))))
            have ho := z0c h23
            refine z0g ho ?_
            simp [z5T]
         ·rw [if_neg c1855] at h19
          refine z0l rfl (by simp [c1855]) (z1b rfl (z0x ?_))
          obtain ⟨rr11, h20, ho11⟩ := z0f h19
          have hs11 := hr11 _ ho11
          subst hs11
          refine z0o ho11 (z0d rfl (z0a (zq rfl (zq rfl (zr rfl rfl rfl (by simp; rfl) ?_)))))
          refine z0a (zb rfl (z0G h20 (z7o a0 v757 v950 w1056 w1312) rfl rfl (by simp [z7o]) fun s o14 h21 hr14 => ?_))
          obtain ⟨w1430, w1431, w1432⟩ := s
          simp only [z7w] at h21
          simp only [z7o]
          refine zq rfl (zr rfl rfl rfl (by simp; rfl) ?_)
          refine z0a (zq rfl ?_)
          by_cases c2038 : w1430 < (v757.length : Int)
          ·rw [if_pos c2038] at h21
           refine z0n rfl (by simp [c2038]) (z0e rfl (z0a (zq rfl (zb rfl (zq rfl (zr rfl rfl rfl (by simp; rfl) ?_))))))
           refine z0a (zq rfl (zr rfl rfl rfl (by simp; rfl) ?_))
           refine z0a (zq rfl (zb rfl (z0G h21 (z7n a0 v757 v950 w1056 w1312 w1430 w1431 w1432) rfl rfl (by simp [z7n]) fun s o15 h22 hr15 => ?_)))
           obtain ⟨w1474, hs15⟩ : ∃ y, y = s := ⟨_, rfl⟩
           subst hs15
           simp only [z7v] at h22
           simp only [z7n]
           refine zq rfl (zq rfl ?_)
           obtain ⟨v1477, f2045, h23⟩ := z0T h22
           obtain ⟨v1478, f2046, h24⟩ := z0T h23
           refine z1B rfl rfl rfl rfl ?_; repeat' ((first | refine z0z rfl rfl fun Q' hQ => ?_ | refine z0s rfl fun Q' hQ => ?_); simp [f2045, f2046]; refine hQ.out _ ?_; clear hQ; clear Q')
           refine z0a ?_
           by_cases c2047 : v1477 = v1478
           ·rw [if_pos c2047] at h24
            have c2047e := eq_true c2047
            refine z0l rfl (by simp [c2047e]) (z1b rfl (z0x ?_))
            obtain ⟨rr15, h25, ho15⟩ := z0f h24
            have hs15 := hr15 _ ho15
            subst hs15
            refine z0o ho15 (z0d rfl (z0a (zq rfl ?_)))
            obtain ⟨v1479, f2048, h26⟩ := z0T h25
            obtain ⟨v1480, f2049, h27⟩ := z0b h26
            have f2049k := z4E f2049
            try simp at f2049k
            refine z1B rfl rfl rfl rfl ?_; repeat' ((first | refine z0z rfl rfl fun Q' hQ => ?_ | refine z0s rfl fun Q' hQ => ?_); simp [f2048, f2049k]; refine hQ.out _ ?_; clear hQ; clear Q')
            refine z0a (zq rfl (zq rfl (zr rfl rfl rfl (by simp; rfl) ?_)))
            refine z0a (zb rfl (z0G h27 (z5S a0 v757 v950 w1056 w1312 w1430 w1432 w1474 v1480) rfl rfl (by simp [z5S]) fun s o16 h28 hr16 => ?_))
            obtain ⟨w1485, w1486⟩ := s
            simp only [z5Y] at h28
            simp only [z5S]
            refine zq rfl (zr rfl rfl rfl (by simp; rfl) ?_)
            refine z0a (zq rfl ?_)
            by_cases c2062 : w1485 < (v1480.1.length : Int)
            ·rw [if_pos c2062] at h28
             refine z0n rfl (by simp [c2062]) (z0e rfl (z0a (zq rfl (zb rfl (zq rfl ?_)))))
             obtain ⟨v1491, f2063, h29⟩ := z0T h28
             refine zr rfl rfl rfl (by simp [f2063]; rfl) ?_
             refine z0a (zq rfl ?_)
             obtain ⟨v1492, f2064, h30⟩ := z0T h29
             refine zr rfl rfl rfl (by simp [f2064]; rfl) ?_
             refine z0a ?_
             by_cases c2065 : v1491 = v1492
             ·rw [if_pos c2065] at h30
              have c2065e := eq_true c2065
              refine z0n rfl (by simp [c2065e]) ?_
              obtain ⟨v1493, f2066, h31⟩ := z0T h30
              obtain ⟨v1494, f2067, h32⟩ := z0T h31
              refine z1B rfl rfl rfl rfl ?_; repeat' ((first | refine z0z rfl rfl fun Q' hQ => ?_ | refine z0s rfl fun Q' hQ => ?_); simp [f2066, f2067]; refine hQ.out _ ?_; clear hQ; clear Q')
              refine z0h (z0a (zr rfl rfl rfl (by simp; rfl) ?_))
              have ho := z0c h32
              refine z0g ho ?_
              simp [z5S]
             ·rw [if_neg c2065] at h30
              have c2065e := eq_false c2065
              refine z0l rfl (by simp [c2065e]) (z0e rfl (z0h (z0a (zr rfl rfl rfl (by simp; rfl) ?_))))
              have ho := z0c h30
              refine z0g ho ?_
              simp [z5S]
            ·rw [if_neg c2062] at h28
             refine z0l rfl (by simp [c2062]) (z1b rfl (z0x ?_))
             obtain ⟨rr16, h29, ho16⟩ := z0f h28
             have hs16 := hr16 _ ho16
             subst hs16
             refine z0o ho16 (z0d rfl (z0a (zq rfl ?_)))
             obtain ⟨v1495, f2068, h30⟩ := z0T h29
             obtain ⟨v1496, f2069, h31⟩ := z0b h30
             have f2069k := z4E f2069
             try simp at f2069k
             refine z1B rfl rfl rfl rfl ?_; repeat' ((first | refine z0z rfl rfl fun Q' hQ => ?_ | refine z0s rfl fun Q' hQ => ?_); simp [f2068, f2069k]; refine hQ.out _ ?_; clear hQ; clear Q')
             refine z0a (zq rfl (zr rfl rfl rfl (by simp; rfl) ?_))
             refine z0a (zb rfl (z0G h31 (z5R a0 v757 v950 w1056 w1312 w1430 w1474 w1486 v1496) rfl rfl (by simp [z5R]) fun s o17 h32 hr17 => ?_))
             obtain ⟨w1501, w1502⟩ := s
             simp only [z5X] at h32
             simp only [z5R]
             refine zq rfl (zr rfl rfl rfl (by simp; rfl) ?_)
             refine z0a (zq rfl ?_)
             by_cases c2082 : w1501 < (v1496.1.length : Int)
             ·rw [if_pos c2082] at h32
              refine z0n rfl (by simp [c2082]) (z0e rfl (z0a (zq rfl (zb rfl (zq rfl ?_)))))
              obtain ⟨v1507, f2083, h33⟩ := z0T h32
              refine zr rfl rfl rfl (by simp [f2083]; rfl) ?_
              refine z0a (zq rfl ?_)
              obtain ⟨v1508, f2084, h34⟩ := z0T h33
              refine zr rfl rfl rfl (by simp [f2084]; rfl) ?_
              refine z0a ?_
              by_cases c2085 : v1507 = v1508
              ·rw [if_pos c2085] at h34
               have c2085e := eq_true c2085
               refine z0n rfl (by simp [c2085e]) ?_
               obtain ⟨v1509, f2086, h35⟩ := z0T h34
               obtain ⟨v1510, f2087, h36⟩ := z0T h35
               refine z1B rfl rfl rfl rfl ?_; repeat' ((first | refine z0z rfl rfl fun Q' hQ => ?_ | refine z0s rfl fun Q' hQ => ?_); simp [f2086, f2087]; refine hQ.out _ ?_; clear hQ; clear Q')
               refine z0h (z0a (zr rfl rfl rfl (by simp; rfl) ?_))
               have ho := z0c h36
               refine z0g ho ?_
               simp [z5R]
              ·rw [if_neg c2085] at h34
               have c2085e := eq_false c2085
               refine z0l rfl (by simp [c2085e]) (z0e rfl (z0h (z0a (zr rfl rfl rfl (by simp; rfl) ?_))))
               have ho := z0c h34
               refine z0g ho ?_
               simp [z5R]
             ·rw [if_neg c2082] at h32
              refine z0l rfl (by simp [c2082]) (z1b rfl (z0x ?_))
              obtain ⟨rr17, h33, ho17⟩ := z0f h32
              have hs17 := hr17 _ ho17
              subst hs17
              refine z0o ho17 (z0d rfl (z0h (z0a (zr rfl rfl rfl (by simp; rfl) ?_))))
              have ho := z0c h33
              refine z0g ho ?_
              simp [z7o]
           ·rw [if_neg c2047] at h24
            have c2047e := eq_false c2047
            refine z0n rfl (by simp [c2047e]) (z0e rfl (z0a (zb rfl (zr rfl rfl rfl (by simp; rfl) ?_))))
            refine z0h ?_
            have ho := z0c h24
            refine z0g ho ?_
            simp [z7n]
          ·rw [if_neg c2038] at h21
           refine z0l rfl (by simp [c2038]) (z1b rfl (z0x ?_))
           obtain ⟨rr14, h22, ho14⟩ := z0f h21
           have hs14 := hr14 _ ho14
           subst hs14
           refine z0o ho14 (z0d rfl (z0a (zq rfl (zr rfl rfl rfl (by simp; rfl) ?_))))
           refine z0a (z0F rfl ?_)
           cases h22
           simp
  ·rw [if_neg c1043] at h1
   have c1043e := eq_false c1043
   refine z0n rfl (by simp [c1043e]) (zq rfl (zr rfl rfl rfl (by simp; rfl) ?_))
   refine z0a (z0F rfl (z0p ?_))
   cases h1
   simp
end
end Go.Proofs.Ytbnnipkanechoaa
end
section
namespace Go.Proofs.Ytbnnipkanechoaa
open Go
set_option maxRecDepth 100000
theorem zcU : ∀ s : Nat, s < 128 -> z4q (s : Int) = some ((szN s : Nat) : Int) := by decide +kernel
theorem zpg {a b : Nat} (ha : a < 128) (hb : b < 128) : z5Q (a : Int) (b : Int) = some (!znb b a) := by
  unfold z5Q
  rw [zcU a ha, Option.bind_some, zcU b hb, Option.bind_some]
  by_cases h : szN a = szN b
  · rw [if_pos (by omega)]
    congr 1
    rw [Bool.eq_iff_iff]
    simp only [decide_eq_true_eq, Bool.not_eq_true', zk9]
    omega
  · rw [if_neg (by omega), Option.bind_some, Option.bind_some]
    congr 1
    rw [Bool.eq_iff_iff]
    simp only [decide_eq_true_eq, Bool.not_eq_true', zk9]
    omega
theorem zr4 {S R : List Nat} {x : Nat} (hv : ∀ y ∈ S ++ [x], y < 128) (hs : zj1 S) (hl : S.length < 2 ^ 40) {w : Nat} (hw : w = S.length) :
    ∃ S', z0Z (z4C (w : Int)) LFm ((w : Int), toI (S ++ x :: R)) = some (.inl (((w + 1 : Nat) : Int), toI (S' ++ R))) /\ zj1 S' /\ S'.Perm (S ++ [x]) := by
  refine Exists.elim (z2u (b := z4C (w : Int)) (fun z => ∃ S1 S2, S1 ++ S2 = S /\ z = (((S1.length : Nat) : Int), toI (S1 ++ x :: (S2 ++ R))) /\ ∀ y ∈ S2, znb x y = true) (fun z => z.1.toNat)
    (fun r => ∃ S', r = .inl (((w + 1 : Nat) : Int), toI (S' ++ R)) /\ zj1 S' /\ S'.Perm (S ++ [x])) ?_ LFm ((w : Int), toI (S ++ x :: R)) ⟨S, [], by simp, by rw [hw]; simp, by simp⟩ (by simp only [LFm]; omega)) fun r h => by
      obtain ⟨h1, S', rfl, h2, h3⟩ := h
      exact ⟨S', h1, h2, h3⟩
  rintro z ⟨S1, S2, rfl, rfl, h2⟩
  have hlen : S1.length + S2.length < 2 ^ 40 := by rw [List.length_append] at hl; omega
  have fin : (∀ y ∈ S1, znb y x = true) -> zj1 (S1 ++ x :: S2) /\ (S1 ++ x :: S2).Perm (S1 ++ S2 ++ [x]) := fun hle => by
    refine ⟨?_, ?_⟩
    · rw [zj1, List.pairwise_append] at hs ⊢
      refine ⟨hs.1, List.pairwise_cons.2 ⟨fun y hy => h2 y hy, hs.2.1⟩, fun a ha b hb => ?_⟩
      rcases List.mem_cons.1 hb with rfl | hb
      · exact hle a ha
      · exact hs.2.2 a ha b hb
    · rw [List.append_assoc]
      exact List.Perm.append_left _ (List.perm_append_singleton x S2).symm
  simp only [z4C]
  rcases List.eq_nil_or_concat S1 with rfl | ⟨S0, y, rfl⟩
  · right
    rw [if_neg (by simp)]
    obtain ⟨f1, f2⟩ := fin (fun y hy => by simp at hy)
    refine ⟨_, rfl, x :: S2, ?_, by simpa using f1, by simpa using f2⟩
    have : IntKind.i64.wrap ((w : Int) + 1) = ((w + 1 : Nat) : Int) := by rw [z3F (by omega) (by omega)]; omega
    rw [this]; simp
  · simp only [List.concat_eq_append] at *
    have hy : y < 128 := hv y (by simp)
    have hx : x < 128 := hv x (by simp)
    have e1 : toI (S0 ++ [y] ++ x :: (S2 ++ R)) = toI S0 ++ (y : Int) :: (x : Int) :: toI (S2 ++ R) := by simp [toI]
    have hn : (S0 ++ [y]).length = (toI S0).length + 1 := by simp [toI]
    have hj : IntKind.i64.wrap ((((toI S0).length + 1 : Nat) : Int) - 1) = (((toI S0).length : Nat) : Int) := by
      rw [hn] at hlen
      rw [z3F (by omega) (by omega)]; omega
    rw [e1, hn, if_pos (by omega), at1 _ _ _ _ rfl, Option.bind_some, hj, at0 _ _ _ rfl, Option.bind_some, zpg hx hy, Option.bind_some]
    cases hlt : znb y x with
    | false =>
      left
      rw [if_pos (by rfl), Int.toNat_natCast, zsN _ _ _ _ _ rfl, at0 _ _ _ rfl, Option.bind_some, Int.toNat_natCast, zra _ _ _ _ rfl]
      refine ⟨_, rfl, ⟨S0, y :: S2, by simp, ?_, fun z hz => ?_⟩, by simp only; omega⟩
      · simp [toI]
      · rcases List.mem_cons.1 hz with rfl | hz
        · rw [zk9] at hlt; rw [zcw]; omega
        · exact h2 z hz
    | true =>
      right
      rw [if_neg (by simp)]
      obtain ⟨f1, f2⟩ := fin (fun z hz => by
        rcases List.mem_append.1 hz with hz | hz
        · rw [zj1, List.pairwise_append, List.pairwise_append] at hs
          have := hs.1.2.2 z hz y (by simp)
          rw [zcw] at *
          omega
        · obtain rfl := List.mem_singleton.1 hz; exact hlt)
      refine ⟨_, rfl, S0 ++ [y] ++ x :: S2, ?_, f1, f2⟩
      have : IntKind.i64.wrap ((w : Int) + 1) = ((w + 1 : Nat) : Int) := by rw [z3F (by omega) (by omega)]; omega
      rw [this]; simp [toI]
theorem zpL {X : List Nat} (hv : ∀ y ∈ X, y < 128) (hl : X.length < 2 ^ 40) (V : List Int) (hV : V.length = X.length) : ∃ S, z0Z (z4D V) LFm (0, toI X) = some (toI S) /\ zj1 S /\ S.Perm X := by
  refine Exists.elim (z2u (b := z4D V) (fun z => ∃ S U, z = (((S.length : Nat) : Int), toI (S ++ U)) /\ zj1 S /\ (S ++ U).Perm X) (fun z => X.length - z.1.toNat)
    (fun r => ∃ S, r = toI S /\ zj1 S /\ S.Perm X) ?_ LFm (0, toI X) ⟨[], X, by simp, by simp, .refl _⟩ (by simp only [LFm]; omega)) fun r h => by
      obtain ⟨h1, S, rfl, h2, h3⟩ := h
      exact ⟨S, h1, h2, h3⟩
  rintro z ⟨S, U, rfl, h1, h2⟩
  have hlen := h2.length_eq
  rw [List.length_append] at hlen
  simp only [z4D]
  cases U with
  | nil =>
    right
    rw [if_neg (by simp at hlen ⊢; omega)]
    exact ⟨_, rfl, S, by simp, h1, by simpa using h2⟩
  | cons u U =>
    left
    rw [if_pos (by simp at hlen ⊢; omega)]
    have hvS : ∀ y ∈ S ++ [u], y < 128 := fun y hy => hv y (h2.mem_iff.1 (by
      rcases List.mem_append.1 hy with hy | hy
      · exact List.mem_append.2 (.inl hy)
      · obtain rfl := List.mem_singleton.1 hy; simp))
    obtain ⟨S', e, s1, s2⟩ := zr4 (S := S) (R := U) (x := u) hvS h1 (by simp at hlen hl ⊢; omega) rfl
    rw [e]
    have hS' := s2.length_eq
    simp at hS'
    refine ⟨_, rfl, ⟨S', U, ?_, s1, ?_⟩, ?_⟩
    · simp only [hS']
    · refine List.Perm.trans ?_ h2
      have : S ++ u :: U = S ++ [u] ++ U := by simp
      rw [this]
      exact s2.append_right U
    · simp at hlen ⊢; omega
theorem zrG {d : DFA} {m n : Nat} (hd : DfaOk d m n) (hn : n <= 7) : z8d d = some (toI (ze1 d m n)) := by
  have hp := Nat.two_pow_pos n
  have h128 : 2 ^ n <= 128 := Nat.pow_le_pow_right (n := 2) (by omega) hn
  have hf : 2 ^ n - 1 < 2 ^ n := by omega
  have hi := z3S hd hf
  have hl := z1j hi.nd hi.lt
  unfold z8d
  rw [zqM hd (by omega), Option.bind_some, zbo hd (by omega) hf, Option.bind_some]
  refine z1G (s := ((0 : Int), toI (z1d d m n (2 ^ n - 1)).1)) n (fun q => ((q : Int), toI (z7R (z1d d m n (2 ^ n - 1)).1 q))) rfl (by simp only [LFm]; omega) (fun q hq => ?_) ?_
  · have h3' := (z5D hi.nd q).2.2
    simp only [z6z]
    rw [if_pos (by rw [hd.fin]; omega), zj4 (by omega), z1q _ (by omega)]
    generalize hX : z7R (z1d d m n (2 ^ n - 1)).1 q = X at *
    refine z1G (s := (false, (0 : Int))) X.length (fun k => (decide (2 ^ q ∈ X.take k), (k : Int))) (by simp) (by simp only [LFm]; omega) (fun k hk => ?_) ?_
    · have ht : X.take (k + 1) = X.take k ++ [X.getD k 0] := by rw [List.getD, List.getElem?_eq_getElem hk, Option.getD_some, List.take_append_getElem]
      simp only [z6y]
      rw [if_pos (by rw [z0q]; omega), z2v hk, Option.bind_some, zj4 (by omega), z5G (by omega), z1M (by omega), ht]
      by_cases h : 2 ^ q ∈ X.take k
      · rw [if_pos (by simpa using h)]
        congr 2
        simp [h]
      · rw [if_neg (by simpa using h)]
        congr 2
        rw [Bool.eq_iff_iff, decide_eq_true_iff, decide_eq_true_iff, List.mem_append, List.mem_singleton]
        constructor
        · intro h'; exact .inr (by omega)
        · rintro (h' | h')
          · exact absurd h' h
          · omega
    · simp only [z6y]
      rw [if_neg (by rw [z0q]; omega), List.take_length, z1M (by omega), z7R, hX]
      by_cases h : 2 ^ q ∈ X
      · rw [if_pos (by simpa using h), if_pos h]
      · rw [if_neg (by simpa using h), if_neg h, z1q _ (by unfold z5B; rw [z0q]; omega), zj4 (by omega), z5G (by omega), z6s]
  · obtain ⟨h1, h2, h3⟩ := z5D hi.nd n
    simp only [z6z]
    rw [if_neg (by rw [hd.fin]; omega), z1q _ (by unfold z5B; rw [z0q]; omega)]
    have hv : ∀ y ∈ z7R (z1d d m n (2 ^ n - 1)).1 n, y < 128 := fun y hy => by
      rcases (h2 y).1 hy with h | ⟨i, hi', rfl⟩
      · have := hi.lt y h; omega
      · have : 2 ^ i < 2 ^ n := Nat.pow_lt_pow_right (by omega) hi'
        omega
    obtain ⟨S, e, s1, s2⟩ := zpL hv (by omega) (toI (z7R (z1d d m n (2 ^ n - 1)).1 n)) (z0q _)
    rw [e]
    have : S = ze1 d m n := zfV (s2.trans (z9N _).symm) s1 (z8T _)
    rw [this]
end Go.Proofs.Ytbnnipkanechoaa
end
section
namespace Go.Proofs.Ytbnnipkanechoaa
open Go
set_option maxRecDepth 100000
theorem ziH {N : Nat} {e : Nat -> Nat -> Bool} (he : EqvN N e) {i : Nat} (hi : i < N) :
    (z6T e N i < (z1E e i).length /\ (z1E e i).getD (z6T e N i) 0 = (z1E e N).getD (z6T e N i) 0 /\ z1E e (i + 1) = z1E e i) ∨
    (z6T e N i = (z1E e i).length /\ (z1E e N).getD (z6T e N i) 0 = i /\ z1E e (i + 1) = z1E e i ++ [i]) := by
  have hc := zqK he hi
  by_cases h : (z1E e i).any (e i) = true
  · left
    obtain ⟨x, hx, hp⟩ := List.any_eq_true.1 h
    have hlt : z6T e N i < (z1E e i).length := by rw [← hc]; exact List.findIdx_lt_length_of_exists ⟨x, hx, hp⟩
    refine ⟨hlt, ?_, by rw [z1E, if_pos h]⟩
    obtain ⟨R, hR⟩ := zer e (i := i) N (by omega)
    rw [hR, List.getD, List.getD, List.getElem?_append_left hlt]
  · right
    have hlt : z6T e N i = (z1E e i).length := by
      rw [← hc]
      exact List.findIdx_eq_length.2 fun x hx => by
        cases hh : e i x with
        | false => rfl
        | true => exact absurd (List.any_eq_true.2 ⟨x, hx, hh⟩) h
    refine ⟨hlt, ?_, by rw [z1E, if_neg h]⟩
    obtain ⟨R, hR⟩ := zer e (i := i + 1) N (by omega)
    rw [hR, z1E, if_neg h, hlt, List.getD, List.append_assoc, List.getElem?_append_right (Nat.le_refl _), Nat.sub_self]
    rfl
def zcG (N : Nat) (f : Nat -> Nat -> Bool) : List (List Bool) := (List.range N).map fun a => (List.range N).map (f a)
theorem z6i {N : Nat} {f g : Nat -> Nat -> Bool} (h : ∀ a b, a < N -> b < N -> f a b = g a b) : zcG N f = zcG N g :=
  List.map_congr_left fun a ha => List.map_congr_left fun b hb => h a b (List.mem_range.1 ha) (List.mem_range.1 hb)
theorem zrh {N : Nat} {f : Nat -> Nat -> Bool} {i j : Nat} (hi : i < N) (hj : j < N) (v : Bool) : (zcG N f).set i (((List.range N).map (f i)).set j v) = zcG N fun a b => if a = i /\ b = j then v else f a b := by
  apply List.ext_getElem (by simp [zcG])
  intro k h1 h2
  simp only [zcG, List.getElem_set, List.getElem_map, List.getElem_range]
  by_cases e : i = k
  · subst e
    rw [if_pos rfl]
    apply List.ext_getElem (by simp)
    intro l h3 h4
    simp only [List.getElem_set, List.getElem_map, List.getElem_range]
    by_cases e2 : j = l
    · subst e2; simp
    · rw [if_neg e2, if_neg (by omega)]
  · rw [if_neg e]
    apply List.ext_getElem (by simp)
    intro l h3 h4
    simp only [List.getElem_map, List.getElem_range]
    rw [if_neg (by omega)]
theorem zip {N : Nat} {f : Nat -> Nat -> Bool} {i : Nat} (h : i < N) : atI (zcG N f) (i : Int) = some ((List.range N).map (f i)) := z2S h
section
variable {d : DFA} {m n : Nat} {S : List Nat} (hd : DfaOk d m n) (hn : n <= 7) (hS : SetsP d m n S)
def pOf (S : List Nat) (a x : Nat) : Bool := decide (S.getD a 0 &&& x = S.getD a 0)
include hd hn hS
theorem zr2 {j x : Nat} (hj : j < S.length) (hx : x < 2 ^ n) (w : Nat) (hw : w < 4611686018427387904) (f : Nat -> Nat -> Bool) :
    z0Z (z6f (toI S) (j : Int) (w : Int) (x : Int)) LFm (0, zcG S.length f) = z0B (((w + 1 : Nat) : Int), zcG S.length fun a b => if b = j then f a b || pOf S a x else f a b) := by
  have _u := hd
  have h128 : 2 ^ n <= 128 := Nat.pow_le_pow_right (n := 2) (by omega) hn
  have hSl := z1j hS.nd hS.lt
  refine z1G (s := ((0 : Int), zcG S.length f)) S.length (fun i => ((i : Int), zcG S.length fun a b => if b = j /\ a < i then f a b || pOf S a x else f a b)) ?_ (by simp only [LFm]; omega) (fun i hi => ?_) ?_
  · refine Prod.ext rfl ?_
    exact z6i fun a b _ _ => by simp
  · have hil := hS.lt _ (z1u hi)
    simp only [z6f]
    rw [if_pos (by rw [z0q]; omega), z2v hi, Option.bind_some, z9X (by omega) (by omega), z1M (by omega)]
    by_cases h : S.getD i 0 &&& x = S.getD i 0
    · rw [if_pos (by omega), zip hi, Option.bind_some, z2S hj, Option.bind_some, Int.toNat_natCast, Int.toNat_natCast, zrh hi hj]
      congr 2
      refine z6i fun a b _ _ => ?_
      by_cases e : a = i /\ b = j
      · obtain ⟨rfl, rfl⟩ := e
        have : pOf S a x = true := decide_eq_true h
        rw [if_pos ⟨rfl, rfl⟩, if_pos ⟨rfl, by omega⟩, this, Bool.or_true]
      · rw [if_neg e]
        by_cases e2 : b = j /\ a < i
        · rw [if_pos e2, if_pos ⟨e2.1, by omega⟩]
        · rw [if_neg e2, if_neg (by omega)]
    · rw [if_neg (by omega)]
      congr 2
      refine z6i fun a b _ _ => ?_
      by_cases e : a = i /\ b = j
      · obtain ⟨rfl, rfl⟩ := e
        have : pOf S a x = false := decide_eq_false h
        rw [if_neg (by omega), if_pos ⟨rfl, by omega⟩, this, Bool.or_false]
      · by_cases e2 : b = j /\ a < i
        · rw [if_pos e2, if_pos ⟨e2.1, by omega⟩]
        · rw [if_neg e2, if_neg (by omega)]
  · simp only [z6f]
    rw [if_neg (by rw [z0q]; omega), z1M hw]
    congr 2
    refine Prod.ext rfl ?_
    refine z6i fun a b ha _ => ?_
    by_cases e : b = j
    · rw [if_pos ⟨e, ha⟩, if_pos e]
    · rw [if_neg (fun h => e h.1), if_neg e]
theorem zr3 {j : Nat} (hj : j < S.length) (W : List ByteArray) :
    z0Z (z6g (toI S) (j : Int) (toI (z1d d m n (S.getD j 0)).1, W)) LFm (0, zcG S.length fun a b => decide (b < j) && z3h d m n S a b) = z0B (((j + 1 : Nat) : Int), zcG S.length fun a b => decide (b < j + 1) && z3h d m n S a b) := by
  have h128 : 2 ^ n <= 128 := Nat.pow_le_pow_right (n := 2) (by omega) hn
  have hSl := z1j hS.nd hS.lt
  have hinv := z3S hd (hS.lt _ (z1u hj))
  have hlt := hinv.lt
  have hl := z1j hinv.nd hinv.lt
  generalize hR : (z1d d m n (S.getD j 0)).1 = R at *
  refine z1G (s := ((0 : Int), zcG S.length fun a b => decide (b < j) && z3h d m n S a b)) R.length (fun k => ((k : Int), zcG S.length fun a b => if b = j then (R.take k).any (pOf S a) else decide (b < j) && z3h d m n S a b)) ?_ (by simp only [LFm]; omega) (fun k hk => ?_) ?_
  · refine Prod.ext rfl ?_
    refine z6i fun a b _ _ => ?_
    by_cases e : b = j
    · subst e; simp
    · rw [if_neg e]
  · have hx := hlt _ (z1u hk)
    simp only [z6g]
    rw [if_pos (by rw [z0q]; omega), z2v hk, Option.bind_some, zr2 hd hn hS hj hx k (by omega)]
    congr 2
    refine z6i fun a b _ _ => ?_
    by_cases e : b = j
    · rw [if_pos e, if_pos e, if_pos e, List.take_succ_eq_append_getElem hk, List.any_append, List.getD, List.getElem?_eq_getElem hk, Option.getD_some]
      simp
    · rw [if_neg e, if_neg e, if_neg e]
  · simp only [z6g]
    rw [if_neg (by rw [z0q]; omega), z1M (by omega)]
    congr 2
    refine Prod.ext rfl ?_
    refine z6i fun a b _ _ => ?_
    by_cases e : b = j
    · rw [if_pos e, List.take_length, ← hR, e, decide_eq_true (Nat.lt_succ_self j), Bool.true_and]
      rfl
    · rw [if_neg e]
      congr 1
      exact decide_eq_decide.2 (by omega)
theorem zoO {i : Nat} (hi : i < S.length) : z5p d m n S i <= i := by
  have _u := hn
  rcases ziH (zbh hd hS) hi with ⟨h1, h2, _⟩ | ⟨h1, h2, _⟩
  · have := zbf (z2y d m n S) i _ (z1u h1)
    rw [h2] at this
    exact Nat.le_of_lt this
  · exact Nat.le_of_eq h2
theorem zoP {i : Nat} (hi : i < S.length) : z2y d m n S i (z5p d m n S i) = true := by
  have _u := hn
  exact (zeD (zbh hd hS) hi).2
theorem zl1 {i j : Nat} (hi : i < S.length) (hj : j < S.length) (h : z2y d m n S i j = true) : z5p d m n S i = z5p d m n S j := by
  have _u := hn
  unfold z5p
  rw [(zgQ (zbh hd hS) hi hj).2 h]
theorem zqd {i : Nat} (hi : i < S.length) (Lc : List Int) (hL : Lc = z1I S.length (fun i => ((z5p d m n S i : Nat) : Int)) 0 i) :
    z0Z (z6e (zcG S.length (z3h d m n S)) (i : Int) Lc) LFm 0 = z0B (((i + 1 : Nat) : Int), z1I S.length (fun i => ((z5p d m n S i : Nat) : Int)) 0 (i + 1)) := by
  have h128 : 2 ^ n <= 128 := Nat.pow_le_pow_right (n := 2) (by omega) hn
  have hSl := z1j hS.nd hS.lt
  have hLl : Lc.length = S.length := by rw [hL, z9U]
  have hset : Lc.set i ((z5p d m n S i : Nat) : Int) = z1I S.length (fun i => ((z5p d m n S i : Nat) : Int)) 0 (i + 1) := by
    rw [hL]; exact z3P (f := fun i => ((z5p d m n S i : Nat) : Int)) (z := 0) hi
  rw [z6j (s := (0 : Int)) i (fun k => (k : Int)) (fun k => z2y d m n S i k) (fun k => z0B (((i + 1 : Nat) : Int), Lc.set i ((z5p d m n S k : Nat) : Int))) (x := z0B (((i + 1 : Nat) : Int), Lc.set i (i : Int))) rfl (by simp only [LFm]; omega)]
  · cases hf : (List.range i).find? fun k => z2y d m n S i k with
    | none =>
      have h0 := zey.1 hf
      have : z5p d m n S i = i := by
        have h1 := zoO hd hn hS hi
        refine Classical.byContradiction fun hne => ?_
        have := h0 (z5p d m n S i) (by omega)
        rw [zoP hd hn hS hi] at this
        cases this
      simp only
      rw [← hset, this]
    | some k =>
      obtain ⟨k1, k2, _⟩ := zex.1 hf
      simp only
      rw [← hset, zl1 hd hn hS hi (by omega) k2]
  · intro k hk
    have hks : k < S.length := by omega
    have hat : atI (Lc.set i (i : Int)) (k : Int) = some ((z5p d m n S k : Nat) : Int) := by
      rw [z2w (by simp; omega)]
      simp only [List.getElem_set]
      rw [if_neg (by omega)]
      simp only [hL, z1I, List.getElem_map, List.getElem_range]
      rw [if_pos hk]
    simp only [z6e]
    rw [if_pos (by omega), zip hi, Option.bind_some, z2S hks, Option.bind_some, z1M (by omega)]
    by_cases h1 : z3h d m n S i k = true
    · rw [if_pos h1, zip hks, Option.bind_some, z2S hi, Option.bind_some]
      by_cases h2 : z3h d m n S k i = true
      · rw [if_pos h2, if_pos (by simp [z2y, h1, h2]), Int.toNat_natCast, hat, Option.bind_some, zfX (by omega), Option.bind_some, ze2]
      · rw [if_neg h2, if_neg (by simp [z2y, h2]), z1M (by omega)]
    · rw [if_neg h1, if_neg (by simp [z2y, h1]), z1M (by omega)]
  · simp only [z6e]
    rw [if_neg (by omega), z1M (by omega), Int.toNat_natCast]
end
def mpC : List Nat -> Nat -> List (Int × Int)
  | [], _ => []
  | f :: l, c => (((f : Nat) : Int), ((c : Nat) : Int)) :: mpC l (c + 1)
theorem zoH : ∀ (l : List Nat) (c0 c : Nat), l.Nodup -> c < l.length -> zep ((l.getD c 0 : Nat) : Int) (mpC l c0) = some ((c0 + c : Nat) : Int)
  | [], c0, c, _, h2 => by rw [List.length_nil] at h2; omega
  | f :: l, c0, 0, _, h2 => by
    simp only [mpC, zep, List.getD_cons_zero]
    rw [if_pos trivial]; rfl
  | f :: l, c0, c + 1, h1, h2 => by
    rw [List.length_cons] at h2
    rw [List.nodup_cons] at h1
    have hm := z1u (l := l) (i := c) (by omega)
    have hne : ¬ ((f : Nat) : Int) = ((l.getD c 0 : Nat) : Int) := fun e => h1.1 (by rw [show f = l.getD c 0 by omega]; exact hm)
    simp only [mpC, zep, List.getD_cons_succ]
    rw [if_neg hne, zoH l (c0 + 1) c h1.2 (by omega)]
    congr 2; omega
theorem zkV (x : Nat) : ∀ (l : List Nat) (c0 : Nat), x ∉ l -> zep ((x : Nat) : Int) (mpC l c0) = none
  | [], c0, _ => rfl
  | f :: l, c0, h => by
    simp only [mpC, zep]
    rw [List.mem_cons] at h
    rw [if_neg (fun e => h (.inl (by omega))), zkV x l (c0 + 1) (fun hx => h (.inr hx))]
theorem znZ (x v : Nat) : ∀ (l : List Nat) (c0 : Nat), x ∉ l -> v = c0 + l.length -> zgo ((x : Nat) : Int) ((v : Nat) : Int) (mpC l c0) = mpC (l ++ [x]) c0
  | [], c0, _, h => by rw [List.length_nil] at h; subst h; rfl
  | f :: l, c0, h, hv => by
    rw [List.mem_cons] at h
    rw [List.length_cons] at hv
    simp only [mpC, zgo, List.cons_append]
    rw [if_neg (fun e => h (.inl (by omega))), znZ x v l (c0 + 1) (fun hx => h (.inr hx)) (by omega)]
theorem ziG (e : Nat -> Nat -> Bool) : ∀ i, (z1E e i).Nodup
  | 0 => by simp [z1E]
  | i + 1 => by
    have ih := ziG e i
    unfold z1E
    split
    · exact ih
    · refine List.nodup_append.2 ⟨ih, by simp, fun a ha b hb => ?_⟩
      have := zbf e i a ha
      obtain rfl := List.mem_singleton.1 hb
      omega
theorem ziZ {d : DFA} {m n : Nat} {S : List Nat} (hd : DfaOk d m n) (hn : n <= 7) (hS : SetsP d m n S) : z4e ((List.range S.length).map fun i => ((z5p d m n S i : Nat) : Int)) = some (zn4 d m n S) := by
  have h128 : 2 ^ n <= 128 := Nat.pow_le_pow_right (n := 2) (by omega) hn
  have hSl := z1j hS.nd hS.lt
  have he := zbh hd hS
  have hlen : ((List.range S.length).map fun i => ((z5p d m n S i : Nat) : Int)).length = S.length := by simp
  unfold z4e
  rw [hlen, if_neg (by omega), z1q _ (by unfold z2g; omega), Int.toNat_natCast]
  have f1 : List.replicate S.length (0 : Int) = z1I S.length (fun i => ((z6T (z2y d m n S) S.length i : Nat) : Int)) 0 0 := (z7i _ _ _).symm
  rw [f1]
  refine z1G (s := ((0 : Int), (0 : Int), z1I S.length (fun i => ((z6T (z2y d m n S) S.length i : Nat) : Int)) 0 0, ([] : List (Int × Int)))) S.length (fun i => ((((z1E (z2y d m n S) i).length : Nat) : Int), (i : Int), z1I S.length (fun i => ((z6T (z2y d m n S) S.length i : Nat) : Int)) 0 i, mpC (z1E (z2y d m n S) i) 0)) rfl (by simp only [LFm]; omega) (fun i hi => ?_) ?_
  · have hF := zes (z2y d m n S) i
    have hset := z3P (f := fun i => ((z6T (z2y d m n S) S.length i : Nat) : Int)) (z := (0 : Int)) hi
    simp only [z3X]
    rw [if_pos (by rw [hlen]; omega), z2S hi, Option.bind_some, z5z hi, Option.bind_some, Int.toNat_natCast, z1M (by omega)]
    rcases ziH he hi with ⟨q1, q2, q3⟩ | ⟨q1, q2, q3⟩
    · have g := zoH (z1E (z2y d m n S) i) 0 _ (ziG _ i) q1
      rw [q2, Nat.zero_add] at g
      have g : zep ((z5p d m n S i : Nat) : Int) (mpC (z1E (z2y d m n S) i) 0) = some ((z6T (z2y d m n S) S.length i : Nat) : Int) := g
      rw [g, if_pos (by rfl), Option.getD_some, hset, q3]
    · have hni : i ∉ z1E (z2y d m n S) i := fun h => by have := zbf _ _ _ h; omega
      have ef : z5p d m n S i = i := q2
      rw [ef, zkV i _ 0 hni, if_neg (by simp), Option.bind_some, z1M (by omega), znZ i _ _ 0 hni (by omega), q3, ← q1, hset, q1, List.length_append, List.length_singleton]
  · simp only [z3X]
    rw [if_neg (by rw [hlen]; omega), z7h]
    rfl
end Go.Proofs.Ytbnnipkanechoaa
end
section
namespace Go.Proofs.Ytbnnipkanechoaa
open Go
set_option maxRecDepth 100000
def z6Y (f : Nat -> Nat) : Nat -> Nat
  | 0 => 0
  | k + 1 => z6Y f k + f k
theorem zgk {f g : Nat -> Nat} : ∀ k, (∀ i, i < k -> f i <= g i) -> z6Y f k <= z6Y g k
  | 0, _ => Nat.le_refl _
  | k + 1, h => Nat.add_le_add (zgk k fun i hi => h i (by omega)) (h k (by omega))
theorem zqy {f g : Nat -> Nat} {p : Nat} : ∀ k, (∀ i, i < k -> f i <= g i) -> p < k -> f p < g p -> z6Y f k < z6Y g k
  | 0, _, hp, _ => by omega
  | k + 1, h, hp, hl => by
    simp only [z6Y]
    have h1 := h k (by omega)
    by_cases e : p = k
    · subst e
      have := zgk p fun i hi => h i (by omega)
      omega
    · have := zqy k (fun i hi => h i (by omega)) (by omega) hl
      omega
theorem zhV {f : Nat -> Nat} {B : Nat} : ∀ k, (∀ i, i < k -> f i <= B) -> z6Y f k <= k * B
  | 0, _ => by simp [z6Y]
  | k + 1, h => by
    have h1 := zhV k fun i hi => h i (by omega)
    have h2 := h k (by omega)
    simp only [z6Y, Nat.add_mul, Nat.one_mul]
    omega
def hL (N : Nat) (h : Nat -> Nat) : List Int := (List.range N).map fun i => ((h i : Nat) : Int)
theorem zsy {N : Nat} {h : Nat -> Nat} {i : Nat} (hi : i < N) (v : Nat) : (hL N h).set i ((v : Nat) : Int) = hL N fun a => if a = i then v else h a := by
  apply List.ext_getElem (by simp [hL])
  intro k h1 h2
  simp only [hL, List.getElem_set, List.getElem_map, List.getElem_range]
  by_cases e : i = k
  · rw [if_pos e, if_pos e.symm]
  · rw [if_neg e, if_neg (fun h => e h.symm)]
def okH (b : Nat -> Nat -> Bool) (z : Nat -> Bool) (h : Nat -> Nat) (i j : Nat) : Prop := z i = false -> sbN b j i = true -> h j < h i
theorem zq0 {N : Nat} {b : Nat -> Nat -> Bool} (hb : BelN N b) {z : Nat -> Bool} {i j : Nat} (hi : i < N) (hj : j < N) (hz : z i = false) (hs : sbN b j i = true) : zjU N b z j < zjU N b z i := by
  rw [zkR hb z i hi, hz]
  have := zpR (g := fun j => if sbN b j i = true then zjU N b z j + 1 else 0) hj
  simp only [hs, if_true] at this
  simp only [Bool.false_eq_true, if_false]
  omega
theorem zrq {N : Nat} {b : Nat -> Nat -> Bool} (hb : BelN N b) {z : Nat -> Bool} {h : Nat -> Nat} (hle : ∀ i, i < N -> h i <= zjU N b z i) (ho : ∀ i j, i < N -> j < N -> okH b z h i j) : ∀ i, i < N -> h i = zjU N b z i := by
  have : ∀ L i, i < N -> zeY N b i <= L -> zjU N b z i <= h i := by
    intro L
    induction L with
    | zero =>
      intro i hi hl
      exfalso
      have := zgb (p := fun _ => false) (q := fun j => b j i) (k := N) (i := i) (fun j _ hf => by simp at hf) hi rfl (hb.refl i hi)
      unfold zeY at hl; omega
    | succ L ih =>
      intro i hi hl
      rw [zkR hb z i hi]
      cases hz : z i with
      | true => simp
      | false =>
        simp only [Bool.false_eq_true, if_false]
        refine zay fun j hj => ?_
        by_cases hs : sbN b j i = true
        · have h1 := zkJ hb hi hj hs
          have h2 := ih j hj (by omega)
          have h3 := ho i j hi hj hz hs
          simp only [hs, if_true]
          omega
        · simp [hs]
  exact fun i hi => Nat.le_antisymm (hle i hi) (this _ i hi (Nat.le_refl _))
structure RndH (N : Nat) (b : Nat -> Nat -> Bool) (z : Nat -> Bool) (h0 : Nat -> Nat) (ch : Bool) (h : Nat -> Nat) : Prop where
  lo : ∀ i, i < N -> h0 i <= h i
  hi : ∀ i, i < N -> h i <= zjU N b z i
  no : ch = false -> ∀ i, i < N -> h i = h0 i
  yes : ch = true -> ∃ i, i < N /\ h0 i < h i
theorem zrZ : ∀ s : Nat, s < 128 -> s ≠ 0 -> szN s ≠ 0 := by decide +kernel
section
variable {d : DFA} {m n : Nat} {S : List Nat} (hd : DfaOk d m n) (hn : n <= 7) (hS : SetsP d m n S) (hpos : ∀ x ∈ S, x ≠ 0)
include hd hn hS hpos
theorem zrp {h0 : Nat -> Nat} {i : Nat} (hi : i < S.length) (ch : Bool) (h : Nat -> Nat) (hr : RndH S.length (z3h d m n S) (z9n S) h0 ch h) (hk : ch = false -> ∀ i', i' < i -> ∀ j, j < S.length -> okH (z3h d m n S) (z9n S) h0 i' j) :
    ∃ ch' h', z0Z (z6b (toI S) (zcG S.length (z3h d m n S)) (i : Int)) LFm (ch, 0, hL S.length h) = z0B (ch', ((i + 1 : Nat) : Int), hL S.length h') /\ RndH S.length (z3h d m n S) (z9n S) h0 ch' h' /\ (ch' = false -> ∀ i', i' < i + 1 -> ∀ j, j < S.length -> okH (z3h d m n S) (z9n S) h0 i' j) := by
  have h128 : 2 ^ n <= 128 := Nat.pow_le_pow_right (n := 2) (by omega) hn
  have hSl := z1j hS.nd hS.lt
  have hb := zlm hd hS
  refine Exists.elim (z2u (b := z6b (toI S) (zcG S.length (z3h d m n S)) (i : Int)) (fun z => ∃ (ch : Bool) (j : Nat) (h : Nat -> Nat), j <= S.length /\ z = (ch, (j : Int), hL S.length h) /\ RndH S.length (z3h d m n S) (z9n S) h0 ch h /\ (ch = false -> (∀ i', i' < i -> ∀ j, j < S.length -> okH (z3h d m n S) (z9n S) h0 i' j) /\ ∀ j', j' < j -> okH (z3h d m n S) (z9n S) h0 i j')) (fun z => S.length - z.2.1.toNat)
    (fun r => ∃ ch' h', r = .inl (ch', ((i + 1 : Nat) : Int), hL S.length h') /\ RndH S.length (z3h d m n S) (z9n S) h0 ch' h' /\ (ch' = false -> ∀ i', i' < i + 1 -> ∀ j, j < S.length -> okH (z3h d m n S) (z9n S) h0 i' j)) ?_ LFm (ch, 0, hL S.length h) ⟨ch, 0, h, by omega, rfl, hr, fun e => ⟨hk e, fun j' hj' => by omega⟩⟩ (by simp only [LFm]; omega)) fun r hh => by
      obtain ⟨e1, ch', h', rfl, e2, e3⟩ := hh
      exact ⟨ch', h', e1, e2, e3⟩
  rintro z ⟨ch, j, h, hj, rfl, r1, r2⟩
  simp only [z6b]
  by_cases hlt : j < S.length
  · left
    have hil := hS.lt _ (z1u hi)
    have hz0 := zrZ _ (by omega) (hpos _ (z1u hi))
    have hgi := ziE hb (z9n S) hi
    have hgj := ziE hb (z9n S) hlt
    have hhj := r1.hi j hlt
    have hhi := r1.hi i hi
    rw [if_pos (by rw [z0q]; omega), z2v hi, Option.bind_some, zcU _ (by omega), Option.bind_some, z1M (by omega)]
    have keep : okH (z3h d m n S) (z9n S) h i j -> RndH S.length (z3h d m n S) (z9n S) h0 ch h /\ (ch = false -> (∀ i', i' < i -> ∀ j, j < S.length -> okH (z3h d m n S) (z9n S) h0 i' j) /\ ∀ j', j' < j + 1 -> okH (z3h d m n S) (z9n S) h0 i j') := fun ho => ⟨r1, fun e => ⟨(r2 e).1, fun j' hj' => by
      by_cases ej : j' = j
      · subst ej
        intro q1 q2
        have := ho q1 q2
        rw [r1.no e i hi, r1.no e j' hlt] at this
        exact this
      · exact (r2 e).2 j' (by omega)⟩⟩
    have same : okH (z3h d m n S) (z9n S) h i j -> ∃ s', (z0B (ch, ((j + 1 : Nat) : Int), hL S.length h) : Option ((Bool × Int × List Int) ⊕ ((Bool × Int × List Int) ⊕ ((Bool × List Int) ⊕ (Imgs × Int))))) = some (.inl s') /\ (∃ (ch : Bool) (j : Nat) (h : Nat -> Nat), j <= S.length /\ s' = (ch, (j : Int), hL S.length h) /\ RndH S.length (z3h d m n S) (z9n S) h0 ch h /\ (ch = false -> (∀ i', i' < i -> ∀ j, j < S.length -> okH (z3h d m n S) (z9n S) h0 i' j) /\ ∀ j', j' < j -> okH (z3h d m n S) (z9n S) h0 i j')) /\ S.length - s'.2.1.toNat < S.length - (ch, (j : Int), hL S.length h).2.1.toNat := fun ho =>
      ⟨_, rfl, ⟨ch, j + 1, h, by omega, rfl, (keep ho).1, (keep ho).2⟩, by simp only [Int.toNat_natCast]; omega⟩
    by_cases hz : szN (S.getD i 0) = 1
    · rw [if_neg (by omega)]
      exact same fun q1 _ => absurd hz (of_decide_eq_false q1)
    · rw [if_pos (by omega), zip hlt, Option.bind_some, z2S hi, Option.bind_some]
      have hbz : z9n S i = false := decide_eq_false hz
      by_cases h1 : z3h d m n S j i = true
      · rw [if_pos h1, zip hi, Option.bind_some, z2S hlt, Option.bind_some]
        by_cases h2 : z3h d m n S i j = true
        · rw [if_pos h2]
          exact same fun _ q2 => by simp [sbN, h2] at q2
        · have hs : sbN (z3h d m n S) j i = true := by simp [sbN, h1, h2]
          have hst := zq0 hb hi hlt hbz hs
          have a1 : atI (hL S.length h) (i : Int) = some ((h i : Nat) : Int) := z2S hi
          have a2 : atI (hL S.length h) (j : Int) = some ((h j : Nat) : Int) := z2S hlt
          rw [if_neg h2, a1, Option.bind_some, a2, Option.bind_some]
          by_cases h3 : h i <= h j
          · rw [if_pos (by omega), z1M (by omega), Int.toNat_natCast, zsy hi]
            refine ⟨_, rfl, ⟨true, j + 1, _, by omega, rfl, ⟨fun a ha => ?_, fun a ha => ?_, (fun e => by cases e), fun _ => ⟨i, hi, ?_⟩⟩, (fun e => by cases e)⟩, by simp only [Int.toNat_natCast]; omega⟩
            · have := r1.lo a ha
              by_cases e : a = i
              · subst e; rw [if_pos rfl]; omega
              · rw [if_neg e]; exact this
            · have := r1.hi a ha
              by_cases e : a = i
              · subst e; rw [if_pos rfl]; omega
              · rw [if_neg e]; exact this
            · have := r1.lo i hi
              rw [if_pos rfl]; omega
          · rw [if_neg (by omega)]
            exact same fun _ _ => by omega
      · rw [if_neg h1]
        exact same fun _ q2 => by simp [sbN, h1] at q2
  · right
    obtain rfl : j = S.length := by omega
    rw [if_neg (by rw [z0q]; omega), z1M (by omega)]
    refine ⟨_, rfl, ch, h, rfl, r1, fun e i' hi' => ?_⟩
    by_cases e2 : i' = i
    · subst e2; exact (r2 e).2
    · exact (r2 e).1 i' (by omega)
theorem zmP {h0 : Nat -> Nat} (h1 : ∀ i, i < S.length -> h0 i <= z8i d m n S i) :
    ∃ ch' h', z0Z (z6c (toI S) (zcG S.length (z3h d m n S))) LFm (false, 0, hL S.length h0) = z0B (ch', hL S.length h') /\ RndH S.length (z3h d m n S) (z9n S) h0 ch' h' /\ (ch' = false -> ∀ i', i' < S.length -> ∀ j, j < S.length -> okH (z3h d m n S) (z9n S) h0 i' j) := by
  have h128 : 2 ^ n <= 128 := Nat.pow_le_pow_right (n := 2) (by omega) hn
  have hSl := z1j hS.nd hS.lt
  refine Exists.elim (z2u (b := z6c (toI S) (zcG S.length (z3h d m n S))) (fun z => ∃ (ch : Bool) (i : Nat) (h : Nat -> Nat), i <= S.length /\ z = (ch, (i : Int), hL S.length h) /\ RndH S.length (z3h d m n S) (z9n S) h0 ch h /\ (ch = false -> ∀ i', i' < i -> ∀ j, j < S.length -> okH (z3h d m n S) (z9n S) h0 i' j)) (fun z => S.length - z.2.1.toNat)
    (fun r => ∃ ch' h', r = .inl (ch', hL S.length h') /\ RndH S.length (z3h d m n S) (z9n S) h0 ch' h' /\ (ch' = false -> ∀ i', i' < S.length -> ∀ j, j < S.length -> okH (z3h d m n S) (z9n S) h0 i' j)) ?_ LFm (false, 0, hL S.length h0) ⟨false, 0, h0, by omega, rfl, ⟨fun _ _ => Nat.le_refl _, h1, fun _ _ _ => rfl, fun e => by cases e⟩, fun _ i' hi' => by omega⟩ (by simp only [LFm]; omega)) fun r hh => by
      obtain ⟨e1, ch', h', rfl, e2, e3⟩ := hh
      exact ⟨ch', h', e1, e2, e3⟩
  rintro z ⟨ch, i, h, hi, rfl, r1, r2⟩
  simp only [z6c]
  by_cases hlt : i < S.length
  · left
    obtain ⟨ch', h', e1, e2, e3⟩ := zrp hd hn hS hpos hlt ch h r1 r2
    rw [if_pos (by rw [z0q]; omega), e1]
    exact ⟨_, rfl, ⟨ch', i + 1, h', by omega, rfl, e2, e3⟩, by simp only [Int.toNat_natCast]; omega⟩
  · right
    obtain rfl : i = S.length := by omega
    rw [if_neg (by rw [z0q]; omega)]
    exact ⟨_, rfl, ch, h, rfl, r1, r2⟩
theorem zq1 {r : Imgs × Int} (C : List Int)
    (hr : z0Z (z4T d (toI S) C (zrr d m n S)) LFm (0, List.replicate S.length ([] : List Int)) = some r) :
    z0Z (z6d d (toI S) (zcG S.length (z3h d m n S)) C) LFm (true, List.replicate S.length (0 : Int)) = some r := by
  have h128 : 2 ^ n <= 128 := Nat.pow_le_pow_right (n := 2) (by omega) hn
  have hSl := z1j hS.nd hS.lt
  have hb := zlm hd hS
  have f1 : List.replicate S.length (0 : Int) = hL S.length fun _ => 0 := by
    apply List.ext_getElem (by simp [hL]); intro i h1 h2; simp [hL]
  rw [f1]
  have hbound : z6Y (fun i => z8i d m n S i - 0) S.length <= S.length * S.length := zhV _ fun i hi => by
    have := ziE hb (z9n S) hi
    show zjU _ _ _ i - 0 <= _
    omega
  have hsq : S.length * S.length <= 128 * 128 := Nat.mul_le_mul (by omega) (by omega)
  have mea : ∀ (ch : Bool) (h : Nat -> Nat), (z6Y (fun i => z8i d m n S i - ((hL S.length h).getD i 0).toNat) S.length + (if ch = true then 1 else 0)) = z6Y (fun i => z8i d m n S i - h i) S.length + (if ch = true then 1 else 0) := fun ch h => by
    congr 1
    have : ∀ k, k <= S.length -> z6Y (fun i => z8i d m n S i - ((hL S.length h).getD i 0).toNat) k = z6Y (fun i => z8i d m n S i - h i) k := by
      intro k
      induction k with
      | zero => intro _; rfl
      | succ k ih =>
        intro hk
        simp only [z6Y]
        rw [ih (by omega)]
        congr 2
        simp [hL, List.getD, show k < S.length by omega]
    exact this _ (Nat.le_refl _)
  refine zb6 (fun z : Bool × List Int => ∃ h, z.2 = hL S.length h /\ (∀ i, i < S.length -> h i <= z8i d m n S i) /\ (z.1 = false -> ∀ i, i < S.length -> ∀ j, j < S.length -> okH (z3h d m n S) (z9n S) h i j)) (fun z => z6Y (fun i => z8i d m n S i - (z.2.getD i 0).toNat) S.length + (if z.1 = true then 1 else 0)) (s := (true, hL S.length fun _ => 0)) ⟨fun _ => 0, rfl, fun _ _ => Nat.zero_le _, fun e => by cases e⟩ (by show z6Y (fun i => z8i d m n S i - ((hL S.length fun _ => 0).getD i 0).toNat) S.length + (if true = true then 1 else 0) < LFm; rw [mea]; simp only [LFm, if_true]; omega) ?_
  rintro ⟨ch, z⟩ ⟨h, rfl, q1, q2⟩
  cases ch with
  | false =>
    right
    have e : hL S.length h = zrr d m n S := List.map_congr_left fun i hi => by
      rw [zrq hb (z := z9n S) q1 (fun i j hi hj => q2 rfl i hi j hj) i (List.mem_range.1 hi)]
      rfl
    simp only [z6d]
    rw [if_neg (by simp), z0q, Int.toNat_natCast, e, hr]
  | true =>
    left
    obtain ⟨ch', h', e1, e2, e3⟩ := zmP hd hn hS hpos q1
    simp only [z6d]
    rw [if_pos trivial, e1]
    refine ⟨_, rfl, ⟨h', rfl, e2.hi, fun e i hi j hj => ?_⟩, ?_⟩
    · intro p1 p2
      have := e3 e i hi j hj p1 p2
      rw [e2.no e i hi, e2.no e j hj]
      exact this
    · show z6Y (fun i => z8i d m n S i - ((hL S.length h').getD i 0).toNat) S.length + (if ch' = true then 1 else 0) < z6Y (fun i => z8i d m n S i - ((hL S.length h).getD i 0).toNat) S.length + (if true = true then 1 else 0)
      rw [mea, mea]
      cases ch' with
      | false =>
        have : z6Y (fun i => z8i d m n S i - h' i) S.length <= z6Y (fun i => z8i d m n S i - h i) S.length := zgk _ fun i hi => by
          have := e2.lo i hi; omega
        simp only [if_true, Bool.false_eq_true, if_false]
        omega
      | true =>
        obtain ⟨p, p1, p2⟩ := e2.yes rfl
        have hp := e2.hi p p1
        have : z6Y (fun i => z8i d m n S i - h' i) S.length < z6Y (fun i => z8i d m n S i - h i) S.length := zqy _ (fun i hi => by have := e2.lo i hi; omega) p1 (by
          show zjU _ _ _ p - h' p < zjU _ _ _ p - h p
          omega)
        simp only [if_true]
        omega
end
end Go.Proofs.Ytbnnipkanechoaa
end
section
namespace Go.Proofs.Ytbnnipkanechoaa
open Go
set_option maxRecDepth 100000
def zef (S : List Nat) (i j k : Nat) : Bool := !zcN S i k || (decide (k = j) || !decide (S.getD j 0 &&& S.getD k 0 = S.getD j 0))
def zil (S : List Nat) (i j : Nat) : Nat -> Bool
  | 0 => true
  | k + 1 => zil S i j k && zef S i j k
theorem zik (S : List Nat) (i j : Nat) : ∀ k, zil S i j k = true ↔ ∀ x, x < k -> zef S i j x = true
  | 0 => by simp [zil]
  | k + 1 => by
    simp only [zil, Bool.and_eq_true]
    rw [zik S i j k]
    constructor
    · rintro ⟨h1, h2⟩ x hx
      by_cases e : x = k
      · subst e; exact h2
      · exact h1 x (by omega)
    · intro h
      exact ⟨fun x hx => h x (by omega), h k (by omega)⟩
theorem zoh (S : List Nat) (i j : Nat) : zil S i j S.length = zeT S i j := by
  rw [Bool.eq_iff_iff, zik, zeT, List.all_eq_true]
  constructor
  · intro h x hx
    obtain ⟨h1, h2⟩ := List.mem_filter.1 hx
    have := h x (List.mem_range.1 h1)
    simp only [zef, h2, Bool.not_true, Bool.false_or] at this
    exact this
  · intro h x hx
    unfold zef
    cases hp : zcN S i x with
    | false => rfl
    | true =>
      have := h x (List.mem_filter.2 ⟨List.mem_range.2 hx, hp⟩)
      simp only [Bool.not_true, Bool.false_or]
      exact this
def tlN (S : List Nat) (i j : Nat) : List Nat := ((List.range j).filter (zcN S i)).filter (zeT S i)
theorem zqT (S : List Nat) (i j : Nat) : tlN S i (j + 1) = tlN S i j ++ (if zcN S i j = true /\ zeT S i j = true then [j] else []) := by
  unfold tlN
  rw [List.range_succ, List.filter_append, List.filter_append]
  congr 1
  by_cases h1 : zcN S i j = true
  · by_cases h2 : zeT S i j = true
    · simp [h1, h2]
    · simp [h1, h2]
  · simp [h1]
theorem zrX (S : List Nat) (i j : Nat) : (tlN S i j).length <= j := by
  have h1 := List.length_filter_le (zeT S i) ((List.range j).filter (zcN S i))
  have h2 := List.length_filter_le (zcN S i) (List.range j)
  rw [List.length_range] at h2
  unfold tlN; omega
def zvJ (S : List Nat) : Nat -> List (Int × Int)
  | 0 => []
  | k + 1 => zgo ((S.getD k 0 : Nat) : Int) (k : Int) (zvJ S k)
section
variable {d : DFA} {m n : Nat} {S : List Nat} (hd : DfaOk d m n) (hn : n <= 7) (hS : SetsP d m n S) (hpos : ∀ x ∈ S, x ≠ 0)
include hd hn hS hpos
theorem zog {i j : Nat} (hi : i < S.length) (hj : j < S.length) (R : List (List Int)) (r : List Int) (hr : atI R (i : Int) = some r) (hrl : r.length <= 1000) :
    z0Z (z5Z (toI S) (i : Int) (j : Int) R ((S.getD j 0 : Nat) : Int)) LFm (true, 0) = z0B (((j + 1 : Nat) : Int), if zeT S i j = true then R.set i (r ++ [(j : Int)]) else R) := by
  have _u := hd
  have _u := hpos
  have h128 : 2 ^ n <= 128 := Nat.pow_le_pow_right (n := 2) (by omega) hn
  have hSl := z1j hS.nd hS.lt
  have hil := hS.lt _ (z1u hi)
  have hjl := hS.lt _ (z1u hj)
  refine z1G (s := (true, (0 : Int))) S.length (fun k => (zil S i j k, (k : Int))) rfl (by simp only [LFm]; omega) (fun k hk => ?_) ?_
  · have hkl := hS.lt _ (z1u hk)
    have tr : zef S i j k = true -> (z0B ((!false : Bool), ((k + 1 : Nat) : Int)) : Option ((Bool × Int) ⊕ ((Int × List (List Int)) ⊕ ((Int × List (List Int)) ⊕ (Imgs × Int))))) = z0B (true && zef S i j k, ((k + 1 : Nat) : Int)) := fun h => by rw [h]; rfl
    simp only [z5Z]
    rw [if_pos (by rw [z0q]; omega), z2v hk, Option.bind_some, z1M (by omega), zil]
    cases hm : zil S i j k with
    | false => rw [if_neg (by simp)]; rfl
    | true =>
      rw [if_pos rfl]
      by_cases e1 : k = j
      · rw [if_pos (by omega)]
        exact tr (by simp [zef, e1])
      · rw [if_neg (by omega)]
        by_cases e2 : k = i
        · rw [if_pos (by omega)]
          exact tr (by simp [zef, zcN, e2])
        · rw [if_neg (by omega), z2v hi, Option.bind_some, z9X (by omega) (by omega), z9X (by omega) (by omega)]
          by_cases e3 : S.getD k 0 &&& S.getD i 0 = S.getD k 0
          · have hp : zcN S i k = true := by
              unfold zcN
              rw [decide_eq_false e2, decide_eq_true e3]; rfl
            have hq : zef S i j k = !decide (S.getD j 0 &&& S.getD k 0 = S.getD j 0) := by
              unfold zef
              rw [hp, decide_eq_false e1]; rfl
            rw [if_pos (by omega), hq, show decide (((S.getD j 0 &&& S.getD k 0 : Nat) : Int) = ((S.getD j 0 : Nat) : Int)) = decide (S.getD j 0 &&& S.getD k 0 = S.getD j 0) from decide_eq_decide.2 (by omega)]
            rfl
          · rw [if_neg (by omega)]
            exact tr (by unfold zef zcN; rw [decide_eq_false e3]; simp)
  · simp only [z5Z]
    rw [if_neg (by rw [z0q]; omega), zoh]
    by_cases h : zeT S i j = true
    · rw [if_pos h, if_pos h, hr, Option.bind_some, z1q _ (by unfold z5B; omega), z1M (by omega), Int.toNat_natCast]
    · rw [if_neg h, if_neg h, z1M (by omega)]
theorem zpy {i : Nat} (hi : i < S.length) (hz : szN (S.getD i 0) ≠ 1) (R : List (List Int)) (hR : R = z1I S.length (fun i => toI (zcA S i)) [] i) :
    z0Z (z6a (toI S) (i : Int)) LFm (0, R) = z0B (((i + 1 : Nat) : Int), z1I S.length (fun i => toI (zcA S i)) [] (i + 1)) := by
  have h128 : 2 ^ n <= 128 := Nat.pow_le_pow_right (n := 2) (by omega) hn
  have hSl := z1j hS.nd hS.lt
  have hRl : R.length = S.length := by rw [hR, z9U]
  have hil := hS.lt _ (z1u hi)
  have hfin : R.set i (toI (tlN S i S.length)) = z1I S.length (fun i => toI (zcA S i)) [] (i + 1) := by
    have : tlN S i S.length = zcA S i := by unfold zcA; rw [if_neg hz]; rfl
    rw [this, hR]
    exact z3P (f := fun i => toI (zcA S i)) (z := []) hi
  have h0 : R = R.set i (toI (tlN S i 0)) := by
    have e : R[i]'(by omega) = [] := by simp [hR, z1I]
    have : toI (tlN S i 0) = R[i]'(by omega) := by rw [e]; rfl
    rw [this, List.set_getElem_self]
  refine z1G (s := ((0 : Int), R)) S.length (fun j => ((j : Int), R.set i (toI (tlN S i j)))) (by rw [← h0]; rfl) (by simp only [LFm]; omega) (fun j hj => ?_) ?_
  · have hjl := hS.lt _ (z1u hj)
    have hl := zrX S i j
    simp only [z6a]
    rw [if_pos (by rw [z0q]; omega), z2v hj, Option.bind_some, z2v hi, Option.bind_some, z9X (by omega) (by omega), zqT]
    by_cases e1 : S.getD j 0 &&& S.getD i 0 = S.getD j 0
    · rw [if_pos (by omega)]
      by_cases e2 : j = i
      · have hp : ¬ (zcN S i j = true /\ zeT S i j = true) := fun h => by
          have := h.1
          simp [zcN, e2] at this
        rw [if_pos (by omega), if_neg hp, List.append_nil, z1M (by omega)]
      · have hp : zcN S i j = true := by
          unfold zcN
          rw [decide_eq_false e2, decide_eq_true e1]; rfl
        rw [if_neg (by omega), zog hd hn hS hpos hi hj _ (toI (tlN S i j)) (zfX (by omega)) (by rw [z0q]; omega)]
        by_cases h : zeT S i j = true
        · rw [if_pos h, if_pos ⟨hp, h⟩, ze2, z6s]
        · rw [if_neg h, if_neg (fun hh => h hh.2), List.append_nil]
    · have hp : ¬ (zcN S i j = true /\ zeT S i j = true) := fun h => by
        have := h.1
        simp only [zcN, Bool.and_eq_true, decide_eq_true_eq] at this
        exact e1 this.2
      rw [if_neg (by omega), if_neg hp, List.append_nil, z1M (by omega)]
  · simp only [z6a]
    rw [if_neg (by rw [z0q]; omega), hfin, z1M (by omega)]
omit hpos in
theorem zpi {i k : Nat} (hi : i < S.length) (hk : k < S.length) (hm : S.getD k 0 ∈ (z1d d m n (S.getD i 0)).1) (he : k = z5p d m n S i) (W' B : List ByteArray) (hB : B = z1I S.length (zka d m n S) ByteArray.empty i) :
    z0Z (z5X (toI S) (i : Int) (k : Int) W' (toI (z1d d m n (S.getD i 0)).1, (z1d d m n (S.getD i 0)).2)) LFm (0, B) = z0B (((i + 1 : Nat) : Int), W', z1I S.length (zka d m n S) ByteArray.empty (i + 1)) := by
  have h128 : 2 ^ n <= 128 := Nat.pow_le_pow_right (n := 2) (by omega) hn
  have hSl := z1j hS.nd hS.lt
  have hinv := z3S hd (hS.lt _ (z1u hi))
  have hnd := hinv.nd
  have hlen := hinv.len
  have hl := z1j hinv.nd hinv.lt
  have hfin : B.set i ((z1d d m n (S.getD i 0)).2.getD ((z1d d m n (S.getD i 0)).1.idxOf (S.getD k 0)) ByteArray.empty) = z1I S.length (zka d m n S) ByteArray.empty (i + 1) := by
    have e := z3P (f := zka d m n S) (z := ByteArray.empty) hi
    rw [hB, ← e]
    unfold zka z7T
    rw [← he]
  have hat : atI B (i : Int) = some ByteArray.empty := by rw [hB, z5z hi, if_neg (by omega)]
  generalize (z1d d m n (S.getD i 0)).1 = l at *
  generalize (z1d d m n (S.getD i 0)).2 = ws at *
  have hix := zcH hm
  have hgx := z9i hm
  refine z1G (s := ((0 : Int), B)) l.length (fun q => ((q : Int), if l.idxOf (S.getD k 0) < q then B.set i (ws.getD (l.idxOf (S.getD k 0)) ByteArray.empty) else B)) (by rw [if_neg (by omega)]; rfl) (by simp only [LFm]; omega) (fun q hq => ?_) ?_
  · simp only [z5X]
    rw [if_pos (by rw [z0q]; omega), z2v hq, Option.bind_some, z2v hk, Option.bind_some, z1M (by omega)]
    by_cases e : l.getD q 0 = S.getD k 0
    · have hqi := z8A hnd hq
      rw [e] at hqi
      rw [if_pos (by omega), zcf (by omega), Option.bind_some, if_neg (by omega), hat, Option.bind_some, Int.toNat_natCast, if_pos (by omega), hqi]
    · have hqi : l.idxOf (S.getD k 0) ≠ q := fun h => e (by rw [← h]; exact hgx)
      rw [if_neg (by omega)]
      by_cases h : l.idxOf (S.getD k 0) < q
      · rw [if_pos h, if_pos (by omega)]
      · rw [if_neg h, if_neg (by omega)]
  · simp only [z5X]
    rw [if_neg (by rw [z0q]; omega), if_pos hix, hfin, z1M (by omega)]
omit hpos in
theorem znq {i k : Nat} (hi : i < S.length) (hk : k < S.length) (hm : S.getD i 0 ∈ (z1d d m n (S.getD k 0)).1) (hm' : S.getD k 0 ∈ (z1d d m n (S.getD i 0)).1) (he : k = z5p d m n S i) (W B : List ByteArray) (hW : W = z1I S.length (zf6 d m n S) ByteArray.empty i) (hB : B = z1I S.length (zka d m n S) ByteArray.empty i) :
    z0Z (z5Y d (toI S) (i : Int) B (k : Int) (toI (z1d d m n (S.getD k 0)).1, (z1d d m n (S.getD k 0)).2)) LFm (0, W) = z0B (((i + 1 : Nat) : Int), z1I S.length (zf6 d m n S) ByteArray.empty (i + 1), z1I S.length (zka d m n S) ByteArray.empty (i + 1)) := by
  have h128 : 2 ^ n <= 128 := Nat.pow_le_pow_right (n := 2) (by omega) hn
  have hSl := z1j hS.nd hS.lt
  have hinv := z3S hd (hS.lt _ (z1u hk))
  have hnd := hinv.nd
  have hlen := hinv.len
  have hl := z1j hinv.nd hinv.lt
  have hfin : W.set i ((z1d d m n (S.getD k 0)).2.getD ((z1d d m n (S.getD k 0)).1.idxOf (S.getD i 0)) ByteArray.empty) = z1I S.length (zf6 d m n S) ByteArray.empty (i + 1) := by
    have e := z3P (f := zf6 d m n S) (z := ByteArray.empty) hi
    rw [hW, ← e]
    unfold zf6 z7T
    rw [← he]
  have hat : atI W (i : Int) = some ByteArray.empty := by rw [hW, z5z hi, if_neg (by omega)]
  have hback := zpi hd hn hS hi hk hm' he (z1I S.length (zf6 d m n S) ByteArray.empty (i + 1)) B hB
  have hrch := zbo hd (show n <= 12 by omega) (hS.lt _ (z1u hi))
  generalize (z1d d m n (S.getD k 0)).1 = l at *
  generalize (z1d d m n (S.getD k 0)).2 = ws at *
  have hix := zcH hm
  have hgx := z9i hm
  refine z1G (s := ((0 : Int), W)) l.length (fun q => ((q : Int), if l.idxOf (S.getD i 0) < q then W.set i (ws.getD (l.idxOf (S.getD i 0)) ByteArray.empty) else W)) (by rw [if_neg (by omega)]; rfl) (by simp only [LFm]; omega) (fun q hq => ?_) ?_
  · simp only [z5Y]
    rw [if_pos (by rw [z0q]; omega), z2v hq, Option.bind_some, z2v hi, Option.bind_some, z1M (by omega)]
    by_cases e : l.getD q 0 = S.getD i 0
    · have hqi := z8A hnd hq
      rw [e] at hqi
      rw [if_pos (by omega), zcf (by omega), Option.bind_some, if_neg (by omega), hat, Option.bind_some, Int.toNat_natCast, if_pos (by omega), hqi]
    · have hqi : l.idxOf (S.getD i 0) ≠ q := fun h => e (by rw [← h]; exact hgx)
      rw [if_neg (by omega)]
      by_cases h : l.idxOf (S.getD i 0) < q
      · rw [if_pos h, if_pos (by omega)]
      · rw [if_neg h, if_neg (by omega)]
  · simp only [z5Y]
    rw [if_neg (by rw [z0q]; omega), if_pos hix, hfin, z2v hi, Option.bind_some, hrch, Option.bind_some, hback]
theorem zr1 : z0Z (z4T d (toI S) (zn4 d m n S) (zrr d m n S)) LFm (0, List.replicate S.length ([] : List Int)) = some (zcO d m n S, 0) := by
  have h128 : 2 ^ n <= 128 := Nat.pow_le_pow_right (n := 2) (by omega) hn
  have hSl := z1j hS.nd hS.lt
  have he := zbh hd hS
  have f1 : List.replicate S.length ([] : List Int) = z1I S.length (fun i => toI (zcA S i)) [] 0 := (z7i _ _ _).symm
  rw [f1]
  refine z1G (s := ((0 : Int), z1I S.length (fun i => toI (zcA S i)) [] 0)) S.length (fun i => ((i : Int), z1I S.length (fun i => toI (zcA S i)) [] i)) rfl (by simp only [LFm]; omega) (fun i hi => ?_) ?_
  · have hil := hS.lt _ (z1u hi)
    simp only [z4T]
    rw [if_pos (by rw [z0q]; omega), z2v hi, Option.bind_some, zcU _ (by omega), Option.bind_some]
    by_cases hz : szN (S.getD i 0) = 1
    · have : toI (zcA S i) = [] := by unfold zcA; rw [if_pos hz]; rfl
      rw [if_pos (by omega), z1M (by omega), ziL (f := fun i => toI (zcA S i)) (z := []) this]
    · rw [if_neg (by omega)]
      exact zpy hd hn hS hpos hi hz _ rfl
  · simp only [z4T]
    rw [if_neg (by rw [z0q]; omega), z0q, Int.toNat_natCast]
    congr 1
    have f2 : List.replicate S.length (ByteArray.empty : ByteArray) = z1I S.length (zf6 d m n S) ByteArray.empty 0 := (z7i _ _ _).symm
    have f3 : List.replicate S.length (ByteArray.empty : ByteArray) = z1I S.length (zka d m n S) ByteArray.empty 0 := (z7i _ _ _).symm
    refine z1G (s := ((0 : Int), List.replicate S.length (ByteArray.empty : ByteArray), List.replicate S.length (ByteArray.empty : ByteArray))) S.length (fun i => ((i : Int), z1I S.length (zf6 d m n S) ByteArray.empty i, z1I S.length (zka d m n S) ByteArray.empty i)) (by rw [← f2, ← f3]; rfl) (by simp only [LFm]; omega) (fun i hi => ?_) ?_
    · have hle := zoO hd hn hS hi
      have heq := zoP hd hn hS hi
      have hk : z5p d m n S i < S.length := by omega
      have heq' := he.symm _ _ hi hk heq
      obtain ⟨_, z2⟩ := zla hd hn hS hk hi heq
      obtain ⟨_, z4⟩ := zla hd hn hS hi hk heq'
      simp only [z7w]
      rw [if_pos (by rw [z0q]; omega)]
      refine z1G (s := (0 : Int)) (z5p d m n S i) (fun q => (q : Int)) rfl (by simp only [LFm]; omega) (fun q hq => ?_) ?_
      · have hqs : q < S.length := by omega
        have hne : z6T (z2y d m n S) S.length q ≠ z6T (z2y d m n S) S.length i := fun h => by
          have h1 := zl1 hd hn hS hqs hi ((zgQ he hqs hi).1 h)
          have h2 := zoO hd hn hS hqs
          omega
        simp only [z7v]
        rw [zn4, z2S hqs, Option.bind_some, z2S hi, Option.bind_some, if_neg (by omega), z1M (by omega)]
      · have hcl := (zgQ he hk hi).2 heq'
        simp only [z7v]
        rw [zn4, z2S hk, Option.bind_some, z2S hi, Option.bind_some, if_pos (by omega), z2v hk, Option.bind_some, zbo hd (by omega) (hS.lt _ (z1u hk)), Option.bind_some, znq hd hn hS hi hk z2 z4 rfl _ _ rfl rfl]
    · simp only [z7w]
      rw [if_neg (by rw [z0q]; omega), z7h, z7h, z7h]
      rfl
theorem zrC : z0Z (z6h d (toI S)) LFm (0, ([] : List (Int × Int))) = some (zcO d m n S, 0) := by
  have h128 : 2 ^ n <= 128 := Nat.pow_le_pow_right (n := 2) (by omega) hn
  have hSl := z1j hS.nd hS.lt
  have hrest := zr1 hd hn hS hpos
  refine z1G (s := ((0 : Int), ([] : List (Int × Int)))) S.length (fun k => ((k : Int), zvJ S k)) rfl (by simp only [LFm]; omega) (fun k hk => ?_) ?_
  · simp only [z6h]
    rw [if_pos (by rw [z0q]; omega), z2v hk, Option.bind_some, z1M (by omega)]
    rfl
  · simp only [z6h]
    rw [if_neg (by rw [z0q]; omega), z0q, z1q _ (by unfold z2g; omega), Int.toNat_natCast]
    congr 1
    have f1 : List.replicate S.length ([] : List Bool) = z1I S.length (fun _ => List.replicate S.length false) [] 0 := (z7i _ _ _).symm
    rw [f1]
    refine z1G (s := ((0 : Int), z1I S.length (fun _ => List.replicate S.length false) [] 0)) S.length (fun k => ((k : Int), z1I S.length (fun _ => List.replicate S.length false) [] k)) rfl (by simp only [LFm]; omega) (fun k hk => ?_) ?_
    · have hs := z3P (f := fun _ : Nat => List.replicate S.length false) (z := ([] : List Bool)) hk
      simp only [z7z]
      rw [if_pos (by rw [z0q]; omega), z0q, z1q _ (by unfold z2g; omega), z5z hk, Option.bind_some, z1M (by omega), Int.toNat_natCast, Int.toNat_natCast, hs]
    · simp only [z7z]
      rw [if_neg (by rw [z0q]; omega), z7h]
      congr 1
      have f2 : ((List.range S.length).map fun _ => List.replicate S.length false) = zcG S.length fun a b => decide (b < 0) && z3h d m n S a b := by
        refine List.map_congr_left fun a _ => ?_
        apply List.ext_getElem (by simp)
        intro b h1 h2
        simp
      rw [f2]
      refine z1G (s := ((0 : Int), zcG S.length fun a b => decide (b < 0) && z3h d m n S a b)) S.length (fun j => ((j : Int), zcG S.length fun a b => decide (b < j) && z3h d m n S a b)) rfl (by simp only [LFm]; omega) (fun j hj => ?_) ?_
      · simp only [z7y]
        rw [if_pos (by rw [z0q]; omega), z2v hj, Option.bind_some, zbo hd (by omega) (hS.lt _ (z1u hj)), Option.bind_some]
        exact zr3 hd hn hS hj _
      · have f3 : (zcG S.length fun a b => decide (b < S.length) && z3h d m n S a b) = zcG S.length (z3h d m n S) := z6i fun a b _ hb => by rw [decide_eq_true hb, Bool.true_and]
        simp only [z7y]
        rw [if_neg (by rw [z0q]; omega), z0q, z1q _ (by unfold z2g; omega), Int.toNat_natCast, f3]
        congr 1
        have f4 : List.replicate S.length (0 : Int) = z1I S.length (fun i => ((z5p d m n S i : Nat) : Int)) 0 0 := (z7i _ _ _).symm
        rw [f4]
        refine z1G (s := ((0 : Int), z1I S.length (fun i => ((z5p d m n S i : Nat) : Int)) 0 0)) S.length (fun i => ((i : Int), z1I S.length (fun i => ((z5p d m n S i : Nat) : Int)) 0 i)) rfl (by simp only [LFm]; omega) (fun i hi => ?_) ?_
        · simp only [z7x]
          rw [if_pos (by rw [z0q]; omega), z5z hi, Option.bind_some]
          exact zqd hd hn hS hi _ rfl
        · simp only [z7x]
          rw [if_neg (by rw [z0q]; omega), z7h, ziZ hd hn hS, Option.bind_some, z0q, z1q _ (by unfold z2g; omega), z1q _ (by unfold z2g; omega), z1q _ (by unfold z2g; omega), Int.toNat_natCast, zq1 hd hn hS hpos _ hrest]
end
theorem zpM {d : DFA} {m n : Nat} (hd : DfaOk d m n) (hn : n <= 7) : z6B d = some (zcO d m n (ze1 d m n), 0) := by
  have h128 : 2 ^ n <= 128 := Nat.pow_le_pow_right (n := 2) (by omega) hn
  have hS := zjz hd
  have hSl := z1j hS.nd hS.lt
  unfold z6B
  rw [zcJ (zga hd (by omega)), zg2 hd (by omega), Option.bind_some, if_pos rfl, zrG hd hn, Option.bind_some, if_neg (by rw [z0q]; omega)]
  exact zrC hd hn hS fun x hx => zpD hd hx
end Go.Proofs.Ytbnnipkanechoaa
end
section
namespace Go.Proofs.Ytbnnipkanechoaa
open Go
set_option maxRecDepth 100000
end Go.Proofs.Ytbnnipkanechoaa
end
section
namespace Go.Proofs.Ytbnnipkanechoaa
def Mo (C0 C1 : z0H) : Prop := ∀ f a o, C0 f a = some o -> C1 f a = some o
section
variable {P : Program} {C0 C1 : z0H}
theorem zd4 (hMo : Mo C0 C1) {wio : FuncId -> Nat -> Bool} {fr fr' : Fr} {f : FuncId} {args : List E} {dst : Option Nat} (h : zbl C0 wio fr f args dst = some fr') : Ev fun m => zbl C1 wio fr f args dst = some fr' := by
  unfold zbl at h ⊢
  split at h
  · cases h
  · rename_i ts deps io ha
    split at h
    · cases h
    · rename_i r outs hc
      refine ⟨0, fun m _ => ?_⟩
      show (match C1 f ts with | none => none | some (r, outs) => _) = _
      rw [hMo _ _ _ hc]
      exact h
theorem zod (hMo : Mo C0 C1) {wio : FuncId -> Nat -> Bool} {fr fr' : Fr} {o : Oper} (h : opF P C0 wio fr o = some fr') : Ev fun m => opF P C1 wio fr o = some fr' := by
  unfold opF at h ⊢
  split at h
  · exact .pure fun _ => h
  · split at h
    · exact zd4 hMo h
    · cases h
  · exact .pure fun _ => h
  · exact .pure fun _ => h
theorem zlh (hMo : Mo C0 C1) {wio : FuncId -> Nat -> Bool} {fr fr' : Fr} {o : Oper} (h : za3 P C0 wio fr o = some fr') : Ev fun m => za3 P C1 wio fr o = some fr' := by
  unfold za3 at h ⊢
  split at h
  · split at h
    · split at h
      · exact zd4 hMo h
      · cases h
    · cases h
  · exact .pure fun _ => h
theorem zqu (hMo : Mo C0 C1) {wio : FuncId -> Nat -> Bool} {M : Nat -> Bool} {fr fr' : Fr} {o : Oper} (h : wrF P C0 wio M fr o = some fr') : Ev fun m => wrF P C1 wio M fr o = some fr' := by
  unfold wrF at h ⊢
  split at h
  · split at h
    · cases h
    · split at h
      · exact zd4 hMo h
      · split at h
        · rename_i hM
          simp only [hM, if_true]
          exact zd4 hMo h
        · cases h
      · cases h
  · exact .pure fun _ => h
  · exact .pure fun _ => h
  · exact .pure fun _ => h
  · cases h
theorem zjB (hMo : Mo C0 C1) {wio : FuncId -> Nat -> Bool} {ops : Array Oper} : ∀ {l : List Oper} {fr fr' : Fr}, zjC P C0 wio ops l fr = some fr' -> Ev fun m => zjC P C1 wio ops l fr = some fr'
  | [], fr, fr', h => .pure fun _ => h
  | o :: rest, fr, fr', h => by
    simp only [zjC] at h ⊢
    split at h
    · cases h
    · split at h
      · rename_i fr1 h1
        exact (zod hMo h1).both (zjB hMo h) fun m a1 a2 => by rw [a1]; exact a2
      · cases h
    · split at h
      · rename_i fr1 h1
        exact (zjB hMo h)
      · cases h
theorem zd1 (hMo : Mo C0 C1) {wio : FuncId -> Nat -> Bool} {same : Bool} {M : Nat -> Bool} {ops : Array Oper} : ∀ {l : List (Nat × Oper × Nat)} {fr fr' : Fr}, z9k P C0 wio same M ops l fr = some fr' -> Ev fun m => z9k P C1 wio same M ops l fr = some fr'
  | [], fr, fr', h => .pure fun _ => h
  | (k, o, mk) :: rest, fr, fr', h => by
    simp only [z9k] at h ⊢
    split at h
    · cases h
    · split at h
      · exact zd1 hMo h
      · cases h
    · split at h
      · rename_i hm
        simp only [if_pos hm]
        split at h
        · split at h
          · exact zd1 hMo h
          · cases h
        · cases h
      · rename_i hm
        simp only [if_neg hm]
        split at h
        · rename_i fr1 h1
          have h2 : Ev fun m => (if mk = 2 then opF P C1 wio fr o else if same = true then za3 P C1 wio fr o else wrF P C1 wio M fr o) = some fr1 := by
            by_cases e : mk = 2
            · simp only [if_pos e] at h1 ⊢; exact zod hMo h1
            · simp only [if_neg e] at h1 ⊢
              by_cases e2 : same = true
              · simp only [if_pos e2] at h1 ⊢; exact zlh hMo h1
              · simp only [if_neg e2] at h1 ⊢; exact zqu hMo h1
          exact h2.both (zd1 hMo h) fun m a1 a2 => by rw [a1]; exact a2
        · cases h
theorem z9V (hMo : Mo C0 C1) {wio : FuncId -> Nat -> Bool} {same : Bool} {M : Nat -> Bool} {ops : Array Oper} : ∀ {l : SchT} {fr fr' : Fr}, z5A P C0 wio same M ops l fr = some fr' -> Ev fun m => z5A P C1 wio same M ops l fr = some fr'
  | .nil, fr, fr', h => .pure fun _ => h
  | .alt x y, fr, fr', h => by
    simp only [z5A] at h ⊢
    split at h
    · rename_i f1 f2 h1 h2
      obtain ⟨rfl, hs⟩ := zcl h
      exact (z9V hMo h1).both (z9V hMo h2) fun m a1 a2 => by rw [a1, a2]; exact zcW hs
    · cases h
  | .op k mk rest, fr, fr', h => by
    simp only [z5A] at h ⊢
    split at h
    · cases h
    rename_i o ho
    try simp only [ho]
    split at h
    · cases h
    · split at h
      · exact z9V hMo h
      · cases h
    · split at h
      · rename_i hm
        simp only [if_pos hm]
        split at h
        · split at h
          · exact z9V hMo h
          · cases h
        · cases h
      · rename_i hm
        simp only [if_neg hm]
        split at h
        · rename_i fr1 h1
          have h2 : Ev fun m => (if mk = 2 then opF P C1 wio fr o else if same = true then za3 P C1 wio fr o else wrF P C1 wio M fr o) = some fr1 := by
            by_cases e : mk = 2
            · simp only [if_pos e] at h1 ⊢; exact zod hMo h1
            · simp only [if_neg e] at h1 ⊢
              by_cases e2 : same = true
              · simp only [if_pos e2] at h1 ⊢; exact zlh hMo h1
              · simp only [if_neg e2] at h1 ⊢; exact zqu hMo h1
          exact h2.both (z9V hMo h) fun m a1 a2 => by rw [a1]; exact a2
        · cases h
theorem zmX (hMo : Mo C0 C1) {c : Cfg} {id : Nat} {ops : Array Oper} {fr fr' : Fr} (h : z7P P C0 c id ops fr = some fr') : Ev fun m => z7P P C1 c id ops fr = some fr' := by
  unfold z7P at h ⊢
  split at h
  · exact z9V hMo h
  · split at h
    · exact zd1 hMo h
    · cases h
theorem zkM (hMo : Mo C0 C1) {B : z0H -> Fr -> Option (X × Fr)} {cn : Fr -> Fr} (hB : ∀ fr o, B C0 fr = some o -> Ev fun m => B C1 fr = some o) : ∀ {n : Nat} {fr : Fr} {o : X × Fr}, zbd (B C0) cn n fr = some o -> Ev fun m => zbd (B C1) cn n fr = some o
  | 0, fr, o, h => by cases h
  | n + 1, fr, o, h => by
    simp only [zbd] at h ⊢
    split at h
    · rename_i fr1 h1
      exact (hB _ _ h1).both (zkM hMo hB h) fun m a1 a2 => by rw [a1]; exact a2
    · rename_i x fr1 hne h1
      refine (hB _ _ h1).imp fun m a1 => ?_
      rw [a1]
      cases x with
      | n => exact absurd rfl hne
      | x i => exact h
      | r => exact h
    · cases h
theorem zlf (hMo : Mo C0 C1) {c : Cfg} {LF : Nat} : ∀ (b : Code) {fr : Fr} {o : X × Fr}, z2N P C0 c LF b fr = some o -> Ev fun m => z2N P C1 c LF b fr = some o := by
  intro b
  induction b with
  | skip => intro fr o h; exact .pure fun _ => h
  | label l => intro fr o h; exact .pure fun _ => h
  | exit id => intro fr o h; exact .pure fun _ => h
  | ret => intro fr o h; exact .pure fun _ => h
  | goto l => intro fr o h; cases h
  | scope c ih => intro fr o h; simp only [z2N] at h ⊢; exact ih h
  | refuse s => intro fr o h; cases h
  | rangeFunc => intro fr o h; cases h
  | region id ops draw =>
    intro fr o h
    simp only [z2N] at h ⊢
    split at h
    · rename_i hd
      simp only [hd, if_true]
      split at h
      · rename_i fr1 h1
        exact (zmX hMo h1).imp fun m a1 => by rw [a1]; exact h
      · cases h
    · rename_i hd
      simp only [hd, Bool.false_eq_true, if_false]
      split at h
      · rename_i fr1 h1
        exact (zjB hMo h1).imp fun m a1 => by rw [a1]; exact h
      · cases h
  | seq a b ih1 ih2 =>
    intro fr o h
    simp only [z2N] at h ⊢
    split at h
    · rename_i fr1 h1
      exact (ih1 h1).both (ih2 h) fun m a1 a2 => by rw [a1]; exact a2
    · rename_i hne
      refine (ih1 h).imp fun m a1 => ?_
      rw [a1]
      obtain ⟨x, fr1⟩ := o
      cases x with
      | n => exact absurd h (hne _)
      | x i => rfl
      | r => rfl
  | cond c x y ih1 ih2 =>
    intro fr o h
    simp only [z2N] at h ⊢
    split at h
    · exact ih1 h
    · exact ih2 h
    · cases h
  | block id c ih =>
    intro fr o h
    simp only [z2N] at h ⊢
    split at h
    · rename_i i fr1 h1
      exact (ih h1).imp fun m a1 => by rw [a1]; exact h
    · rename_i hne
      refine (ih h).imp fun m a1 => ?_
      rw [a1]
      obtain ⟨x, fr1⟩ := o
      cases x with
      | n => rfl
      | x i => exact absurd h (hne _ _)
      | r => rfl
  | loop b ih =>
    intro fr o h
    simp only [z2N] at h ⊢
    exact zkM hMo (B := fun C fr => z2N P C c LF b fr) (fun fr o h => ih h) h
theorem zo1 (hMo : Mo C0 C1) {c : Cfg} {LF : Nat} {fn : Func} {args : List T} {o : T × List T} (h : zh1 P C0 c LF fn args = some o) : Ev fun m => zh1 P C1 c LF fn args = some o := by
  unfold zh1 at h ⊢
  split at h
  · rename_i hc
    simp only [if_pos hc]
    split at h
    · cases h
    · rename_i b hb
      split at h
      · rename_i fr h1
        exact (zlf hMo _ h1).imp fun m a1 => by rw [a1]; exact h
      · rename_i fr h1
        exact (zlf hMo _ h1).imp fun m a1 => by rw [a1]; exact h
      · cases h
  · cases h
end
theorem zkH {P : Program} {X : z0H} {cf : FuncId -> Option Cfg} : ∀ n, Mo (z3g P X cf n) (z3g P X cf (n + 1))
  | 0 => fun f a o h => by
    simp only [z3g] at h ⊢
    split at h
    · cases h
    · rename_i hc
      first
        | exact h
        | (rw [hc]; exact h)
  | n + 1 => fun f a o h => by
    simp only [z3g] at h
    split at h
    · rename_i c hc
      split at h
      · rename_i fn hfn
        obtain ⟨k, hk⟩ := zo1 (zkH n) h
        exact zit hc hfn (hk k (Nat.le_refl _))
      · cases h
    · rename_i hc
      simp only [z3g, hc]
      exact h
theorem zb7 {P : Program} {X : z0H} {cf : FuncId -> Option Cfg} (n : Nat) {f : FuncId} {a : List T} {o : T × List T} (h : z3g P X cf n f a = some o) : Lim P X cf f a = some o := by
  refine zor (d := n) fun m hm => ?_
  obtain ⟨k, rfl⟩ := Nat.exists_eq_add_of_le hm
  clear hm
  induction k with
  | zero => exact h
  | succ k ih => exact zkH (n + k) f a o ih
def tab : List (FuncId × List T × T × List T) -> z0H
  | [] => fun _ _ => none
  | (g, b, r, os) :: l => fun f a => if (Nat.beq g f && zlc b a) = true then some (r, os) else tab l f a
theorem zqx {C : z0H} : ∀ {l : List (FuncId × List T × T × List T)}, (∀ x ∈ l, C x.1 x.2.1 = some x.2.2) -> Mo (tab l) C
  | [], _ => fun f a o h => by cases h
  | (g, b, r, os) :: l, hl => fun f a o h => by
    simp only [tab] at h
    split at h
    · rename_i hc
      simp only [Bool.and_eq_true] at hc
      cases h
      have := hl _ (List.mem_cons_self ..)
      rw [← Nat.eq_of_beq_eq_true hc.1, ← z7O hc.2]
      exact this
    · exact zqx (fun x hx => hl x (List.mem_cons_of_mem _ hx)) f a o h
noncomputable def ziv (P : Program) (X : z0H) (cf : FuncId -> Option Cfg) (S : z0H) : Nat -> z0H
  | 0 => S
  | n + 1 => fun f a => match S f a with
    | some o => some o
    | none => match cf f with
      | some c => (match P.funcs[f]? with | some fn => zh1 P (ziv P X cf S n) c LFm fn a | none => none)
      | none => X f a
theorem ziu {P : Program} {X : z0H} {cf : FuncId -> Option Cfg} {S : z0H} (hS : Mo S (Lim P X cf)) : ∀ n, Mo (ziv P X cf S n) (Lim P X cf)
  | 0 => hS
  | n + 1 => fun f a o h => by
    simp only [ziv] at h
    split at h
    · rename_i o' ho
      cases h
      exact hS f a o ho
    · split at h
      · rename_i c hc
        split at h
        · rename_i fn hfn
          obtain ⟨k, hk⟩ := zo1 (ziu hS n) h
          exact zoq hc hfn (hk k (Nat.le_refl _))
        · cases h
      · rename_i hc
        exact zos hc h
theorem zrj {P : Program} {X : z0H} {cf : FuncId -> Option Cfg} (l : List (FuncId × List T × T × List T)) (n : Nat) {f : FuncId} {a : List T} {o : T × List T} (h : ziv P X cf (tab l) n f a = some o) (hl : ∀ x ∈ l, Lim P X cf x.1 x.2.1 = some x.2.2) : Lim P X cf f a = some o :=
  ziu (zqx hl) n f a o h
end Go.Proofs.Ytbnnipkanechoaa
end
section
namespace Go.Proofs.Ytbnnipkanechoaa
open Go
set_option maxRecDepth 100000
def exT : T := .agg [.sc (.int .i64 2), .sc (.int .i64 0), .sl 3 [.sc (.bool true), .sc (.bool false), .sc (.bool false)], .sl 3 [.sl 2 [.sc (.int .i64 1), .sc (.int .i64 0)], .sl 2 [.sc (.int .i64 2), .sc (.int .i64 0)], .sl 2 [.sc (.int .i64 0), .sc (.int .i64 2)]]]
def zl9 : List T := [.sc (.int .i64 7), .sc (.int .i64 3), .sc (.int .i64 5), .sc (.int .i64 6), .sc (.int .i64 1), .sc (.int .i64 2), .sc (.int .i64 4)]
def dgT : T := .agg [.sl 7 [.sc (.int .i64 7), .sc (.int .i64 3), .sc (.int .i64 5), .sc (.int .i64 6), .sc (.int .i64 1), .sc (.int .i64 2), .sc (.int .i64 4)], .sl 7 [.sl 2 [.sc (.int .i64 0), .sc (.int .i64 2)], .sl 2 [.sc (.int .i64 3), .sc (.int .i64 4)], .sl 2 [.sc (.int .i64 1), .sc (.int .i64 2)], .sl 2 [.sc (.int .i64 2), .sc (.int .i64 2)], .sl 2 [.sc (.int .i64 5), .sc (.int .i64 4)], .sl 2 [.sc (.int .i64 6), .sc (.int .i64 4)], .sl 2 [.sc (.int .i64 4), .sc (.int .i64 6)]], .sl 7 [.sl 7 [.sc (.bool true), .sc (.bool false), .sc (.bool false), .sc (.bool false), .sc (.bool false), .sc (.bool false), .sc (.bool false)], .sl 7 [.sc (.bool true), .sc (.bool true), .sc (.bool true), .sc (.bool true), .sc (.bool false), .sc (.bool false), .sc (.bool false)], .sl 7 [.sc (.bool true), .sc (.bool true), .sc (.bool true), .sc (.bool true), .sc (.bool false), .sc (.bool false), .sc (.bool false)], .sl 7 [.sc (.bool true), .sc (.bool true), .sc (.bool true), .sc (.bool true), .sc (.bool false), .sc (.bool false), .sc (.bool false)], .sl 7 [.sc (.bool true), .sc (.bool true), .sc (.bool true), .sc (.bool true), .sc (.bool true), .sc (.bool true), .sc (.bool true)], .sl 7 [.sc (.bool true), .sc (.bool true), .sc (.bool true), .sc (.bool true), .sc (.bool true), .sc (.bool true), .sc (.bool true)], .sl 7 [.sc (.bool true), .sc (.bool true), .sc (.bool true), .sc (.bool true), .sc (.bool true), .sc (.bool true), .sc (.bool true)]]]
theorem e36 : z3g Try.prog xt z1V 10 36 [exT] = some (.os 1 7 zl9, [.dead]) := by kernel_rfl
theorem e37 : z3g Try.prog xt z1V 10 37 [exT, .sl 7 zl9] = some (.agg [.sl 7 [.sc (.int .i64 7), .sc (.int .i64 3), .sc (.int .i64 5), .sc (.int .i64 6), .sc (.int .i64 1), .sc (.int .i64 2), .sc (.int .i64 4)], .os 1 7 [.os 1 2 [.sc (.int .i64 0), .sc (.int .i64 2)], .os 1 2 [.sc (.int .i64 3), .sc (.int .i64 4)], .os 1 2 [.sc (.int .i64 1), .sc (.int .i64 2)], .os 1 2 [.sc (.int .i64 2), .sc (.int .i64 2)], .os 1 2 [.sc (.int .i64 5), .sc (.int .i64 4)], .os 1 2 [.sc (.int .i64 6), .sc (.int .i64 4)], .os 1 2 [.sc (.int .i64 4), .sc (.int .i64 6)]], .os 1 7 [.os 1 7 [.sc (.bool true), .sc (.bool false), .sc (.bool false), .sc (.bool false), .sc (.bool false), .sc (.bool false), .sc (.bool false)], .os 1 7 [.sc (.bool true), .sc (.bool true), .sc (.bool true), .sc (.bool true), .sc (.bool false), .sc (.bool false), .sc (.bool false)], .os 1 7 [.sc (.bool true), .sc (.bool true), .sc (.bool true), .sc (.bool true), .sc (.bool false), .sc (.bool false), .sc (.bool false)], .os 1 7 [.sc (.bool true), .sc (.bool true), .sc (.bool true), .sc (.bool true), .sc (.bool false), .sc (.bool false), .sc (.bool false)], .os 1 7 [.sc (.bool true), .sc (.bool true), .sc (.bool true), .sc (.bool true), .sc (.bool true), .sc (.bool true), .sc (.bool true)], .os 1 7 [.sc (.bool true), .sc (.bool true), .sc (.bool true), .sc (.bool true), .sc (.bool true), .sc (.bool true), .sc (.bool true)], .os 1 7 [.sc (.bool true), .sc (.bool true), .sc (.bool true), .sc (.bool true), .sc (.bool true), .sc (.bool true), .sc (.bool true)]]], [.dead, .dead]) := by kernel_rfl
def sr0 : T := .tup [.os 1 7 [.sc (.int .i64 0), .sc (.int .i64 2), .sc (.int .i64 1), .sc (.int .i64 3), .sc (.int .i64 4), .sc (.int .i64 5), .sc (.int .i64 6)], .os 1 7 [.sc (.string ByteArray.empty), .sc (.string ⟨#[98, 97]⟩), .sc (.string ⟨#[98]⟩), .sc (.string ⟨#[98, 97, 97]⟩), .sc (.string ⟨#[98, 97, 98]⟩), .sc (.string ⟨#[98, 97, 98, 97]⟩), .sc (.string ⟨#[98, 97, 98, 97, 97]⟩)]]
theorem ztr : z3g Try.prog xt z1V 6 41 [dgT, .sc (.int .i64 0)] = some (sr0, [.dead, .dead]) := by kernel_rfl
def sr1 : T := .tup [.os 1 6 [.sc (.int .i64 1), .sc (.int .i64 3), .sc (.int .i64 4), .sc (.int .i64 2), .sc (.int .i64 5), .sc (.int .i64 6)], .os 1 7 [.sc (.string ByteArray.empty), .sc (.string ByteArray.empty), .sc (.string ⟨#[97, 97]⟩), .sc (.string ⟨#[97]⟩), .sc (.string ⟨#[98]⟩), .sc (.string ⟨#[98, 97]⟩), .sc (.string ⟨#[98, 97, 97]⟩)]]
theorem ztq : z3g Try.prog xt z1V 6 41 [dgT, .sc (.int .i64 1)] = some (sr1, [.dead, .dead]) := by kernel_rfl
def sr2 : T := .tup [.os 1 6 [.sc (.int .i64 2), .sc (.int .i64 1), .sc (.int .i64 3), .sc (.int .i64 4), .sc (.int .i64 5), .sc (.int .i64 6)], .os 1 7 [.sc (.string ByteArray.empty), .sc (.string ⟨#[97]⟩), .sc (.string ByteArray.empty), .sc (.string ⟨#[97, 97]⟩), .sc (.string ⟨#[97, 98]⟩), .sc (.string ⟨#[97, 98, 97]⟩), .sc (.string ⟨#[97, 98, 97, 97]⟩)]]
theorem ztp : z3g Try.prog xt z1V 6 41 [dgT, .sc (.int .i64 2)] = some (sr2, [.dead, .dead]) := by kernel_rfl
def sr3 : T := .tup [.os 1 6 [.sc (.int .i64 3), .sc (.int .i64 2), .sc (.int .i64 1), .sc (.int .i64 4), .sc (.int .i64 5), .sc (.int .i64 6)], .os 1 7 [.sc (.string ByteArray.empty), .sc (.string ⟨#[97, 97]⟩), .sc (.string ⟨#[97]⟩), .sc (.string ByteArray.empty), .sc (.string ⟨#[97, 97, 98]⟩), .sc (.string ⟨#[97, 97, 98, 97]⟩), .sc (.string ⟨#[97, 97, 98, 97, 97]⟩)]]
theorem zto : z3g Try.prog xt z1V 6 41 [dgT, .sc (.int .i64 3)] = some (sr3, [.dead, .dead]) := by kernel_rfl
def sr4 : T := .tup [.os 1 3 [.sc (.int .i64 4), .sc (.int .i64 5), .sc (.int .i64 6)], .os 1 7 [.sc (.string ByteArray.empty), .sc (.string ByteArray.empty), .sc (.string ByteArray.empty), .sc (.string ByteArray.empty), .sc (.string ByteArray.empty), .sc (.string ⟨#[97]⟩), .sc (.string ⟨#[97, 97]⟩)]]
theorem ztn : z3g Try.prog xt z1V 6 41 [dgT, .sc (.int .i64 4)] = some (sr4, [.dead, .dead]) := by kernel_rfl
def sr5 : T := .tup [.os 1 3 [.sc (.int .i64 5), .sc (.int .i64 6), .sc (.int .i64 4)], .os 1 7 [.sc (.string ByteArray.empty), .sc (.string ByteArray.empty), .sc (.string ByteArray.empty), .sc (.string ByteArray.empty), .sc (.string ⟨#[98]⟩), .sc (.string ByteArray.empty), .sc (.string ⟨#[97]⟩)]]
theorem ztm : z3g Try.prog xt z1V 6 41 [dgT, .sc (.int .i64 5)] = some (sr5, [.dead, .dead]) := by kernel_rfl
def sr6 : T := .tup [.os 1 3 [.sc (.int .i64 6), .sc (.int .i64 4), .sc (.int .i64 5)], .os 1 7 [.sc (.string ByteArray.empty), .sc (.string ByteArray.empty), .sc (.string ByteArray.empty), .sc (.string ByteArray.empty), .sc (.string ⟨#[97]⟩), .sc (.string ⟨#[97, 97]⟩), .sc (.string ByteArray.empty)]]
theorem ztl : z3g Try.prog xt z1V 6 41 [dgT, .sc (.int .i64 6)] = some (sr6, [.dead, .dead]) := by kernel_rfl
def zq5 : List (FuncId × List T × T × List T) := [(36, [exT], .os 1 7 zl9, [.dead]), (37, [exT, .sl 7 zl9], .agg [.sl 7 [.sc (.int .i64 7), .sc (.int .i64 3), .sc (.int .i64 5), .sc (.int .i64 6), .sc (.int .i64 1), .sc (.int .i64 2), .sc (.int .i64 4)], .os 1 7 [.os 1 2 [.sc (.int .i64 0), .sc (.int .i64 2)], .os 1 2 [.sc (.int .i64 3), .sc (.int .i64 4)], .os 1 2 [.sc (.int .i64 1), .sc (.int .i64 2)], .os 1 2 [.sc (.int .i64 2), .sc (.int .i64 2)], .os 1 2 [.sc (.int .i64 5), .sc (.int .i64 4)], .os 1 2 [.sc (.int .i64 6), .sc (.int .i64 4)], .os 1 2 [.sc (.int .i64 4), .sc (.int .i64 6)]], .os 1 7 [.os 1 7 [.sc (.bool true), .sc (.bool false), .sc (.bool false), .sc (.bool false), .sc (.bool false), .sc (.bool false), .sc (.bool false)], .os 1 7 [.sc (.bool true), .sc (.bool true), .sc (.bool true), .sc (.bool true), .sc (.bool false), .sc (.bool false), .sc (.bool false)], .os 1 7 [.sc (.bool true), .sc (.bool true), .sc (.bool true), .sc (.bool true), .sc (.bool false), .sc (.bool false), .sc (.bool false)], .os 1 7 [.sc (.bool true), .sc (.bool true), .sc (.bool true), .sc (.bool true), .sc (.bool false), .sc (.bool false), .sc (.bool false)], .os 1 7 [.sc (.bool true), .sc (.bool true), .sc (.bool true), .sc (.bool true), .sc (.bool true), .sc (.bool true), .sc (.bool true)], .os 1 7 [.sc (.bool true), .sc (.bool true), .sc (.bool true), .sc (.bool true), .sc (.bool true), .sc (.bool true), .sc (.bool true)], .os 1 7 [.sc (.bool true), .sc (.bool true), .sc (.bool true), .sc (.bool true), .sc (.bool true), .sc (.bool true), .sc (.bool true)]]], [.dead, .dead]), (41, [dgT, .sc (.int .i64 0)], sr0, [.dead, .dead]), (41, [dgT, .sc (.int .i64 1)], sr1, [.dead, .dead]), (41, [dgT, .sc (.int .i64 2)], sr2, [.dead, .dead]), (41, [dgT, .sc (.int .i64 3)], sr3, [.dead, .dead]), (41, [dgT, .sc (.int .i64 4)], sr4, [.dead, .dead]), (41, [dgT, .sc (.int .i64 5)], sr5, [.dead, .dead]), (41, [dgT, .sc (.int .i64 6)], sr6, [.dead, .dead])]
theorem zq4 : ∀ x ∈ zq5, L x.1 x.2.1 = some x.2.2 := by
  simp only [zq5, List.forall_mem_cons]
  exact ⟨zb7 10 e36, zb7 10 e37, zb7 6 ztr, zb7 6 ztq, zb7 6 ztp, zb7 6 zto, zb7 6 ztn, zb7 6 ztm, zb7 6 ztl, fun x h => by cases h⟩
theorem zxX : ziv Try.prog xt z1V (tab zq5) 14 17 [] = some (.sc (.bool true), []) := by kernel_rfl
theorem c17 : L 17 [] = some (.sc (.bool true), []) := zrj zq5 14 zxX zq4
def zd5 : Option Bool := some true
theorem zaF {r : Bool} (h : zd5 = some r) : L 17 [] = some (.sc (.bool r), []) := by cases h; exact c17
end Go.Proofs.Ytbnnipkanechoaa
end
section
namespace Go.Proofs.Ytbnnipkanechoaa
open Go
noncomputable section
set_option maxRecDepth 100000
set_option maxHeartbeats 1000000
end
end Go.Proofs.Ytbnnipkanechoaa
end
section
namespace Go.Proofs.Ytbnnipkanechoaa
open Go
set_option maxRecDepth 100000
theorem zaY (a : List Int) (h : a.length < 4611686018427387904 /\ a.length < LFm) : z3T a a = some true := by
  unfold z3T
  rw [if_pos rfl]
  refine z1G (s := (0 : Int)) a.length (fun k => (k : Int)) rfl h.2 (fun k hk => ?_) ?_
  · simp only [z4s]
    rw [if_pos (by omega), z2w hk, Option.bind_some, Option.bind_some, if_pos rfl, z1M (by omega)]
  · simp only [z4s]
    rw [if_neg (by omega)]
theorem zo3 (a : List (List Int)) (h : a.length < 4611686018427387904 /\ a.length < LFm) (hr : ∀ x ∈ a, x.length < 4611686018427387904 /\ x.length < LFm) : z3u a a = some true := by
  unfold z3u
  rw [if_pos rfl]
  refine z1G (s := (0 : Int)) a.length (fun k => (k : Int)) rfl h.2 (fun k hk => ?_) ?_
  · simp only [z3c]
    rw [if_pos (by omega), z2w hk, Option.bind_some, Option.bind_some, zaY _ (hr _ (List.getElem_mem hk)), Option.bind_some, if_pos rfl, z1M (by omega)]
  · simp only [z3c]
    rw [if_neg (by omega)]
theorem zhY (a : List ByteArray) (h : a.length < 4611686018427387904 /\ a.length < LFm) : z4V a a = some true := by
  unfold z4V
  rw [if_pos rfl]
  refine z1G (s := (0 : Int)) a.length (fun k => (k : Int)) rfl h.2 (fun k hk => ?_) ?_
  · simp only [z4u]
    rw [if_pos (by omega), z2w hk, Option.bind_some, Option.bind_some, if_pos rfl, z1M (by omega)]
  · simp only [z4u]
    rw [if_neg (by omega)]
end Go.Proofs.Ytbnnipkanechoaa
end
section
namespace Go.Proofs.Ytbnnipkanechoaa
open Go
noncomputable section
set_option maxRecDepth 100000
set_option maxHeartbeats 1000000
def z4S (a0 : List Int) (a1 : List Int) : Int -> Option (Int ⊕ Bool)
  | w10 =>
  if w10 < (a0.length : Int) then
    (atI a0 w10).bind fun v13 =>
    (atI a1 w10).bind fun v14 =>
    if v13 = v14 then
      z0B (IntKind.i64.wrap (w10 + 1))
    else
      z1i <|
      some false
  else
    z1i <|
    some true
def z2R (a0 : List Int) (a1 : List Int) : Int -> Fr
  | w10 => ⟨26, [(0, .one (.t none (.sl a0.length (a0.map fun x0 => .sc (.int .i64 x0))))), (1, .one (.t none (.sl a1.length (a1.map fun x0 => .sc (.int .i64 x0))))), (12, .one (.t none (.sc (.int .i64 (a0.length : Int))))), (13, .one (.t none (.sc (.int .i64 w10))))], []⟩
def z2j (a0 : List Int) (a1 : List Int) : Option (Bool) :=
  if (a0.length : Int) = (a1.length : Int) then
    z0Z (z4S a0 a1) LFm 0
  else
    some false
theorem z2Q {a0 : List Int} {a1 : List Int} {r : Bool} (h0 : z2j a0 a1 = some r) : L 52 [.sl a0.length (a0.map fun x0 => .sc (.int .i64 x0)), .sl a1.length (a1.map fun x0 => .sc (.int .i64 x0))] = some (.sc (.bool r), [.dead, .dead]) := by
  simp only [z2j] at h0
  refine z2B zv7 zww (z1v zyo ⟨of_decide_eq_true rfl, of_decide_eq_true rfl⟩ ?_)
  simp only [z1D, z1A, z1z, z1F, z3d]
  refine zq rfl (zr rfl rfl rfl (by simp; rfl) ?_)
  refine z0a (zq rfl (zq rfl (zr rfl rfl rfl (by simp; rfl) ?_)))
  refine z0a ?_
  by_cases c14 : (a0.length : Int) = (a1.length : Int)
  ·rw [if_pos c14] at h0
   have c14e := eq_true c14
   refine z0l rfl (by simp [c14e]) (z0e rfl (z0a (zq rfl (zq rfl (zr rfl rfl rfl (by simp; rfl) ?_)))))
   refine z0a (zb rfl (z0G h0 (z2R a0 a1) rfl rfl (by simp [z2R]) fun s o1 h1 hr1 => ?_))
   obtain ⟨w10, hs1⟩ : ∃ y, y = s := ⟨_, rfl⟩
   subst hs1
   simp only [z4S] at h1
   simp only [z2R]
   refine zq rfl (zr rfl rfl rfl (by simp; rfl) ?_)
   refine z0a (zq rfl ?_)
   by_cases c23 : w10 < (a0.length : Int)
   ·rw [if_pos c23] at h1
    refine z0n rfl (by simp [c23]) (z0e rfl (z0a (zq rfl (zb rfl (zq rfl (zr rfl rfl rfl (by simp; rfl) ?_))))))
    refine z0a (zq rfl ?_)
    obtain ⟨v13, f24, h2⟩ := z0T h1
    obtain ⟨v14, f25, h3⟩ := z0T h2
    refine z1B rfl rfl rfl rfl ?_; repeat' ((first | refine z0z rfl rfl fun Q' hQ => ?_ | refine z0s rfl fun Q' hQ => ?_); simp [f24, f25]; refine hQ.out _ ?_; clear hQ; clear Q')
    refine z0a ?_
    by_cases c26 : v13 = v14
    ·rw [if_pos c26] at h3
     have c26e := eq_true c26
     refine z0l rfl (by simp [c26e]) (z0e rfl (z0h (z0a (zr rfl rfl rfl (by simp; rfl) ?_))))
     have ho := z0c h3
     refine z0g ho ?_
     simp [z2R]
    ·rw [if_neg c26] at h3
     have c26e := eq_false c26
     refine z0n rfl (by simp [c26e]) (zq rfl (zr rfl rfl rfl (by simp; rfl) ?_))
     refine z0a (z0F rfl (z1o (z0p ?_)))
     obtain ⟨rr1, h4, ho1⟩ := z0f h3
     have hs1 := hr1 _ ho1
     subst hs1
     refine z2q ho1 (z1o (z0p ?_))
     cases h4
     simp
   ·rw [if_neg c23] at h1
    refine z0l rfl (by simp [c23]) (z1b rfl (z0x ?_))
    obtain ⟨rr1, h2, ho1⟩ := z0f h1
    have hs1 := hr1 _ ho1
    subst hs1
    refine z0o ho1 (z0d rfl (z0a (zq rfl (zr rfl rfl rfl (by simp; rfl) ?_))))
    refine z0a (z0F rfl ?_)
    cases h2
    simp
  ·rw [if_neg c14] at h0
   have c14e := eq_false c14
   refine z0n rfl (by simp [c14e]) (zq rfl (zr rfl rfl rfl (by simp; rfl) ?_))
   refine z0a (z0F rfl (z0p ?_))
   cases h0
   simp
def z3H (a0 : List ByteArray) (a1 : List ByteArray) : Int -> Option (Int ⊕ Bool)
  | w10 =>
  if w10 < (a0.length : Int) then
    (atI a0 w10).bind fun v13 =>
    (atI a1 w10).bind fun v14 =>
    if v13 = v14 then
      z0B (IntKind.i64.wrap (w10 + 1))
    else
      z1i <|
      some false
  else
    z1i <|
    some true
def z2a (a0 : List ByteArray) (a1 : List ByteArray) : Int -> Fr
  | w10 => ⟨26, [(0, .one (.t none (.sl a0.length (a0.map fun x0 => .sc (.string x0))))), (1, .one (.t none (.sl a1.length (a1.map fun x0 => .sc (.string x0))))), (12, .one (.t none (.sc (.int .i64 (a0.length : Int))))), (13, .one (.t none (.sc (.int .i64 w10))))], []⟩
def z2s (a0 : List ByteArray) (a1 : List ByteArray) : Option (Bool) :=
  if (a0.length : Int) = (a1.length : Int) then
    z0Z (z3H a0 a1) LFm 0
  else
    some false
theorem z3G {a0 : List ByteArray} {a1 : List ByteArray} {r : Bool} (h0 : z2s a0 a1 = some r) : L 54 [.sl a0.length (a0.map fun x0 => .sc (.string x0)), .sl a1.length (a1.map fun x0 => .sc (.string x0))] = some (.sc (.bool r), [.dead, .dead]) := by
  simp only [z2s] at h0
  refine z2B zv5 zwu (z1v zym ⟨of_decide_eq_true rfl, of_decide_eq_true rfl⟩ ?_)
  simp only [z1D, z1A, z1z, z1F, z3d]
  refine zq rfl (zr rfl rfl rfl (by simp; rfl) ?_)
  refine z0a (zq rfl (zq rfl (zr rfl rfl rfl (by simp; rfl) ?_)))
  refine z0a ?_
  by_cases c14 : (a0.length : Int) = (a1.length : Int)
  ·rw [if_pos c14] at h0
   have c14e := eq_true c14
   refine z0l rfl (by simp [c14e]) (z0e rfl (z0a (zq rfl (zq rfl (zr rfl rfl rfl (by simp; rfl) ?_)))))
   refine z0a (zb rfl (z0G h0 (z2a a0 a1) rfl rfl (by simp [z2a]) fun s o1 h1 hr1 => ?_))
   obtain ⟨w10, hs1⟩ : ∃ y, y = s := ⟨_, rfl⟩
   subst hs1
   simp only [z3H] at h1
   simp only [z2a]
   refine zq rfl (zr rfl rfl rfl (by simp; rfl) ?_)
   refine z0a (zq rfl ?_)
   by_cases c23 : w10 < (a0.length : Int)
   ·rw [if_pos c23] at h1
    refine z0n rfl (by simp [c23]) (z0e rfl (z0a (zq rfl (zb rfl (zq rfl (zr rfl rfl rfl (by simp; rfl) ?_))))))
    refine z0a (zq rfl ?_)
    obtain ⟨v13, f24, h2⟩ := z0T h1
    obtain ⟨v14, f25, h3⟩ := z0T h2
    refine z1B rfl rfl rfl rfl ?_; repeat' ((first | refine z0z rfl rfl fun Q' hQ => ?_ | refine z0s rfl fun Q' hQ => ?_); simp [f24, f25]; refine hQ.out _ ?_; clear hQ; clear Q')
    refine z0a ?_
    by_cases c26 : v13 = v14
    ·rw [if_pos c26] at h3
     have c26e := eq_true c26
     refine z0l rfl (by simp [c26e]) (z0e rfl (z0h (z0a (zr rfl rfl rfl (by simp; rfl) ?_))))
     have ho := z0c h3
     refine z0g ho ?_
     simp [z2a]
    ·rw [if_neg c26] at h3
     have c26e := eq_false c26
     refine z0n rfl (by simp [c26e]) (zq rfl (zr rfl rfl rfl (by simp; rfl) ?_))
     refine z0a (z0F rfl (z1o (z0p ?_)))
     obtain ⟨rr1, h4, ho1⟩ := z0f h3
     have hs1 := hr1 _ ho1
     subst hs1
     refine z2q ho1 (z1o (z0p ?_))
     cases h4
     simp
   ·rw [if_neg c23] at h1
    refine z0l rfl (by simp [c23]) (z1b rfl (z0x ?_))
    obtain ⟨rr1, h2, ho1⟩ := z0f h1
    have hs1 := hr1 _ ho1
    subst hs1
    refine z0o ho1 (z0d rfl (z0a (zq rfl (zr rfl rfl rfl (by simp; rfl) ?_))))
    refine z0a (z0F rfl ?_)
    cases h2
    simp
  ·rw [if_neg c14] at h0
   have c14e := eq_false c14
   refine z0n rfl (by simp [c14e]) (zq rfl (zr rfl rfl rfl (by simp; rfl) ?_))
   refine z0a (z0F rfl (z0p ?_))
   cases h0
   simp
def z1H (a0 : List (List Int)) (a1 : List (List Int)) : Int -> Option (Int ⊕ Bool)
  | w14 =>
  if w14 < (a0.length : Int) then
    (atI a0 w14).bind fun v18 =>
    (atI a1 w14).bind fun v19 =>
    (z2j v18 v19).bind fun v20 =>
    if v20 = true then
      z0B (IntKind.i64.wrap (w14 + 1))
    else
      z1i <|
      some false
  else
    z1i <|
    some true
def z0S (a0 : List (List Int)) (a1 : List (List Int)) : Int -> Fr
  | w14 => ⟨32, [(1, .one (.t none (.sl a1.length (a1.map fun x0 => .sl x0.length (x0.map fun x1 => .sc (.int .i64 x1)))))), (2, .one (.t none (.sc (.func (.func 52) #[] #[])))), (15, .one (.t none (.sl a0.length (a0.map fun x0 => .sl x0.length (x0.map fun x1 => .sc (.int .i64 x1)))))), (16, .one (.t none (.sc (.int .i64 (a0.length : Int))))), (17, .one (.t none (.sc (.int .i64 w14))))], []⟩
def z1t (a0 : List (List Int)) (a1 : List (List Int)) : Option (Bool) :=
  if (a0.length : Int) = (a1.length : Int) then
    z0Z (z1H a0 a1) LFm 0
  else
    some false
theorem z2t {a0 : List (List Int)} {a1 : List (List Int)} {r : Bool} (h0 : z1t a0 a1 = some r) : L 53 [.sl a0.length (a0.map fun x0 => .sl x0.length (x0.map fun x1 => .sc (.int .i64 x1))), .sl a1.length (a1.map fun x0 => .sl x0.length (x0.map fun x1 => .sc (.int .i64 x1))), .sc (.func (.func 52) #[] #[])] = some (.sc (.bool r), [.dead, .dead, .dead]) := by
  simp only [z1t] at h0
  refine z2B zv6 zwv (z1v zyn ⟨of_decide_eq_true rfl, of_decide_eq_true rfl⟩ ?_)
  simp only [z1D, z1A, z1z, z1F, z3d]
  refine zq rfl (zr rfl rfl rfl (by simp; rfl) ?_)
  refine z0a (zq rfl (zq rfl (zr rfl rfl rfl (by simp; rfl) ?_)))
  refine z0a ?_
  by_cases c17 : (a0.length : Int) = (a1.length : Int)
  ·rw [if_pos c17] at h0
   have c17e := eq_true c17
   refine z0l rfl (by simp [c17e]) (z0e rfl (z0a (zq rfl (zq rfl (zr rfl rfl rfl (by simp; rfl) ?_)))))
   refine z0a (zb rfl (z0G h0 (z0S a0 a1) rfl rfl (by simp [z0S]) fun s o1 h1 hr1 => ?_))
   obtain ⟨w14, hs1⟩ : ∃ y, y = s := ⟨_, rfl⟩
   subst hs1
   simp only [z1H] at h1
   simp only [z0S]
   refine zq rfl (zr rfl rfl rfl (by simp; rfl) ?_)
   refine z0a (zq rfl ?_)
   by_cases c28 : w14 < (a0.length : Int)
   ·rw [if_pos c28] at h1
    refine z0n rfl (by simp [c28]) (z0e rfl (z0a (zq rfl (zb rfl (zq rfl ?_)))))
    obtain ⟨v18, f29, h2⟩ := z0T h1
    refine zr rfl rfl rfl (by simp [f29]; rfl) ?_
    refine z0a (zq rfl ?_)
    obtain ⟨v19, f30, h3⟩ := z0T h2
    refine zr rfl rfl rfl (by simp [f30]; rfl) ?_
    refine z0a (zq rfl ?_)
    obtain ⟨v20, f31, h4⟩ := z0b h3
    have f31k := z2Q f31
    try simp at f31k
    refine zr rfl rfl rfl (by simp [f31k]; rfl) ?_
    refine z0a ?_
    by_cases c32 : v20 = true
    ·rw [if_pos c32] at h4
     refine z0l rfl (by simp [c32]) (z0e rfl (z0h (z0a (zr rfl rfl rfl (by simp; rfl) ?_))))
     have ho := z0c h4
     refine z0g ho ?_
     simp [z0S, c32]
    ·rw [if_neg c32] at h4
     refine z0n rfl (by simp [c32]) (zq rfl (zr rfl rfl rfl (by simp; rfl) ?_))
     refine z0a (z0F rfl (z1o (z0p ?_)))
     obtain ⟨rr1, h5, ho1⟩ := z0f h4
     have hs1 := hr1 _ ho1
     subst hs1
     refine z2q ho1 (z1o (z0p ?_))
     cases h5
     simp [c32]
   ·rw [if_neg c28] at h1
    refine z0l rfl (by simp [c28]) (z1b rfl (z0x ?_))
    obtain ⟨rr1, h2, ho1⟩ := z0f h1
    have hs1 := hr1 _ ho1
    subst hs1
    refine z0o ho1 (z0d rfl (z0a (zq rfl (zr rfl rfl rfl (by simp; rfl) ?_))))
    refine z0a (z0F rfl ?_)
    cases h2
    simp
  ·rw [if_neg c17] at h0
   have c17e := eq_false c17
   refine z0n rfl (by simp [c17e]) (zq rfl (zr rfl rfl rfl (by simp; rfl) ?_))
   refine z0a (z0F rfl (z0p ?_))
   cases h0
   simp
def z3q (a0 : DFA) (a1 : Imgs) : Option (Bool) :=
  (z4j a0).bind fun v8 =>
  if v8.2 = 0 then
    (z2j a1.sets v8.1.sets).bind fun v9 =>
    if v9 = true then
      (z2j a1.class_ v8.1.class_).bind fun v10 =>
      if v10 = true then
        (z2j a1.height v8.1.height).bind fun v11 =>
        if v11 = true then
          (z1t a1.tiles v8.1.tiles).bind fun v12 =>
          if v12 = true then
            (z2s a1.words v8.1.words).bind fun v13 =>
            if v13 = true then
              (z2s a1.back v8.1.back).bind fun v14 =>
              some v14
            else
              some false
          else
            some false
        else
          some false
      else
        some false
    else
      some false
  else
    some false
theorem z9f {a0 : DFA} {a1 : Imgs} {r : Bool} (h0 : z3q a0 a1 = some r) : L 22 [.agg [.sc (.int .i64 a0.letters), .sc (.int .i64 a0.start), .sl a0.final.length (a0.final.map fun x0 => .sc (.bool x0)), .sl a0.next.length (a0.next.map fun x0 => .sl x0.length (x0.map fun x1 => .sc (.int .i64 x1)))], .agg [.sl a1.sets.length (a1.sets.map fun x0 => .sc (.int .i64 x0)), .sl a1.class_.length (a1.class_.map fun x0 => .sc (.int .i64 x0)), .sl a1.height.length (a1.height.map fun x0 => .sc (.int .i64 x0)), .sl a1.tiles.length (a1.tiles.map fun x0 => .sl x0.length (x0.map fun x1 => .sc (.int .i64 x1))), .sl a1.words.length (a1.words.map fun x0 => .sc (.string x0)), .sl a1.back.length (a1.back.map fun x0 => .sc (.string x0))]] = some (.sc (.bool r), [.dead, .dead]) := by
  simp only [z3q] at h0
  refine z2B zvu zwU (z1v zyM ⟨of_decide_eq_true rfl, of_decide_eq_true rfl⟩ ?_)
  simp only [z1D, z1A, z1z, z1F, z3d]
  refine zq rfl (zr rfl rfl rfl (by simp; rfl) ?_)
  refine z0a (zq rfl ?_)
  obtain ⟨v8, f14, h1⟩ := z0b h0
  have f14k := z9e f14
  try simp at f14k
  refine zr rfl rfl rfl (by simp [f14k]; rfl) ?_
  refine z0a (zq rfl ?_)
  by_cases c15 : v8.2 = 0
  ·rw [if_pos c15] at h1
   have c15e := eq_true c15
   obtain ⟨v9, f16, h2⟩ := z0b h1
   have f16k := z2Q f16
   try simp at f16k
   by_cases c17 : v9 = true
   ·rw [if_pos c17] at h2
    obtain ⟨v10, f18, h3⟩ := z0b h2
    have f18k := z2Q f18
    try simp at f18k
    by_cases c19 : v10 = true
    ·rw [if_pos c19] at h3
     obtain ⟨v11, f20, h4⟩ := z0b h3
     have f20k := z2Q f20
     try simp at f20k
     by_cases c21 : v11 = true
     ·rw [if_pos c21] at h4
      obtain ⟨v12, f22, h5⟩ := z0b h4
      have f22k := z2t f22
      try simp at f22k
      by_cases c23 : v12 = true
      ·rw [if_pos c23] at h5
       obtain ⟨v13, f24, h6⟩ := z0b h5
       have f24k := z3G f24
       try simp at f24k
       by_cases c25 : v13 = true
       ·rw [if_pos c25] at h6
        obtain ⟨v14, f26, h7⟩ := z0b h6
        have f26k := z3G f26
        try simp at f26k
        refine zr rfl rfl rfl (by simp [c15e, f16k, c17, f18k, c19, f20k, c21, f22k, c23, f24k, c25, f26k]; rfl) ?_
        refine z0a (z0F rfl ?_)
        cases h7
        simp [c17, c19, c21, c23, c25]
       ·rw [if_neg c25] at h6
        refine zr rfl rfl rfl (by simp [c15e, f16k, c17, f18k, c19, f20k, c21, f22k, c23, f24k, c25]; rfl) ?_
        refine z0a (z0F rfl ?_)
        cases h6
        simp [c17, c19, c21, c23, c25]
      ·rw [if_neg c23] at h5
       refine zr rfl rfl rfl (by simp [c15e, f16k, c17, f18k, c19, f20k, c21, f22k, c23]; rfl) ?_
       refine z0a (z0F rfl ?_)
       cases h5
       simp [c17, c19, c21, c23]
     ·rw [if_neg c21] at h4
      refine zr rfl rfl rfl (by simp [c15e, f16k, c17, f18k, c19, f20k, c21]; rfl) ?_
      refine z0a (z0F rfl ?_)
      cases h4
      simp [c17, c19, c21]
    ·rw [if_neg c19] at h3
     refine zr rfl rfl rfl (by simp [c15e, f16k, c17, f18k, c19]; rfl) ?_
     refine z0a (z0F rfl ?_)
     cases h3
     simp [c17, c19]
   ·rw [if_neg c17] at h2
    refine zr rfl rfl rfl (by simp [c15e, f16k, c17]; rfl) ?_
    refine z0a (z0F rfl ?_)
    cases h2
    simp [c17]
  ·rw [if_neg c15] at h1
   have c15e := eq_false c15
   refine zr rfl rfl rfl (by simp [c15e]; rfl) ?_
   refine z0a (z0F rfl ?_)
   cases h1
   simp
def z5f (a0 : DFA) (a1 : Int) (a2 : Int) (a3 : ByteArray) (a4 : Imgs) : Option (Bool) :=
  (z9R a0).bind fun v25 =>
  if v25 = true then
    if 100 < (a3.size : Int) then
      some true
    else
      if 40 < (a4.sets.length : Int) then
        some true
      else
        if 6 < (a0.final.length : Int) then
          (z5d a0).bind fun v26 =>
          if v26 = 0 then
            some true
          else
            (z3s a0 a1 a3).bind fun v27 =>
            (z3N a0 a1 a3).bind fun v28 =>
            (z3r a0 a1 a2).bind fun v29 =>
            (z3M a0 a1 a2).bind fun v30 =>
            (z4j a0).bind fun v31 =>
            (z6B a0).bind fun v32 =>
            if v27.2 = v28.2 then
              if v27.1 = v28.1 then
                if v29.2.2 = v30.2.2 then
                  if v29.1 = v30.1 then
                    if (v29.2.1 == v30.2.1) = true then
                      if v31.2 = v32.2 then
                        (z3b v31.1 v32.1).bind fun v33 =>
                        if v33 = true then
                          (z3q a0 a4).bind fun v34 =>
                          if v32.2 = 0 then
                            (z3b a4 v32.1).bind fun v35 =>
                            if (v34 == v35) = true then
                              (zd5).bind fun v36 =>
                              some v36
                            else
                              some false
                          else
                            if (v34 == false) = true then
                              (zd5).bind fun v37 =>
                              some v37
                            else
                              some false
                        else
                          some false
                      else
                        some false
                    else
                      some false
                  else
                    some false
                else
                  some false
              else
                some false
            else
              some false
        else
          (z3s a0 a1 a3).bind fun v38 =>
          (z3N a0 a1 a3).bind fun v39 =>
          (z3r a0 a1 a2).bind fun v40 =>
          (z3M a0 a1 a2).bind fun v41 =>
          (z4j a0).bind fun v42 =>
          (z6B a0).bind fun v43 =>
          if v38.2 = v39.2 then
            if v38.1 = v39.1 then
              if v40.2.2 = v41.2.2 then
                if v40.1 = v41.1 then
                  if (v40.2.1 == v41.2.1) = true then
                    if v42.2 = v43.2 then
                      (z3b v42.1 v43.1).bind fun v44 =>
                      if v44 = true then
                        (z3q a0 a4).bind fun v45 =>
                        if v43.2 = 0 then
                          (z3b a4 v43.1).bind fun v46 =>
                          if (v45 == v46) = true then
                            (zd5).bind fun v47 =>
                            some v47
                          else
                            some false
                        else
                          if (v45 == false) = true then
                            (zd5).bind fun v48 =>
                            some v48
                          else
                            some false
                      else
                        some false
                    else
                      some false
                  else
                    some false
                else
                  some false
              else
                some false
            else
              some false
          else
            some false
  else
    some true
theorem zb9 {a0 : DFA} {a1 : Int} {a2 : Int} {a3 : ByteArray} {a4 : Imgs} {r : Bool} (h0 : z5f a0 a1 a2 a3 a4 = some r) : L 10 [.agg [.sc (.int .i64 a0.letters), .sc (.int .i64 a0.start), .sl a0.final.length (a0.final.map fun x0 => .sc (.bool x0)), .sl a0.next.length (a0.next.map fun x0 => .sl x0.length (x0.map fun x1 => .sc (.int .i64 x1)))], .sc (.int .i64 a1), .sc (.int .i64 a2), .sc (.string a3), .agg [.sl a4.sets.length (a4.sets.map fun x0 => .sc (.int .i64 x0)), .sl a4.class_.length (a4.class_.map fun x0 => .sc (.int .i64 x0)), .sl a4.height.length (a4.height.map fun x0 => .sc (.int .i64 x0)), .sl a4.tiles.length (a4.tiles.map fun x0 => .sl x0.length (x0.map fun x1 => .sc (.int .i64 x1))), .sl a4.words.length (a4.words.map fun x0 => .sc (.string x0)), .sl a4.back.length (a4.back.map fun x0 => .sc (.string x0))]] = some (.sc (.bool r), [.dead, .dead, .dead, .dead, .dead]) := by
  simp only [z5f] at h0
  refine z2B zvA zwY (z1v zyQ ⟨of_decide_eq_true rfl, of_decide_eq_true rfl⟩ ?_)
  simp only [z1D, z1A, z1z, z1F, z3d]
  refine zq rfl (zr rfl rfl rfl (by simp; rfl) ?_)
  refine z0a (zq rfl (zq rfl ?_))
  obtain ⟨v25, f50, h1⟩ := z0b h0
  have f50k := zjN f50
  try simp at f50k
  by_cases c51 : v25 = true
  ·rw [if_pos c51] at h1
   by_cases c52 : 100 < (a3.size : Int)
   ·rw [if_pos c52] at h1
    refine zr rfl rfl rfl (by simp [f50k, c51, c52]; rfl) ?_
    refine z0a (z0n rfl (by simp) (zq rfl (zr rfl rfl rfl (by simp; rfl) ?_)))
    refine z0a (z0F rfl (z0p ?_))
    cases h1
    simp [c51]
   ·rw [if_neg c52] at h1
    by_cases c53 : 40 < (a4.sets.length : Int)
    ·rw [if_pos c53] at h1
     refine zr rfl rfl rfl (by simp [f50k, c51, c52, c53]; rfl) ?_
     refine z0a (z0n rfl (by simp) (zq rfl (zr rfl rfl rfl (by simp; rfl) ?_)))
     refine z0a (z0F rfl (z0p ?_))
     cases h1
     simp [c51]
    ·rw [if_neg c53] at h1
     by_cases c54 : 6 < (a0.final.length : Int)
     ·rw [if_pos c54] at h1
      obtain ⟨v26, f55, h2⟩ := z0b h1
      have f55k := z7A f55
      try simp at f55k
      refine zr rfl rfl rfl (by simp [f50k, c51, c52, c53, c54, f55k]; rfl) ?_
      refine z0a ?_
      by_cases c56 : v26 = 0
      ·rw [if_pos c56] at h2
       have c56e := eq_true c56
       refine z0n rfl (by simp [c56e]) (zq rfl (zr rfl rfl rfl (by simp; rfl) ?_))
       refine z0a (z0F rfl (z0p ?_))
       cases h2
       simp [c51]
      ·rw [if_neg c56] at h2
       have c56e := eq_false c56
       refine z0l rfl (by simp [c56e]) (z0e rfl (z0a (zq rfl ?_)))
       obtain ⟨v27, f57, h3⟩ := z0b h2
       have f57k := z9h f57
       try simp at f57k
       refine zr rfl rfl rfl (by simp [f57k]; rfl) ?_
       refine z0a (zq rfl ?_)
       obtain ⟨v28, f58, h4⟩ := z0b h3
       have f58k := za6 f58
       try simp at f58k
       refine zr rfl rfl rfl (by simp [f58k]; rfl) ?_
       refine z0a (zq rfl ?_)
       obtain ⟨v29, f59, h5⟩ := z0b h4
       have f59k := z9g f59
       try simp at f59k
       refine zr rfl rfl rfl (by simp [f59k]; rfl) ?_
       refine z0a (zq rfl ?_)
       obtain ⟨v30, f60, h6⟩ := z0b h5
       have f60k := za5 f60
       try simp at f60k
       refine zr rfl rfl rfl (by simp [f60k]; rfl) ?_
       refine z0a (zq rfl ?_)
       obtain ⟨v31, f61, h7⟩ := z0b h6
       have f61k := z9e f61
       try simp at f61k
       refine zr rfl rfl rfl (by simp [f61k]; rfl) ?_
       refine z0a (zq rfl ?_)
       obtain ⟨v32, f62, h8⟩ := z0b h7
       have f62k := ze8 f62
       try simp at f62k
       refine zr rfl rfl rfl (by simp [f62k]; rfl) ?_
       refine z0a (zq rfl ?_)
       by_cases c63 : v27.2 = v28.2
       ·rw [if_pos c63] at h8
        have c63e := eq_true c63
        by_cases c64 : v27.1 = v28.1
        ·rw [if_pos c64] at h8
         have c64e := eq_true c64
         by_cases c65 : v29.2.2 = v30.2.2
         ·rw [if_pos c65] at h8
          have c65e := eq_true c65
          by_cases c66 : v29.1 = v30.1
          ·rw [if_pos c66] at h8
           have c66e := eq_true c66
           by_cases c67 : (v29.2.1 == v30.2.1) = true
           ·rw [if_pos c67] at h8
            by_cases c68 : v31.2 = v32.2
            ·rw [if_pos c68] at h8
             have c68e := eq_true c68
             obtain ⟨v33, f69, h9⟩ := z0b h8
             have f69k := z6A f69
             try simp at f69k
             by_cases c70 : v33 = true
             ·rw [if_pos c70] at h9
              obtain ⟨v34, f71, h10⟩ := z0b h9
              have f71k := z9f f71
              try simp at f71k
              by_cases c72 : v32.2 = 0
              ·rw [if_pos c72] at h10
               have c72e := eq_true c72
               obtain ⟨v35, f73, h11⟩ := z0b h10
               have f73k := z6A f73
               try simp at f73k
               by_cases c74 : (v34 == v35) = true
               ·rw [if_pos c74] at h11
                obtain ⟨v36, f75, h12⟩ := z0b h11
                have f75k := zaF f75
                try simp at f75k
                refine zr rfl rfl rfl (by simp [c63e, c64e, c65e, c66e, c67, c68e, f69k, c70, f71k, c72e, f73k, c74, f75k]; rfl) ?_
                refine z0a (z0F rfl ?_)
                cases h12
                simp [c51, c67, c70, c74]
               ·rw [if_neg c74] at h11
                refine zr rfl rfl rfl (by simp [c63e, c64e, c65e, c66e, c67, c68e, f69k, c70, f71k, c72e, f73k, c74]; rfl) ?_
                refine z0a (z0F rfl ?_)
                cases h11
                simp [c51, c67, c70, c74]
              ·rw [if_neg c72] at h10
               have c72e := eq_false c72
               by_cases c76 : (v34 == false) = true
               ·rw [if_pos c76] at h10
                obtain ⟨v37, f77, h11⟩ := z0b h10
                have f77k := zaF f77
                try simp at f77k
                refine zr rfl rfl rfl (by simp [c63e, c64e, c65e, c66e, c67, c68e, f69k, c70, f71k, c72e, c76, f77k]; rfl) ?_
                refine z0a (z0F rfl ?_)
                cases h11
                simp [c51, c67, c70, c76]
               ·rw [if_neg c76] at h10
                refine zr rfl rfl rfl (by simp [c63e, c64e, c65e, c66e, c67, c68e, f69k, c70, f71k, c72e, c76]; rfl) ?_
                refine z0a (z0F rfl ?_)
                cases h10
                simp [c51, c67, c70, c76]
             ·rw [if_neg c70] at h9
              refine zr rfl rfl rfl (by simp [c63e, c64e, c65e, c66e, c67, c68e, f69k, c70]; rfl) ?_
              refine z0a (z0F rfl ?_)
              cases h9
              simp [c51, c67, c70]
            ·rw [if_neg c68] at h8
             have c68e := eq_false c68
             refine zr rfl rfl rfl (by simp [c63e, c64e, c65e, c66e, c67, c68e]; rfl) ?_
             refine z0a (z0F rfl ?_)
             cases h8
             simp [c51, c67]
           ·rw [if_neg c67] at h8
            refine zr rfl rfl rfl (by simp [c63e, c64e, c65e, c66e, c67]; rfl) ?_
            refine z0a (z0F rfl ?_)
            cases h8
            simp [c51, c67]
          ·rw [if_neg c66] at h8
           have c66e := eq_false c66
           refine zr rfl rfl rfl (by simp [c63e, c64e, c65e, c66e]; rfl) ?_
           refine z0a (z0F rfl ?_)
           cases h8
           simp [c51]
         ·rw [if_neg c65] at h8
          have c65e := eq_false c65
          refine zr rfl rfl rfl (by simp [c63e, c64e, c65e]; rfl) ?_
          refine z0a (z0F rfl ?_)
          cases h8
          simp [c51]
        ·rw [if_neg c64] at h8
         have c64e := eq_false c64
         refine zr rfl rfl rfl (by simp [c63e, c64e]; rfl) ?_
         refine z0a (z0F rfl ?_)
         cases h8
         simp [c51]
       ·rw [if_neg c63] at h8
        have c63e := eq_false c63
        refine zr rfl rfl rfl (by simp [c63e]; rfl) ?_
        refine z0a (z0F rfl ?_)
        cases h8
        simp [c51]
     ·rw [if_neg c54] at h1
      refine zr rfl rfl rfl (by simp [f50k, c51, c52, c53, c54]; rfl) ?_
      refine z0a (z0l rfl (by simp) (z0e rfl (z0a (zq rfl ?_))))
      obtain ⟨v38, f78, h2⟩ := z0b h1
      have f78k := z9h f78
      try simp at f78k
      refine zr rfl rfl rfl (by simp [f78k]; rfl) ?_
      refine z0a (zq rfl ?_)
      obtain ⟨v39, f79, h3⟩ := z0b h2
      have f79k := za6 f79
      try simp at f79k
      refine zr rfl rfl rfl (by simp [f79k]; rfl) ?_
      refine z0a (zq rfl ?_)
      obtain ⟨v40, f80, h4⟩ := z0b h3
      have f80k := z9g f80
      try simp at f80k
      refine zr rfl rfl rfl (by simp [f80k]; rfl) ?_
      refine z0a (zq rfl ?_)
      obtain ⟨v41, f81, h5⟩ := z0b h4
      have f81k := za5 f81
      try simp at f81k
      refine zr rfl rfl rfl (by simp [f81k]; rfl) ?_
      refine z0a (zq rfl ?_)
      obtain ⟨v42, f82, h6⟩ := z0b h5
      have f82k := z9e f82
      try simp at f82k
      refine zr rfl rfl rfl (by simp [f82k]; rfl) ?_
      refine z0a (zq rfl ?_)
      obtain ⟨v43, f83, h7⟩ := z0b h6
      have f83k := ze8 f83
      try simp at f83k
      refine zr rfl rfl rfl (by simp [f83k]; rfl) ?_
      refine z0a (zq rfl ?_)
      by_cases c84 : v38.2 = v39.2
      ·rw [if_pos c84] at h7
       have c84e := eq_true c84
       by_cases c85 : v38.1 = v39.1
       ·rw [if_pos c85] at h7
        have c85e := eq_true c85
        by_cases c86 : v40.2.2 = v41.2.2
        ·rw [if_pos c86] at h7
         have c86e := eq_true c86
         by_cases c87 : v40.1 = v41.1
         ·rw [if_pos c87] at h7
          have c87e := eq_true c87
          by_cases c88 : (v40.2.1 == v41.2.1) = true
          ·rw [if_pos c88] at h7
           by_cases c89 : v42.2 = v43.2
           ·rw [if_pos c89] at h7
            have c89e := eq_true c89
            obtain ⟨v44, f90, h8⟩ := z0b h7
            have f90k := z6A f90
            try simp at f90k
            by_cases c91 : v44 = true
            ·rw [if_pos c91] at h8
             obtain ⟨v45, f92, h9⟩ := z0b h8
             have f92k := z9f f92
             try simp at f92k
             by_cases c93 : v43.2 = 0
             ·rw [if_pos c93] at h9
              have c93e := eq_true c93
              obtain ⟨v46, f94, h10⟩ := z0b h9
              have f94k := z6A f94
              try simp at f94k
              by_cases c95 : (v45 == v46) = true
              ·rw [if_pos c95] at h10
               obtain ⟨v47, f96, h11⟩ := z0b h10
               have f96k := zaF f96
               try simp at f96k
               refine zr rfl rfl rfl (by simp [c84e, c85e, c86e, c87e, c88, c89e, f90k, c91, f92k, c93e, f94k, c95, f96k]; rfl) ?_
               refine z0a (z0F rfl ?_)
               cases h11
               simp [c51, c88, c91, c95]
              ·rw [if_neg c95] at h10
               refine zr rfl rfl rfl (by simp [c84e, c85e, c86e, c87e, c88, c89e, f90k, c91, f92k, c93e, f94k, c95]; rfl) ?_
               refine z0a (z0F rfl ?_)
               cases h10
               simp [c51, c88, c91, c95]
             ·rw [if_neg c93] at h9
              have c93e := eq_false c93
              by_cases c97 : (v45 == false) = true
              ·rw [if_pos c97] at h9
               obtain ⟨v48, f98, h10⟩ := z0b h9
               have f98k := zaF f98
               try simp at f98k
               refine zr rfl rfl rfl (by simp [c84e, c85e, c86e, c87e, c88, c89e, f90k, c91, f92k, c93e, c97, f98k]; rfl) ?_
               refine z0a (z0F rfl ?_)
               cases h10
               simp [c51, c88, c91, c97]
              ·rw [if_neg c97] at h9
               refine zr rfl rfl rfl (by simp [c84e, c85e, c86e, c87e, c88, c89e, f90k, c91, f92k, c93e, c97]; rfl) ?_
               refine z0a (z0F rfl ?_)
               cases h9
               simp [c51, c88, c91, c97]
            ·rw [if_neg c91] at h8
             refine zr rfl rfl rfl (by simp [c84e, c85e, c86e, c87e, c88, c89e, f90k, c91]; rfl) ?_
             refine z0a (z0F rfl ?_)
             cases h8
             simp [c51, c88, c91]
           ·rw [if_neg c89] at h7
            have c89e := eq_false c89
            refine zr rfl rfl rfl (by simp [c84e, c85e, c86e, c87e, c88, c89e]; rfl) ?_
            refine z0a (z0F rfl ?_)
            cases h7
            simp [c51, c88]
          ·rw [if_neg c88] at h7
           refine zr rfl rfl rfl (by simp [c84e, c85e, c86e, c87e, c88]; rfl) ?_
           refine z0a (z0F rfl ?_)
           cases h7
           simp [c51, c88]
         ·rw [if_neg c87] at h7
          have c87e := eq_false c87
          refine zr rfl rfl rfl (by simp [c84e, c85e, c86e, c87e]; rfl) ?_
          refine z0a (z0F rfl ?_)
          cases h7
          simp [c51]
        ·rw [if_neg c86] at h7
         have c86e := eq_false c86
         refine zr rfl rfl rfl (by simp [c84e, c85e, c86e]; rfl) ?_
         refine z0a (z0F rfl ?_)
         cases h7
         simp [c51]
       ·rw [if_neg c85] at h7
        have c85e := eq_false c85
        refine zr rfl rfl rfl (by simp [c84e, c85e]; rfl) ?_
        refine z0a (z0F rfl ?_)
        cases h7
        simp [c51]
      ·rw [if_neg c84] at h7
       have c84e := eq_false c84
       refine zr rfl rfl rfl (by simp [c84e]; rfl) ?_
       refine z0a (z0F rfl ?_)
       cases h7
       simp [c51]
  ·rw [if_neg c51] at h1
   refine zr rfl rfl rfl (by simp [f50k, c51]; rfl) ?_
   refine z0a (z0n rfl (by simp) (zq rfl (zr rfl rfl rfl (by simp; rfl) ?_)))
   refine z0a (z0F rfl (z0p ?_))
   cases h1
   simp [c51]
end
end Go.Proofs.Ytbnnipkanechoaa
end
section
namespace Go.Proofs.Ytbnnipkanechoaa
open Go
set_option maxRecDepth 100000
theorem zsC (d : DFA) : ∃ b, z9R d = some b /\ (b = true -> zqc d) := by
  unfold z9R
  by_cases h1 : 40 < (d.final.length : Int)
  · rw [if_pos h1]; exact ⟨_, rfl, fun h => by cases h⟩
  rw [if_neg h1]
  by_cases h2 : 40 < (d.next.length : Int)
  · rw [if_pos h2]; exact ⟨_, rfl, fun h => by cases h⟩
  rw [if_neg h2]
  refine Exists.elim (z2u (b := z8y d) (fun st => ∃ k : Nat, k <= d.next.length /\ st = (k : Int) /\ ∀ r ∈ d.next.take k, r.length <= 10) (fun st => d.next.length - st.toNat) (fun b => b = true -> zqc d) ?_ LFm 0 ⟨0, by omega, rfl, by simp⟩ (by simp only [LFm]; omega)) fun r hr => ⟨r, hr⟩
  rintro _ ⟨k, hk, rfl, h⟩
  simp only [z8y]
  by_cases hlt : k < d.next.length
  · rw [if_pos (by omega), z2w hlt, Option.bind_some]
    by_cases h3 : 10 < (d.next[k].length : Int)
    · right
      rw [if_pos h3]
      exact ⟨_, rfl, fun h => by cases h⟩
    · left
      rw [if_neg h3, z1M (by omega)]
      refine ⟨_, rfl, ⟨k + 1, by omega, rfl, fun r hr => ?_⟩, by simp only [Int.toNat_natCast]; omega⟩
      rw [List.take_succ_eq_append_getElem hlt, List.mem_append, List.mem_singleton] at hr
      rcases hr with hr | rfl
      · exact h r hr
      · omega
  · right
    rw [if_neg (by omega)]
    refine ⟨_, rfl, fun _ => ⟨by omega, by omega, fun r hr => ?_⟩⟩
    obtain rfl : k = d.next.length := by omega
    rw [List.take_length] at h
    have := h r hr; omega
theorem zaX (a b : List Int) (h : b.length < 4611686018427387904 /\ b.length < LFm) : ∃ v, z3T a b = some v := by
  unfold z3T
  by_cases hl : (a.length : Int) = (b.length : Int)
  · rw [if_pos hl]
    refine Exists.elim (z2u (b := z4s a b) (fun st => ∃ k : Nat, k <= a.length /\ st = (k : Int)) (fun st => a.length - st.toNat) (fun _ => True) ?_ LFm 0 ⟨0, by omega, rfl⟩ (by omega)) fun r hr => ⟨r, hr.1⟩
    rintro _ ⟨k, hk, rfl⟩
    simp only [z4s]
    by_cases hlt : k < a.length
    · rw [if_pos (by omega), z2w hlt, Option.bind_some, z2w (show k < b.length by omega), Option.bind_some, z1M (by omega)]
      split
      · exact .inl ⟨_, rfl, ⟨k + 1, by omega, rfl⟩, by simp only [Int.toNat_natCast]; omega⟩
      · exact .inr ⟨_, rfl, trivial⟩
    · rw [if_neg (by omega)]
      exact .inr ⟨_, rfl, trivial⟩
  · rw [if_neg hl]; exact ⟨_, rfl⟩
theorem zo2 (a b : List (List Int)) (h : b.length < 4611686018427387904 /\ b.length < LFm) (hr : ∀ x ∈ b, x.length < 4611686018427387904 /\ x.length < LFm) : ∃ v, z3u a b = some v := by
  unfold z3u
  by_cases hl : (a.length : Int) = (b.length : Int)
  · rw [if_pos hl]
    refine Exists.elim (z2u (b := z3c a b) (fun st => ∃ k : Nat, k <= a.length /\ st = (k : Int)) (fun st => a.length - st.toNat) (fun _ => True) ?_ LFm 0 ⟨0, by omega, rfl⟩ (by omega)) fun r hr => ⟨r, hr.1⟩
    rintro _ ⟨k, hk, rfl⟩
    simp only [z3c]
    by_cases hlt : k < a.length
    · have hkb : k < b.length := by omega
      obtain ⟨v, hv⟩ := zaX a[k] b[k] (hr _ (List.getElem_mem hkb))
      rw [if_pos (by omega), z2w hlt, Option.bind_some, z2w hkb, Option.bind_some, hv, Option.bind_some, z1M (by omega)]
      split
      · exact .inl ⟨_, rfl, ⟨k + 1, by omega, rfl⟩, by simp only [Int.toNat_natCast]; omega⟩
      · exact .inr ⟨_, rfl, trivial⟩
    · rw [if_neg (by omega)]
      exact .inr ⟨_, rfl, trivial⟩
  · rw [if_neg hl]; exact ⟨_, rfl⟩
theorem zhX (a b : List ByteArray) (h : b.length < 4611686018427387904 /\ b.length < LFm) : ∃ v, z4V a b = some v := by
  unfold z4V
  by_cases hl : (a.length : Int) = (b.length : Int)
  · rw [if_pos hl]
    refine Exists.elim (z2u (b := z4u a b) (fun st => ∃ k : Nat, k <= a.length /\ st = (k : Int)) (fun st => a.length - st.toNat) (fun _ => True) ?_ LFm 0 ⟨0, by omega, rfl⟩ (by omega)) fun r hr => ⟨r, hr.1⟩
    rintro _ ⟨k, hk, rfl⟩
    simp only [z4u]
    by_cases hlt : k < a.length
    · rw [if_pos (by omega), z2w hlt, Option.bind_some, z2w (show k < b.length by omega), Option.bind_some, z1M (by omega)]
      split
      · exact .inl ⟨_, rfl, ⟨k + 1, by omega, rfl⟩, by simp only [Int.toNat_natCast]; omega⟩
      · exact .inr ⟨_, rfl, trivial⟩
    · rw [if_neg (by omega)]
      exact .inr ⟨_, rfl, trivial⟩
  · rw [if_neg hl]; exact ⟨_, rfl⟩
structure ImgL (z : Imgs) : Prop where
  s1 : z.sets.length <= 128
  s2 : z.class_.length <= 128
  s3 : z.height.length <= 128
  s4 : z.tiles.length <= 128
  s5 : ∀ x ∈ z.tiles, x.length <= 128
  s6 : z.words.length <= 128
  s7 : z.back.length <= 128
theorem zpY {d : DFA} {m n : Nat} {S : List Nat} (hS : S.length <= 128) : ImgL (zcO d m n S) where
  s1 := by simp only [zcO, z0q]; omega
  s2 := by simp only [zcO, zn4, List.length_map, List.length_range]; omega
  s3 := by simp only [zcO, zrr, List.length_map, List.length_range]; omega
  s4 := by simp only [zcO, List.length_map, List.length_range]; omega
  s5 x hx := by
    simp only [zcO, List.mem_map] at hx
    obtain ⟨i, hi, rfl⟩ := hx
    have htl : (zcA S i).length <= S.length := z1j (znF S i) fun t ht => zoB (zqU ht).1
    simp only [z0q]; omega
  s6 := by simp only [zcO, List.length_map, List.length_range]; omega
  s7 := by simp only [zcO, List.length_map, List.length_range]; omega
theorem z3V {k : Nat} (h : k <= 128) : k < 4611686018427387904 /\ k < LFm := by simp only [LFm]; omega
theorem ziD {z : Imgs} (h : ImgL z) : z3b z z = some true := by
  unfold z3b
  rw [zaY _ (z3V h.s1), Option.bind_some, if_pos rfl, zaY _ (z3V h.s2), Option.bind_some, if_pos rfl, zaY _ (z3V h.s3), Option.bind_some, if_pos rfl, zo3 _ (z3V h.s4) (fun x hx => z3V (h.s5 x hx)), Option.bind_some, if_pos rfl, zhY _ (z3V h.s6), Option.bind_some, if_pos rfl, zhY _ (z3V h.s7), Option.bind_some]
theorem zoD (x : Imgs) {z : Imgs} (h : ImgL z) : ∃ v, z3b x z = some v := by
  obtain ⟨v1, e1⟩ := zaX x.sets z.sets (z3V h.s1)
  obtain ⟨v2, e2⟩ := zaX x.class_ z.class_ (z3V h.s2)
  obtain ⟨v3, e3⟩ := zaX x.height z.height (z3V h.s3)
  obtain ⟨v4, e4⟩ := zo2 x.tiles z.tiles (z3V h.s4) (fun x hx => z3V (h.s5 x hx))
  obtain ⟨v5, e5⟩ := zhX x.words z.words (z3V h.s6)
  obtain ⟨v6, e6⟩ := zhX x.back z.back (z3V h.s7)
  unfold z3b
  rw [e1, e2, e3, e4, e5, e6]
  simp only [Option.bind_some]
  cases v1 <;> cases v2 <;> cases v3 <;> cases v4 <;> cases v5 <;> exact ⟨_, rfl⟩
theorem zn6 {d : DFA} {z : Imgs} (h : z4j d = some (z, 0)) (x : Imgs) : z3q d x = z3b x z := by
  unfold z3q
  rw [h, Option.bind_some, if_pos rfl]
  rfl
noncomputable def zml (a0 : DFA) (a1 : Int) (a2 : Int) (a3 : ByteArray) (a4 : Imgs) : Option Bool :=
  (z3s a0 a1 a3).bind fun v38 =>
  (z3N a0 a1 a3).bind fun v39 =>
  (z3r a0 a1 a2).bind fun v40 =>
  (z3M a0 a1 a2).bind fun v41 =>
  (z4j a0).bind fun v42 =>
  (z6B a0).bind fun v43 =>
  if v38.2 = v39.2 then
    if v38.1 = v39.1 then
      if v40.2.2 = v41.2.2 then
        if v40.1 = v41.1 then
          if (v40.2.1 == v41.2.1) = true then
            if v42.2 = v43.2 then
              (z3b v42.1 v43.1).bind fun v44 =>
              if v44 = true then
                (z3q a0 a4).bind fun v45 =>
                if v43.2 = 0 then
                  (z3b a4 v43.1).bind fun v46 =>
                  if (v45 == v46) = true then
                    (zd5).bind fun v47 =>
                    some v47
                  else
                    some false
                else
                  if (v45 == false) = true then
                    (zd5).bind fun v48 =>
                    some v48
                  else
                    some false
              else
                some false
            else
              some false
          else
            some false
        else
          some false
      else
        some false
    else
      some false
  else
    some false
theorem zqW (a0 : DFA) (a1 : Int) (a2 : Int) (a3 : ByteArray) (a4 : Imgs) : z5f a0 a1 a2 a3 a4 = (z9R a0).bind fun v25 =>
    if v25 = true then
      if 100 < (a3.size : Int) then
        some true
      else
        if 40 < (a4.sets.length : Int) then
          some true
        else
          if 6 < (a0.final.length : Int) then
            (z5d a0).bind fun v26 =>
            if v26 = 0 then
              some true
            else zml a0 a1 a2 a3 a4
          else zml a0 a1 a2 a3 a4
    else
      some true := rfl
theorem zqV {d : DFA} (h : zio d = 0) (h6 : d.final.length <= 6) (a b : Int) (w : ByteArray) (x : Imgs) : zml d a b w x = some true := by
  obtain ⟨hd, hn⟩ := zsf h
  have h7 : d.final.length <= 7 := by omega
  have hS := zjz hd
  have hSl := z1j hS.nd hS.lt
  have h128 : 2 ^ d.final.length <= 128 := Nat.pow_le_pow_right (n := 2) (by omega) h7
  have hl := zpY (d := d) (m := d.letters.toNat) (n := d.final.length) (S := ze1 d d.letters.toNat d.final.length) (by omega)
  obtain ⟨v, hv⟩ := zoD x hl
  unfold zml
  rw [zqs hd hn, Option.bind_some, zjD hd hn, Option.bind_some, zqk hd hn, Option.bind_some, zqr hd hn, Option.bind_some, zn6 (zsK hd h7), zsK hd h7, Option.bind_some, zpM hd h7, Option.bind_some, if_pos rfl, if_pos rfl, if_pos rfl, if_pos rfl, if_pos (by simp), if_pos rfl]
  simp only
  rw [ziD hl, Option.bind_some, if_pos rfl, hv, Option.bind_some, if_pos trivial, Option.bind_some, if_pos (by simp)]
  rfl
theorem zkr {d : DFA} (hc : zqc d) (h : zio d ≠ 0) (a b : Int) (w : ByteArray) (x : Imgs) : zml d a b w x = some true := by
  have e1 : z3s d a w = some (0, zio d) := by unfold z3s; rw [z5s hc, Option.bind_some, if_neg h]
  have e2 : z3N d a w = some (0, zio d) := by unfold z3N; rw [zcJ hc, Option.bind_some, if_neg h]
  have e3 : z3r d a b = some (ByteArray.empty, false, zio d) := by unfold z3r; rw [z5s hc, Option.bind_some, if_neg h]
  have e4 : z3M d a b = some (ByteArray.empty, false, zio d) := by unfold z3M; rw [zcJ hc, Option.bind_some, if_neg h]
  have e5 : z4j d = some (⟨[], [], [], [], [], []⟩, zio d) := by unfold z4j; rw [z5s hc, Option.bind_some, if_neg h]
  have e6 : z6B d = some (⟨[], [], [], [], [], []⟩, zio d) := by unfold z6B; rw [zcJ hc, Option.bind_some, if_neg h]
  have e7 : z3q d x = some false := by unfold z3q; rw [e5, Option.bind_some, if_neg h]
  have hl : ImgL (⟨[], [], [], [], [], []⟩ : Imgs) := ⟨by simp, by simp, by simp, by simp, fun x hx => by simp at hx, by simp, by simp⟩
  unfold zml
  rw [e1, Option.bind_some, e2, Option.bind_some, e3, Option.bind_some, e4, Option.bind_some, e5, Option.bind_some, e6, Option.bind_some, if_pos rfl, if_pos rfl, if_pos rfl, if_pos rfl, if_pos (by simp), if_pos rfl]
  simp only
  rw [ziD hl, Option.bind_some, if_pos rfl, e7, Option.bind_some, if_neg h, if_pos (by rfl)]
  rfl
theorem zs6 (d : DFA) (a b : Int) (w : ByteArray) (x : Imgs) : z5f d a b w x = some true := by
  obtain ⟨b0, f0, f1⟩ := zsC d
  rw [zqW, f0, Option.bind_some]
  cases b0 with
  | false => rw [if_neg (by simp)]
  | true =>
    have hc := f1 rfl
    rw [if_pos rfl]
    by_cases c1 : 100 < (w.size : Int)
    · rw [if_pos c1]
    rw [if_neg c1]
    by_cases c2 : 40 < (x.sets.length : Int)
    · rw [if_pos c2]
    rw [if_neg c2]
    by_cases hm : zio d = 0
    · by_cases c3 : 6 < (d.final.length : Int)
      · rw [if_pos c3, zcJ hc, Option.bind_some, if_pos hm]
      · rw [if_neg c3, zqV hm (by omega)]
    · by_cases c3 : 6 < (d.final.length : Int)
      · rw [if_pos c3, zcJ hc, Option.bind_some, if_neg hm, zkr hc hm]
      · rw [if_neg c3, zkr hc hm]
theorem zrl (d : DFA) (a : Int) (w1 : (Lit.int .i64 a).wf = true) (b : Int) (w2 : (Lit.int .i64 b).wf = true) (w : ByteArray) {q : Prop} (w3 : q) (x : Imgs) : ∃ outs, L 10 [.agg [.sc (.int .i64 d.letters), .sc (.int .i64 d.start), .sl d.final.length (d.final.map fun x0 => .sc (.bool x0)), .sl d.next.length (d.next.map fun x0 => .sl x0.length (x0.map fun x1 => .sc (.int .i64 x1)))], .sc (.int .i64 a), .sc (.int .i64 b), .sc (.string w), .agg [.sl x.sets.length (x.sets.map fun x0 => .sc (.int .i64 x0)), .sl x.class_.length (x.class_.map fun x0 => .sc (.int .i64 x0)), .sl x.height.length (x.height.map fun x0 => .sc (.int .i64 x0)), .sl x.tiles.length (x.tiles.map fun x0 => .sl x0.length (x0.map fun x1 => .sc (.int .i64 x1))), .sl x.words.length (x.words.map fun x0 => .sc (.string x0)), .sl x.back.length (x.back.map fun x0 => .sc (.string x0))]] = some (bT true, outs) :=
  ⟨_, zb9 (zs6 d a b w x)⟩
end Go.Proofs.Ytbnnipkanechoaa
end
section
namespace Go.Proofs.Ytbnnipkanechoaa
open Go.RowKit
def zew (P : Program) : Nat -> TypeId -> Bool
  | 0, _ => false
  | m + 1, t =>
    match P.underlying t with
    | some (.slice e) => P.cellsOf e != 0 && zew P m e
    | some (.pointer e) => zew P m e
    | some (.struct fs) => fs.toList.all fun f => zew P m f.type
    | some (.array _ e) => zew P m e
    | some (.map _ e) => zew P m e
    | _ => true
section
variable {H : Type} {enc : TypeId × Value -> H} {P : Program} {w : World} {base : Nat}
theorem zeS {m : Nat} {r r' : TypeId -> List Value -> Option (DataW H × List MemPlace)}
    (hr : ∀ t cs x, zew P m t = true -> r t cs = some x -> r' t cs = some x) {t : TypeId} {cs : List Value} {x : DataW H × List MemPlace} (hf : zew P (m + 1) t = true)
    (h : DataW.trodStep enc P w base (fun _ => true) true r t cs = some x) : DataW.trodStep enc P w base (fun b => decide (b < w.heap.size)) true r' t cs = some x := by
  unfold DataW.trodStep at h ⊢
  unfold zew at hf
  split at h
  case h_1 => exact h
  case h_2 => exact h
  case h_3 => exact h
  case h_4 => exact h
  case h_5 => exact h
  case h_6 e a hu =>
    rw [hu] at hf
    simp only [Option.map_eq_some_iff, Option.bind_eq_some_iff] at h ⊢
    obtain ⟨y, ⟨cs', hc, hy⟩, rfl⟩ := h
    exact ⟨y, ⟨cs', hc, hr _ _ _ hf hy⟩, rfl⟩
  case h_7 => exact h
  case h_8 e a len cap hu =>
    rw [hu] at hf
    simp only [Bool.and_eq_true, bne_iff_ne, ne_eq] at hf
    obtain ⟨hcell, hfe⟩ := hf
    simp only at h ⊢
    split at h
    · rename_i hc
      rw [if_pos hc]
      simp only [Option.map_eq_some_iff, Option.bind_eq_some_iff, if_true] at h ⊢
      obtain ⟨elems, he, rest, hrest, rfl⟩ := h
      have one : ∀ (i : Nat) (y : DataW H × List MemPlace), (w.cells? base (a.add (i * P.cellsOf e)) (P.cellsOf e)).bind (r e) = some y -> (w.cells? base (a.add (i * P.cellsOf e)) (P.cellsOf e)).bind (r' e) = some y := by
        intro i y hv
        simp only [Option.bind_eq_some_iff] at hv ⊢
        obtain ⟨cs', hc', hy'⟩ := hv
        exact ⟨cs', hc', hr _ _ _ hfe hy'⟩
      refine ⟨elems, mapM_carry he (fun i y _ _ hy => one i y hy), rest, ?_, rfl⟩
      by_cases hb : a.block < w.heap.size
      · rw [if_pos (by simpa using hb)]
        exact mapM_carry hrest (fun j y _ _ hy => one (len + j) y hy)
      · rw [if_neg (by simpa using hb)]
        have hz : cap - len = 0 := by
          rcases Nat.eq_zero_or_pos (cap - len) with h0 | h0
          · exact h0
          · exfalso
            have hl : rest.length = cap - len := by simpa using mapM_some_length hrest
            have h1 := mapM_some_get hrest 0 0 (by simp [h0])
            obtain ⟨y, hy⟩ : ∃ y, rest[0]? = some y := ⟨rest[0], List.getElem?_eq_getElem (by omega)⟩
            rw [hy] at h1
            simp only [Option.bind_eq_some_iff] at h1
            obtain ⟨cs', hc', _⟩ := h1
            have h2 := World.cells?_block hc' (by omega)
            have h3 : (a.add ((len + 0) * P.cellsOf e)).block = a.block := by unfold Addr.add; split <;> rfl
            omega
        rw [hz] at hrest
        simpa using hrest
    · cases h
  case h_9 fs _ hu =>
    rw [hu] at hf
    split at h
    · rename_i hc
      rw [if_pos hc]
      simp only [Option.map_eq_some_iff] at h ⊢
      obtain ⟨xs, hx, rfl⟩ := h
      exact ⟨xs, mapM_carry hx (fun f y hin _ hv => hr _ _ _ (List.all_eq_true.1 hf f hin) hv), rfl⟩
    · cases h
  case h_10 n e _ hu =>
    rw [hu] at hf
    split at h
    · rename_i hc
      rw [if_pos hc]
      simp only [Option.map_eq_some_iff] at h ⊢
      obtain ⟨xs, hx, rfl⟩ := h
      exact ⟨xs, mapM_carry hx (fun f y _ _ hv => hr _ _ _ hf hv), rfl⟩
    · cases h
  case h_11 => exact h
  case h_12 => exact h
  case h_13 => exact h
  case h_14 k e b hu =>
    rw [hu] at hf
    split at h
    · rename_i es clock hb
      split at h
      · rename_i hc
        simp only [Option.bind_eq_some_iff] at h
        obtain ⟨entries, he, hd⟩ := h
        split at hd
        · rename_i hris
          have hx := Option.some.inj hd
          subst hx
          simp only [if_pos hc, Option.bind_eq_some_iff]
          refine ⟨entries, mapM_carry he (fun x y _ hy hv => ?_), by simp [hris]⟩
          simp only [Option.bind_eq_some_iff] at hv ⊢
          obtain ⟨key, hk, hz⟩ := hv
          refine ⟨key, hk, ?_⟩
          split at hz
          · rename_i hfm
            rw [if_pos hfm]
            simp only [Option.map_eq_some_iff] at hz ⊢
            obtain ⟨q, hq, rfl⟩ := hz
            exact ⟨q, hr _ _ _ hf hq, rfl⟩
          · cases hz
        · cases hd
      · cases h
    · cases h
  case h_15 => exact h
  case h_16 => exact h
  case h_17 => exact h
  case h_18 => exact h
  case h_19 => exact h
  case h_20 => exact h
  case h_21 => cases h
theorem zlx : ∀ (n m : Nat) (t : TypeId) (cs : List Value) (x : DataW H × List MemPlace), zew P m t = true ->
    DataW.trod enc P w base (fun _ => true) true n t cs = some x -> DataW.trod enc P w base (fun b => decide (b < w.heap.size)) true n t cs = some x := by
  intro n
  induction n with
  | zero => intro m t cs x _ h; simp [DataW.trod] at h
  | succ n ih =>
    intro m t cs x hf h
    cases m with
    | zero => simp [zew] at hf
    | succ m =>
      rw [DataW.trod_step] at h ⊢
      exact zeS (m := m) (fun t cs x hf hx => ih m t cs x hf hx) hf h
theorem zi7 {w' : World} (hb : Below w.heap.size w w') {p : MemPlace} (hp : p.block < w.heap.size) : w.sameAt w' p := by
  cases p with
  | cell b off => exact hb.cell (p := ⟨b, off, none⟩) hp
  | map b => exact hb.block b hp
theorem zaI {w' : World} (m : Nat) (hb : Below w.heap.size w w') : ∀ {ts : List TypeId} {vs : List Value} {ds : List (DataW H)} {ps : List MemPlace}, (ts.all (zew P m)) = true ->
    DataW.TrodAll enc P w 0 (fun _ => true) true ts vs ds ps -> DataW.TrodAll enc P w' 0 (fun b => decide (b < w.heap.size)) true ts vs ds ps
  | [], [], [], ps, _, h => h
  | t :: ts, v :: vs, d :: ds, ps, hf, ⟨p, q, ⟨n, h1⟩, h2, e⟩ => by
    simp only [List.all_cons, Bool.and_eq_true] at hf
    have h3 := zlx n m t _ _ hf.1 h1
    exact ⟨p, q, ⟨n, DataW.trod_carry n _ _ _ h3 (fun z hz => zi7 hb (DataW.trod_lt n _ _ _ h3 z hz))⟩, zaI m hb hf.2 h2, e⟩
  | [], _ :: _, _, _, _, h => by cases h
  | [], [], _ :: _, _, _, h => by cases h
  | _ :: _, [], _, _, _, h => by cases h
  | _ :: _, _ :: _, [], _, _, h => by cases h
end
section
variable {H : Type} {enc : TypeId × Value -> H} {P : Program} {w : World} {r : Reach} {b0 : Nat}
open Go.ChangeShapes Go.WideShapes
open Go.Deep (open_bools)
end
end Go.Proofs.Ytbnnipkanechoaa
end
section
namespace Go.Proofs.Ytbnnipkanechoaa
open Go.ChangeShapes Go.WideShapes Go.RowKit
def KZ : Nat -> z0k := fun _ => []
theorem zot {P : Program} {Xc : z0H} {cf : FuncId -> Option Cfg} {f : FuncId} {args : List T} {outs : List T} (hX : zaD P (fun _ _ => True) Xc) (hm : P.follows .mixedOrders = true) (hf : ∀ f c, cf f = some c -> z3i P f c = true)
    (h : Lim P Xc cf f args = some (.sc (.bool true), outs)) (hio : args.all (fun t => !z3d t) = true) (W : World) (vals : Array Value) (hs : vals.size = args.length)
    (ha : ∀ i t, args[i]? = some t -> TRep W KZ [] (vals.getD i undef) t) : Calls P f vals W fun e W' => e = .returned (.bool true) /\ Below W.heap.size W W' := by
  have hc := zsr (I := fun _ _ => True) EnvS.none hX hm hf h
  refine (hc.calls W KZ vals hs (fun i t hi => ?_) trivial).mono fun e W' ⟨v, K', he, hv, _, hst⟩ => ?_
  · have h1 := List.all_eq_true.1 hio t (List.mem_of_getElem? hi)
    unfold zgg
    rw [if_neg (by simpa using h1)]
    exact ha i t hi
  · generalize hT : T.sc (.bool true) = t at hv
    cases hv with
    | sc c v hb => cases hT; exact ⟨he, hst.os, hst.tape, hst.output, hst.size, fun b hb => (hst.old b hb (.inl rfl)).2⟩
    | _ => cases hT
section
variable {H : Type} {enc : TypeId × Value -> H} {P : Program} {w : World} {r : Reach} {b0 : Nat}
end
end Go.Proofs.Ytbnnipkanechoaa
end
