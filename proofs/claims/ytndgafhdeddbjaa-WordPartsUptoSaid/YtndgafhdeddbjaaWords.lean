/- Plain facts on words as numbers. No program. -/
namespace Go.Proofs.Ytndgafhdeddbjaa

theorem getD_get {α : Type} (l : List α) (i : Nat) (d : α) (h : i < l.length) : l.getD i d = l[i] := by simp [List.getD, List.getElem?_eq_getElem h]

/-- The letters of the word of rank n, the last first. -/
def revDigits (L : Nat) : Nat → Nat → List UInt8
  | 0, _ => []
  | f + 1, n => if n = 0 then [] else UInt8.ofNat (97 + (n - 1) % L) :: revDigits L f ((n - 1) / L)

theorem revDigits_fuel (L : Nat) : ∀ (f g n : Nat), n ≤ f → n ≤ g → revDigits L f n = revDigits L g n
  | 0, 0, _, _, _ => rfl
  | 0, g + 1, n, h, _ => by
    have : n = 0 := by omega
    subst this; simp [revDigits]
  | f + 1, 0, n, _, h => by
    have : n = 0 := by omega
    subst this; simp [revDigits]
  | f + 1, g + 1, n, hf, hg => by
    by_cases h : n = 0
    · simp [revDigits, h]
    · have : (n - 1) / L ≤ n - 1 := Nat.div_le_self _ _
      simp only [revDigits, if_neg h]
      rw [revDigits_fuel L f g _ (by omega) (by omega)]

/-- The letters of the word of rank n, the last first. -/
def revWord (L n : Nat) : List UInt8 := revDigits L n n

theorem revWord_zero (L : Nat) : revWord L 0 = [] := rfl

theorem revWord_step (L n : Nat) (h : 0 < n) : revWord L n = UInt8.ofNat (97 + (n - 1) % L) :: revWord L ((n - 1) / L) := by
  cases n with
  | zero => omega
  | succ m =>
    have : m / L ≤ m := Nat.div_le_self _ _
    simp only [revWord, revDigits, if_neg (Nat.succ_ne_zero m), Nat.add_sub_cancel]
    rw [revDigits_fuel L m (m / L) _ this (Nat.le_refl _)]

theorem revWord_length_one : ∀ n : Nat, (revWord 1 n).length = n
  | 0 => rfl
  | n + 1 => by rw [revWord_step 1 (n + 1) (by omega)]; simp [revWord_length_one n]

theorem revWord_length_two (L : Nat) (hL : 2 ≤ L) : ∀ (k n : Nat), n < 2 ^ k → (revWord L n).length ≤ k
  | 0, n, h => by
    have : n = 0 := by omega
    subst this; simp [revWord_zero]
  | k + 1, n, h => by
    by_cases h0 : n = 0
    · subst h0; simp [revWord_zero]
    · rw [revWord_step L n (by omega)]
      have h1 : (n - 1) / L ≤ (n - 1) / 2 := Nat.div_le_div_left hL (by omega)
      have h2 : (n - 1) / L < 2 ^ k := by rw [Nat.pow_succ] at h; omega
      have := revWord_length_two L hL k _ h2
      simp; omega

theorem revWord_length (L n : Nat) (hL : 1 ≤ L) (hn : n ≤ 4611686018427387904) (h1 : L = 1 → n ≤ 2048) : (revWord L n).length ≤ 2048 := by
  by_cases h : L = 1
  · subst h; rw [revWord_length_one]; exact h1 rfl
  · have := revWord_length_two L (by omega) 63 n (by omega)
    omega

end Go.Proofs.Ytndgafhdeddbjaa
