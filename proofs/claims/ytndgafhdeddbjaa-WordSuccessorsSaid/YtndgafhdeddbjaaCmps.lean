/- Plain facts on the order of words. No program. -/
import Derived.Lib.Bytealg
import Derived.Lib.Small
import Derived.WalkKit
import Derived.Test.YtndgafhdeddbjaaWords
namespace Go.Proofs.Ytndgafhdeddbjaa
open Go Go.Lib
set_option linter.unusedVariables false
set_option linter.unusedSimpArgs false

theorem cb_range : ∀ a b : List UInt8, compareBytes a b = -1 ∨ compareBytes a b = 0 ∨ compareBytes a b = 1
  | [], [] => by simp [compareBytes]
  | [], _ :: _ => by simp [compareBytes]
  | _ :: _, [] => by simp [compareBytes]
  | a :: as, b :: bs => by
    simp only [compareBytes]
    split
    · simp
    · split
      · simp
      · exact cb_range as bs

theorem cb_anti : ∀ a b : List UInt8, compareBytes b a = - compareBytes a b
  | [], [] => by simp [compareBytes]
  | [], _ :: _ => by simp [compareBytes]
  | _ :: _, [] => by simp [compareBytes]
  | a :: as, b :: bs => by
    have h := cb_anti as bs
    simp only [compareBytes]
    by_cases h1 : a < b
    · have h2 : ¬ b < a := fun h' => by have := UInt8.lt_asymm h1; exact this h'
      simp [h1, h2]
    · by_cases h2 : b < a
      · simp [h1, h2]
      · simp [h1, h2, h]

theorem cb_zero : ∀ a b : List UInt8, compareBytes a b = 0 ↔ a = b
  | [], [] => by simp [compareBytes]
  | [], _ :: _ => by simp [compareBytes]
  | _ :: _, [] => by simp [compareBytes]
  | a :: as, b :: bs => by
    have h := cb_zero as bs
    simp only [compareBytes]
    by_cases h1 : a < b
    · have : a ≠ b := fun e => by subst e; exact UInt8.lt_irrefl _ h1
      simp [h1, this]
    · by_cases h2 : b < a
      · have : a ≠ b := fun e => by subst e; exact UInt8.lt_irrefl _ h2
        simp [h1, h2, this]
      · have : a = b := UInt8.le_antisymm (UInt8.not_lt.1 h2) (UInt8.not_lt.1 h1)
        simp [h1, h2, h, this]

theorem cb_less : ∀ a b : List UInt8, Op.bytesLess a b = decide (compareBytes a b = -1)
  | [], [] => by simp [compareBytes, Op.bytesLess]
  | [], _ :: _ => by simp [compareBytes, Op.bytesLess]
  | _ :: _, [] => by simp [compareBytes, Op.bytesLess]
  | a :: as, b :: bs => by
    have h := cb_less as bs
    simp only [compareBytes, Op.bytesLess, h]
    by_cases h1 : a < b
    · simp [h1]
    · by_cases h2 : b < a
      · have : a ≠ b := fun e => by subst e; exact UInt8.lt_irrefl _ h2
        simp [h1, h2, this]
      · have : a = b := UInt8.le_antisymm (UInt8.not_lt.1 h2) (UInt8.not_lt.1 h1)
        simp [h1, this]

theorem cb_trans : ∀ a b c : List UInt8, compareBytes a b ≤ 0 → compareBytes b c ≤ 0 → compareBytes a c ≤ 0
  | [], _, [] => by simp [compareBytes]
  | [], _, _ :: _ => by simp [compareBytes]
  | _ :: _, [], _ => by simp [compareBytes]
  | _ :: _, _ :: _, [] => by simp [compareBytes]
  | a :: as, b :: bs, c :: cs => by
    have h := cb_trans as bs cs
    simp only [compareBytes]
    intro h1 h2
    by_cases ab : a < b
    · by_cases bc : b < c
      · rw [if_pos (UInt8.lt_trans ab bc)]; omega
      · by_cases cb : c < b
        · rw [if_neg bc, if_pos cb] at h2; omega
        · have : b = c := UInt8.le_antisymm (UInt8.not_lt.1 cb) (UInt8.not_lt.1 bc)
          subst this; rw [if_pos ab]; omega
    · by_cases ba : b < a
      · rw [if_neg ab, if_pos ba] at h1; omega
      · have : a = b := UInt8.le_antisymm (UInt8.not_lt.1 ba) (UInt8.not_lt.1 ab)
        subst this
        rw [if_neg ab, if_neg ba] at h1
        by_cases bc : a < c
        · rw [if_pos bc]; omega
        · by_cases cb : c < a
          · rw [if_neg bc, if_pos cb] at h2; omega
          · rw [if_neg bc, if_neg cb] at h2 ⊢
            exact h h1 h2

/-- The shortlex order. -/
def cmpW (u v : List UInt8) : Int := if u.length < v.length then -1 else if v.length < u.length then 1 else compareBytes u v

theorem cmpW_range (a b : List UInt8) : cmpW a b = -1 ∨ cmpW a b = 0 ∨ cmpW a b = 1 := by
  have := cb_range a b
  unfold cmpW; split
  · simp
  · split
    · simp
    · exact this

theorem cmpW_anti (a b : List UInt8) : cmpW b a = - cmpW a b := by
  have := cb_anti a b
  unfold cmpW
  by_cases h1 : a.length < b.length
  · have : ¬ b.length < a.length := by omega
    simp [h1, this]
  · by_cases h2 : b.length < a.length
    · simp [h1, h2]
    · simp [h1, h2, this]

theorem cmpW_zero (a b : List UInt8) : cmpW a b = 0 ↔ a = b := by
  have := cb_zero a b
  unfold cmpW
  by_cases h1 : a.length < b.length
  · simp only [if_pos h1]
    constructor
    · omega
    · intro e; subst e; omega
  · by_cases h2 : b.length < a.length
    · simp only [if_neg h1, if_pos h2]
      constructor
      · omega
      · intro e; subst e; omega
    · simp only [if_neg h1, if_neg h2]; exact this

theorem cmpW_trans (a b c : List UInt8) (h1 : cmpW a b ≤ 0) (h2 : cmpW b c ≤ 0) : cmpW a c ≤ 0 := by
  have := cb_trans a b c
  unfold cmpW at *
  by_cases ab : a.length < b.length
  · by_cases cb : c.length < b.length
    · rw [if_neg (by omega), if_pos cb] at h2; omega
    · rw [if_pos (by omega)]; omega
  · by_cases ba : b.length < a.length
    · rw [if_neg ab, if_pos ba] at h1; omega
    · rw [if_neg ab, if_neg ba] at h1
      by_cases bc : b.length < c.length
      · rw [if_pos (by omega)]; omega
      · by_cases cb : c.length < b.length
        · rw [if_neg bc, if_pos cb] at h2; omega
        · rw [if_neg bc, if_neg cb] at h2
          rw [if_neg (by omega), if_neg (by omega)]
          exact this h1 h2

/-- The number of a word, going on from n. -/
def wv (L : Nat) : Nat → List UInt8 → Nat
  | n, [] => n
  | n, c :: l => wv L (n * L + (c.toNat - 96)) l

/-- All letters are among the first L. -/
def InL (L : Nat) (l : List UInt8) : Prop := ∀ c ∈ l, 97 ≤ c.toNat ∧ c.toNat - 97 < L

theorem wv_snoc (L : Nat) : ∀ (l : List UInt8) (n : Nat) (c : UInt8), wv L n (l ++ [c]) = wv L n l * L + (c.toNat - 96)
  | [], n, c => rfl
  | a :: l, n, c => wv_snoc L l _ c

theorem wv_lt {L : Nat} : ∀ (u w : List UInt8) (n m : Nat), u.length = w.length → InL L u → InL L w → n < m → wv L n u < wv L m w
  | [], [], n, m, _, _, _, h => h
  | [], _ :: _, _, _, hl, _, _, _ => by simp at hl
  | _ :: _, [], _, _, hl, _, _, _ => by simp at hl
  | a :: u, b :: w, n, m, hl, hu, hw, h => by
    have ha := hu a (by simp)
    have hb := hw b (by simp)
    refine wv_lt u w _ _ (by simpa using hl) (fun c hc => hu c (by simp [hc])) (fun c hc => hw c (by simp [hc])) ?_
    have : (n + 1) * L ≤ m * L := Nat.mul_le_mul_right _ h
    rw [Nat.succ_mul] at this
    omega

theorem wv_lex {L : Nat} : ∀ (u w : List UInt8) (n : Nat), u.length = w.length → InL L u → InL L w → compareBytes u w < 0 → wv L n u < wv L n w
  | [], [], _, _, _, _, h => by simp [compareBytes] at h
  | [], _ :: _, _, hl, _, _, _ => by simp at hl
  | _ :: _, [], _, hl, _, _, _ => by simp at hl
  | a :: u, b :: w, n, hl, hu, hw, h => by
    have ha := hu a (by simp)
    have hb := hw b (by simp)
    have hu' : InL L u := fun c hc => hu c (by simp [hc])
    have hw' : InL L w := fun c hc => hw c (by simp [hc])
    simp only [compareBytes] at h
    by_cases ab : a < b
    · have : a.toNat < b.toNat := UInt8.lt_iff_toNat_lt.1 ab
      exact wv_lt u w _ _ (by simpa using hl) hu' hw' (by omega)
    · by_cases ba : b < a
      · rw [if_neg ab, if_pos ba] at h; omega
      · rw [if_neg ab, if_neg ba] at h
        have : a = b := UInt8.le_antisymm (UInt8.not_lt.1 ba) (UInt8.not_lt.1 ab)
        subst this
        exact wv_lex u w _ (by simpa using hl) hu' hw' h

theorem wv_short {L : Nat} (hL : 1 ≤ L) : ∀ (w u : List UInt8) (n m : Nat), u.length < w.length → InL L u → InL L w → n ≤ m → wv L n u < wv L m w
  | [], _, _, _, hl, _, _, _ => by simp at hl
  | b :: w, u, n, m, hl, hu, hw, h => by
    have hb := hw b (by simp)
    have hw' : InL L w := fun c hc => hw c (by simp [hc])
    have hm : m * 1 ≤ m * L := Nat.mul_le_mul_left _ hL
    simp only [List.length_cons] at hl
    by_cases e : u.length = w.length
    · exact wv_lt u w n _ e hu hw' (by omega)
    · exact wv_short hL w u n _ (by omega) hu hw' (by omega)

theorem wv_mono {L : Nat} (hL : 1 ≤ L) {u w : List UInt8} (hu : InL L u) (hw : InL L w) (h : cmpW u w < 0) : wv L 0 u < wv L 0 w := by
  unfold cmpW at h
  by_cases h1 : u.length < w.length
  · exact wv_short hL w u 0 0 h1 hu hw (Nat.le_refl _)
  · by_cases h2 : w.length < u.length
    · rw [if_neg h1, if_pos h2] at h; omega
    · rw [if_neg h1, if_neg h2] at h
      exact wv_lex u w 0 (by omega) hu hw h

theorem wv_iff {L : Nat} (hL : 1 ≤ L) {u w : List UInt8} (hu : InL L u) (hw : InL L w) : cmpW u w < 0 ↔ wv L 0 u < wv L 0 w := by
  refine ⟨wv_mono hL hu hw, fun h => ?_⟩
  rcases cmpW_range u w with e | e | e
  · omega
  · have := (cmpW_zero u w).1 e; subst this; omega
  · have : cmpW w u < 0 := by rw [cmpW_anti u w]; omega
    have := wv_mono hL hw hu this
    omega

theorem wv_rev (L : Nat) (hL : 1 ≤ L) (h6 : L ≤ 6) : ∀ n, wv L 0 (revWord L n).reverse = n := by
  intro n
  induction n using Nat.strongRecOn with
  | _ n ih =>
    cases n with
    | zero => rfl
    | succ n =>
      have h1 : n % L < L := Nat.mod_lt _ hL
      have h2 : n / L ≤ n := Nat.div_le_self _ _
      rw [revWord_step L (n + 1) (by omega), List.reverse_cons, wv_snoc]
      simp only [Nat.add_sub_cancel]
      rw [ih _ (by omega)]
      have h3 : (UInt8.ofNat (97 + n % L)).toNat = 97 + n % L := by simp; omega
      rw [h3]
      have := Nat.div_add_mod n L
      rw [Nat.mul_comm] at this
      omega

theorem inL_rev (L : Nat) (hL : 1 ≤ L) (h6 : L ≤ 6) : ∀ n, InL L (revWord L n) := by
  intro n
  induction n using Nat.strongRecOn with
  | _ n ih =>
    cases n with
    | zero => intro c hc; simp [revWord_zero] at hc
    | succ n =>
      have h1 : n % L < L := Nat.mod_lt _ hL
      have h2 : n / L ≤ n := Nat.div_le_self _ _
      rw [revWord_step L (n + 1) (by omega)]
      simp only [Nat.add_sub_cancel]
      intro c hc
      rcases List.mem_cons.1 hc with e | e
      · subst e
        have h3 : (UInt8.ofNat (97 + n % L)).toNat = 97 + n % L := by simp; omega
        rw [h3]; omega
      · exact ih _ (by omega) c e
end Go.Proofs.Ytndgafhdeddbjaa
