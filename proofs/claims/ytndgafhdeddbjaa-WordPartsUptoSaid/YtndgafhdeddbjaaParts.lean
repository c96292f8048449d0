/- Plain facts on factors, subwords and rotations. No program. -/
import Derived.Lib.IndexMore
import Derived.Test.YtndgafhdeddbjaaRootsP
namespace Go.Proofs.Ytndgafhdeddbjaa
open Go Go.Lib
set_option linter.unusedVariables false
set_option linter.unusedSimpArgs false

theorem occAt_infix (s sub : List UInt8) (i : Nat) (h : occAt s sub i = true) : sub <:+: s := by
  have h1 : sub <+: s.drop i := List.isPrefixOf_iff_prefix.1 h
  obtain ⟨t, ht⟩ := h1
  exact ⟨s.take i, t, by rw [List.append_assoc, ht, List.take_append_drop]⟩

theorem contains_iff (s sub : List UInt8) : contains s sub = true ↔ sub <:+: s := by
  unfold contains
  rw [decide_eq_true_iff]
  constructor
  · intro h
    rcases index_spec s sub with ⟨h1, _⟩ | ⟨i, h1, h2, h3, _⟩
    · omega
    · exact occAt_infix s sub i (by first | exact h3 | exact h3.1)
  · rintro ⟨a, b, e⟩
    rcases index_spec s sub with ⟨h1, h2⟩ | ⟨i, h1, _⟩
    · exfalso
      have := h2 a.length (by rw [← e]; simp)
      unfold occAt at this
      rw [← e, List.append_assoc, List.drop_left] at this
      have h3 : sub.isPrefixOf (sub ++ b) = true := List.isPrefixOf_iff_prefix.2 (List.prefix_append _ _)
      rw [h3] at this; cases this
    · omega

/-- Is u a factor of w? -/
def facB (u w : List UInt8) : Bool := contains w u
theorem facB_iff (u w : List UInt8) : facB u w = true ↔ u <:+: w := contains_iff w u

theorem fac_at (u w : List UInt8) (i : Nat) (h : (w.take (i + u.length)).drop i = u) : u <:+: w := by
  refine ⟨w.take i, w.drop (i + u.length), ?_⟩
  have h1 : w.take i ++ u = w.take (i + u.length) := by
    have h2 : (w.take (i + u.length)).take i = w.take i := by rw [List.take_take, Nat.min_eq_left (by omega)]
    have h3 := List.take_append_drop i (w.take (i + u.length))
    rw [h2, h] at h3
    exact h3
  rw [h1, List.take_append_drop]

theorem fac_none (u w : List UInt8) (h : ∀ i, i + u.length ≤ w.length → (w.take (i + u.length)).drop i ≠ u) : ¬ u <:+: w := by
  rintro ⟨a, b, e⟩
  have hl : (a ++ u).length + b.length = w.length := by rw [← e]; simp; omega
  refine h a.length (by simp at hl; omega) ?_
  have : w.take (a.length + u.length) = a ++ u := by
    rw [← e, show a.length + u.length = (a ++ u).length by simp, List.take_left]
  rw [this, List.drop_left]

/-- Is u a subword of w? -/
def subB (u w : List UInt8) : Bool := u.isSublist w
theorem subB_iff (u w : List UInt8) : subB u w = true ↔ u.Sublist w := List.isSublist_iff_sublist

theorem subB_hit {u w : List UInt8} {k i : Nat} (hk : k < u.length) (hi : i < w.length) (h : w[i] = u[k]) : subB (u.drop k) (w.drop i) = subB (u.drop (k + 1)) (w.drop (i + 1)) := by
  unfold subB
  rw [List.drop_eq_getElem_cons hk, List.drop_eq_getElem_cons hi]
  simp [List.isSublist, h]
theorem subB_miss {u w : List UInt8} {k i : Nat} (hk : k < u.length) (hi : i < w.length) (h : w[i] ≠ u[k]) : subB (u.drop k) (w.drop i) = subB (u.drop k) (w.drop (i + 1)) := by
  unfold subB
  rw [List.drop_eq_getElem_cons hk, List.drop_eq_getElem_cons hi]
  have h2 : (u[k] == w[i]) = false := beq_eq_false_iff_ne.2 (Ne.symm h)
  simp only [List.isSublist, h2]
  rfl
theorem subB_full (u w : List UInt8) (k i : Nat) (hk : k = u.length) : subB (u.drop k) (w.drop i) = true := by
  subst hk
  rw [subB_iff, List.drop_length]
  exact List.nil_sublist _
theorem subB_end (u w : List UInt8) (k i : Nat) (hk : k < u.length) (hi : i = w.length) : subB (u.drop k) (w.drop i) = false := by
  subst hi
  rw [← Bool.not_eq_true, subB_iff, List.drop_length, List.sublist_nil, List.drop_eq_nil_iff]
  omega

theorem facB_reverse (u w : List UInt8) : facB u.reverse w.reverse = facB u w := by
  rw [Bool.eq_iff_iff, facB_iff, facB_iff]; exact List.reverse_infix
theorem subB_reverse (u w : List UInt8) : subB u.reverse w.reverse = subB u w := by
  rw [Bool.eq_iff_iff, subB_iff, subB_iff]; exact List.reverse_sublist
theorem fac_sub (u w : List UInt8) (h : facB u w = true) : subB u w = true := by
  rw [facB_iff] at h; rw [subB_iff]; exact h.sublist

/-- Is v a rotation of u? -/
def conjB (u v : List UInt8) : Bool := decide (u.length = v.length) && facB v (u ++ u)

theorem rot_fac (u : List UInt8) (i : Nat) (h : i ≤ u.length) : u.drop i ++ u.take i <:+: u ++ u := by
  refine ⟨u.take i, u.drop i, ?_⟩
  rw [← List.append_assoc, List.take_append_drop, List.append_assoc, List.take_append_drop]

theorem conjB_iff (u v : List UInt8) : conjB u v = true ↔ ∃ i, i ≤ u.length ∧ u.drop i ++ u.take i = v := by
  unfold conjB
  rw [Bool.and_eq_true, decide_eq_true_iff, facB_iff]
  constructor
  · rintro ⟨hl, a, b, e⟩
    have hlen : a.length + v.length + b.length = u.length + u.length := by
      have := congrArg List.length e; simp at this; omega
    refine ⟨a.length, by omega, ?_⟩
    have e1 : (u ++ u).drop a.length = v ++ b := by rw [← e, List.append_assoc, List.drop_left]
    have e2 : ((u ++ u).drop a.length).take v.length = v := by rw [e1, List.take_left]
    rw [← e2, List.drop_append_of_le_length (by omega), List.take_append]
    have h3 : v.length - (u.drop a.length).length = a.length := by simp; omega
    have h4 : List.take v.length (u.drop a.length) = u.drop a.length := List.take_of_length_le (by rw [List.length_drop]; omega)
    rw [h3, h4]
  · rintro ⟨i, hi, rfl⟩
    exact ⟨by simp; omega, rot_fac u i hi⟩

theorem conjB_false (u v : List UInt8) (h : ∀ i, i ≤ u.length → u.drop i ++ u.take i ≠ v) : conjB u v = false := by
  rw [← Bool.not_eq_true, conjB_iff]
  rintro ⟨i, hi, e⟩
  exact h i hi e

theorem conjB_symm_imp (u v : List UInt8) (h : conjB u v = true) : conjB v u = true := by
  rw [conjB_iff] at *
  obtain ⟨i, hi, rfl⟩ := h
  refine ⟨u.length - i, by simp, ?_⟩
  have hl : (u.drop i).length = u.length - i := by simp
  rw [← hl, List.drop_left, List.take_left, List.take_append_drop]

theorem conjB_symm (u v : List UInt8) : conjB v u = conjB u v := by
  rw [Bool.eq_iff_iff]
  exact ⟨conjB_symm_imp v u, conjB_symm_imp u v⟩

theorem conjB_swap (x y : List UInt8) : conjB (x ++ y) (y ++ x) = true := by
  rw [conjB_iff]
  exact ⟨x.length, by simp, by rw [List.drop_left, List.take_left]⟩

theorem fn_swap (x y : List UInt8) (i : Nat) (hi : i < (x ++ y).length) : fn (y ++ x) i = fn (x ++ y) ((i + x.length) % (x ++ y).length) := by
  have hl : (x ++ y).length = x.length + y.length := by simp
  by_cases h : i < y.length
  · rw [Nat.mod_eq_of_lt (by omega), fn_get _ _ (by simp; omega), fn_get _ _ (by simp; omega), List.getElem_append_left h, List.getElem_append_right (by omega)]
    congr 1; omega
  · have e : (i + x.length) % (x ++ y).length = i - y.length := by
      rw [show i + x.length = (i - y.length) + (x ++ y).length by omega, Nat.add_mod_right, Nat.mod_eq_of_lt (by omega)]
    rw [e, fn_get _ _ (by simp; omega), fn_get _ _ (by simp; omega), List.getElem_append_right (by omega), List.getElem_append_left (by omega)]

theorem rootLen_swap_le (x y : List UInt8) (h : 0 < (x ++ y).length) : rootLen (y ++ x) ≤ rootLen (x ++ y) := by
  have h1 := rootLen_isRoot (x ++ y) h
  have h2 := rootLen_isRoot (y ++ x) (by simp at h ⊢; omega)
  have hl : (y ++ x).length = (x ++ y).length := by simp; omega
  rw [hl] at h2
  exact h2.2 _ (good_rotate h1.1 (fun i hi => fn_swap x y i hi))

theorem rootLen_swap (x y : List UInt8) : rootLen (y ++ x) = rootLen (x ++ y) := by
  by_cases h : 0 < (x ++ y).length
  · exact Nat.le_antisymm (rootLen_swap_le x y h) (rootLen_swap_le y x (by simp at h ⊢; omega))
  · have : x = [] ∧ y = [] := by
      constructor <;> (apply List.eq_nil_of_length_eq_zero; simp at h; simp [h])
    rw [this.1, this.2]
end Go.Proofs.Ytndgafhdeddbjaa
