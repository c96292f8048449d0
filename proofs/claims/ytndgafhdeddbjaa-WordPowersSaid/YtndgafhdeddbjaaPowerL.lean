/- The walk of the law WordPowers. -/
import Derived.Test.YtndgafhdeddbjaaRootL
import Derived.Test.YtndgafhdeddbjaaDrawn
namespace Go.Proofs.Ytndgafhdeddbjaa
set_option linter.unusedVariables false
open Go.RowKit

/-- The k-th power of a string. -/
def powS (t : ByteArray) : Nat → ByteArray
  | 0 => ByteArray.empty
  | k + 1 => powS t k ++ t

theorem powS_size (t : ByteArray) : ∀ k, (powS t k).size = k * t.size
  | 0 => by simp [powS]
  | k + 1 => by simp [powS, powS_size t k, Nat.succ_mul]

theorem powS_fn (t : ByteArray) (h : 0 < t.size) : ∀ k i, i < k * t.size → fn (powS t k).data.toList i = fn t.data.toList (i % t.size)
  | 0, i, hi => by omega
  | k + 1, i, hi => by
    have hl : (powS t k).data.toList.length = k * t.size := powS_size t k
    have ht : t.data.toList.length = t.size := rfl
    have e : (powS t (k + 1)).data.toList = (powS t k).data.toList ++ t.data.toList := by simp [powS, ByteArray.data_append]
    have hm : i % t.size < t.size := Nat.mod_lt _ h
    rw [e]
    by_cases hlt : i < k * t.size
    · rw [← powS_fn t h k i hlt]
      rw [fn_get _ _ (by rw [List.length_append]; omega), fn_get _ _ (by omega), List.getElem_append_left (by omega)]
    · have hi2 : i - k * t.size < t.size := by rw [Nat.succ_mul] at hi; omega
      have hmod : i % t.size = i - k * t.size := by
        conv => lhs; rw [show i = (i - k * t.size) + t.size * k by rw [Nat.mul_comm t.size k]; omega]
        rw [Nat.add_mul_mod_self_left, Nat.mod_eq_of_lt hi2]
      rw [hmod, fn_get _ _ (by rw [List.length_append]; omega), fn_get _ _ (by omega), List.getElem_append_right (by omega)]
      congr 1; omega

theorem powS_len (t : ByteArray) (h : 0 < t.size) (k : Nat) (hk : 1 ≤ k) : rootLen (powS t k).data.toList = rootLen t.data.toList := by
  have h1 : 0 < (powS t k).size := by rw [powS_size]; exact Nat.mul_pos hk h
  have hr := rootLen_isRoot t.data.toList h
  have hr2 := rootLen_isRoot (powS t k).data.toList h1
  rw [show (powS t k).data.toList.length = k * t.size from powS_size t k] at hr2
  exact isRoot_unique hr2 (isRoot_power hr hk h (fun i hi => powS_fn t h k i hi))

theorem powS_rootS (t : ByteArray) (h : 0 < t.size) (k : Nat) (hk : 1 ≤ k) : rootS (powS t k) = rootS t := by
  unfold rootS
  rw [powS_len t h k hk]
  have hl := (rootLen_isRoot t.data.toList h).1.2.1
  have ht : t.data.toList.length = t.size := rfl
  have hsz := powS_size t k
  have hge : t.size ≤ k * t.size := Nat.le_mul_of_pos_left _ hk
  apply ByteArray.ext
  apply Array.ext'
  simp only [cutS, ]
  apply List.ext_getElem
  · simp only [List.length_take]
    rw [show (powS t k).data.toList.length = k * t.size from hsz]; omega
  · intro i h1 h2
    simp only [List.getElem_take]
    have hi : i < t.size := by simp at h1 h2; have : t.data.size = t.size := rfl; omega
    have e := powS_fn t h k i (by omega)
    rw [Nat.mod_eq_of_lt hi, fn_get _ _ (by rw [show (powS t k).data.toList.length = k * t.size from hsz]; omega), fn_get _ _ (by omega)] at e
    exact e

theorem powS_rootE (t : ByteArray) (h : 0 < t.size) (k : Nat) (hk : 1 ≤ k) : rootE (powS t k) = rootE t * k := by
  unfold rootE
  rw [powS_len t h k hk, powS_size]
  have hr := (rootLen_isRoot t.data.toList h).1
  obtain ⟨c, hc⟩ := Nat.dvd_of_mod_eq_zero hr.2.2.1
  have ht : t.data.toList.length = t.size := rfl
  rw [ht] at hc
  rw [hc]
  have h1 := hr.1
  rw [Nat.mul_div_cancel_left _ (by omega), ← Nat.mul_assoc, Nat.mul_comm k, Nat.mul_assoc, Nat.mul_div_cancel_left _ (by omega), Nat.mul_comm]

set_option maxRecDepth 100000 in
set_option maxHeartbeats 400000 in
theorem WordPowers_walk (s : ByteArray) (k : Int) (w : World) (hs : s.size ≤ maxLen) (_ : (Lit.int .i64 k).wf = true) :
    Calls Try.prog 11 #[.string s, .int .i64 k] w fun e w' => e = .returned (.bool true) ∧ Below w.heap.size w w' := by
  have l1 := cutS_le s 20
  have C := Lib.hid fun w => cut_any s 20 w hs (by omega)
  generalize cutS s 20 = t at *
  by_cases hk : 1 ≤ k ∧ k ≤ 8 ∧ t.size ≠ 0
  case neg =>
    by_cases h0 : t.size = 0
    · obtain rfl := empty_of_size t h0
      have he : ByteArray.empty.toList = [] := by rw [toList_data]; rfl
      by_cases k1 : k < 1 <;> by_cases k2 : 8 < k
      all_goals
        go_enter Try.func11, Try.ntmps11
        go_wp2_with fail
        refine (C.out _).mono ?_
        rintro e w1 ⟨rfl, rfl⟩
        go_wp2_with fail
        refine (awake_any _).mono ?_
        rintro e w4 ⟨rfl, hb4⟩
        have B4 := Lib.hid hb4
        clear hb4
        go_wp2
        go_ret
        exact ⟨rfl, B4.out⟩
    · have hne := isEmpty_false t h0
      by_cases k1 : k < 1
      all_goals
        try have k2 : 8 < k := by omega
        clear hk
        go_enter Try.func11, Try.ntmps11
        go_wp2_with fail
        refine (C.out _).mono ?_
        rintro e w1 ⟨rfl, rfl⟩
        go_wp2_with fail
        refine (awake_any _).mono ?_
        rintro e w4 ⟨rfl, hb4⟩
        have B4 := Lib.hid hb4
        clear hb4
        go_wp2
        go_ret
        exact ⟨rfl, B4.out⟩
  case pos =>
    obtain ⟨k1, k2, k3⟩ := hk
    obtain ⟨K, rfl⟩ := Int.eq_ofNat_of_zero_le (show 0 ≤ k by omega)
    have hne := isEmpty_false t k3
    have R1 := Lib.hid fun w => root_any t w (by omega)
    have hpz : (powS t K).size ≤ 4096 := by
      rw [powS_size]; exact Nat.le_trans (Nat.mul_le_mul (show K ≤ 8 by omega) l1) (by omega)
    have hR2 := fun w => root_any (powS t K) w hpz
    rw [powS_rootS t (by omega) K (by omega), powS_rootE t (by omega) K (by omega)] at hR2
    have R2 := Lib.hid hR2
    clear hR2 hpz
    have hE : rootE t ≤ 20 := Nat.le_trans (Nat.div_le_self _ _) l1
    have hEK : (rootE t : Int) * (K : Int) ≤ 160 := Int.le_trans (Int.mul_le_mul_of_nonneg_right (show (rootE t : Int) ≤ 20 by omega) (by omega)) (by omega)
    have hEK0 : 0 ≤ (rootE t : Int) * (K : Int) := Int.mul_nonneg (by omega) (by omega)
    generalize rootE t = E at *
    generalize rootS t = r at *
    go_enter Try.func11, Try.ntmps11
    go_wp2_with fail
    refine (C.out _).mono ?_
    rintro e w1 ⟨rfl, rfl⟩
    go_wp2_with fail
    go_loop [5, 6] (fun p i => ∃ j : Nat, j ≤ K ∧ i = .int .i64 j ∧ p = .string (powS t j)) (fun _ i => K - (intOf i).toNat)
    case atStart => exact ⟨0, by omega, rfl, rfl⟩
    case round =>
      obtain ⟨j, hj, rfl, rfl⟩ := hrel
      by_cases hlt : j < K
      · have hps : (powS t j).size + t.size ≤ 4096 := by
          rw [powS_size, ← Nat.succ_mul]; exact Nat.le_trans (Nat.mul_le_mul (show j + 1 ≤ 8 by omega) l1) (by omega)
        go_wp2
        go_round
        case rel => exact ⟨j + 1, by omega, by go_num, rfl⟩
        case measure => simp [intOf]; omega
      · obtain rfl : j = K := by omega
        go_wp2_with fail
        refine (R1.out _).mono ?_
        rintro e w1 ⟨rfl, hb1⟩
        have B1 := Lib.hid hb1
        clear hb1
        go_wp2_with fail
        refine (R2.out _).mono ?_
        rintro e w2 ⟨rfl, hb2⟩
        have B2 := Lib.hid (B1.out.trans (hb2.mono B1.out.size))
        clear hb2
        have hcast : ((E * j : Nat) : Int) = (E : Int) * (j : Int) := by simp
        go_wp2_with fail
        refine (awake_any _).mono ?_
        rintro e w4 ⟨rfl, hb4⟩
        have B4 := Lib.hid (B2.out.trans (hb4.mono B2.out.size))
        clear hb4
        go_wp2
        go_ret
        exact ⟨rfl, B4.out⟩
end Go.Proofs.Ytndgafhdeddbjaa
