/- The walks of the laws WordPeriods and WordBorders. -/
import Derived.Test.YtndgafhdeddbjaaRootL
import Derived.Deep.RegionWith
namespace Go.Proofs.Ytndgafhdeddbjaa
set_option linter.unusedVariables false
open Go.RowKit

set_option maxRecDepth 100000 in
set_option maxHeartbeats 400000 in
theorem WordPeriods_walk (s : ByteArray) (w : World) (hs : s.size ≤ maxLen) :
    Calls Try.prog 12 #[.string s] w fun e w' => e = .returned (.bool true) ∧ Below w.heap.size w w' := by
  have l1 := cutS_le s 200
  have C := Lib.hid fun w => cut_any s 200 w hs (by omega)
  generalize cutS s 200 = t at *
  by_cases h0 : t.size = 0
  · obtain rfl := empty_of_size t h0
    have he : ByteArray.empty.toList = [] := by rw [toList_data]; rfl
    go_enter Try.func12, Try.ntmps12
    go_wp2_with fail
    refine (C.out _).mono ?_
    rintro e w1 ⟨rfl, rfl⟩
    go_wp2_with fail
    refine (awake_any _).mono ?_
    rintro e w4 ⟨rfl, hb4⟩
    have B4 := Lib.hid hb4
    clear hb4
    go_wp2
    go_ret
    exact ⟨rfl, B4.out⟩
  · have hne := isEmpty_false t h0
    have hlt : borderOf t.data.toList < t.size := borderOf_lt t.data.toList (by show 0 < t.size; omega)
    have B := Lib.hid (fun w => border_any t w (by omega))
    have hR := fun w => root_any t w (by omega)
    have hE : rootE t = t.size / (if t.size % (t.size - borderOf t.data.toList) = 0 then t.size - borderOf t.data.toList else t.size) := rfl
    rw [hE] at hR
    clear hE
    generalize rootS t = r at *
    generalize borderOf t.data.toList = b at *
    have hcast : (t.size : Int) % ((t.size : Int) - (b : Int)) = ((t.size % (t.size - b) : Nat) : Int) := by
      rw [show (t.size : Int) - (b : Int) = ((t.size - b : Nat) : Int) by omega]; rfl
    have hdiv : (t.size : Int) / ((t.size : Int) - (b : Int)) = ((t.size / (t.size - b) : Nat) : Int) := by
      rw [show (t.size : Int) - (b : Int) = ((t.size - b : Nat) : Int) by omega]; rfl
    have q1 : (1 : Int) ≤ (t.size : Int) - (b : Int) := by omega
    have q3 : ((t.size : Int) - (b : Int)) ≤ (t.size : Int) := by omega
    have q5 : ¬ ((t.size : Int) - (b : Int) = 0) := by omega
    have q8 : (0 : Int) ≤ (t.size : Int) / ((t.size : Int) - (b : Int)) := Int.ediv_nonneg (by omega) (by omega)
    have q9 : (t.size : Int) / ((t.size : Int) - (b : Int)) ≤ (t.size : Int) := Int.ediv_le_self _ (by omega)
    have HC := Lib.hid hcast
    have HD := Lib.hid hdiv
    clear hcast hdiv
    by_cases hd : t.size % (t.size - b) = 0
    · rw [if_pos hd] at hR
      simp only [intV, ← HD.out] at hR
      have R := Lib.hid hR
      have hz : ((t.size : Int) % ((t.size : Int) - (b : Int)) == 0) = true := by rw [HC.out, hd]; rfl
      clear hR hd
      go_enter Try.func12, Try.ntmps12
      go_wp2_with fail
      refine (C.out _).mono ?_
      rintro e w1 ⟨rfl, rfl⟩
      go_wp2_with fail
      refine (B.out _).mono ?_
      rintro e w1 ⟨rfl, hb1⟩
      have B1 := Lib.hid hb1
      clear hb1
      go_wp2_with fail
      refine (R.out _).mono ?_
      rintro e w2 ⟨rfl, hb2⟩
      have B2 := Lib.hid (B1.out.trans (hb2.mono B1.out.size))
      clear hb2
      go_wp2_with fail
      refine (awake_any _).mono ?_
      rintro e w4 ⟨rfl, hb4⟩
      have B4 := Lib.hid (B2.out.trans (hb4.mono B2.out.size))
      clear hb4
      go_wp2
      go_ret
      exact ⟨rfl, B4.out⟩
    · rw [if_neg hd, Nat.div_self (by omega)] at hR
      have R := Lib.hid hR
      have hz : ((t.size : Int) % ((t.size : Int) - (b : Int)) == 0) = false := by rw [HC.out, beq_eq_false_iff_ne]; omega
      clear hR hd
      go_enter Try.func12, Try.ntmps12
      go_wp2_with fail
      refine (C.out _).mono ?_
      rintro e w1 ⟨rfl, rfl⟩
      go_wp2_with fail
      refine (B.out _).mono ?_
      rintro e w1 ⟨rfl, hb1⟩
      have B1 := Lib.hid hb1
      clear hb1
      go_wp2_with fail
      refine (R.out _).mono ?_
      rintro e w2 ⟨rfl, hb2⟩
      have B2 := Lib.hid (B1.out.trans (hb2.mono B1.out.size))
      clear hb2
      go_wp2_with fail
      refine (awake_any _).mono ?_
      rintro e w4 ⟨rfl, hb4⟩
      have B4 := Lib.hid (B2.out.trans (hb4.mono B2.out.size))
      clear hb4
      go_wp2
      go_ret
      exact ⟨rfl, B4.out⟩
end Go.Proofs.Ytndgafhdeddbjaa
