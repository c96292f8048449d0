/- The walks of word.Compare and its reference, and of the laws on the order. -/
import Derived.Test.YtndgafhdeddbjaaShelf
import Derived.Test.YtndgafhdeddbjaaCmps
import Derived.Test.YtndgafhdeddbjaaBorder
import Derived.Test.YtndgafhdeddbjaaAwake
import Derived.Test.YtndgafhdeddbjaaDrawn
namespace Go.Proofs.Ytndgafhdeddbjaa
set_option linter.unusedVariables false
set_option linter.unusedSimpArgs false
open Go.RowKit

theorem ret_i64 {a b : Int} (h : a = b) : Ending.returned (.int .i64 a) = .returned (.int .i64 b) := by rw [h]

abbrev cmpS (u v : ByteArray) : Int := cmpW u.data.toList v.data.toList

theorem cmpS_lt {u v : ByteArray} (h : u.size < v.size) : cmpS u v = -1 := by
  have : u.data.toList.length < v.data.toList.length := h
  simp only [cmpS, cmpW, if_pos this]
theorem cmpS_gt {u v : ByteArray} (h : v.size < u.size) : cmpS u v = 1 := by
  have h1 : v.data.toList.length < u.data.toList.length := h
  have h2 : ¬ u.data.toList.length < v.data.toList.length := by omega
  simp only [cmpS, cmpW, if_neg h2, if_pos h1]
theorem cmpS_eq {u v : ByteArray} (h : u.size = v.size) : cmpS u v = Lib.compareBytes u.data.toList v.data.toList := by
  have h1 : u.data.toList.length = v.data.toList.length := h
  simp only [cmpS, cmpW, h1, Nat.lt_irrefl, if_false]

set_option maxHeartbeats 400000 in
theorem compare_any (u v : ByteArray) (w : World) (hu : u.size ≤ maxLen) (hv : v.size ≤ maxLen) :
    Calls Try.prog 36 #[.string u, .string v] w fun e w' => e = .returned (.int .i64 (cmpS u v)) ∧ w = w' := by
  unfold maxLen at hu hv
  rcases Nat.lt_trichotomy u.size v.size with h | h | h
  · have H := Lib.hid (cmpS_lt h)
    have hc : Hid (Lib.compareInt (u.size : Int) (v.size : Int) = -1) := by
      show Lib.compareInt (u.size : Int) (v.size : Int) = -1
      unfold Lib.compareInt; rw [if_pos (by omega)]
    have hb : ((u.size : Int) == (v.size : Int)) = false := by simp; omega
    have hb2 : ((u.size : Int) != (v.size : Int)) = true := by simp; omega
    go_enter Try.func36, Try.ntmps36
    go_wp2_with (go_at_call 52; refine (Try.cmp_Compare_int _ _ _).mono ?_; rintro e w' ⟨rfl, rfl⟩)
    go_ret
    exact ⟨ret_i64 (by rw [H.out, hc.out]), rfl⟩
  · have H := Lib.hid (cmpS_eq h)
    have hb : ((u.size : Int) == (v.size : Int)) = true := by simp; omega
    have hb2 : ((u.size : Int) != (v.size : Int)) = false := by simp; omega
    have h' := Lib.hid h
    clear h
    go_enter Try.func36, Try.ntmps36
    go_wp2_with (go_at_call 53; refine (Try.strings_Compare _ _ _).mono ?_; rintro e w' ⟨rfl, rfl⟩)
    go_ret
    exact ⟨ret_i64 (by rw [H.out]), rfl⟩
  · have H := Lib.hid (cmpS_gt h)
    have hc : Hid (Lib.compareInt (u.size : Int) (v.size : Int) = 1) := by
      show Lib.compareInt (u.size : Int) (v.size : Int) = 1
      unfold Lib.compareInt; rw [if_neg (by omega), if_pos (by omega)]
    have hb : ((u.size : Int) == (v.size : Int)) = false := by simp; omega
    have hb2 : ((u.size : Int) != (v.size : Int)) = true := by simp; omega
    go_enter Try.func36, Try.ntmps36
    go_wp2_with (go_at_call 52; refine (Try.cmp_Compare_int _ _ _).mono ?_; rintro e w' ⟨rfl, rfl⟩)
    go_ret
    exact ⟨ret_i64 (by rw [H.out, hc.out]), rfl⟩

theorem less_list (u v : ByteArray) : Op.bytesLess u.toList v.toList = decide (Lib.compareBytes u.data.toList v.data.toList = -1) := by
  rw [toList_data, toList_data, cb_less]
theorem beq_list (u v : ByteArray) : (u.toList == v.toList) = decide (u.data.toList = v.data.toList) := by
  rw [toList_data, toList_data]
  by_cases h : u.data.toList = v.data.toList
  · rw [decide_eq_true h, h]; simp
  · rw [decide_eq_false h]; exact beq_eq_false_iff_ne.2 h

set_option maxHeartbeats 400000 in
theorem refCompare_any (u v : ByteArray) (w : World) (hu : u.size ≤ maxLen) (hv : v.size ≤ maxLen) :
    Calls Try.prog 37 #[.string u, .string v] w fun e w' => e = .returned (.int .i64 (cmpS u v)) ∧ w = w' := by
  unfold maxLen at hu hv
  have hz := cmpW_zero u.data.toList v.data.toList
  have hr := cmpW_range u.data.toList v.data.toList
  have hl := less_list u v
  have he := beq_list u v
  rcases Nat.lt_trichotomy u.size v.size with h | h | h
  · have H := Lib.hid (cmpS_lt h)
    clear hz hr hl he
    go_enter Try.func37, Try.ntmps37
    go_wp2
    go_ret
    exact ⟨ret_i64 (by rw [H.out]), rfl⟩
  · have H := cmpS_eq h
    have hb : ((u.size : Int) == (v.size : Int)) = true := by simp; omega
    have hlt : ¬ (u.size : Int) < (v.size : Int) := by omega
    have h' := Lib.hid h
    clear h
    rw [← H] at hl
    rcases hr with hr | hr | hr
    · rw [show cmpS u v = -1 from hr] at hl
      have HR := Lib.hid hr
      clear hr hz he H
      simp at hl
      go_enter Try.func37, Try.ntmps37
      go_wp2
      go_ret
      exact ⟨ret_i64 (by show -1 = cmpW _ _; rw [HR.out]), rfl⟩
    · rw [show cmpS u v = 0 from hr] at hl
      rw [decide_eq_true (hz.1 hr)] at he
      have HR := Lib.hid hr
      clear hr hz H
      simp at hl
      go_enter Try.func37, Try.ntmps37
      go_wp2
      go_ret
      exact ⟨ret_i64 (by show 0 = cmpW _ _; rw [HR.out]), rfl⟩
    · rw [show cmpS u v = 1 from hr] at hl
      rw [decide_eq_false (fun e => by rw [hz.2 e] at hr; omega)] at he
      have HR := Lib.hid hr
      clear hr hz H
      simp at hl
      go_enter Try.func37, Try.ntmps37
      go_wp2
      go_ret
      exact ⟨ret_i64 (by show 1 = cmpW _ _; rw [HR.out]), rfl⟩
  · have H := Lib.hid (cmpS_gt h)
    have hb : ((u.size : Int) == (v.size : Int)) = false := by simp; omega
    have hlt : ¬ (u.size : Int) < (v.size : Int) := by omega
    have hne : ¬ u.data.toList = v.data.toList := fun e => by
      have : u.data.toList.length = v.data.toList.length := by rw [e]
      have h1 : u.data.toList.length = u.size := rfl
      have h2 : v.data.toList.length = v.size := rfl
      omega
    rw [decide_eq_false hne] at he
    clear hz hr hl hne
    go_enter Try.func37, Try.ntmps37
    go_wp2
    go_ret
    exact ⟨ret_i64 (by rw [H.out]), rfl⟩

set_option maxHeartbeats 400000 in
theorem WordCompares_walk (u v : ByteArray) (w : World) (hu : u.size ≤ maxLen) (hv : v.size ≤ maxLen) :
    Calls Try.prog 13 #[.string u, .string v] w fun e w' => e = .returned (.bool true) ∧ Below w.heap.size w w' := by
  have R1 := Lib.hid fun w => compare_any u v w hu hv
  have R2 := Lib.hid fun w => refCompare_any u v w hu hv
  have h3 := fun w => compare_any v u w hv hu
  simp only [cmpS] at h3
  rw [cmpW_anti u.data.toList v.data.toList] at h3
  have R3 := Lib.hid h3
  have hz := cmpW_zero u.data.toList v.data.toList
  have hr := cmpW_range u.data.toList v.data.toList
  have he := beq_list u v
  clear h3
  rw [show decide (u.data.toList = v.data.toList) = decide (cmpW u.data.toList v.data.toList = 0) from by rw [decide_eq_decide]; exact hz.symm] at he
  simp only [cmpS] at R1 R2
  clear hz
  generalize cmpW u.data.toList v.data.toList = c at *
  rcases hr with rfl | rfl | rfl
  all_goals
    first
      | rw [show decide ((-1 : Int) = 0) = false from rfl] at he
      | rw [show decide ((0 : Int) = 0) = true from rfl] at he
      | rw [show decide ((1 : Int) = 0) = false from rfl] at he
    go_enter Try.func13, Try.ntmps13
    go_wp2_with fail
    refine (R1.out _).mono ?_
    rintro e w1 ⟨rfl, rfl⟩
    go_wp2_with fail
    refine (R2.out _).mono ?_
    rintro e w1 ⟨rfl, rfl⟩
    go_wp2_with fail
    refine (R3.out _).mono ?_
    rintro e w1 ⟨rfl, rfl⟩
    go_wp2_with fail
    refine (awake_any _).mono ?_
    rintro e w4 ⟨rfl, hb4⟩
    have B4 := Lib.hid hb4
    clear hb4
    go_wp2
    go_ret
    exact ⟨rfl, B4.out⟩

set_option maxHeartbeats 400000 in
theorem WordChains_walk (u v x : ByteArray) (w : World) (hu : u.size ≤ maxLen) (hv : v.size ≤ maxLen) (hx : x.size ≤ maxLen) :
    Calls Try.prog 14 #[.string u, .string v, .string x] w fun e w' => e = .returned (.bool true) ∧ Below w.heap.size w w' := by
  have R1 := Lib.hid fun w => compare_any u v w hu hv
  have R2 := Lib.hid fun w => compare_any v x w hv hx
  have R3 := Lib.hid fun w => compare_any u x w hu hx
  have ht := cmpW_trans u.data.toList v.data.toList x.data.toList
  simp only [cmpS] at R1 R2 R3
  generalize cmpW u.data.toList v.data.toList = a at *
  generalize cmpW v.data.toList x.data.toList = b at *
  generalize cmpW u.data.toList x.data.toList = c at *
  by_cases h1 : a ≤ 0
  · by_cases h2 : b ≤ 0
    · have h3 := ht h1 h2
      clear ht
      go_enter Try.func14, Try.ntmps14
      go_wp2_with fail
      refine (R1.out _).mono ?_
      rintro e w1 ⟨rfl, rfl⟩
      go_wp2_with fail
      refine (R2.out _).mono ?_
      rintro e w1 ⟨rfl, rfl⟩
      go_wp2_with fail
      refine (R3.out _).mono ?_
      rintro e w1 ⟨rfl, rfl⟩
      go_wp2_with fail
      refine (awake_any _).mono ?_
      rintro e w4 ⟨rfl, hb4⟩
      have B4 := Lib.hid hb4
      clear hb4
      go_wp2
      go_ret
      exact ⟨rfl, B4.out⟩
    · clear ht
      go_enter Try.func14, Try.ntmps14
      go_wp2_with fail
      refine (R1.out _).mono ?_
      rintro e w1 ⟨rfl, rfl⟩
      go_wp2_with fail
      refine (R2.out _).mono ?_
      rintro e w1 ⟨rfl, rfl⟩
      go_wp2_with fail
      refine (awake_any _).mono ?_
      rintro e w4 ⟨rfl, hb4⟩
      have B4 := Lib.hid hb4
      clear hb4
      go_wp2
      go_ret
      exact ⟨rfl, B4.out⟩
  · clear ht
    go_enter Try.func14, Try.ntmps14
    go_wp2_with fail
    refine (R1.out _).mono ?_
    rintro e w1 ⟨rfl, rfl⟩
    go_wp2_with fail
    refine (awake_any _).mono ?_
    rintro e w4 ⟨rfl, hb4⟩
    have B4 := Lib.hid hb4
    clear hb4
    go_wp2
    go_ret
    exact ⟨rfl, B4.out⟩
end Go.Proofs.Ytndgafhdeddbjaa
