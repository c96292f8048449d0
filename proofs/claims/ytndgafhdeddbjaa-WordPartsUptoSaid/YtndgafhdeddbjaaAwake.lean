/- The laws' sanity check. -/
import Derived.Test.YtndgafhdeddbjaaUnrank
namespace Go.Proofs.Ytndgafhdeddbjaa
set_option linter.unusedVariables false
open Go.RowKit

theorem unrank_five : unrankL 5 2 = [98, 97] := by decide +kernel
theorem may_five : mayUnrank 5 2 = true := by decide +kernel
theorem valid_ab : validB [97, 98] 2 = true := by decide +kernel
theorem valid_c : validB [99] 2 = false := by decide +kernel

set_option maxHeartbeats 400000 in
theorem awake_any (w : World) : Calls Try.prog 24 #[] w fun e w' => e = .returned (.bool true) ∧ Below w.heap.size w w' := by
  have u5 := unrank_any 5 2
  rw [unrank_five, may_five] at u5
  have va := fun w => valid_any ⟨#[97, 98]⟩ 2 w (by simp [maxLen, ByteArray.size])
  rw [valid_ab] at va
  have vc := fun w => valid_any ⟨#[99]⟩ 2 w (by simp [maxLen, ByteArray.size])
  rw [valid_c] at vc
  have U := Lib.hid u5
  have VA := Lib.hid va
  have VC := Lib.hid vc
  clear u5 va vc
  go_enter Try.func24, Try.ntmps24
  go_wp2_with fail
  refine (U.out _ (by omega)).mono ?_
  rintro e w1 ⟨rfl, hb⟩
  have Hb := Lib.hid hb
  clear hb
  go_wp2_with fail
  refine (VA.out _).mono ?_
  rintro e w1 ⟨rfl, rfl⟩
  go_wp2_with fail
  refine (VC.out _).mono ?_
  rintro e w1 ⟨rfl, rfl⟩
  go_wp2
  go_ret
  exact ⟨rfl, Hb.out⟩

set_option maxHeartbeats 400000 in
theorem WordValid_walk (s : ByteArray) (n : Int) (w : World) (hs : s.size ≤ maxLen) (_ : (Lit.int .i64 n).wf = true) :
    Calls Try.prog 3 #[.string s, .int .i64 n] w fun e w' => e = .returned (.bool true) ∧ Below w.heap.size w w' := by
  generalize hv : validB s.data.toList n = b
  have V := Lib.hid hv
  clear hv
  go_enter Try.func3, Try.ntmps3
  go_wp2_with fail
  refine (valid_any _ _ _ hs).mono ?_
  rintro e w1 ⟨rfl, rfl⟩
  rw [V.out]
  go_wp2_with fail
  refine (refValid_any _ _ _ hs).mono ?_
  rintro e w1 ⟨rfl, rfl⟩
  rw [V.out]
  go_wp2_with fail
  refine (awake_any _).mono ?_
  rintro e w1 ⟨rfl, hb⟩
  have Hb := Lib.hid hb
  clear hb
  go_wp2
  go_ret
  exact ⟨rfl, Hb.out⟩
end Go.Proofs.Ytndgafhdeddbjaa
