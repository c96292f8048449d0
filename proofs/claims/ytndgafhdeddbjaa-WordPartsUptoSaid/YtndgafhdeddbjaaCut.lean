/- The laws' own 'cut'. -/
import Derived.Test.YtndgafhdeddbjaaOwn
import Derived.Test.YtndgafhdeddbjaaRows
namespace Go.Proofs.Ytndgafhdeddbjaa
set_option linter.unusedVariables false
open Go.RowKit

/-- The first n bytes of a string. -/
def cutS (s : ByteArray) (n : Nat) : ByteArray := ⟨(s.data.toList.take n).toArray⟩

theorem cutS_toList (s : ByteArray) (n : Nat) : (cutS s n).data.toList = s.data.toList.take n := by simp [cutS]
theorem cutS_size (s : ByteArray) (n : Nat) : (cutS s n).size = min n s.size := by
  show (cutS s n).data.toList.length = _
  rw [cutS_toList, List.length_take]; rfl
theorem cutS_le (s : ByteArray) (n : Nat) : (cutS s n).size ≤ n := by rw [cutS_size]; omega

theorem extract_cutS (s : ByteArray) (n : Nat) : s.extract 0 n = cutS s n := by
  apply ByteArray.ext
  apply Array.ext'
  simp [cutS, ByteArray.data_extract]

theorem cutS_long (s : ByteArray) (n : Nat) (h : s.size ≤ n) : cutS s n = s := by
  apply ByteArray.ext
  simp only [cutS]
  rw [List.take_of_length_le (by show s.size ≤ n; exact h)]

set_option maxHeartbeats 400000 in
theorem cut_any (s : ByteArray) (n : Nat) (w : World) (hs : s.size ≤ maxLen) (hn : n ≤ 1000) :
    Calls Try.prog 29 #[.string s, .int .i64 (n : Int)] w fun e w' => e = .returned (.string (cutS s n)) ∧ w = w' := by
  unfold maxLen at hs
  by_cases h : (n : Int) < (s.size : Int)
  · have H := extract_cutS s n
    have HH := Lib.hid H
    clear H
    go_enter Try.func29, Try.ntmps29
    go_wp2
    go_ret
    exact ⟨by rw [← HH.out]; rfl, rfl⟩
  · have HH := Lib.hid (cutS_long s n (by omega))
    go_enter Try.func29, Try.ntmps29
    go_wp2
    go_ret
    exact ⟨by rw [HH.out]; rfl, rfl⟩
end Go.Proofs.Ytndgafhdeddbjaa
