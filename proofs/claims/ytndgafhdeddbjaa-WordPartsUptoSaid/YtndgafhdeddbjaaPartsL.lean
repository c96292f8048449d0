/- The walk of the law WordParts. -/
import Derived.Test.YtndgafhdeddbjaaPartL
namespace Go.Proofs.Ytndgafhdeddbjaa
set_option linter.unusedVariables false
set_option linter.unusedSimpArgs false
open Go.RowKit

abbrev revS (s : ByteArray) : ByteArray := ⟨s.data.toList.reverse.toArray⟩
theorem revS_toList (s : ByteArray) : (revS s).data.toList = s.data.toList.reverse := rfl
theorem revS_size (s : ByteArray) : (revS s).size = s.size := by
  show s.data.toList.reverse.toArray.size = s.data.toList.length
  simp
theorem revS_revS (s : ByteArray) : revS (revS s) = s := by
  apply ByteArray.ext
  simp

theorem reverseS (s : ByteArray) (w : World) (hs : s.size ≤ maxLen) :
    Calls Try.prog 38 #[.string s] w fun e w' => e = .returned (.string (revS s)) ∧ Below w.heap.size w w' := reverse_any s w hs
theorem refReverseS (s : ByteArray) (w : World) (hs : s.size ≤ 1000000000) :
    Calls Try.prog 41 #[.string s] w fun e w' => e = .returned (.string (revS s)) ∧ Below w.heap.size w w' := refReverse_any s w hs

set_option maxRecDepth 100000 in
set_option maxHeartbeats 1000000 in
theorem WordParts_walk (u s : ByteArray) (m : Int) (w : World) (hu : u.size ≤ 1048576) (hs : s.size ≤ 1048576) (hm : w.cell? ⟨0, 0, none⟩ = some (.int .i64 m)) :
    Calls Try.prog 16 #[.string u, .string s] w fun e w' => e = .returned (.bool true) ∧ Below w.heap.size w w' := by
  have HM := Lib.hid hm
  have H0 : ∀ (w' : World), Below w.heap.size w w' → w'.cell? ⟨0, 0, none⟩ = some (.int .i64 m) := fun w' hb => by
    rw [hb.cell (p := ⟨0, 0, none⟩) (World.block_lt_of_cell? w _ HM.out)]; exact HM.out
  have R1 := Lib.hid fun w => reverseS s w (by unfold maxLen; omega)
  have R2 := Lib.hid fun w => refReverseS s w (by omega)
  have R3 := Lib.hid fun w => reverseS u w (by unfold maxLen; omega)
  have hR4 := fun w => reverseS (revS s) w (by rw [revS_size]; unfold maxLen; omega)
  rw [revS_revS] at hR4
  have R4 := Lib.hid hR4
  have F1 := Lib.hid fun w hm => isFactor_any u s m w (by omega) hm
  have F2 := Lib.hid fun w => refFactor_any u s w (by omega) (by omega)
  have hF3 := fun w hm => isFactor_any (revS u) (revS s) m w (by rw [revS_size]; omega) hm
  rw [revS_toList, revS_toList, facB_reverse] at hF3
  have F3 := Lib.hid hF3
  have S1 := Lib.hid fun w => isSubword_any u s w (by unfold maxLen; omega) (by unfold maxLen; omega)
  have S2 := Lib.hid fun w => refSubword_any u s w (by unfold maxLen; omega) (by unfold maxLen; omega)
  have hS3 := fun w => isSubword_any (revS u) (revS s) w (by rw [revS_size]; unfold maxLen; omega) (by rw [revS_size]; unfold maxLen; omega)
  rw [revS_toList, revS_toList, subB_reverse] at hS3
  have S3 := Lib.hid hS3
  have hfs := fac_sub u.data.toList s.data.toList
  have H0' := Lib.hid H0
  clear hm H0 hR4 hF3 hS3 hu hs
  generalize facB u.data.toList s.data.toList = f at *
  generalize subB u.data.toList s.data.toList = b at *
  generalize revS u = ru at *
  generalize hrs : revS s = rs at *
  clear hrs
  rcases f with _ | _ <;> rcases b with _ | _
  case true.false => exact absurd (hfs rfl) (by decide)
  all_goals
    clear hfs
    go_enter Try.func16, Try.ntmps16
    go_wp2_with fail
    refine (R1.out _).mono ?_
    rintro e w1 ⟨rfl, hb1⟩
    have B1 := Lib.hid hb1
    clear hb1
    go_wp2_with fail
    refine (F1.out _ (H0'.out _ B1.out)).mono ?_
    rintro e w2 ⟨rfl, rfl⟩
    go_wp2_with fail
    refine (S1.out _).mono ?_
    rintro e w2 ⟨rfl, hb2⟩
    have B2 := Lib.hid (B1.out.trans (hb2.mono B1.out.size))
    clear hb2
    go_wp2_with fail
    refine (R2.out _).mono ?_
    rintro e w3 ⟨rfl, hb3⟩
    have B3 := Lib.hid (B2.out.trans (hb3.mono B2.out.size))
    clear hb3
    go_wp2_with fail
    refine (F2.out _).mono ?_
    rintro e w4 ⟨rfl, rfl⟩
    go_wp2_with fail
    refine (S2.out _).mono ?_
    rintro e w4 ⟨rfl, hb4⟩
    have B4 := Lib.hid (B3.out.trans (hb4.mono B3.out.size))
    clear hb4
    go_wp2_with fail
    refine (R3.out _).mono ?_
    rintro e w5 ⟨rfl, hb5⟩
    have B5 := Lib.hid (B4.out.trans (hb5.mono B4.out.size))
    clear hb5
    go_wp2_with fail
    refine (F3.out _ (H0'.out _ B5.out)).mono ?_
    rintro e w6 ⟨rfl, rfl⟩
    go_wp2_with fail
    refine (S3.out _).mono ?_
    rintro e w6 ⟨rfl, hb6⟩
    have B6 := Lib.hid (B5.out.trans (hb6.mono B5.out.size))
    clear hb6
    go_wp2_with fail
    refine (R4.out _).mono ?_
    rintro e w7 ⟨rfl, hb7⟩
    have B7 := Lib.hid (B6.out.trans (hb7.mono B6.out.size))
    clear hb7
    go_wp2_with fail
    refine (awake_any _).mono ?_
    rintro e w8 ⟨rfl, hb8⟩
    have B8 := Lib.hid (B7.out.trans (hb8.mono B7.out.size))
    clear hb8
    go_wp2
    go_ret
    exact ⟨rfl, B8.out⟩
end Go.Proofs.Ytndgafhdeddbjaa
