/- The walks of the laws WordOccurrences and WordPascal. -/
import Derived.Test.YtndgafhdeddbjaaOccurW
import Derived.Test.YtndgafhdeddbjaaCut
import Derived.Test.YtndgafhdeddbjaaRanks
namespace Go.Proofs.Ytndgafhdeddbjaa
set_option linter.unusedVariables false
open Go.RowKit

set_option maxRecDepth 100000 in
set_option maxHeartbeats 400000 in
theorem WordOccurrences_walk (u s : ByteArray) (m : Int) (w : World) (hu : u.size ≤ maxLen) (hs : s.size ≤ maxLen) (_ : (Lit.int .i64 m).wf = true) :
    Calls Try.prog 6 #[.string u, .string s, .int .i64 m] w fun e w' => e = .returned (.bool true) ∧ Below w.heap.size w w' := by
  have l1 := cutS_le u 50
  have l2 := cutS_le s 200
  have HC1 := fun w => cut_any u 50 w hu (by omega)
  have HC2 := fun w => cut_any s 200 w hs (by omega)
  have HO1 := fun w => occ_any (cutS u 50) (cutS s 200) m w (by omega) (by unfold maxLen; omega)
  have HO2 := fun w => refOcc_any (cutS u 50) (cutS s 200) m w (by omega) (by unfold maxLen; omega)
  have C1 := Lib.hid HC1
  have C2 := Lib.hid HC2
  have O1 := Lib.hid HO1
  have O2 := Lib.hid HO2
  clear HC1 HC2 HO1 HO2
  generalize occM (cutS u 50).data.toList (cutS s 200).data.toList m = x at *
  generalize cutS u 50 = u1 at *
  generalize cutS s 200 = s1 at *
  go_enter Try.func6, Try.ntmps6
  go_wp2_with fail
  refine (C1.out _).mono ?_
  rintro e w1 ⟨rfl, rfl⟩
  go_wp2_with fail
  refine (C2.out _).mono ?_
  rintro e w1 ⟨rfl, rfl⟩
  go_wp2_with fail
  refine (O1.out _).mono ?_
  rintro e w1 ⟨rfl, hb1⟩
  have B1 := Lib.hid hb1
  clear hb1
  go_wp2_with fail
  refine (O2.out _).mono ?_
  rintro e w2 ⟨rfl, hb2⟩
  have B2 := Lib.hid (B1.out.trans (hb2.mono B1.out.size))
  clear hb2
  go_wp2_with fail
  refine (awake_any _).mono ?_
  rintro e w3 ⟨rfl, hb3⟩
  have B3 := Lib.hid (B2.out.trans (hb3.mono B2.out.size))
  clear hb3
  go_wp2
  go_ret
  exact ⟨rfl, B3.out⟩
end Go.Proofs.Ytndgafhdeddbjaa
