/- The walk of the law WordBorders. -/
import Derived.Test.YtndgafhdeddbjaaRootL
import Derived.Test.YtndgafhdeddbjaaDrawn
namespace Go.Proofs.Ytndgafhdeddbjaa
set_option linter.unusedVariables false
open Go.RowKit

set_option maxRecDepth 100000 in
set_option maxHeartbeats 1000000 in
theorem WordBorders_walk (s : ByteArray) (w : World) (hs : s.size ≤ maxLen) :
    Calls Try.prog 9 #[.string s] w fun e w' => e = .returned (.bool true) ∧ Below w.heap.size w w' := by
  have l1 := cutS_le s 200
  have C := Lib.hid fun w => cut_any s 200 w hs (by omega)
  generalize cutS s 200 = t at *
  have R1 := Lib.hid fun w => border_any t w (by omega)
  have R2 := Lib.hid fun w => refBorder_any t w (by omega)
  by_cases h0 : t.size = 0
  · obtain rfl := empty_of_size t h0
    have hR := R1.out
    have hR' := R2.out
    rw [show borderOf ByteArray.empty.data.toList = 0 from rfl] at hR hR'
    have Q1 := Lib.hid hR
    have Q2 := Lib.hid hR'
    clear hR hR' R1 R2 h0
    have he : ByteArray.empty.toList = [] := by rw [toList_data]; rfl
    go_enter Try.func9, Try.ntmps9
    go_wp2_with fail
    refine (C.out _).mono ?_
    rintro e w1 ⟨rfl, rfl⟩
    go_wp2_with fail
    refine (Q1.out _).mono ?_
    rintro e w1 ⟨rfl, hb1⟩
    have B1 := Lib.hid hb1
    clear hb1
    go_wp2_with fail
    refine (Q2.out _).mono ?_
    rintro e w2 ⟨rfl, hb2⟩
    have B2 := Lib.hid (B1.out.trans (hb2.mono B1.out.size))
    clear hb2
    go_wp2_with fail
    refine wp_region_kept w.heap.size w (by kernel_rfl) (by kernel_rfl) B2.out ?_
    repeat (go_big_quiet_step ((first | (with_reducible exact fun _ => rfl) | (intro hk; exact kept_of hk (Nat.le_refl _) (awake_any _)))))
    refine wpQuiet_nil ?_
    intro w3 hw3
    have B3 := Lib.hid hw3.out
    clear hw3
    go_wp2
    go_ret
    exact ⟨rfl, B3.out⟩
  · have hlt : borderOf t.data.toList < t.size := borderOf_lt t.data.toList (by show 0 < t.size; omega)
    have hc : ((t.extract 0 (borderOf t.data.toList)).toList == (t.extract (t.size - borderOf t.data.toList) t.size).toList) = true := by
      rw [beq_iff_eq, extract_list, extract_list, List.drop_zero, List.take_of_length_le (show t.data.toList.length ≤ t.size from Nat.le_refl _)]
      exact (border_iff t.data.toList _ hlt).2 (borderOf_isLB t.data.toList (by show 0 < t.size; omega)).1
    generalize borderOf t.data.toList = b at *
    have z1 : (b : Int) < (t.size : Int) := by omega
    have z2 : (0 : Int) ≤ (t.size : Int) - (b : Int) := by omega
    have z3 : ((t.size : Int) - (b : Int)).toNat = t.size - b := by omega
    have z4 : (t.size : Int) - (b : Int) ≤ (t.size : Int) := by omega
    have z5 : (b : Int) ≤ (t.size : Int) := by omega
    go_enter Try.func9, Try.ntmps9
    go_wp2_with fail
    refine (C.out _).mono ?_
    rintro e w1 ⟨rfl, rfl⟩
    go_wp2_with fail
    refine (R1.out _).mono ?_
    rintro e w1 ⟨rfl, hb1⟩
    have B1 := Lib.hid hb1
    clear hb1
    go_wp2_with fail
    refine (R2.out _).mono ?_
    rintro e w2 ⟨rfl, hb2⟩
    have B2 := Lib.hid (B1.out.trans (hb2.mono B1.out.size))
    clear hb2
    go_wp2_with fail
    refine wp_region_kept w.heap.size w (by kernel_rfl) (by kernel_rfl) B2.out ?_
    repeat (go_big_quiet_step ((first | (with_reducible exact fun _ => rfl) | (intro hk; exact kept_of hk (Nat.le_refl _) (awake_any _)))))
    refine wpQuiet_nil ?_
    intro w3 hw3
    have B3 := Lib.hid hw3.out
    clear hw3
    go_wp2
    go_ret
    exact ⟨rfl, B3.out⟩
end Go.Proofs.Ytndgafhdeddbjaa
