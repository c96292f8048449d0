/- The walk of the law WordConvolves. -/
import Derived.Test.YtndgafhdeddbjaaOccLaws
import Derived.Test.YtndgafhdeddbjaaDrawn
namespace Go.Proofs.Ytndgafhdeddbjaa
set_option linter.unusedVariables false
open Go.RowKit

/-- The sum over the first k ways to cut u in two, modulo M. -/
def conv (u v w : List UInt8) (M k : Nat) : Nat := ((List.range k).map fun i => occ (u.take i) v * occ (u.drop i) w).sum % M

theorem conv_succ (u v w : List UInt8) (M k : Nat) : conv u v w M (k + 1) = (conv u v w M k + (occ (u.take k) v % M) * (occ (u.drop k) w % M)) % M := by
  simp only [conv, List.range_succ, List.map_append, List.map_cons, List.map_nil, List.sum_append, List.sum_cons, List.sum_nil, Nat.add_zero]
  conv => lhs; rw [Nat.add_mod, Nat.mul_mod]
  conv => rhs; rw [Nat.add_mod]
  simp only [Nat.mod_mod]

theorem conv_end (u v w : List UInt8) (M : Nat) : occ u (v ++ w) % M = conv u v w M (u.length + 1) := by rw [occ_append]; rfl

theorem extract_front (s : ByteArray) (k : Nat) : (s.extract 0 k).data.toList = s.data.toList.take k := by
  simp [ByteArray.data_extract]
theorem extract_rest (s : ByteArray) (k : Nat) : (s.extract k s.size).data.toList = s.data.toList.drop k := by
  simp only [ByteArray.data_extract, Array.toList_extract, List.extract_eq_take_drop]
  rw [List.take_of_length_le]
  simp

theorem occM_in (u w : List UInt8) (M : Nat) (h1 : 1 ≤ (M : Int)) (h2 : (M : Int) ≤ 2147483648) : occM u w (M : Int) = occ u w % M := by
  simp [occM, h1, h2]

set_option maxRecDepth 100000 in
set_option maxHeartbeats 1000000 in
theorem WordConvolves_walk (u v s : ByteArray) (m : Int) (w : World) (hu : u.size ≤ maxLen) (hv : v.size ≤ maxLen) (hs : s.size ≤ maxLen) (_ : (Lit.int .i64 m).wf = true) :
    Calls Try.prog 8 #[.string u, .string v, .string s, .int .i64 m] w fun e w' => e = .returned (.bool true) ∧ Below w.heap.size w w' := by
  have l1 := cutS_le u 12
  have l2 := cutS_le v 60
  have l3 := cutS_le s 60
  have C1 := Lib.hid fun w => cut_any u 12 w hu (by omega)
  have C2 := Lib.hid fun w => cut_any v 60 w hv (by omega)
  have C3 := Lib.hid fun w => cut_any s 60 w hs (by omega)
  generalize cutS u 12 = u1 at *
  generalize cutS v 60 = v1 at *
  generalize cutS s 60 = s1 at *
  by_cases hm : 1 ≤ m ∧ m ≤ 2147483648
  case neg =>
    by_cases k1 : m < 1
    all_goals
      try have k2 : 2147483648 < m := by omega
      clear hm
      go_enter Try.func8, Try.ntmps8
      go_wp2_with fail
      refine (C1.out _).mono ?_
      rintro e w1 ⟨rfl, rfl⟩
      go_wp2_with fail
      refine (C2.out _).mono ?_
      rintro e w1 ⟨rfl, rfl⟩
      go_wp2_with fail
      refine (C3.out _).mono ?_
      rintro e w1 ⟨rfl, rfl⟩
      go_wp2_with fail
      refine (awake_any _).mono ?_
      rintro e w4 ⟨rfl, hb4⟩
      have B4 := Lib.hid hb4
      clear hb4
      go_wp2
      go_ret
      exact ⟨rfl, B4.out⟩
  case pos =>
    obtain ⟨m1, m2⟩ := hm
    obtain ⟨M, rfl⟩ := Int.eq_ofNat_of_zero_le (show 0 ≤ m by omega)
    have hEnd := fun w => occ_any u1 (v1 ++ s1) M w (by omega) (by unfold maxLen; simp; omega)
    rw [show (v1 ++ s1).data.toList = v1.data.toList ++ s1.data.toList by simp [ByteArray.data_append], occM_in _ _ M m1 m2, conv_end] at hEnd
    have E := Lib.hid hEnd
    clear hEnd
    have hd1 : ¬ (9223372036854775807 < v1.size + s1.size) := by omega
    have hd2 : (v1.size + s1.size) ≤ 9223372036854775807 := by omega
    go_enter Try.func8, Try.ntmps8
    go_wp2_with fail
    refine (C1.out _).mono ?_
    rintro e w1 ⟨rfl, rfl⟩
    go_wp2_with fail
    refine (C2.out _).mono ?_
    rintro e w1 ⟨rfl, rfl⟩
    go_wp2_with fail
    refine (C3.out _).mono ?_
    rintro e w1 ⟨rfl, rfl⟩
    go_wp2_with fail
    go_loopw [9, 10, 11, 12] (fun sv iv _ _ wr => ∃ k : Nat, k ≤ u1.size + 1 ∧ iv = .int .i64 k ∧ sv = intV (conv u1.data.toList v1.data.toList s1.data.toList M k) ∧ Below w.heap.size w wr) (fun _ i _ _ _ => u1.size + 1 - (intOf i).toNat)
    case atStart => exact ⟨0, by omega, rfl, rfl, Below.refl _ _⟩
    case round =>
      obtain ⟨k, hk, rfl, rfl, hb⟩ := hrel
      have HB := Lib.hid hb
      clear hb
      by_cases hlt : k ≤ u1.size
      · have hc0 : conv u1.data.toList v1.data.toList s1.data.toList M k < M := Nat.mod_lt _ (by omega)
        have hcs := Lib.hid (conv_succ u1.data.toList v1.data.toList s1.data.toList M k)
        have hO1 := fun w => occ_any (u1.extract 0 k) v1 M w (by simp; omega) (by unfold maxLen; omega)
        have hO2 := fun w => occ_any (u1.extract k u1.size) s1 M w (by simp; omega) (by unfold maxLen; omega)
        rw [extract_front, occM_in _ _ M m1 m2] at hO1
        rw [extract_rest, occM_in _ _ M m1 m2] at hO2
        have ha : occ (u1.data.toList.take k) v1.data.toList % M < M := Nat.mod_lt _ (by omega)
        have hb : occ (u1.data.toList.drop k) s1.data.toList % M < M := Nat.mod_lt _ (by omega)
        generalize occ (u1.data.toList.take k) v1.data.toList % M = x at *
        generalize occ (u1.data.toList.drop k) s1.data.toList % M = y at *
        generalize conv u1.data.toList v1.data.toList s1.data.toList M k = c at *
        have O1 := Lib.hid hO1
        have O2 := Lib.hid hO2
        clear hO1 hO2
        have hxy : (x : Int) * (y : Int) ≤ 4611686018427387904 := by
          have : x * y ≤ 2147483648 * 2147483648 := Nat.mul_le_mul (by omega) (by omega)
          rw [← Int.natCast_mul]; omega
        have hxy0 : 0 ≤ (x : Int) * (y : Int) := Int.mul_nonneg (by omega) (by omega)
        have z1 : (0 : Int) ≤ (k : Int) := by omega
        have z2 : (k : Int) ≤ (u1.size : Int) := by omega
        go_wp2_with fail
        refine wp_region_kept w.heap.size w (by kernel_rfl) (by kernel_rfl) HB.out ?_
        repeat (go_big_quiet_step ((first | (with_reducible exact fun _ => rfl) | (intro hk; with_reducible exact kept_of hk (Nat.le_refl _) (O1.out _)) | (intro hk; with_reducible exact kept_of hk (Nat.le_refl _) (O2.out _)))))
        refine wpQuiet_nil ?_
        intro w3 hw3
        have B3 := Lib.hid hw3.out
        clear hw3
        have nz : ¬ ((M : Int) = 0) := by omega
        have nz2 : ((M : Int) == 0) = false := by simp; omega
        go_wp2
        go_roundw
        case rel => exact ⟨k + 1, by omega, by go_num, by rw [hcs.out]; simp [intV], B3.out⟩
        case measure => simp [intOf]; omega
      · obtain rfl : k = u1.size + 1 := by omega
        go_wp2_with fail
        refine (E.out _).mono ?_
        rintro e w1 ⟨rfl, hb1⟩
        have B1 := Lib.hid (HB.out.trans (hb1.mono HB.out.size))
        clear hb1
        go_wp2_with fail
        refine (awake_any _).mono ?_
        rintro e w4 ⟨rfl, hb4⟩
        have B4 := Lib.hid (B1.out.trans (hb4.mono B1.out.size))
        clear hb4
        go_wp2
        go_ret
        exact ⟨rfl, B4.out⟩
end Go.Proofs.Ytndgafhdeddbjaa
