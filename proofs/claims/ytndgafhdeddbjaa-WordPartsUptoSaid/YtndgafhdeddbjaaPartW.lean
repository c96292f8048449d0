/- The walks of factors, subwords, reversals and rotations, program and reference. -/
import Derived.Test.YtndgafhdeddbjaaShelf
import Derived.Test.YtndgafhdeddbjaaParts
import Derived.Test.YtndgafhdeddbjaaConvL
import Derived.Test.YtndgafhdeddbjaaRootL
namespace Go.Proofs.Ytndgafhdeddbjaa
set_option linter.unusedVariables false
set_option linter.unusedSimpArgs false
open Go.RowKit

set_option maxHeartbeats 400000 in
theorem isFactor_any (u s : ByteArray) (m : Int) (w : World) (hs : s.size < 4294967281) (hm : w.cell? ⟨0, 0, none⟩ = some (.int .i64 m)) :
    Calls Try.prog 39 #[.string u, .string s] w fun e w' => e = .returned (.bool (facB u.data.toList s.data.toList)) ∧ w = w' := by
  have C := Lib.hid (Try.strings_Contains s u m w hs hm)
  clear hm
  go_enter Try.func39, Try.ntmps39
  go_wp2_with fail
  refine C.out.mono ?_
  rintro e w1 ⟨rfl, rfl⟩
  go_wp2
  go_ret
  exact ⟨rfl, rfl⟩

set_option maxHeartbeats 400000 in
theorem isSubword_any (u s : ByteArray) (w : World) (hu : u.size ≤ maxLen) (hs : s.size ≤ maxLen) :
    Calls Try.prog 40 #[.string u, .string s] w fun e w' => e = .returned (.bool (subB u.data.toList s.data.toList)) ∧ Below w.heap.size w w' := by
  unfold maxLen at hu hs
  go_enter Try.func40, Try.ntmps40
  go_wp2
  go_loopw [5, 6] (fun vf vi wr => ∃ k j : Nat, k ≤ u.size ∧ j ≤ s.size ∧ vf = .int .i64 k ∧ vi = .int .i64 j ∧ subB (u.data.toList.drop k) (s.data.toList.drop j) = subB u.data.toList s.data.toList ∧ Below w.heap.size w wr) (fun _ vi _ => s.size - (intOf vi).toNat)
  case atStart => exact ⟨0, 0, by omega, by omega, rfl, rfl, rfl, Below.refl _ _⟩
  case round =>
    obtain ⟨k, j, hk, hj, rfl, rfl, hsub, hb⟩ := hrel
    have HS := Lib.hid hsub
    have HB := Lib.hid hb
    clear hsub hb
    have hul : u.data.toList.length = u.size := rfl
    have hsl : s.data.toList.length = s.size := rfl
    have HL := Lib.hid (And.intro hul hsl)
    clear hul hsl
    by_cases hjl : j < s.size
    · by_cases hkl : k < u.size
      · have hq := byte_beq s[j] u[k]
        have z1 : (j : Int) < (s.size : Int) := by omega
        have z2 : (k : Int) < (u.size : Int) := by omega
        have e1 : s.data.toList[j]'(by rw [HL.out.2]; exact hjl) = s[j] := rfl
        have e2 : u.data.toList[k]'(by rw [HL.out.1]; exact hkl) = u[k] := rfl
        have E := Lib.hid (And.intro e1 e2)
        clear e1 e2
        by_cases he : s[j] = u[k]
        · rw [decide_eq_true he] at hq
          have H := Lib.hid (subB_hit (by rw [HL.out.1]; exact hkl) (by rw [HL.out.2]; exact hjl) (by rw [E.out.1, E.out.2]; exact he))
          clear he
          go_wp2
          refine wp_region_kept w.heap.size w (by kernel_rfl) (by kernel_rfl) HB.out ?_
          repeat (go_big_quiet_step ((with_reducible exact fun _ => rfl)))
          refine wpQuiet_nil ?_
          intro w3 hw3
          have B3 := Lib.hid hw3.out
          clear hw3
          go_wp2
          go_roundw
          case rel => exact ⟨k + 1, j + 1, by omega, by omega, by go_num, by go_num, by rw [← H.out, HS.out], B3.out⟩
          case measure => simp [intOf]; omega
        · rw [decide_eq_false he] at hq
          have H := Lib.hid (subB_miss (by rw [HL.out.1]; exact hkl) (by rw [HL.out.2]; exact hjl) (by rw [E.out.1, E.out.2]; exact he))
          clear he
          go_wp2
          refine wp_region_kept w.heap.size w (by kernel_rfl) (by kernel_rfl) HB.out ?_
          repeat (go_big_quiet_step ((with_reducible exact fun _ => rfl)))
          refine wpQuiet_nil ?_
          intro w3 hw3
          have B3 := Lib.hid hw3.out
          clear hw3
          go_wp2
          go_roundw
          case rel => exact ⟨k, j + 1, by omega, by omega, rfl, by go_num, by rw [← H.out, HS.out], B3.out⟩
          case measure => simp [intOf]; omega
      · have R := Lib.hid (HS.out.symm.trans (subB_full u.data.toList s.data.toList k j (by rw [HL.out.1]; omega)))
        have hb1 : ((k : Int) == (u.size : Int)) = true := by simp; omega
        go_wp2
        go_ret
        exact ⟨ret_bool (by rw [R.out]), HB.out⟩
    · by_cases hkl : k < u.size
      · have R := Lib.hid (HS.out.symm.trans (subB_end u.data.toList s.data.toList k j (by rw [HL.out.1]; omega) (by rw [HL.out.2]; omega)))
        have hb1 : ((k : Int) == (u.size : Int)) = false := by simp; omega
        go_wp2
        go_ret
        exact ⟨ret_bool (by rw [R.out]), HB.out⟩
      · have R := Lib.hid (HS.out.symm.trans (subB_full u.data.toList s.data.toList k j (by rw [HL.out.1]; omega)))
        have hb1 : ((k : Int) == (u.size : Int)) = true := by simp; omega
        go_wp2
        go_ret
        exact ⟨ret_bool (by rw [R.out]), HB.out⟩

set_option maxHeartbeats 400000 in
theorem refSubword_any (u s : ByteArray) (w : World) (hu : u.size ≤ maxLen) (hs : s.size ≤ maxLen) :
    Calls Try.prog 43 #[.string u, .string s] w fun e w' => e = .returned (.bool (subB u.data.toList s.data.toList)) ∧ Below w.heap.size w w' := by
  unfold maxLen at hu hs
  go_enter Try.func43, Try.ntmps43
  go_wp2
  go_loopw [5, 6] (fun vf vi wr => ∃ k j : Nat, k ≤ u.size ∧ j ≤ s.size ∧ vf = .int .i64 k ∧ vi = .int .i64 j ∧ subB (u.data.toList.drop k) (s.data.toList.drop j) = subB u.data.toList s.data.toList ∧ Below w.heap.size w wr) (fun _ vi _ => s.size - (intOf vi).toNat)
  case atStart => exact ⟨0, 0, by omega, by omega, rfl, rfl, rfl, Below.refl _ _⟩
  case round =>
    obtain ⟨k, j, hk, hj, rfl, rfl, hsub, hb⟩ := hrel
    have HS := Lib.hid hsub
    have HB := Lib.hid hb
    clear hsub hb
    have hul : u.data.toList.length = u.size := rfl
    have hsl : s.data.toList.length = s.size := rfl
    have HL := Lib.hid (And.intro hul hsl)
    clear hul hsl
    by_cases hjl : j < s.size
    · by_cases hkl : k < u.size
      · have hq := byte_beq s[j] u[k]
        have z1 : (j : Int) < (s.size : Int) := by omega
        have z2 : (k : Int) < (u.size : Int) := by omega
        have e1 : s.data.toList[j]'(by rw [HL.out.2]; exact hjl) = s[j] := rfl
        have e2 : u.data.toList[k]'(by rw [HL.out.1]; exact hkl) = u[k] := rfl
        have E := Lib.hid (And.intro e1 e2)
        clear e1 e2
        by_cases he : s[j] = u[k]
        · rw [decide_eq_true he] at hq
          have H := Lib.hid (subB_hit (by rw [HL.out.1]; exact hkl) (by rw [HL.out.2]; exact hjl) (by rw [E.out.1, E.out.2]; exact he))
          clear he
          go_wp2
          refine wp_region_kept w.heap.size w (by kernel_rfl) (by kernel_rfl) HB.out ?_
          repeat (go_big_quiet_step ((with_reducible exact fun _ => rfl)))
          refine wpQuiet_nil ?_
          intro w3 hw3
          have B3 := Lib.hid hw3.out
          clear hw3
          go_wp2
          go_roundw
          case rel => exact ⟨k + 1, j + 1, by omega, by omega, by go_num, by go_num, by rw [← H.out, HS.out], B3.out⟩
          case measure => simp [intOf]; omega
        · rw [decide_eq_false he] at hq
          have H := Lib.hid (subB_miss (by rw [HL.out.1]; exact hkl) (by rw [HL.out.2]; exact hjl) (by rw [E.out.1, E.out.2]; exact he))
          clear he
          go_wp2
          refine wp_region_kept w.heap.size w (by kernel_rfl) (by kernel_rfl) HB.out ?_
          repeat (go_big_quiet_step ((with_reducible exact fun _ => rfl)))
          refine wpQuiet_nil ?_
          intro w3 hw3
          have B3 := Lib.hid hw3.out
          clear hw3
          go_wp2
          go_roundw
          case rel => exact ⟨k, j + 1, by omega, by omega, rfl, by go_num, by rw [← H.out, HS.out], B3.out⟩
          case measure => simp [intOf]; omega
      · have R := Lib.hid (HS.out.symm.trans (subB_full u.data.toList s.data.toList k j (by rw [HL.out.1]; omega)))
        have hb1 : ((k : Int) == (u.size : Int)) = true := by simp; omega
        go_wp2
        go_ret
        exact ⟨ret_bool (by rw [R.out]), HB.out⟩
    · by_cases hkl : k < u.size
      · have R := Lib.hid (HS.out.symm.trans (subB_end u.data.toList s.data.toList k j (by rw [HL.out.1]; omega) (by rw [HL.out.2]; omega)))
        have hb1 : ((k : Int) == (u.size : Int)) = false := by simp; omega
        go_wp2
        go_ret
        exact ⟨ret_bool (by rw [R.out]), HB.out⟩
      · have R := Lib.hid (HS.out.symm.trans (subB_full u.data.toList s.data.toList k j (by rw [HL.out.1]; omega)))
        have hb1 : ((k : Int) == (u.size : Int)) = true := by simp; omega
        go_wp2
        go_ret
        exact ⟨ret_bool (by rw [R.out]), HB.out⟩

theorem strBeqS (s t : ByteArray) : (s.toList == t.toList) = decide (s.data.toList = t.data.toList) := strBeq s t

theorem extract_mid (s : ByteArray) (a b : Nat) : (s.extract a b).data.toList = (s.data.toList.take b).drop a := by
  simp only [ByteArray.data_extract, Array.toList_extract, List.extract_eq_take_drop]
  rw [List.drop_take]

set_option maxHeartbeats 400000 in
theorem refFactor_any (u s : ByteArray) (w : World) (hu : u.size < 4611686018427387904) (hs : s.size < 4611686018427387904) :
    Calls Try.prog 42 #[.string u, .string s] w fun e w' => e = .returned (.bool (facB u.data.toList s.data.toList)) ∧ w = w' := by
  go_enter Try.func42, Try.ntmps42
  go_wp2
  go_loop [5] (fun vi => ∃ j : Nat, j ≤ s.size + 1 ∧ vi = .int .i64 j ∧ ∀ i, i < j → i + u.size ≤ s.size → (s.data.toList.take (i + u.size)).drop i ≠ u.data.toList) (fun vi => s.size + 1 - (intOf vi).toNat)
  case atStart => exact ⟨0, by omega, rfl, fun i h => by omega⟩
  case round =>
    obtain ⟨j, hj, rfl, hall⟩ := hrel
    have HA := Lib.hid hall
    clear hall
    have hul : u.data.toList.length = u.size := rfl
    have hsl : s.data.toList.length = s.size := rfl
    have HL := Lib.hid (And.intro hul hsl)
    clear hul hsl
    by_cases hlt : j + u.size ≤ s.size
    · have hq := strBeqS (s.extract j (j + u.size)) u
      rw [extract_mid] at hq
      have z1 : (0 : Int) ≤ (j : Int) := by omega
      have z2 : (j : Int) ≤ (j : Int) + (u.size : Int) := by omega
      have z3 : (j : Int) + (u.size : Int) ≤ (s.size : Int) := by omega
      have z4 : ((j : Int) + (u.size : Int)).toNat = j + u.size := by omega
      by_cases he : (s.data.toList.take (j + u.size)).drop j = u.data.toList
      · rw [decide_eq_true he] at hq
        have R := Lib.hid ((facB_iff _ _).2 (fac_at u.data.toList s.data.toList j (by rw [HL.out.1]; exact he)))
        clear he
        go_wp2
        go_ret
        exact ⟨ret_bool (by rw [R.out]), rfl⟩
      · rw [decide_eq_false he] at hq
        have He := Lib.hid he
        clear he
        go_wp2
        go_round
        case rel => exact ⟨j + 1, by omega, by go_num, fun i hi h => by
          by_cases e : i = j
          · subst e; exact He.out
          · exact HA.out i (by omega) h⟩
        case measure => simp [intOf]; omega
    · have R : Hid (facB u.data.toList s.data.toList = false) := by
        show facB u.data.toList s.data.toList = false
        rw [← Bool.not_eq_true, facB_iff]
        refine fac_none _ _ fun i hi => ?_
        rw [HL.out.1] at hi ⊢
        rw [HL.out.2] at hi
        exact HA.out i (by omega) hi
      go_wp2
      go_ret
      exact ⟨ret_bool (by rw [R.out]), rfl⟩

set_option maxHeartbeats 400000 in
theorem conj_any (u v : ByteArray) (m : Int) (w : World) (hu : u.size ≤ 1000000) (hv : v.size ≤ 1000000) (hm : w.cell? ⟨0, 0, none⟩ = some (.int .i64 m)) :
    Calls Try.prog 44 #[.string u, .string v] w fun e w' => e = .returned (.bool (conjB u.data.toList v.data.toList)) ∧ w = w' := by
  have hC := Try.strings_Contains (u ++ u) v m w (by simp; omega) hm
  rw [show (u ++ u).data.toList = u.data.toList ++ u.data.toList by simp [ByteArray.data_append]] at hC
  have hul : u.data.toList.length = u.size := rfl
  have hvl : v.data.toList.length = v.size := rfl
  by_cases h : u.size = v.size
  · have R : Hid (conjB u.data.toList v.data.toList = Lib.contains (u.data.toList ++ u.data.toList) v.data.toList) := by
      show conjB _ _ = _
      simp only [conjB, hul, hvl, h]; rfl
    have C := Lib.hid hC
    have hb : ((u.size : Int) == (v.size : Int)) = true := by simp; omega
    clear hC hm hul hvl h
    go_enter Try.func44, Try.ntmps44
    go_wp2_with fail
    refine C.out.mono ?_
    rintro e w1 ⟨rfl, rfl⟩
    go_wp2
    go_ret
    exact ⟨ret_bool (by rw [R.out]), rfl⟩
  · have R : Hid (conjB u.data.toList v.data.toList = false) := by
      show conjB _ _ = _
      simp only [conjB, hul, hvl, h]; rfl
    have hb : ((u.size : Int) == (v.size : Int)) = false := by simp; omega
    clear hC hm hul hvl h
    go_enter Try.func44, Try.ntmps44
    go_wp2
    go_ret
    exact ⟨ret_bool (by rw [R.out]), rfl⟩

set_option maxHeartbeats 400000 in
theorem refConj_any (u v : ByteArray) (w : World) (hu : u.size ≤ 1000000) (hv : v.size ≤ 1000000) :
    Calls Try.prog 45 #[.string u, .string v] w fun e w' => e = .returned (.bool (conjB u.data.toList v.data.toList)) ∧ Below w.heap.size w w' := by
  go_enter Try.func45, Try.ntmps45
  go_wp2
  go_loopw [5] (fun vi wr => ∃ j : Nat, j ≤ u.size + 1 ∧ vi = .int .i64 j ∧ (∀ i, i < j → u.data.toList.drop i ++ u.data.toList.take i ≠ v.data.toList) ∧ Below w.heap.size w wr) (fun vi _ => u.size + 1 - (intOf vi).toNat)
  case atStart => exact ⟨0, by omega, rfl, fun i h => by omega, Below.refl _ _⟩
  case round =>
    obtain ⟨j, hj, rfl, hall, hb⟩ := hrel
    have HA := Lib.hid hall
    have HB := Lib.hid hb
    clear hall hb
    have hul : u.data.toList.length = u.size := rfl
    have HL := Lib.hid hul
    clear hul
    by_cases hlt : j ≤ u.size
    · have hq := strBeqS (u.extract j u.size ++ u.extract 0 j) v
      rw [show (u.extract j u.size ++ u.extract 0 j).data.toList = u.data.toList.drop j ++ u.data.toList.take j by
        rw [ByteArray.data_append, Array.toList_append, extract_rest, extract_front]] at hq
      have z1 : (0 : Int) ≤ (j : Int) := by omega
      have z2 : (j : Int) ≤ (u.size : Int) := by omega
      have z3 : (u.size - j) + j ≤ 9223372036854775807 := by omega
      by_cases he : u.data.toList.drop j ++ u.data.toList.take j = v.data.toList
      · rw [decide_eq_true he] at hq
        have R := Lib.hid ((conjB_iff _ _).2 ⟨j, (by rw [HL.out]; exact hlt), he⟩)
        clear he
        go_wp2
        refine wp_region_kept w.heap.size w (by kernel_rfl) (by kernel_rfl) HB.out ?_
        repeat (go_big_quiet_step ((with_reducible exact fun _ => rfl)))
        refine wpQuiet_nil ?_
        intro w3 hw3
        have B3 := Lib.hid hw3.out
        clear hw3
        go_wp2
        go_ret
        exact ⟨ret_bool (by rw [R.out]), B3.out⟩
      · rw [decide_eq_false he] at hq
        have He := Lib.hid he
        clear he
        go_wp2
        refine wp_region_kept w.heap.size w (by kernel_rfl) (by kernel_rfl) HB.out ?_
        repeat (go_big_quiet_step ((with_reducible exact fun _ => rfl)))
        refine wpQuiet_nil ?_
        intro w3 hw3
        have B3 := Lib.hid hw3.out
        clear hw3
        go_wp2
        go_roundw
        case rel => exact ⟨j + 1, by omega, by go_num, fun i hi => by
          by_cases e : i = j
          · subst e; exact He.out
          · exact HA.out i (by omega), B3.out⟩
        case measure => simp [intOf]; omega
    · have R := Lib.hid (conjB_false u.data.toList v.data.toList fun i hi => HA.out i (by rw [HL.out] at hi; omega))
      go_wp2
      go_ret
      exact ⟨ret_bool (by rw [R.out]), HB.out⟩
end Go.Proofs.Ytndgafhdeddbjaa
