/- The walks of word.Occurrences and its reference. -/
import Derived.Test.YtndgafhdeddbjaaAwake
import Derived.Test.YtndgafhdeddbjaaOccs
namespace Go.Proofs.Ytndgafhdeddbjaa
set_option linter.unusedVariables false
open Go.RowKit

theorem Try.info3 : (Try.prog.info? 3).map (fun i => (i.zero, i.size, i.bytes)) = some (some (.int .i64 0), 1, 8) := by kernel_rfl

abbrev intV (n : Nat) : Value := .int .i64 (n : Int)

theorem byte_beq (a b : UInt8) : ((a.toNat : Int) == (b.toNat : Int)) = decide (a = b) := by
  rw [Bool.eq_iff_iff]; simp
  exact ⟨fun h => UInt8.toNat_inj.1 (by omega), fun h => by rw [h]⟩

theorem occM_bad {u w : List UInt8} {m : Int} (h : ¬ (1 ≤ m ∧ m ≤ 2147483648)) : occM u w m = 0 := by simp [occM, h]

set_option maxRecDepth 100000 in
set_option maxHeartbeats 400000 in
theorem refOcc_any (u s : ByteArray) (m : Int) (w : World) (hu : u.size ≤ 1000) (hs : s.size ≤ maxLen) :
    Calls Try.prog 31 #[.string u, .string s, .int .i64 m] w fun e w' => e = .returned (intV (occM u.data.toList s.data.toList m)) ∧ Below w.heap.size w w' := by
  unfold maxLen at hs
  by_cases hm : 1 ≤ m ∧ m ≤ 2147483648
  case neg =>
    have H := Lib.hid (occM_bad (u := u.data.toList) (w := s.data.toList) hm)
    go_enter Try.func31, Try.ntmps31
    go_wp2
    all_goals first
      | (go_ret; exact ⟨by rw [H.out]; rfl, Below.refl _ _⟩)
      | (exfalso; omega)
  case pos =>
    obtain ⟨m1, m2⟩ := hm
    obtain ⟨M, rfl⟩ := Int.eq_ofNat_of_zero_le (show 0 ≤ m by omega)
    have hM : occM u.data.toList s.data.toList (M : Int) = occ u.data.toList s.data.toList % M := by simp only [occM, if_pos (And.intro m1 m2)]; rfl
    have HM := Lib.hid hM
    clear hM
    have hul : u.data.toList.length = u.size := rfl
    have hsl : s.data.toList.length = s.size := rfl
    have HUL := Lib.hid hul
    have HSL := Lib.hid hsl
    clear hul hsl
    go_enter Try.func31, Try.ntmps31
    go_wp2_with (refine wpList_make_arr _ _ 51 3 (.int .i64 0) 8 rfl rfl Try.underlying51 Try.info3 rfl .i64 .i64 _ (u.size + 1) (by omega) rfl rfl (by omega) (by omega) ?_; intro w1 hA hB hlt hO; have c0 := hA 0 (by omega); obtain ⟨c1, c2⟩ := c0; have HA := Lib.hid hA; have HB := Lib.hid hB; have hsz : w.heap.size < w1.heap.size := hlt; clear hA hB hO hlt)
    go_loopw [8, 9] (fun vi _ wr => ∃ i : Nat, i ≤ s.size ∧ vi = .int .i64 i ∧ Arr wr w.heap.size (u.size + 1) (fun j => intV (tab u.data.toList s.data.toList M i j)) ∧ Below w.heap.size w wr) (fun vi _ _ => s.size - (intOf vi).toNat)
    case atStart =>
      refine ⟨0, Nat.zero_le _, rfl, (HA.out.set 0 (by omega) _).congr fun j hj => ?_, HB.out.setCell (Nat.le_refl _) _⟩
      cases j with
      | zero => simp [tab_first]
      | succ j => simp; rw [tab_start _ _ _ _ (by rw [HUL.out]; omega)]; rfl
    case round =>
      obtain ⟨i, hi, rfl, hA, hB⟩ := hrel
      have HA' := Lib.hid hA
      have HB' := Lib.hid hB
      clear hA hB
      by_cases hlt : i < s.size
      · go_wp2
        obtain ⟨wo, rfl⟩ : ∃ wo : World, wo = wr := ⟨_, rfl⟩
        go_loopw [9] (fun vk wr => ∃ k : Nat, k ≤ u.size ∧ vk = .int .i64 k ∧ Arr wr w.heap.size (u.size + 1) (fun j => intV (if j ≤ k then tab u.data.toList s.data.toList M i j else tab u.data.toList s.data.toList M (i + 1) j)) ∧ Below w.heap.size w wr) (fun vk _ => (intOf vk).toNat)
        case atStart =>
          exact ⟨u.size, Nat.le_refl _, rfl, HA'.out.congr fun j hj => by rw [if_pos (by omega)], HB'.out⟩
        case round =>
          obtain ⟨k, hk, rfl, hA, hB⟩ := hrel
          by_cases hk0 : 0 < k
          · have e1 := hA.get k (by omega) (v := intV (tab u.data.toList s.data.toList M i k)) (by simp)
            have e2 := hA.get (k - 1) (by omega) (v := intV (tab u.data.toList s.data.toList M i (k - 1))) (by simp)
            have e3 := hA.free k (by omega)
            have l1 := tab_lt u.data.toList s.data.toList M i k (by omega)
            have l2 := tab_lt u.data.toList s.data.toList M i (k - 1) (by omega)
            have hst := tab_step u.data.toList s.data.toList M i (k - 1) (by rw [HSL.out]; omega) (by rw [HUL.out]; omega)
            rw [show k - 1 + 1 = k by omega] at hst
            have HST := Lib.hid hst
            have HA2 := Lib.hid hA
            have HB2 := Lib.hid hB
            clear hst hA hB
            generalize hx : tab u.data.toList s.data.toList M i k = x at *
            generalize tab u.data.toList s.data.toList M i (k - 1) = y at *
            have HX := Lib.hid hx
            clear hx
            have hr1 : 0 ≤ ((x : Int) + (y : Int)) % (M : Int) := Int.emod_nonneg _ (by omega)
            have hix : ((k : Int) - 1).toNat = k - 1 := by omega
            have hi1 : (1 : Int) ≤ (k : Int) := by omega
            have hi2 : (k : Int) - 1 < (u.size : Int) := by omega
            have hi3 : (0 : Int) ≤ (k : Int) - 1 := by omega
            have hbb : ((u[k - 1].toNat : Int) == (s[i].toNat : Int)) = decide (u.data.toList[k - 1]'(by rw [HUL.out]; omega) = s.data.toList[i]'(by rw [HSL.out]; omega)) := byte_beq _ _
            have HBB := Lib.hid hbb
            clear hbb
            cases hq : ((u[k - 1].toNat : Int) == (s[i].toNat : Int))
            · go_wp2
              go_region
              go_wp2
              go_roundw
              case rel =>
                refine ⟨k - 1, by omega, by go_num, ?_, HB2.out.drew⟩
                refine HA2.out.drew.congr fun j hj => ?_
                by_cases hjk : j = k
                · have h1 := HST.out
                  rw [if_neg (by have h2 := HBB.out; rw [hq] at h2; simpa using h2.symm)] at h1
                  subst hjk
                  rw [if_pos (Nat.le_refl j), if_neg (by omega), h1]
                  exact congrArg intV HX.out
                · congr 2
                  simp; omega
              case measure => simp [intOf]; omega
            · go_wp2
              go_region
              go_wp2
              go_region
              go_wp2
              go_roundw
              case rel =>
                refine ⟨k - 1, by omega, by go_num, ?_, ((HB2.out.setCell (Nat.le_refl _) _).drew).drew⟩
                refine ((HA2.out.set k (by omega) _).drew.drew).congr fun j hj => ?_
                by_cases hjk : j = k
                · have h1 := HST.out
                  rw [if_pos (by have h2 := HBB.out; rw [hq] at h2; simpa using h2.symm)] at h1
                  subst hjk
                  rw [if_pos rfl, if_neg (by omega), h1]
                  simp only [intV]; congr 1
                · rw [if_neg hjk]
                  congr 2
                  simp; omega
              case measure => simp [intOf]; omega
          · obtain rfl : k = 0 := by omega
            have HA2 := Lib.hid hA
            have HB2 := Lib.hid hB
            clear hA hB
            go_wp2
            go_roundw
            case rel =>
              refine ⟨i + 1, by omega, by go_num, ?_, HB2.out⟩
              refine HA2.out.congr fun j hj => ?_
              split
              · obtain rfl : j = 0 := by omega
                rw [tab_first, tab_first]
              · rfl
            case measure => simp [intOf]; omega
      · have cl := (HA'.out u.size (by omega)).1
        go_wp2
        go_ret
        refine ⟨?_, HB'.out⟩
        rw [HM.out, ← tab_end, HUL.out, HSL.out, show s.size = i by omega]
        rfl
end Go.Proofs.Ytndgafhdeddbjaa
