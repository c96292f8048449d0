/- The walks of the reference's Border, and of Root and its reference. -/
import Derived.Test.YtndgafhdeddbjaaBorder
import Derived.Test.YtndgafhdeddbjaaCut
import Derived.Test.YtndgafhdeddbjaaRootsP
namespace Go.Proofs.Ytndgafhdeddbjaa
set_option linter.unusedVariables false
open Go.RowKit

theorem extract_list (s : ByteArray) (a b : Nat) : (s.extract a b).toList = (s.data.toList.take b).drop a := by
  rw [toList_data, ByteArray.data_extract, Array.toList_extract, List.extract_eq_take_drop, List.drop_take]

theorem strBeq (s t : ByteArray) : (s.toList == t.toList) = decide (s.data.toList = t.data.toList) := by
  rw [toList_data, toList_data]; rw [Bool.eq_iff_iff]; simp

set_option maxRecDepth 100000 in
set_option maxHeartbeats 400000 in
theorem refBorder_any (s : ByteArray) (w : World) (hs : s.size ≤ 4096) :
    Calls Try.prog 33 #[.string s] w fun e w' => e = .returned (intV (borderOf s.data.toList)) ∧ Below w.heap.size w w' := by
  have hsl : s.data.toList.length = s.size := rfl
  by_cases h0 : s.size = 0
  case pos =>
    have he : s.data.toList = [] := List.length_eq_zero_iff.1 (by rw [hsl]; exact h0)
    have hb : borderOf s.data.toList = 0 := by rw [he]; rfl
    have HB := Lib.hid hb
    have h1 : (s.size : Int) = 0 := by omega
    clear hb he hsl h0
    go_enter Try.func33, Try.ntmps33
    go_wp2
    go_loopw [3] (fun vk wr => vk = .int .i64 (-1) ∧ wr = w) (fun vk _ => 0)
    case atStart => exact ⟨rfl, rfl⟩
    case round =>
      obtain ⟨rfl, rfl⟩ := hrel
      go_wp2
      go_ret
      exact ⟨by rw [HB.out]; rfl, Below.refl _ _⟩
  case neg =>
    have HSL := Lib.hid hsl
    clear hsl
    go_enter Try.func33, Try.ntmps33
    go_wp2
    go_loopw [3] (fun vk wr => ∃ k : Nat, k < s.size ∧ vk = .int .i64 k ∧ lb s.data.toList k = borderOf s.data.toList ∧ Below w.heap.size w wr) (fun vk _ => (intOf vk).toNat)
    case atStart => exact ⟨s.size - 1, by omega, by congr 1; omega, rfl, Below.refl _ _⟩
    case round =>
      obtain ⟨k, hk, rfl, hl, hB⟩ := hrel
      have HL := Lib.hid hl
      have HB := Lib.hid hB
      clear hl hB
      by_cases hk0 : 0 < k
      · have z1 : (k : Int) ≤ (s.size : Int) := by omega
        have z2 : (0 : Int) ≤ (s.size : Int) - (k : Int) := by omega
        have z3 : ((s.size : Int) - (k : Int)).toNat = s.size - k := by omega
        have z4 : (s.size : Int) - (k : Int) ≤ (s.size : Int) := by omega
        go_wp2
        go_region
        go_wp2
        · have h1 : ((s.extract 0 k).toList == (s.extract (s.size - k) s.size).toList) = true := by assumption
          rw [beq_iff_eq, extract_list, extract_list, List.drop_zero, List.take_of_length_le (show s.data.toList.length ≤ s.size from Nat.le_refl _)] at h1
          go_ret
          refine ⟨?_, HB.out.drew⟩
          have hl := HL.out
          obtain ⟨j, rfl⟩ : ∃ j, k = j + 1 := ⟨k - 1, by omega⟩
          simp only [lb] at hl
          rw [if_pos (by rw [HSL.out]; exact h1)] at hl
          rw [← hl]; rfl
        · have h1 : ((s.extract 0 k).toList == (s.extract (s.size - k) s.size).toList) = false := by assumption
          rw [beq_eq_false_iff_ne, ne_eq, extract_list, extract_list, List.drop_zero, List.take_of_length_le (show s.data.toList.length ≤ s.size from Nat.le_refl _)] at h1
          go_roundw
          case rel =>
            refine ⟨k - 1, by omega, by congr 1; omega, ?_, HB.out.drew⟩
            have hl := HL.out
            obtain ⟨j, rfl⟩ : ∃ j, k = j + 1 := ⟨k - 1, by omega⟩
            simp only [lb] at hl
            rw [if_neg (by rw [HSL.out]; exact h1)] at hl
            exact hl
          case measure => simp [intOf]; omega
      · obtain rfl : k = 0 := by omega
        go_wp2
        go_ret
        exact ⟨by rw [← HL.out]; rfl, HB.out⟩

/-- What the Roots answer. -/
def rootS (s : ByteArray) : ByteArray := cutS s (rootLen s.data.toList)
def rootE (s : ByteArray) : Nat := s.size / rootLen s.data.toList

theorem rootLen_nil : rootLen [] = 0 := rfl

theorem extract_root (s : ByteArray) : s.extract 0 (rootLen s.data.toList) = rootS s := extract_cutS s _

theorem isEmpty_false (s : ByteArray) (h : ¬ s.size = 0) : s.toList.isEmpty = false := by
  rw [toList_data]
  cases hd : s.data.toList with
  | nil => exact absurd (show s.data.toList.length = 0 by rw [hd]; rfl) h
  | cons _ _ => rfl

theorem empty_of_size (s : ByteArray) (h : s.size = 0) : s = ByteArray.empty := by
  apply ByteArray.ext
  exact Array.toList_inj.1 (List.length_eq_zero_iff.1 h)

set_option maxRecDepth 100000 in
set_option maxHeartbeats 400000 in
theorem root_any (s : ByteArray) (w : World) (hs : s.size ≤ 4096) :
    Calls Try.prog 34 #[.string s] w fun e w' => e = .returned (.tuple #[.string (rootS s), intV (rootE s)]) ∧ Below w.heap.size w w' := by
  by_cases h0 : s.size = 0
  · obtain rfl := empty_of_size s h0
    go_enter Try.func34, Try.ntmps34
    go_wp2
    go_ret2
    exact ⟨rfl, Below.refl _ _⟩
  · have hne := isEmpty_false s h0
    have hlt := borderOf_lt s.data.toList (by show 0 < s.size; omega)
    have hlt' : borderOf s.data.toList < s.size := hlt
    have C := Lib.hid (fun w => border_any s w hs)
    have R := Lib.hid (extract_root s)
    have E : Hid (rootE s = s.size / rootLen s.data.toList) := rfl
    have hrl : rootLen s.data.toList = if s.size % (s.size - borderOf s.data.toList) = 0 then s.size - borderOf s.data.toList else s.size := rfl
    clear hlt
    generalize rootLen s.data.toList = m at *
    generalize borderOf s.data.toList = b at *
    have hp0 : ¬ (s.size = b) := by omega
    have hcast : (s.size : Int) % ((s.size : Int) - (b : Int)) = ((s.size % (s.size - b) : Nat) : Int) := by
      rw [show (s.size : Int) - (b : Int) = ((s.size - b : Nat) : Int) by omega]; rfl
    have hdiv : (s.size : Int) / ((s.size : Int) - (b : Int)) = ((s.size / (s.size - b) : Nat) : Int) := by
      rw [show (s.size : Int) - (b : Int) = ((s.size - b : Nat) : Int) by omega]; rfl
    have q1 : (1 : Int) ≤ (s.size : Int) - (b : Int) := by omega
    have q2 : ((s.size : Int) - (b : Int)).toNat = s.size - b := by omega
    have q3 : ((s.size : Int) - (b : Int)) ≤ (s.size : Int) := by omega
    have q4 : (0 : Int) ≤ (s.size : Int) - (b : Int) := by omega
    have q5 : ¬ ((s.size : Int) - (b : Int) = 0) := by omega
    have q6 : (1 : Int) ≤ (s.size : Int) := by omega
    have q8 : (0 : Int) ≤ (s.size : Int) / ((s.size : Int) - (b : Int)) := Int.ediv_nonneg (by omega) (by omega)
    have q9 : (s.size : Int) / ((s.size : Int) - (b : Int)) ≤ (s.size : Int) := Int.ediv_le_self _ (by omega)
    have HC := Lib.hid hcast
    have HD := Lib.hid hdiv
    clear hcast hdiv
    by_cases hd : s.size % (s.size - b) = 0
    · rw [if_pos hd] at hrl
      subst hrl
      have hz : ((s.size : Int) % ((s.size : Int) - (b : Int)) != 0) = false := by rw [HC.out, hd]; rfl
      have Hd := Lib.hid hd
      clear hd
      go_enter Try.func34, Try.ntmps34
      go_wp2_with fail
      refine (C.out _).mono ?_
      rintro e w1 ⟨rfl, hb1⟩
      have B1 := Lib.hid hb1
      clear hb1
      go_wp2_with fail
      go_region
      go_wp2
      go_ret2
      refine ⟨?_, B1.out.drew⟩
      rw [← R.out, E.out]
      simp only [intV, ← HD.out]
      rfl
    · rw [if_neg hd] at hrl
      subst hrl
      have hz : ((s.size : Int) % ((s.size : Int) - (b : Int)) != 0) = true := by rw [HC.out, bne_iff_ne]; omega
      have Hd := Lib.hid hd
      have hss : Hid (rootS s = s) := by rw [Hid, ← R.out, extract_cutS, cutS_long _ _ (Nat.le_refl _)]
      have q7 : ¬ ((s.size : Int) = 0) := by omega
      clear hd
      go_enter Try.func34, Try.ntmps34
      go_wp2_with fail
      refine (C.out _).mono ?_
      rintro e w1 ⟨rfl, hb1⟩
      have B1 := Lib.hid hb1
      clear hb1
      go_wp2_with fail
      go_region
      go_wp2
      go_ret2
      refine ⟨?_, B1.out.drew⟩
      rw [hss.out, E.out, Nat.div_self (by omega)]
      rfl

theorem good_iff (s : ByteArray) (k : Nat) (h1 : 1 ≤ k) (h2 : k ≤ s.size) :
    Good (fn s.data.toList) s.size k ↔ s.size % k = 0 ∧ (k = s.size ∨ (s.extract k s.size).toList = (s.extract 0 (s.size - k)).toList) := by
  have hsl : s.data.toList.length = s.size := rfl
  have hper : (s.extract k s.size).toList = (s.extract 0 (s.size - k)).toList ↔ Per (fn s.data.toList) s.size k := by
    rw [extract_list, extract_list, List.drop_zero, List.take_of_length_le (show s.data.toList.length ≤ s.size from Nat.le_refl _)]
    have := (border_iff s.data.toList (s.size - k) (by rw [hsl]; omega)).trans (isB_per _ _ _ (by rw [hsl]; omega))
    rw [hsl, show s.size - (s.size - k) = k by omega] at this
    exact ⟨fun e => this.1 e.symm, fun e => (this.2 e).symm⟩
  constructor
  · rintro ⟨_, _, h3, h4⟩
    exact ⟨h3, .inr (hper.2 h4)⟩
  · rintro ⟨h3, h4 | h4⟩
    · subst h4; exact ⟨h1, h2, h3, per_all _ _⟩
    · exact ⟨h1, h2, h3, hper.1 h4⟩

set_option maxRecDepth 100000 in
set_option maxHeartbeats 400000 in
theorem refRoot_any (s : ByteArray) (w : World) (hs : s.size ≤ 4096) :
    Calls Try.prog 35 #[.string s] w fun e w' => e = .returned (.tuple #[.string (rootS s), intV (rootE s)]) ∧ Below w.heap.size w w' := by
  by_cases h0 : s.size = 0
  · obtain rfl := empty_of_size s h0
    go_enter Try.func35, Try.ntmps35
    go_wp2
    go_loopw [4] (fun vk wr => vk = .int .i64 1 ∧ wr = w) (fun vk _ => 0)
    case atStart => exact ⟨rfl, rfl⟩
    case round =>
      obtain ⟨rfl, rfl⟩ := hrel
      go_wp2
      go_ret2
      exact ⟨rfl, Below.refl _ _⟩
  · have hroot := rootLen_isRoot s.data.toList (by show 0 < s.size; omega)
    have hsl : s.data.toList.length = s.size := rfl
    rw [hsl] at hroot
    have R := Lib.hid (extract_root s)
    have E : Hid (rootE s = s.size / rootLen s.data.toList) := rfl
    have hm1 := hroot.1.1
    have hm2 := hroot.1.2.1
    have HR := Lib.hid hroot
    clear hroot hsl
    generalize rootLen s.data.toList = m at *
    go_enter Try.func35, Try.ntmps35
    go_wp2
    go_loopw [4] (fun vk wr => ∃ k : Nat, 1 ≤ k ∧ k ≤ m ∧ vk = .int .i64 k ∧ Below w.heap.size w wr) (fun vk _ => m - (intOf vk).toNat)
    case atStart => exact ⟨1, by omega, by omega, rfl, Below.refl _ _⟩
    case round =>
      obtain ⟨k, hk1, hkm, rfl, hB⟩ := hrel
      have HB := Lib.hid hB
      have HG := Lib.hid (good_iff s k hk1 (by omega))
      clear hB
      have z1 : (k : Int) ≤ (s.size : Int) := by omega
      have z2 : (0 : Int) ≤ (s.size : Int) - (k : Int) := by omega
      have z3 : ((s.size : Int) - (k : Int)).toNat = s.size - k := by omega
      have z4 : (s.size : Int) - (k : Int) ≤ (s.size : Int) := by omega
      have z5 : ¬ ((k : Int) = 0) := by omega
      have z6 : ¬ (k = 0) := by omega
      have z7 : (0 : Int) ≤ (s.size : Int) / (k : Int) := Int.ediv_nonneg (by omega) (by omega)
      have z8 : (s.size : Int) / (k : Int) ≤ (s.size : Int) := Int.ediv_le_self _ (by omega)
      have hmod : (s.size : Int) % (k : Int) = ((s.size % k : Nat) : Int) := rfl
      have HM := Lib.hid hmod
      clear hmod
      by_cases hg : Good (fn s.data.toList) s.size k
      · obtain rfl : k = m := Nat.le_antisymm hkm (HR.out.2 k hg)
        obtain ⟨ha, hbc⟩ := HG.out.1 hg
        have hA : ((s.size : Int) % (k : Int) == 0) = true := by rw [HM.out, ha]; rfl
        clear ha hg
        by_cases hb : k = s.size
        · have hbt : ((k : Int) == (s.size : Int)) = true := by rw [beq_iff_eq]; omega
          clear hbc hb
          go_wp2
          go_region
          go_wp2
          go_region
          go_wp2
          go_ret2
          refine ⟨?_, HB.out.drew.drew⟩
          rw [← R.out, E.out]
          rfl
        · have hbf : ((k : Int) == (s.size : Int)) = false := by rw [beq_eq_false_iff_ne]; omega
          have hc : ((s.extract k s.size).toList == (s.extract 0 (s.size - k)).toList) = true := by rw [beq_iff_eq]; exact hbc.resolve_left hb
          clear hbc hb
          go_wp2
          go_region
          go_wp2
          go_region
          go_wp2
          go_ret2
          refine ⟨?_, HB.out.drew.drew⟩
          rw [← R.out, E.out]
          rfl
      · have hlt : k < m := by
          rcases Nat.lt_or_ge k m with h | h
          · exact h
          · exact absurd (by rw [show k = m by omega]; exact HR.out.1) hg
        have hng := Lib.hid (fun h => hg (HG.out.2 h))
        clear hg
        by_cases ha : s.size % k = 0
        · have hA : ((s.size : Int) % (k : Int) == 0) = true := by rw [HM.out, ha]; rfl
          have hbf : ((k : Int) == (s.size : Int)) = false := by rw [beq_eq_false_iff_ne]; exact fun e => hng.out ⟨ha, .inl (by omega)⟩
          have hc : ((s.extract k s.size).toList == (s.extract 0 (s.size - k)).toList) = false := by rw [beq_eq_false_iff_ne]; exact fun e => hng.out ⟨ha, .inr e⟩
          clear ha
          go_wp2
          go_region
          go_wp2
          go_roundw
          case rel => exact ⟨k + 1, by omega, by omega, by go_num, HB.out.drew⟩
          case measure => simp [intOf]; omega
        · have hA : ((s.size : Int) % (k : Int) == 0) = false := by rw [HM.out, beq_eq_false_iff_ne]; omega
          clear ha
          go_wp2
          go_region
          go_wp2
          go_roundw
          case rel => exact ⟨k + 1, by omega, by omega, by go_num, HB.out.drew⟩
          case measure => simp [intOf]; omega
end Go.Proofs.Ytndgafhdeddbjaa
