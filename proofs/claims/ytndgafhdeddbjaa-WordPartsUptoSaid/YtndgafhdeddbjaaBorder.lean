/- The walks of word.Border and its reference. -/
import Derived.Test.YtndgafhdeddbjaaOccur
import Derived.Test.YtndgafhdeddbjaaBords
namespace Go.Proofs.Ytndgafhdeddbjaa
set_option linter.unusedVariables false
open Go.RowKit

theorem fn_byte (s : ByteArray) (i : Nat) (h : i < s.size) : fn s.data.toList i = s[i] := fn_get _ _ h

theorem byte_bne (a b : UInt8) : ((a.toNat : Int) != (b.toNat : Int)) = decide (a ≠ b) := by
  rw [bne, byte_beq]; simp

theorem toList_data (s : ByteArray) : s.toList = s.data.toList := by simp [ByteArray.toList_eq]

/-- The table of borders after i letters. -/
def bordAt (l : List UInt8) (i k : Nat) : Value := if k < i then intV (borderOf (l.take (k + 1))) else intV 0

set_option maxRecDepth 100000 in
set_option maxHeartbeats 400000 in
theorem border_any (s : ByteArray) (w : World) (hs : s.size ≤ 4096) :
    Calls Try.prog 32 #[.string s] w fun e w' => e = .returned (intV (borderOf s.data.toList)) ∧ Below w.heap.size w w' := by
  have hsl : s.data.toList.length = s.size := rfl
  by_cases h0 : s.size = 0
  case pos =>
    have he : s.data.toList = [] := List.length_eq_zero_iff.1 (by rw [hsl]; exact h0)
    have hb : borderOf s.data.toList = 0 := by rw [he]; rfl
    have hs0 : s.toList = [] := by rw [toList_data, he]
    have HB := Lib.hid hb
    clear hb he hsl h0
    go_enter Try.func32, Try.ntmps32
    go_wp2
    go_ret
    exact ⟨by rw [HB.out]; rfl, Below.refl _ _⟩
  case neg =>
    have HSL := Lib.hid hsl
    clear hsl
    have hne : s.toList.isEmpty = false := by
      rw [toList_data]; cases hd : s.data.toList with
      | nil => exact absurd (by rw [← HSL.out, hd]; rfl) h0
      | cons _ _ => rfl
    go_enter Try.func32, Try.ntmps32
    go_wp2_with (refine wpList_make_arr _ _ 51 3 (.int .i64 0) 8 rfl rfl Try.underlying51 Try.info3 rfl .i64 .i64 _ s.size (by omega) rfl rfl (by omega) (by omega) ?_; intro w1 hA hB hlt hO; have HA := Lib.hid hA; have HB := Lib.hid hB; have hsz : w.heap.size < w1.heap.size := hlt; clear hA hB hO hlt)
    go_loopw [4, 5] (fun vi _ wr => ∃ i : Nat, 1 ≤ i ∧ i ≤ s.size ∧ vi = .int .i64 i ∧ Arr wr w.heap.size s.size (bordAt s.data.toList i) ∧ Below w.heap.size w wr) (fun vi _ _ => s.size - (intOf vi).toNat)
    case atStart =>
      refine ⟨1, Nat.le_refl _, by omega, rfl, HA.out.congr fun k hk => ?_, HB.out⟩
      unfold bordAt
      split
      · obtain rfl : k = 0 := by omega
        rw [borderOf_eq (l := s.data.toList.take 1) (b := 0)]
        · rfl
        · rw [show (s.data.toList.take 1).length = 1 by rw [List.length_take, HSL.out]; omega]; exact isLB_one _
      · rfl
    case round =>
      obtain ⟨i, hi1, hi, rfl, hA, hB⟩ := hrel
      have HA' := Lib.hid hA
      have HB' := Lib.hid hB
      clear hA hB
      by_cases hlt : i < s.size
      · have hix : ((i : Int) - 1).toNat = i - 1 := by omega
        have e1 := HA'.out.get (i - 1) (by omega) (v := intV (borderOf (s.data.toList.take i))) (by simp only [bordAt]; rw [if_pos (by omega), show i - 1 + 1 = i by omega])
        have z1 : (0 : Int) ≤ (i : Int) - 1 := by omega
        have z2 : (i : Int) - 1 < (s.size : Int) := by omega
        have hlb := isLB_take s.data.toList i (by omega) (by rw [HSL.out]; omega)
        have HLB := Lib.hid hlb
        clear hlb
        go_wp2
        go_loopw [5] (fun vb wr => ∃ b : Nat, b < i ∧ vb = .int .i64 b ∧ Tried (fn s.data.toList) i b ∧ Arr wr w.heap.size s.size (bordAt s.data.toList i) ∧ Below w.heap.size w wr) (fun vb _ => (intOf vb).toNat)
        case atStart => exact ⟨_, HLB.out.1.1, rfl, tried_start HLB.out, HA'.out, HB'.out⟩
        case round =>
          obtain ⟨b, hb, rfl, hT, hA, hB⟩ := hrel
          have HT := Lib.hid hT
          have HA2 := Lib.hid hA
          have HB2 := Lib.hid hB
          clear hT hA hB
          have hbs : b < s.size := by omega
          have hbI : (b : Int) < (s.size : Int) := by omega
          have hiI : (i : Int) < (s.size : Int) := by omega
          have s1 := HA2.out.get i hlt (v := intV 0) (by simp [bordAt])
          have s2 := HA2.out.free i hlt
          have hq := byte_beq s[i] s[b]
          have hq' := byte_bne s[i] s[b]
          have hfb := fn_byte s b hbs
          have hfi := fn_byte s i hlt
          have Hfb := Lib.hid hfb
          have Hfi := Lib.hid hfi
          clear hfb hfi
          have HAi : Hid (∀ x, IsLB (fn s.data.toList) (i + 1) x → ∀ (w' : World), Arr w' w.heap.size s.size (fun k => if k = i then intV x else bordAt s.data.toList i k) → Arr w' w.heap.size s.size (bordAt s.data.toList (i + 1))) := fun x hx w' hA => hA.congr fun k hk => by
            have hx' : borderOf (s.data.toList.take (i + 1)) = x := isLB_unique (isLB_take _ _ (by omega) (by rw [HSL.out]; omega)) hx
            by_cases e : k = i
            · subst e; simp [bordAt, hx']
            · simp only [bordAt, if_neg e]
              by_cases e2 : k < i
              · rw [if_pos e2, if_pos (by omega)]
              · rw [if_neg e2, if_neg (by omega)]
          by_cases he : s[i] = s[b]
          · rw [decide_eq_true he] at hq
            rw [decide_eq_false (fun h => h he)] at hq'
            have HN : Hid (IsLB (fn s.data.toList) (i + 1) (b + 1)) := tried_yes HT.out (by rw [Hfb.out, Hfi.out, he])
            have He := Lib.hid he
            clear he
            by_cases hb0 : 0 < b
            all_goals
              go_wp2
              go_region
              go_wp2
              go_region
              go_wp2
              go_roundw
              case rel => exact ⟨i + 1, by omega, by omega, by go_num, HAi.out _ HN.out _ ((HA2.out.set i hlt _).drew.drew), ((HB2.out.setCell (Nat.le_refl _) _).drew).drew⟩
              case measure => simp [intOf]; omega
          · rw [decide_eq_false he] at hq
            rw [decide_eq_true (show s[i] ≠ s[b] from he)] at hq'
            have He := Lib.hid he
            clear he
            by_cases hb0 : 0 < b
            · have e2 := HA2.out.get (b - 1) (by omega) (v := intV (borderOf (s.data.toList.take b))) (by simp only [bordAt]; rw [if_pos (by omega), show b - 1 + 1 = b by omega])
              have y1 : (0 : Int) ≤ (b : Int) - 1 := by omega
              have y2 : (b : Int) - 1 < (s.size : Int) := by omega
              have y3 : ((b : Int) - 1).toNat = b - 1 := by omega
              have y4 : (1 : Int) ≤ (b : Int) := by omega
              have HLb := Lib.hid (isLB_take s.data.toList b hb0 (by rw [HSL.out]; omega))
              have hlt2 := HLb.out.1.1
              have HN := Lib.hid (tried_next HT.out (by rw [Hfb.out, Hfi.out]; exact fun e => He.out e.symm) HLb.out)
              go_wp2
              go_region
              go_wp2
              go_roundw
              case rel => exact ⟨_, by omega, rfl, HN.out, HA2.out.drew, HB2.out.drew⟩
              case measure => simp [intOf]; omega
            · obtain rfl : b = 0 := by omega
              have HN : Hid (IsLB (fn s.data.toList) (i + 1) 0) := tried_no HT.out (by rw [Hfb.out, Hfi.out]; exact fun e => He.out e.symm)
              go_wp2
              go_region
              go_wp2
              go_region
              go_wp2
              go_roundw
              case rel => exact ⟨i + 1, by omega, by omega, by go_num, HAi.out _ HN.out _ ((HA2.out.set i hlt _).drew.drew), ((HB2.out.setCell (Nat.le_refl _) _).drew).drew⟩
              case measure => simp [intOf]; omega
      · have el := HA'.out.get (s.size - 1) (by omega) (v := intV (borderOf s.data.toList)) (by
          simp only [bordAt]; rw [if_pos (by omega), show s.size - 1 + 1 = s.size by omega, List.take_of_length_le (by rw [HSL.out]; omega)])
        have z1 : (0 : Int) ≤ (s.size : Int) - 1 := by omega
        have z2 : ((s.size : Int) - 1).toNat = s.size - 1 := by omega
        go_wp2
        go_ret
        exact ⟨rfl, HB'.out⟩
end Go.Proofs.Ytndgafhdeddbjaa
