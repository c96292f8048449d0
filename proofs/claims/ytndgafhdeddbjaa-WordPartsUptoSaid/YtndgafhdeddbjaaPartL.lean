/- The walks of the laws WordDeletes and WordConjugates, and of the reference's Reverse. -/
import Derived.Test.YtndgafhdeddbjaaPartW
import Derived.Test.YtndgafhdeddbjaaLift
namespace Go.Proofs.Ytndgafhdeddbjaa
set_option linter.unusedVariables false
set_option linter.unusedSimpArgs false
open Go.RowKit

theorem Bytes_of_arr {w : World} {g n : Nat} {f : Nat → UInt8} (h : Arr w g n (fun i => byteV (f i))) : Bytes w g n f := h

set_option maxHeartbeats 400000 in
theorem refReverse_any (s : ByteArray) (w : World) (hs : s.size ≤ 1000000000) :
    Calls Try.prog 41 #[.string s] w fun e w' => e = .returned (strV s.data.toList.reverse) ∧ Below w.heap.size w w' := by
  have hsl : s.data.toList.length = s.size := rfl
  have HSL := Lib.hid hsl
  clear hsl
  go_enter Try.func41, Try.ntmps41
  go_wp2_with (refine wpList_make_arr _ _ 32 5 (.int .u8 0) 1 rfl rfl Try.underlying32 Try.info5 rfl .i64 .i64 _ s.size (by omega) rfl rfl (by omega) (by omega) ?_; intro w1 hA hB hlt hO; have HA := Lib.hid hA; have HB := Lib.hid hB; have hsz : w.heap.size < w1.heap.size := hlt; clear hA hB hO hlt)
  go_loopw [4] (fun vi wr => ∃ k : Nat, k ≤ s.size ∧ vi = .int .i64 k ∧ Arr wr w.heap.size s.size (fun i => byteV (if s.size ≤ i + k then s.data.toList.getD (s.size - 1 - i) 0 else 0)) ∧ Below w.heap.size w wr) (fun vi _ => s.size - (intOf vi).toNat)
  case atStart =>
    refine ⟨0, by omega, rfl, HA.out.congr fun i hi => ?_, HB.out⟩
    rw [if_neg (by omega)]; rfl
  case round =>
    obtain ⟨k, hk, rfl, hA, hB⟩ := hrel
    have HA' := Lib.hid hA
    have HB' := Lib.hid hB
    clear hA hB
    by_cases hlt : k < s.size
    · have z1 : (0 : Int) ≤ (s.size : Int) - 1 - (k : Int) := by omega
      have z2 : (s.size : Int) - 1 - (k : Int) < (s.size : Int) := by omega
      have z3 : ((s.size : Int) - 1 - (k : Int)).toNat = s.size - 1 - k := by omega
      have c1 := (HA'.out (s.size - 1 - k) (by omega)).1
      have c2 := (HA'.out (s.size - 1 - k) (by omega)).2
      simp only [] at c1
      rw [if_neg (by omega)] at c1
      have hget : s.data.toList.getD k 0 = s[k] := getD_get _ _ _ (by rw [HSL.out]; exact hlt)
      have HG := Lib.hid hget
      clear hget
      go_wp2
      go_roundw
      case rel =>
        refine ⟨k + 1, by omega, by go_num, (HA'.out.set (s.size - 1 - k) (by omega) _).congr fun i hi => ?_, HB'.out.setCell (Nat.le_refl _) _⟩
        by_cases e : i = s.size - 1 - k
        · subst e
          rw [if_pos rfl, if_pos (by omega), show s.size - 1 - (s.size - 1 - k) = k by omega, HG.out]
        · rw [if_neg e]
          congr 1
          by_cases e2 : s.size ≤ i + k
          · rw [if_pos e2, if_pos (by omega)]
          · rw [if_neg e2, if_neg (by omega)]
      case measure => simp [intOf]; omega
    · obtain rfl : k = s.size := by omega
      have kb := (Bytes_of_arr HA'.out).str s.data.toList.reverse (by rw [List.length_reverse, HSL.out]) (fun i hi => by
        rw [List.length_reverse, HSL.out] at hi
        rw [List.getElem_reverse, if_pos (by omega), getD_get _ _ _ (by rw [HSL.out]; omega)]; congr 1) s.size
      go_wp2
      go_ret
      exact ⟨rfl, HB'.out⟩

theorem keep_sub {u l : List UInt8} {k : Nat} (h : u.Sublist (l.take k)) (hk : k < l.length) : (u ++ [l[k]]).Sublist (l.take (k + 1)) := by
  rw [List.take_succ_eq_append_getElem hk]
  exact List.Sublist.append h (List.Sublist.refl _)
theorem skip_sub {u l : List UInt8} {k : Nat} (h : u.Sublist (l.take k)) : u.Sublist (l.take (k + 1)) :=
  h.trans (List.take_sublist_take_left (by omega))

theorem cutS_mid_fac (s : ByteArray) (a b : Nat) : facB (s.extract a b).data.toList s.data.toList = true := by
  rw [facB_iff, extract_mid]
  exact (List.drop_suffix _ _).isInfix.trans (List.take_prefix _ _).isInfix

set_option maxRecDepth 100000 in
set_option maxHeartbeats 1000000 in
theorem WordDeletes_walk (s : ByteArray) (ga : Option Addr) (n cap : Nat) (B : Nat → Bool) (i j m : Int) (w : World) (hs : s.size ≤ maxLen) (hn : n ≤ maxLen) (hB : CellsAt w n ga (fun j => .bool (B j))) (_ : (Lit.int .i64 i).wf = true) (_ : (Lit.int .i64 j).wf = true) (hm : w.cell? ⟨0, 0, none⟩ = some (.int .i64 m)) :
    Calls Try.prog 17 #[.string s, .slice ga n cap, .int .i64 i, .int .i64 j] w fun e w' => e = .returned (.bool true) ∧ Below w.heap.size w w' := by
  unfold maxLen at hn
  have l1 := cutS_le s 200
  have C := Lib.hid fun w => cut_any s 200 w hs (by omega)
  generalize cutS s 200 = t at *
  have HM := Lib.hid hm
  have HBB := Lib.hid hB
  have htl : t.data.toList.length = t.size := rfl
  have HL := Lib.hid htl
  clear hm hB htl
  go_enter Try.func17, Try.ntmps17
  go_wp2_with fail
  refine (C.out _).mono ?_
  rintro e w1 ⟨rfl, rfl⟩
  go_wp2_with fail
  go_loop [9, 10] (fun vu vk => ∃ (u : ByteArray) (k : Nat), k ≤ t.size ∧ vk = .int .i64 k ∧ vu = .string u ∧ u.size ≤ k ∧ u.data.toList.Sublist (t.data.toList.take k)) (fun _ vk => t.size - (intOf vk).toNat)
  case atStart => exact ⟨ByteArray.empty, 0, by omega, rfl, rfl, by simp, List.nil_sublist _⟩
  case round =>
    obtain ⟨u, k, hk, rfl, rfl, hu, hsub⟩ := hrel
    have HS := Lib.hid hsub
    clear hsub
    by_cases hlt : k < t.size
    · have z1 : (0 : Int) ≤ (k : Int) := by omega
      have z2 : (k : Int) + 1 ≤ (t.size : Int) := by omega
      have z3 : ((k : Int) + 1).toNat = k + 1 := by omega
      have z4 : u.size + (t.extract k (k + 1)).size ≤ 9223372036854775807 := by simp; omega
      have z5 : (k + 1) - k = 1 := by omega
      have hx : (t.extract k (k + 1)).data.toList = [t.data.toList[k]'(by rw [HL.out]; exact hlt)] := by
        rw [extract_mid, List.take_succ_eq_append_getElem (by rw [HL.out]; exact hlt), List.drop_append_of_le_length (by rw [List.length_take, HL.out]; omega)]
        rw [List.drop_of_length_le (by rw [List.length_take]; omega)]; rfl
      have HX := Lib.hid hx
      clear hx
      have KS : Hid (∃ (u_1 : ByteArray), u_1 = u ++ t.extract k (k + 1) ∧ u_1.size ≤ k + 1 ∧ u_1.data.toList.Sublist (t.data.toList.take (k + 1))) :=
        ⟨_, rfl, by simp; omega, by rw [ByteArray.data_append, Array.toList_append, HX.out]; exact keep_sub HS.out _⟩
      have SK : Hid (u.size ≤ k + 1 ∧ u.data.toList.Sublist (t.data.toList.take (k + 1))) := ⟨by omega, skip_sub HS.out⟩
      by_cases hkn : n ≤ k
      · go_wp2
        go_round
        case rel => exact ⟨_, k + 1, by omega, by go_num, rfl, by obtain ⟨x, hx, h1, h2⟩ := KS.out; subst hx; exact ⟨h1, h2⟩⟩
        case measure => simp [intOf]; omega
      · obtain ⟨a, rfl, hc, hab⟩ := HBB.out k (by omega)
        simp only [] at hc
        have q1 : (k : Int) < (n : Int) := by omega
        cases hbk : B k
        · rw [hbk] at hc
          clear hbk
          go_wp2
          go_round
          case rel => exact ⟨_, k + 1, by omega, by go_num, rfl, SK.out⟩
          case measure => simp [intOf]; omega
        · rw [hbk] at hc
          clear hbk
          go_wp2
          go_round
          case rel => exact ⟨_, k + 1, by omega, by go_num, rfl, by obtain ⟨x, hx, h1, h2⟩ := KS.out; subst hx; exact ⟨h1, h2⟩⟩
          case measure => simp [intOf]; omega
    · obtain rfl : k = t.size := by omega
      have hS := fun w => isSubword_any u t w (by unfold maxLen; omega) (by unfold maxLen; omega)
      rw [show subB u.data.toList t.data.toList = true from (subB_iff _ _).2 (by have := HS.out; rwa [List.take_of_length_le (by rw [HL.out]; omega)] at this)] at hS
      have S := Lib.hid hS
      clear hS
      by_cases h : 0 ≤ i ∧ i ≤ j ∧ j ≤ (t.size : Int)
      · obtain ⟨i1, i2, i3⟩ := h
        obtain ⟨I, rfl⟩ := Int.eq_ofNat_of_zero_le i1
        obtain ⟨J, rfl⟩ := Int.eq_ofNat_of_zero_le (show 0 ≤ j by omega)
        have hF := fun w hm => isFactor_any (t.extract I J) t m w (by omega) hm
        rw [cutS_mid_fac] at hF
        have F := Lib.hid hF
        clear hF
        go_wp2_with fail
        refine (S.out _).mono ?_
        rintro e w1 ⟨rfl, hb1⟩
        have B1 := Lib.hid hb1
        clear hb1
        go_wp2_with fail
        refine (F.out _ ?_).mono ?_
        · rw [B1.out.cell (p := ⟨0, 0, none⟩) (World.block_lt_of_cell? w _ HM.out)]; exact HM.out
        rintro e w1 ⟨rfl, rfl⟩
        go_wp2_with fail
        refine (awake_any _).mono ?_
        rintro e w4 ⟨rfl, hb4⟩
        have B4 := Lib.hid (B1.out.trans (hb4.mono B1.out.size))
        clear hb4
        go_wp2
        go_ret
        exact ⟨rfl, B4.out⟩
      · by_cases h1 : i < 0
        · clear h
          go_wp2_with fail
          refine (S.out _).mono ?_
          rintro e w1 ⟨rfl, hb1⟩
          have B1 := Lib.hid hb1
          clear hb1
          go_wp2_with fail
          refine (awake_any _).mono ?_
          rintro e w4 ⟨rfl, hb4⟩
          have B4 := Lib.hid (B1.out.trans (hb4.mono B1.out.size))
          clear hb4
          go_wp2
          go_ret
          exact ⟨rfl, B4.out⟩
        · by_cases h2 : j < i
          all_goals
            try have h3 : (t.size : Int) < j := by omega
            clear h
            go_wp2_with fail
            refine (S.out _).mono ?_
            rintro e w1 ⟨rfl, hb1⟩
            have B1 := Lib.hid hb1
            clear hb1
            go_wp2_with fail
            refine (awake_any _).mono ?_
            rintro e w4 ⟨rfl, hb4⟩
            have B4 := Lib.hid (B1.out.trans (hb4.mono B1.out.size))
            clear hb4
            go_wp2
            go_ret
            exact ⟨rfl, B4.out⟩

set_option maxRecDepth 100000 in
set_option maxHeartbeats 1000000 in
theorem WordConjugates_walk (u v x y : ByteArray) (m : Int) (w : World) (hu : u.size ≤ maxLen) (hv : v.size ≤ maxLen) (hx : x.size ≤ maxLen) (hy : y.size ≤ maxLen) (hm : w.cell? ⟨0, 0, none⟩ = some (.int .i64 m)) :
    Calls Try.prog 18 #[.string u, .string v, .string x, .string y] w fun e w' => e = .returned (.bool true) ∧ Below w.heap.size w w' := by
  have l1 := cutS_le u 100
  have l2 := cutS_le v 100
  have l3 := cutS_le x 50
  have l4 := cutS_le y 50
  have C1 := Lib.hid fun w => cut_any u 100 w hu (by omega)
  have C2 := Lib.hid fun w => cut_any v 100 w hv (by omega)
  have C3 := Lib.hid fun w => cut_any x 50 w hx (by omega)
  have C4 := Lib.hid fun w => cut_any y 50 w hy (by omega)
  generalize cutS u 100 = u1 at *
  generalize cutS v 100 = v1 at *
  generalize cutS x 50 = x1 at *
  generalize cutS y 50 = y1 at *
  have HM := Lib.hid hm
  clear hm
  have H0 : ∀ (w' : World), Below w.heap.size w w' → w'.cell? ⟨0, 0, none⟩ = some (.int .i64 m) := fun w' hb => by
    rw [hb.cell (p := ⟨0, 0, none⟩) (World.block_lt_of_cell? w _ HM.out)]; exact HM.out
  have K1 := Lib.hid fun w hm => conj_any u1 v1 m w (by omega) (by omega) hm
  have hK2 := fun w hm => conj_any v1 u1 m w (by omega) (by omega) hm
  rw [conjB_symm u1.data.toList v1.data.toList] at hK2
  have K2 := Lib.hid hK2
  have K3 := Lib.hid fun w => refConj_any u1 v1 w (by omega) (by omega)
  have hK4 := fun w hm => conj_any (x1 ++ y1) (y1 ++ x1) m w (by simp; omega) (by simp; omega) hm
  have dxy : (x1 ++ y1).data.toList = x1.data.toList ++ y1.data.toList := by simp [ByteArray.data_append]
  have dyx : (y1 ++ x1).data.toList = y1.data.toList ++ x1.data.toList := by simp [ByteArray.data_append]
  rw [show conjB (x1 ++ y1).data.toList (y1 ++ x1).data.toList = true by rw [dxy, dyx]; exact conjB_swap _ _] at hK4
  have K4 := Lib.hid hK4
  have R1 := Lib.hid fun w => root_any (x1 ++ y1) w (by simp; omega)
  have hR2 := fun w => root_any (y1 ++ x1) w (by simp; omega)
  have hrl : rootLen (y1 ++ x1).data.toList = rootLen (x1 ++ y1).data.toList := by rw [dxy, dyx]; exact rootLen_swap _ _
  have hsz : (y1 ++ x1).size = (x1 ++ y1).size := by simp; omega
  have hE : rootE (y1 ++ x1) = rootE (x1 ++ y1) := by unfold rootE; rw [hrl, hsz]
  have hZ : (rootS (y1 ++ x1)).size = (rootS (x1 ++ y1)).size := by unfold rootS; rw [cutS_size, cutS_size, hrl, hsz]
  rw [hE] at hR2
  have R2 := Lib.hid hR2
  have ZZ : (((rootS (x1 ++ y1)).size : Int) == ((rootS (y1 ++ x1)).size : Int)) = true := by rw [hZ]; simp
  have d1 : x1.size + y1.size ≤ 9223372036854775807 := by omega
  have d2 : y1.size + x1.size ≤ 9223372036854775807 := by omega
  clear hK2 hK4 hR2 hE hZ hsz hrl dxy dyx hu hv hx hy
  generalize conjB u1.data.toList v1.data.toList = b at *
  generalize rootE (x1 ++ y1) = E at *
  generalize rootS (x1 ++ y1) = r1 at *
  generalize rootS (y1 ++ x1) = r2 at *
  have H0' := Lib.hid H0
  clear H0
  cases b
  all_goals
    go_enter Try.func18, Try.ntmps18
    go_wp2_with fail
    refine (C1.out _).mono ?_
    rintro e w1 ⟨rfl, rfl⟩
    go_wp2_with fail
    refine (C2.out _).mono ?_
    rintro e w1 ⟨rfl, rfl⟩
    go_wp2_with fail
    refine (C3.out _).mono ?_
    rintro e w1 ⟨rfl, rfl⟩
    go_wp2_with fail
    refine (C4.out _).mono ?_
    rintro e w1 ⟨rfl, rfl⟩
    go_wp2_with fail
    refine (K1.out _ HM.out).mono ?_
    rintro e w1 ⟨rfl, rfl⟩
    go_wp2_with fail
    refine (K3.out _).mono ?_
    rintro e w1 ⟨rfl, hb1⟩
    have B1 := Lib.hid hb1
    clear hb1
    go_wp2_with fail
    refine (K2.out _ (H0'.out _ B1.out)).mono ?_
    rintro e w2 ⟨rfl, rfl⟩
    go_wp2_with fail
    refine (K1.out _ (H0'.out _ B1.out)).mono ?_
    rintro e w2 ⟨rfl, rfl⟩
    go_wp2_with fail
    refine (R1.out _).mono ?_
    rintro e w2 ⟨rfl, hb2⟩
    have B2 := Lib.hid (B1.out.trans (hb2.mono B1.out.size))
    clear hb2
    go_wp2_with fail
    refine (R2.out _).mono ?_
    rintro e w3 ⟨rfl, hb3⟩
    have B3 := Lib.hid (B2.out.trans (hb3.mono B2.out.size))
    clear hb3
    go_wp2_with fail
    refine (K4.out _ (H0'.out _ B3.out)).mono ?_
    rintro e w4 ⟨rfl, rfl⟩
    go_wp2_with fail
    refine (awake_any _).mono ?_
    rintro e w4 ⟨rfl, hb4⟩
    have B4 := Lib.hid (B3.out.trans (hb4.mono B3.out.size))
    clear hb4
    go_wp2
    go_ret
    exact ⟨rfl, B4.out⟩
end Go.Proofs.Ytndgafhdeddbjaa
