/- The walk of the law WordSuccessors. -/
import Derived.Test.YtndgafhdeddbjaaComp
namespace Go.Proofs.Ytndgafhdeddbjaa
set_option linter.unusedVariables false
set_option linter.unusedSimpArgs false
open Go.RowKit

/-- The word of a rank, as a string. -/
abbrev unrankS (n L : Int) : ByteArray := ⟨(unrankL n L).toArray⟩

theorem unrankS_toList (n L : Int) : (unrankS n L).data.toList = unrankL n L := rfl

theorem may_bounds {n L : Int} (h : mayUnrank n L = true) : 1 ≤ L ∧ L ≤ 6 ∧ 0 ≤ n ∧ n ≤ 4611686018427387904 ∧ (L = 1 → n ≤ 2048) := by
  simp [mayUnrank, okLetters] at h; omega

theorem unrankS_size (n L : Int) (h : mayUnrank n L = true) : (unrankS n L).size ≤ 2048 := by
  obtain ⟨h1, h2, h3, h4, h5⟩ := may_bounds h
  show (unrankL n L).toArray.size ≤ 2048
  have := revWord_length L.toNat n.toNat (by omega) (by omega) (by omega)
  simp only [unrankL, if_pos h]
  simpa using this

theorem unrank_wv (n L : Int) (h : mayUnrank n L = true) : wv L.toNat 0 (unrankL n L) = n.toNat ∧ InL L.toNat (unrankL n L) := by
  obtain ⟨h1, h2, h3, h4, h5⟩ := may_bounds h
  simp only [unrankL, if_pos h]
  exact ⟨wv_rev _ (by omega) (by omega) _, fun c hc => inL_rev _ (by omega) (by omega) _ c (List.mem_reverse.1 hc)⟩

theorem succ_lt (n L : Int) (h : mayUnrank n L = true) (h' : mayUnrank (n + 1) L = true) : cmpW (unrankL n L) (unrankL (n + 1) L) < 0 := by
  obtain ⟨a1, a2⟩ := unrank_wv n L h
  obtain ⟨b1, b2⟩ := unrank_wv (n + 1) L h'
  have := may_bounds h
  exact (wv_iff (by omega) a2 b2).2 (by omega)

theorem not_between (n L : Int) (h : mayUnrank n L = true) (h' : mayUnrank (n + 1) L = true) (x : List UInt8) (hx : validB x L = true)
    (h1 : cmpW (unrankL n L) x < 0) (h2 : cmpW x (unrankL (n + 1) L) < 0) : False := by
  obtain ⟨a1, a2⟩ := unrank_wv n L h
  obtain ⟨b1, b2⟩ := unrank_wv (n + 1) L h'
  have hb := may_bounds h
  have hx2 : InL L.toNat x := fun c hc => by
    simp [validB, okLetters, letterIn] at hx
    have := hx.2 c hc
    omega
  have e1 := (wv_iff (by omega) a2 hx2).1 h1
  have e2 := (wv_iff (by omega) hx2 b2).1 h2
  omega

set_option maxRecDepth 100000 in
set_option maxHeartbeats 400000 in
theorem WordSuccessors_walk (n L : Int) (x : ByteArray) (w : World) (wn : (Lit.int .i64 n).wf = true) (_ : (Lit.int .i64 L).wf = true) (hx : x.size ≤ maxLen) :
    Calls Try.prog 15 #[.int .i64 n, .int .i64 L, .string x] w fun e w' => e = .returned (.bool true) ∧ Below w.heap.size w w' := by
  have wn' : -9223372036854775808 ≤ n ∧ n ≤ 9223372036854775807 := by simpa [Lit.wf, IntKind.min, IntKind.max, IntKind.bits, IntKind.signed] using wn
  clear wn
  obtain ⟨wn1, wn2⟩ := wn'
  by_cases hn : 0 ≤ n ∧ n < 4611686018427387904
  case neg =>
    by_cases k1 : n < 0
    all_goals
      try have k2 : 4611686018427387904 ≤ n := by omega
      clear hn
      go_enter Try.func15, Try.ntmps15
      go_wp2_with fail
      refine (awake_any _).mono ?_
      rintro e w4 ⟨rfl, hb4⟩
      have B4 := Lib.hid hb4
      clear hb4
      go_wp2
      go_ret
      exact ⟨rfl, B4.out⟩
  case pos =>
    obtain ⟨n1, n2⟩ := hn
    have hU1 := fun w => unrank_any n L w (by omega)
    have hU2 := fun w => unrank_any (n + 1) L w (by omega)
    by_cases hm : mayUnrank n L = true ∧ mayUnrank (n + 1) L = true
    case neg =>
      rcases hq : (mayUnrank n L) with _ | _
      · rw [hq] at hU1
        generalize mayUnrank (n + 1) L = q at *
        generalize unrankL n L = s1 at *
        generalize unrankL (n + 1) L = s2 at *
        have U1 := Lib.hid hU1
        have U2 := Lib.hid hU2
        clear hU1 hU2 hm hq
        go_enter Try.func15, Try.ntmps15
        go_wp2_with fail
        refine (U1.out _).mono ?_
        rintro e w1 ⟨rfl, hb1⟩
        have B1 := Lib.hid hb1
        clear hb1
        go_wp2_with fail
        refine (U2.out _).mono ?_
        rintro e w2 ⟨rfl, hb2⟩
        have B2 := Lib.hid (B1.out.trans (hb2.mono B1.out.size))
        clear hb2
        go_wp2_with fail
        refine (awake_any _).mono ?_
        rintro e w4 ⟨rfl, hb4⟩
        have B4 := Lib.hid (B2.out.trans (hb4.mono B2.out.size))
        clear hb4
        go_wp2
        go_ret
        exact ⟨rfl, B4.out⟩
      · have hq2 : mayUnrank (n + 1) L = false := by
          cases h : mayUnrank (n + 1) L
          · rfl
          · exact absurd ⟨hq, h⟩ hm
        rw [hq] at hU1
        rw [hq2] at hU2
        generalize unrankL n L = s1 at *
        generalize unrankL (n + 1) L = s2 at *
        have U1 := Lib.hid hU1
        have U2 := Lib.hid hU2
        clear hU1 hU2 hm hq hq2
        go_enter Try.func15, Try.ntmps15
        go_wp2_with fail
        refine (U1.out _).mono ?_
        rintro e w1 ⟨rfl, hb1⟩
        have B1 := Lib.hid hb1
        clear hb1
        go_wp2_with fail
        refine (U2.out _).mono ?_
        rintro e w2 ⟨rfl, hb2⟩
        have B2 := Lib.hid (B1.out.trans (hb2.mono B1.out.size))
        clear hb2
        go_wp2_with fail
        refine (awake_any _).mono ?_
        rintro e w4 ⟨rfl, hb4⟩
        have B4 := Lib.hid (B2.out.trans (hb4.mono B2.out.size))
        clear hb4
        go_wp2
        go_ret
        exact ⟨rfl, B4.out⟩
    case pos =>
      obtain ⟨m1, m2⟩ := hm
      have z1 := unrankS_size n L m1
      have z2 := unrankS_size (n + 1) L m2
      have hlt := succ_lt n L m1 m2
      have hnb := not_between n L m1 m2 x.data.toList
      have V := Lib.hid fun w => valid_any x L w hx
      have C1 := Lib.hid fun w => compare_any (unrankS n L) x w (by unfold maxLen; omega) hx
      have C2 := Lib.hid fun w => compare_any x (unrankS (n + 1) L) w hx (by unfold maxLen; omega)
      have C3 := Lib.hid fun w => compare_any (unrankS n L) (unrankS (n + 1) L) w (by unfold maxLen; omega) (by unfold maxLen; omega)
      simp only [cmpS, unrankS_toList] at C1 C2 C3
      rw [m1, show strV (unrankL n L) = .string (unrankS n L) from rfl] at hU1
      rw [m2, show strV (unrankL (n + 1) L) = .string (unrankS (n + 1) L) from rfl] at hU2
      have U1 := Lib.hid hU1
      have U2 := Lib.hid hU2
      clear hU1 hU2 z1 z2 m1 m2 hx
      generalize cmpW (unrankL n L) x.data.toList = a at *
      generalize cmpW x.data.toList (unrankL (n + 1) L) = b at *
      generalize cmpW (unrankL n L) (unrankL (n + 1) L) = c at *
      generalize unrankS n L = s1 at *
      generalize unrankS (n + 1) L = s2 at *
      by_cases k1 : validB x.data.toList L = true
      · by_cases k2 : a < 0
        · have k3 : ¬ b < 0 := fun k3 => hnb k1 k2 k3
          rw [k1] at V
          clear hnb k1
          go_enter Try.func15, Try.ntmps15
          go_wp2_with fail
          refine (U1.out _).mono ?_
          rintro e w1 ⟨rfl, hb1⟩
          have B1 := Lib.hid hb1
          clear hb1
          go_wp2_with fail
          refine (U2.out _).mono ?_
          rintro e w2 ⟨rfl, hb2⟩
          have B2 := Lib.hid (B1.out.trans (hb2.mono B1.out.size))
          clear hb2
          go_wp2_with fail
          refine (V.out _).mono ?_
          rintro e w3 ⟨rfl, rfl⟩
          go_wp2_with fail
          refine (C1.out _).mono ?_
          rintro e w3 ⟨rfl, rfl⟩
          go_wp2_with fail
          refine (C2.out _).mono ?_
          rintro e w3 ⟨rfl, rfl⟩
          go_wp2_with fail
          refine (C3.out _).mono ?_
          rintro e w3 ⟨rfl, rfl⟩
          go_wp2_with fail
          refine (awake_any _).mono ?_
          rintro e w4 ⟨rfl, hb4⟩
          have B4 := Lib.hid (B2.out.trans (hb4.mono B2.out.size))
          clear hb4
          go_wp2
          go_ret
          exact ⟨ret_bool (a := !decide (b < 0)) (b := true) (by simp; omega), B4.out⟩
        · rw [k1] at V
          clear hnb k1
          go_enter Try.func15, Try.ntmps15
          go_wp2_with fail
          refine (U1.out _).mono ?_
          rintro e w1 ⟨rfl, hb1⟩
          have B1 := Lib.hid hb1
          clear hb1
          go_wp2_with fail
          refine (U2.out _).mono ?_
          rintro e w2 ⟨rfl, hb2⟩
          have B2 := Lib.hid (B1.out.trans (hb2.mono B1.out.size))
          clear hb2
          go_wp2_with fail
          refine (V.out _).mono ?_
          rintro e w3 ⟨rfl, rfl⟩
          go_wp2_with fail
          refine (C1.out _).mono ?_
          rintro e w3 ⟨rfl, rfl⟩
          go_wp2_with fail
          refine (C3.out _).mono ?_
          rintro e w3 ⟨rfl, rfl⟩
          go_wp2_with fail
          refine (awake_any _).mono ?_
          rintro e w4 ⟨rfl, hb4⟩
          have B4 := Lib.hid (B2.out.trans (hb4.mono B2.out.size))
          clear hb4
          go_wp2
          go_ret
          exact ⟨rfl, B4.out⟩
      · rw [Bool.eq_false_iff.2 k1] at V
        clear hnb k1
        go_enter Try.func15, Try.ntmps15
        go_wp2_with fail
        refine (U1.out _).mono ?_
        rintro e w1 ⟨rfl, hb1⟩
        have B1 := Lib.hid hb1
        clear hb1
        go_wp2_with fail
        refine (U2.out _).mono ?_
        rintro e w2 ⟨rfl, hb2⟩
        have B2 := Lib.hid (B1.out.trans (hb2.mono B1.out.size))
        clear hb2
        go_wp2_with fail
        refine (V.out _).mono ?_
        rintro e w3 ⟨rfl, rfl⟩
        go_wp2_with fail
        refine (C3.out _).mono ?_
        rintro e w3 ⟨rfl, rfl⟩
        go_wp2_with fail
        refine (awake_any _).mono ?_
        rintro e w4 ⟨rfl, hb4⟩
        have B4 := Lib.hid (B2.out.trans (hb4.mono B2.out.size))
        clear hb4
        go_wp2
        go_ret
        exact ⟨rfl, B4.out⟩
end Go.Proofs.Ytndgafhdeddbjaa
