/- The laws WordRanks and WordUnranks: their walks. -/
import Derived.Test.YtndgafhdeddbjaaRank
namespace Go.Proofs.Ytndgafhdeddbjaa
set_option linter.unusedVariables false
open Go.RowKit

theorem wf_range {n : Int} (h : (Lit.int .i64 n).wf = true) : -9223372036854775808 ≤ n ∧ n ≤ 9223372036854775807 := by
  simpa [Lit.wf, IntKind.min, IntKind.max, IntKind.bits, IntKind.signed] using h

set_option maxRecDepth 100000 in
set_option maxHeartbeats 400000 in
theorem WordRanks_walk (s : ByteArray) (L : Int) (w : World) (hs : s.size ≤ maxLen) (_ : (Lit.int .i64 L).wf = true) :
    Calls Try.prog 4 #[.string s, .int .i64 L] w fun e w' => e = .returned (.bool true) ∧ Below w.heap.size w w' := by
  have hR := rank_any s L
  have hR' := refRank_any s L
  cases hr : rankL s.data.toList L with
  | none =>
    rw [hr] at hR hR'
    have R := Lib.hid hR
    have R' := Lib.hid hR'
    clear hr hR hR'
    go_enter Try.func4, Try.ntmps4
    go_wp2_with fail
    refine (R.out _ hs).mono ?_
    rintro e w1 ⟨rfl, rfl⟩
    go_wp2_with fail
    refine (R'.out _ hs).mono ?_
    rintro e w1 ⟨rfl, rfl⟩
    go_wp2_with fail
    refine (awake_any _).mono ?_
    rintro e w1 ⟨rfl, hb⟩
    have Hb := Lib.hid hb
    clear hb
    go_wp2
    go_ret
    exact ⟨rfl, Hb.out⟩
  | some n =>
    obtain ⟨hm, hu, hn⟩ := rank_unrank hr
    rw [hr] at hR hR'
    have hU := fun w => unrank_any n L w (by omega)
    rw [hm, hu] at hU
    have R := Lib.hid hR
    have R' := Lib.hid hR'
    have U := Lib.hid hU
    clear hr hR hR' hU hm hu
    go_enter Try.func4, Try.ntmps4
    go_wp2_with fail
    refine (R.out _ hs).mono ?_
    rintro e w1 ⟨rfl, rfl⟩
    go_wp2_with fail
    refine (R'.out _ hs).mono ?_
    rintro e w1 ⟨rfl, rfl⟩
    go_wp2_with fail
    refine (U.out _).mono ?_
    rintro e w1 ⟨rfl, hb⟩
    have Hb := Lib.hid hb
    clear hb
    go_wp2_with fail
    refine (awake_any _).mono ?_
    rintro e w2 ⟨rfl, hb2⟩
    have Hb2 := Lib.hid hb2
    clear hb2
    go_wp2
    go_ret
    exact ⟨rfl, Hb.out.trans (Hb2.out.mono Hb.out.size)⟩

set_option maxRecDepth 100000 in
set_option maxHeartbeats 400000 in
theorem WordUnranks_walk (n L : Int) (w : World) (hn : (Lit.int .i64 n).wf = true) (_ : (Lit.int .i64 L).wf = true) :
    Calls Try.prog 5 #[.int .i64 n, .int .i64 L] w fun e w' => e = .returned (.bool true) ∧ Below w.heap.size w w' := by
  have hn' := wf_range hn
  have hU := fun w => unrank_any n L w hn'
  have hU' := fun w => refUnrank_any n L w hn'
  cases hm : mayUnrank n L with
  | false =>
    have hu : unrankL n L = [] := by simp [unrankL, hm]
    rw [hm, hu] at hU hU'
    have U := Lib.hid hU
    have U' := Lib.hid hU'
    clear hU hU' hm hu hn hn'
    go_enter Try.func5, Try.ntmps5
    go_wp2_with fail
    refine (U.out _).mono ?_
    rintro e w1 ⟨rfl, hb1⟩
    have Hb1 := Lib.hid hb1
    clear hb1
    go_wp2_with fail
    refine (U'.out _).mono ?_
    rintro e w2 ⟨rfl, hb2⟩
    have Hb2 := Lib.hid (hb2.mono Hb1.out.size)
    clear hb2
    go_wp2_with fail
    refine (awake_any _).mono ?_
    rintro e w3 ⟨rfl, hb3⟩
    have Hb3 := Lib.hid (hb3.mono (Nat.le_trans Hb1.out.size Hb2.out.size))
    clear hb3
    go_wp2
    go_ret
    exact ⟨rfl, (Hb1.out.trans Hb2.out).trans Hb3.out⟩
  | true =>
    obtain ⟨hr, h0, hl⟩ := unrank_rank hm
    rw [hm] at hU hU'
    have hR := rank_any ⟨(unrankL n L).toArray⟩ L
    have hsz : (⟨(unrankL n L).toArray⟩ : ByteArray).size ≤ maxLen := by
      show (unrankL n L).toArray.size ≤ maxLen
      simp [maxLen]; omega
    rw [show (⟨(unrankL n L).toArray⟩ : ByteArray).data.toList = unrankL n L by simp, hr] at hR
    have R := Lib.hid (fun w => hR w hsz)
    have U := Lib.hid hU
    have U' := Lib.hid hU'
    have hnn : ((n.toNat : Nat) : Int) = n := Int.toNat_of_nonneg h0
    have NN := Lib.hid hnn
    clear hU hU' hm hR hr hn hn' hsz hnn
    generalize unrankL n L = l at *
    go_enter Try.func5, Try.ntmps5
    go_wp2_with fail
    refine (U.out _).mono ?_
    rintro e w1 ⟨rfl, hb1⟩
    have Hb1 := Lib.hid hb1
    clear hb1
    go_wp2_with fail
    refine (U'.out _).mono ?_
    rintro e w2 ⟨rfl, hb2⟩
    have Hb2 := Lib.hid (hb2.mono Hb1.out.size)
    clear hb2
    go_wp2_with fail
    refine (R.out _).mono ?_
    rintro e w3 ⟨rfl, rfl⟩
    rw [Option.getD_some, NN.out]
    go_wp2_with fail
    refine (awake_any _).mono ?_
    rintro e w4 ⟨rfl, hb3⟩
    have Hb3 := Lib.hid (hb3.mono (Nat.le_trans Hb1.out.size Hb2.out.size))
    clear hb3
    go_wp2
    go_ret
    exact ⟨rfl, (Hb1.out.trans Hb2.out).trans Hb3.out⟩
end Go.Proofs.Ytndgafhdeddbjaa
