/- Proved here: a part of the proof of the law at hand, in one text: no condition. -/
import Derived.Test.YthalofddjlhcjaaDoorMO2
import Derived.WalkKit
import Derived.Below
set_option linter.unusedVariables false
set_option linter.unusedSimpArgs false
section
/- The tape: Mod, Next, New, Word, tuple. -/
namespace Go.Proofs.YthalofddjlhcjaaDoor
open Go
set_option maxRecDepth 100000
set_option maxHeartbeats 4000000
set_option linter.unusedVariables false
set_option linter.unusedSimpArgs false

def modI (x n : Int) : Int := if n < 1 then 0 else if x.tmod n < 0 then x.tmod n + n else x.tmod n

theorem c15 (x n : Int) (h1 : In64 n) : L 15 [iT x, iT n] = some (iT (modI x n), [.dead, .dead]) := by
  obtain ⟨h1, h2⟩ := h1
  refine L_run cfn15 fn15 (runF_of bd15 ⟨of_decide_eq_true rfl, of_decide_eq_true rfl⟩ ?_)
  simp only [entryF, entryT, entryO, entryE, isIo]
  by_cases hn : n < 1
  · repeat' (first | refine thenC_n ?_ | refine thenC_x ?_ | refine thenC_r ?_ | refine blockC_n ?_ | refine blockC_hit2 rfl ?_ | refine blockC_miss rfl ?_ | refine blockC_r ?_ | refine loopC_x ?_ | refine loopC_r ?_ | refine rangeC_x ?_ | refine rangeC_r ?_ | refine q_seq rfl ?_ | refine q_block rfl ?_ | (refine q_frz rfl rfl (by simp [*]; rfl) ?_) | (refine q_region rfl rfl rfl fun Q' hQ => ?_; simp [*]; (refine hQ.out _ ?_; clear hQ; clear Q')) | (refine q_if rfl fun Q1 Q2 h1 h2 => ?_; simp [*, twoB_some, twoV_some, ltFI, leFI, ltFN, leFN, guardF, yieldF, getA, opE, rdV, scE, constE]; (try (repeat' (first | refine And.intro ?_ ?_ | intro _))); all_goals (first | (exfalso; omega) | (refine h1.out ?_; clear h1 h2; clear Q1 Q2) | (refine h2.out ?_; clear h1 h2; clear Q1 Q2))) | refine q_exit rfl ?_ | refine q_ret rfl ?_ | refine q_skip rfl ?_ | refine q_label rfl ?_ | refine q_drawW rfl rfl rfl rfl ?_ | (refine q_drawW_nil rfl fun Q' hQ => ?_; simp [*]; (refine hQ.out _ ?_; clear hQ; clear Q')) | (refine q_drawW_op rfl rfl fun Q' hQ => ?_; simp [*]; (refine hQ.out _ ?_; clear hQ; clear Q')) | (refine q_drawW_guard rfl rfl fun Q1 Q2 h1 h2 => ?_; simp [*, twoB_some, twoV_some, ltFI, leFI, ltFN, leFN, grdF, yieldF, getA, opE, rdV, scE, constE]; (try (repeat' (first | refine And.intro ?_ ?_ | intro _))); all_goals (first | (exfalso; omega) | ((first | (exfalso; omega) | (refine h1.out ?_; clear h1 h2; clear Q1 Q2) | (refine h2.out ?_; clear h1 h2; clear Q1 Q2)); intro Q' hQ; simp [*]; (refine hQ.out _ ?_; clear hQ; clear Q')))) | refine q_regionW rfl rfl rfl ?_ | (refine regP_nil (by decide) ?_) | (refine regP_op rfl rfl fun Q' hQ => ?_; simp [*]; (refine hQ.out _ ?_; clear hQ; clear Q')) | (refine regP_guard rfl rfl fun Q1 Q2 h1 h2 => ?_; simp [*, twoB_some, twoV_some, ltFI, leFI, ltFN, leFN, grdF, yieldF, getA, opE, rdV, scE, constE]; (try (repeat' (first | refine And.intro ?_ ?_ | intro _))); all_goals (first | (exfalso; omega) | ((first | (exfalso; omega) | (refine h1.out ?_; clear h1 h2; clear Q1 Q2) | (refine h2.out ?_; clear h1 h2; clear Q1 Q2)); intro Q' hQ; simp [*]; (refine hQ.out _ ?_; clear hQ; clear Q')))))
    have he : modI x n = 0 := by simp [modI, hn]
    simp [*]
  · have h0 : ¬ n = 0 := by omega
    have hx : (x.tmod n) < n := Int.tmod_lt_of_pos _ (by omega)
    by_cases hm : x.tmod n < 0
    · have hw : IntKind.i64.wrap (x.tmod n + n) = x.tmod n + n := by
        have : -n < x.tmod n := Int.lt_tmod_of_pos x (by omega)
        exact wrap_in (by omega) (by omega)
      repeat' (first | refine thenC_n ?_ | refine thenC_x ?_ | refine thenC_r ?_ | refine blockC_n ?_ | refine blockC_hit2 rfl ?_ | refine blockC_miss rfl ?_ | refine blockC_r ?_ | refine loopC_x ?_ | refine loopC_r ?_ | refine rangeC_x ?_ | refine rangeC_r ?_ | refine q_seq rfl ?_ | refine q_block rfl ?_ | (refine q_frz rfl rfl (by simp [*]; rfl) ?_) | (refine q_region rfl rfl rfl fun Q' hQ => ?_; simp [*]; (refine hQ.out _ ?_; clear hQ; clear Q')) | (refine q_if rfl fun Q1 Q2 h1 h2 => ?_; simp [*, twoB_some, twoV_some, ltFI, leFI, ltFN, leFN, guardF, yieldF, getA, opE, rdV, scE, constE]; (try (repeat' (first | refine And.intro ?_ ?_ | intro _))); all_goals (first | (exfalso; omega) | (refine h1.out ?_; clear h1 h2; clear Q1 Q2) | (refine h2.out ?_; clear h1 h2; clear Q1 Q2))) | refine q_exit rfl ?_ | refine q_ret rfl ?_ | refine q_skip rfl ?_ | refine q_label rfl ?_ | refine q_drawW rfl rfl rfl rfl ?_ | (refine q_drawW_nil rfl fun Q' hQ => ?_; simp [*]; (refine hQ.out _ ?_; clear hQ; clear Q')) | (refine q_drawW_op rfl rfl fun Q' hQ => ?_; simp [*]; (refine hQ.out _ ?_; clear hQ; clear Q')) | (refine q_drawW_guard rfl rfl fun Q1 Q2 h1 h2 => ?_; simp [*, twoB_some, twoV_some, ltFI, leFI, ltFN, leFN, grdF, yieldF, getA, opE, rdV, scE, constE]; (try (repeat' (first | refine And.intro ?_ ?_ | intro _))); all_goals (first | (exfalso; omega) | ((first | (exfalso; omega) | (refine h1.out ?_; clear h1 h2; clear Q1 Q2) | (refine h2.out ?_; clear h1 h2; clear Q1 Q2)); intro Q' hQ; simp [*]; (refine hQ.out _ ?_; clear hQ; clear Q')))) | refine q_regionW rfl rfl rfl ?_ | (refine regP_nil (by decide) ?_) | (refine regP_op rfl rfl fun Q' hQ => ?_; simp [*]; (refine hQ.out _ ?_; clear hQ; clear Q')) | (refine regP_guard rfl rfl fun Q1 Q2 h1 h2 => ?_; simp [*, twoB_some, twoV_some, ltFI, leFI, ltFN, leFN, grdF, yieldF, getA, opE, rdV, scE, constE]; (try (repeat' (first | refine And.intro ?_ ?_ | intro _))); all_goals (first | (exfalso; omega) | ((first | (exfalso; omega) | (refine h1.out ?_; clear h1 h2; clear Q1 Q2) | (refine h2.out ?_; clear h1 h2; clear Q1 Q2)); intro Q' hQ; simp [*]; (refine hQ.out _ ?_; clear hQ; clear Q')))))
      have he : modI x n = x.tmod n + n := by simp [modI, hn, hm]
      simp [*]
    · repeat' (first | refine thenC_n ?_ | refine thenC_x ?_ | refine thenC_r ?_ | refine blockC_n ?_ | refine blockC_hit2 rfl ?_ | refine blockC_miss rfl ?_ | refine blockC_r ?_ | refine loopC_x ?_ | refine loopC_r ?_ | refine rangeC_x ?_ | refine rangeC_r ?_ | refine q_seq rfl ?_ | refine q_block rfl ?_ | (refine q_frz rfl rfl (by simp [*]; rfl) ?_) | (refine q_region rfl rfl rfl fun Q' hQ => ?_; simp [*]; (refine hQ.out _ ?_; clear hQ; clear Q')) | (refine q_if rfl fun Q1 Q2 h1 h2 => ?_; simp [*, twoB_some, twoV_some, ltFI, leFI, ltFN, leFN, guardF, yieldF, getA, opE, rdV, scE, constE]; (try (repeat' (first | refine And.intro ?_ ?_ | intro _))); all_goals (first | (exfalso; omega) | (refine h1.out ?_; clear h1 h2; clear Q1 Q2) | (refine h2.out ?_; clear h1 h2; clear Q1 Q2))) | refine q_exit rfl ?_ | refine q_ret rfl ?_ | refine q_skip rfl ?_ | refine q_label rfl ?_ | refine q_drawW rfl rfl rfl rfl ?_ | (refine q_drawW_nil rfl fun Q' hQ => ?_; simp [*]; (refine hQ.out _ ?_; clear hQ; clear Q')) | (refine q_drawW_op rfl rfl fun Q' hQ => ?_; simp [*]; (refine hQ.out _ ?_; clear hQ; clear Q')) | (refine q_drawW_guard rfl rfl fun Q1 Q2 h1 h2 => ?_; simp [*, twoB_some, twoV_some, ltFI, leFI, ltFN, leFN, grdF, yieldF, getA, opE, rdV, scE, constE]; (try (repeat' (first | refine And.intro ?_ ?_ | intro _))); all_goals (first | (exfalso; omega) | ((first | (exfalso; omega) | (refine h1.out ?_; clear h1 h2; clear Q1 Q2) | (refine h2.out ?_; clear h1 h2; clear Q1 Q2)); intro Q' hQ; simp [*]; (refine hQ.out _ ?_; clear hQ; clear Q')))) | refine q_regionW rfl rfl rfl ?_ | (refine regP_nil (by decide) ?_) | (refine regP_op rfl rfl fun Q' hQ => ?_; simp [*]; (refine hQ.out _ ?_; clear hQ; clear Q')) | (refine regP_guard rfl rfl fun Q1 Q2 h1 h2 => ?_; simp [*, twoB_some, twoV_some, ltFI, leFI, ltFN, leFN, grdF, yieldF, getA, opE, rdV, scE, constE]; (try (repeat' (first | refine And.intro ?_ ?_ | intro _))); all_goals (first | (exfalso; omega) | ((first | (exfalso; omega) | (refine h1.out ?_; clear h1 h2; clear Q1 Q2) | (refine h2.out ?_; clear h1 h2; clear Q1 Q2)); intro Q' hQ; simp [*]; (refine hQ.out _ ?_; clear hQ; clear Q')))))
      have he : modI x n = x.tmod n := by simp [modI, hn, hm]
      simp [*]

/-- A tape at a place. -/
abbrev tape (xs : List Int) (i : Nat) : T := .vr [ints xs, iT i]
/-- The next number, and the place behind it. -/
def nxV (xs : List Int) (i : Nat) (n : Int) : Int := if h : i < xs.length then modI xs[i] n else 0
def nxI (xs : List Int) (i : Nat) : Nat := if i < xs.length then i + 1 else i

theorem c16 (xs : List Int) (i : Nat) (n : Int) (h2 : xs.length < 1000) (hi : i < 1000) (h1 : In64 n) : L 16 [tape xs i, iT n] = some (iT (nxV xs i n), [tape xs (nxI xs i), .dead]) := by
  have hm := fun x => c15 x n h1
  obtain ⟨h3, h4⟩ := h1
  have hw : IntKind.i64.wrap ((i : Int) + 1) = i + 1 := wrap_in (by omega) (by omega)
  have hw2 : IntKind.i64.wrap (i : Int) = i := wrap_in (by omega) (by omega)
  refine L_run cfn16 fn16 (runF_of bd16 ⟨of_decide_eq_true rfl, of_decide_eq_true rfl⟩ ?_)
  simp only [entryF, entryT, entryO, entryE, isIo]
  by_cases h : i < xs.length
  · have e1 : nxV xs i n = modI xs[i] n := by simp [nxV, h]
    have e2 : nxI xs i = i + 1 := by simp [nxI, h]
    repeat' (first | refine thenC_n ?_ | refine thenC_x ?_ | refine thenC_r ?_ | refine blockC_n ?_ | refine blockC_hit2 rfl ?_ | refine blockC_miss rfl ?_ | refine blockC_r ?_ | refine loopC_x ?_ | refine loopC_r ?_ | refine rangeC_x ?_ | refine rangeC_r ?_ | refine q_seq rfl ?_ | refine q_block rfl ?_ | (refine q_frz rfl rfl (by simp [*, cf16]; rfl) ?_) | (refine q_region rfl rfl rfl fun Q' hQ => ?_; simp [*, cf16]; (refine hQ.out _ ?_; clear hQ; clear Q')) | (refine q_if rfl fun Q1 Q2 h1 h2 => ?_; simp [*, twoB_some, twoV_some, ltFI, leFI, ltFN, leFN, guardF, yieldF, getA, opE, rdV, scE, constE]; (try (repeat' (first | refine And.intro ?_ ?_ | intro _))); all_goals (first | (exfalso; omega) | (refine h1.out ?_; clear h1 h2; clear Q1 Q2) | (refine h2.out ?_; clear h1 h2; clear Q1 Q2))) | refine q_exit rfl ?_ | refine q_ret rfl ?_ | refine q_skip rfl ?_ | refine q_label rfl ?_ | refine q_drawW rfl rfl rfl rfl ?_ | (refine q_drawW_nil rfl fun Q' hQ => ?_; simp [*, cf16]; (refine hQ.out _ ?_; clear hQ; clear Q')) | (refine q_drawW_op rfl rfl fun Q' hQ => ?_; simp [*, cf16]; (refine hQ.out _ ?_; clear hQ; clear Q')) | (refine q_drawW_guard rfl rfl fun Q1 Q2 h1 h2 => ?_; simp [*, twoB_some, twoV_some, ltFI, leFI, ltFN, leFN, grdF, yieldF, getA, opE, rdV, scE, constE]; (try (repeat' (first | refine And.intro ?_ ?_ | intro _))); all_goals (first | (exfalso; omega) | ((first | (exfalso; omega) | (refine h1.out ?_; clear h1 h2; clear Q1 Q2) | (refine h2.out ?_; clear h1 h2; clear Q1 Q2)); intro Q' hQ; simp [*, cf16]; (refine hQ.out _ ?_; clear hQ; clear Q')))) | refine q_regionW rfl rfl rfl ?_ | (refine regP_nil (by decide) ?_) | (refine regP_op rfl rfl fun Q' hQ => ?_; simp [*, cf16]; (refine hQ.out _ ?_; clear hQ; clear Q')) | (refine regP_guard rfl rfl fun Q1 Q2 h1 h2 => ?_; simp [*, twoB_some, twoV_some, ltFI, leFI, ltFN, leFN, grdF, yieldF, getA, opE, rdV, scE, constE]; (try (repeat' (first | refine And.intro ?_ ?_ | intro _))); all_goals (first | (exfalso; omega) | ((first | (exfalso; omega) | (refine h1.out ?_; clear h1 h2; clear Q1 Q2) | (refine h2.out ?_; clear h1 h2; clear Q1 Q2)); intro Q' hQ; simp [*, cf16]; (refine hQ.out _ ?_; clear hQ; clear Q')))))
    simp [*]
  · have e1 : nxV xs i n = 0 := by simp [nxV, h]
    have e2 : nxI xs i = i := by simp [nxI, h]
    repeat' (first | refine thenC_n ?_ | refine thenC_x ?_ | refine thenC_r ?_ | refine blockC_n ?_ | refine blockC_hit2 rfl ?_ | refine blockC_miss rfl ?_ | refine blockC_r ?_ | refine loopC_x ?_ | refine loopC_r ?_ | refine rangeC_x ?_ | refine rangeC_r ?_ | refine q_seq rfl ?_ | refine q_block rfl ?_ | (refine q_frz rfl rfl (by simp [*, cf16]; rfl) ?_) | (refine q_region rfl rfl rfl fun Q' hQ => ?_; simp [*, cf16]; (refine hQ.out _ ?_; clear hQ; clear Q')) | (refine q_if rfl fun Q1 Q2 h1 h2 => ?_; simp [*, twoB_some, twoV_some, ltFI, leFI, ltFN, leFN, guardF, yieldF, getA, opE, rdV, scE, constE]; (try (repeat' (first | refine And.intro ?_ ?_ | intro _))); all_goals (first | (exfalso; omega) | (refine h1.out ?_; clear h1 h2; clear Q1 Q2) | (refine h2.out ?_; clear h1 h2; clear Q1 Q2))) | refine q_exit rfl ?_ | refine q_ret rfl ?_ | refine q_skip rfl ?_ | refine q_label rfl ?_ | refine q_drawW rfl rfl rfl rfl ?_ | (refine q_drawW_nil rfl fun Q' hQ => ?_; simp [*, cf16]; (refine hQ.out _ ?_; clear hQ; clear Q')) | (refine q_drawW_op rfl rfl fun Q' hQ => ?_; simp [*, cf16]; (refine hQ.out _ ?_; clear hQ; clear Q')) | (refine q_drawW_guard rfl rfl fun Q1 Q2 h1 h2 => ?_; simp [*, twoB_some, twoV_some, ltFI, leFI, ltFN, leFN, grdF, yieldF, getA, opE, rdV, scE, constE]; (try (repeat' (first | refine And.intro ?_ ?_ | intro _))); all_goals (first | (exfalso; omega) | ((first | (exfalso; omega) | (refine h1.out ?_; clear h1 h2; clear Q1 Q2) | (refine h2.out ?_; clear h1 h2; clear Q1 Q2)); intro Q' hQ; simp [*, cf16]; (refine hQ.out _ ?_; clear hQ; clear Q')))) | refine q_regionW rfl rfl rfl ?_ | (refine regP_nil (by decide) ?_) | (refine regP_op rfl rfl fun Q' hQ => ?_; simp [*, cf16]; (refine hQ.out _ ?_; clear hQ; clear Q')) | (refine regP_guard rfl rfl fun Q1 Q2 h1 h2 => ?_; simp [*, twoB_some, twoV_some, ltFI, leFI, ltFN, leFN, grdF, yieldF, getA, opE, rdV, scE, constE]; (try (repeat' (first | refine And.intro ?_ ?_ | intro _))); all_goals (first | (exfalso; omega) | ((first | (exfalso; omega) | (refine h1.out ?_; clear h1 h2; clear Q1 Q2) | (refine h2.out ?_; clear h1 h2; clear Q1 Q2)); intro Q' hQ; simp [*, cf16]; (refine hQ.out _ ?_; clear hQ; clear Q')))))
    simp [*]

theorem c11 (xs : List Int) : L 11 [ints xs] = some (tape (xs.take 80) 0, [.dead]) := by
  refine L_run cfn11 fn11 (runF_of bd11 ⟨of_decide_eq_true rfl, of_decide_eq_true rfl⟩ ?_)
  simp only [entryF, entryT, entryO, entryE, isIo]
  by_cases h : 80 < xs.length
  · have e1 : (xs.take 80).length = 80 := by simp; omega
    have e2 : (80 : Int) ≤ xs.length := by omega
    repeat' (first | refine thenC_n ?_ | refine thenC_x ?_ | refine thenC_r ?_ | refine blockC_n ?_ | refine blockC_hit2 rfl ?_ | refine blockC_miss rfl ?_ | refine blockC_r ?_ | refine loopC_x ?_ | refine loopC_r ?_ | refine rangeC_x ?_ | refine rangeC_r ?_ | refine q_seq rfl ?_ | refine q_block rfl ?_ | (refine q_frz rfl rfl (by simp [*]; rfl) ?_) | (refine q_region rfl rfl rfl fun Q' hQ => ?_; simp [*]; (refine hQ.out _ ?_; clear hQ; clear Q')) | (refine q_if rfl fun Q1 Q2 h1 h2 => ?_; simp [*, twoB_some, twoV_some, ltFI, leFI, ltFN, leFN, guardF, yieldF, getA, opE, rdV, scE, constE]; (try (repeat' (first | refine And.intro ?_ ?_ | intro _))); all_goals (first | (exfalso; omega) | (refine h1.out ?_; clear h1 h2; clear Q1 Q2) | (refine h2.out ?_; clear h1 h2; clear Q1 Q2))) | refine q_exit rfl ?_ | refine q_ret rfl ?_ | refine q_skip rfl ?_ | refine q_label rfl ?_ | refine q_drawW rfl rfl rfl rfl ?_ | (refine q_drawW_nil rfl fun Q' hQ => ?_; simp [*]; (refine hQ.out _ ?_; clear hQ; clear Q')) | (refine q_drawW_op rfl rfl fun Q' hQ => ?_; simp [*]; (refine hQ.out _ ?_; clear hQ; clear Q')) | (refine q_drawW_guard rfl rfl fun Q1 Q2 h1 h2 => ?_; simp [*, twoB_some, twoV_some, ltFI, leFI, ltFN, leFN, grdF, yieldF, getA, opE, rdV, scE, constE]; (try (repeat' (first | refine And.intro ?_ ?_ | intro _))); all_goals (first | (exfalso; omega) | ((first | (exfalso; omega) | (refine h1.out ?_; clear h1 h2; clear Q1 Q2) | (refine h2.out ?_; clear h1 h2; clear Q1 Q2)); intro Q' hQ; simp [*]; (refine hQ.out _ ?_; clear hQ; clear Q')))) | refine q_regionW rfl rfl rfl ?_ | (refine regP_nil (by decide) ?_) | (refine regP_op rfl rfl fun Q' hQ => ?_; simp [*]; (refine hQ.out _ ?_; clear hQ; clear Q')) | (refine regP_guard rfl rfl fun Q1 Q2 h1 h2 => ?_; simp [*, twoB_some, twoV_some, ltFI, leFI, ltFN, leFN, grdF, yieldF, getA, opE, rdV, scE, constE]; (try (repeat' (first | refine And.intro ?_ ?_ | intro _))); all_goals (first | (exfalso; omega) | ((first | (exfalso; omega) | (refine h1.out ?_; clear h1 h2; clear Q1 Q2) | (refine h2.out ?_; clear h1 h2; clear Q1 Q2)); intro Q' hQ; simp [*]; (refine hQ.out _ ?_; clear hQ; clear Q')))))
    simp [*]
  · have e1 : xs.take 80 = xs := List.take_of_length_le (by omega)
    repeat' (first | refine thenC_n ?_ | refine thenC_x ?_ | refine thenC_r ?_ | refine blockC_n ?_ | refine blockC_hit2 rfl ?_ | refine blockC_miss rfl ?_ | refine blockC_r ?_ | refine loopC_x ?_ | refine loopC_r ?_ | refine rangeC_x ?_ | refine rangeC_r ?_ | refine q_seq rfl ?_ | refine q_block rfl ?_ | (refine q_frz rfl rfl (by simp [*]; rfl) ?_) | (refine q_region rfl rfl rfl fun Q' hQ => ?_; simp [*]; (refine hQ.out _ ?_; clear hQ; clear Q')) | (refine q_if rfl fun Q1 Q2 h1 h2 => ?_; simp [*, twoB_some, twoV_some, ltFI, leFI, ltFN, leFN, guardF, yieldF, getA, opE, rdV, scE, constE]; (try (repeat' (first | refine And.intro ?_ ?_ | intro _))); all_goals (first | (exfalso; omega) | (refine h1.out ?_; clear h1 h2; clear Q1 Q2) | (refine h2.out ?_; clear h1 h2; clear Q1 Q2))) | refine q_exit rfl ?_ | refine q_ret rfl ?_ | refine q_skip rfl ?_ | refine q_label rfl ?_ | refine q_drawW rfl rfl rfl rfl ?_ | (refine q_drawW_nil rfl fun Q' hQ => ?_; simp [*]; (refine hQ.out _ ?_; clear hQ; clear Q')) | (refine q_drawW_op rfl rfl fun Q' hQ => ?_; simp [*]; (refine hQ.out _ ?_; clear hQ; clear Q')) | (refine q_drawW_guard rfl rfl fun Q1 Q2 h1 h2 => ?_; simp [*, twoB_some, twoV_some, ltFI, leFI, ltFN, leFN, grdF, yieldF, getA, opE, rdV, scE, constE]; (try (repeat' (first | refine And.intro ?_ ?_ | intro _))); all_goals (first | (exfalso; omega) | ((first | (exfalso; omega) | (refine h1.out ?_; clear h1 h2; clear Q1 Q2) | (refine h2.out ?_; clear h1 h2; clear Q1 Q2)); intro Q' hQ; simp [*]; (refine hQ.out _ ?_; clear hQ; clear Q')))) | refine q_regionW rfl rfl rfl ?_ | (refine regP_nil (by decide) ?_) | (refine regP_op rfl rfl fun Q' hQ => ?_; simp [*]; (refine hQ.out _ ?_; clear hQ; clear Q')) | (refine regP_guard rfl rfl fun Q1 Q2 h1 h2 => ?_; simp [*, twoB_some, twoV_some, ltFI, leFI, ltFN, leFN, grdF, yieldF, getA, opE, rdV, scE, constE]; (try (repeat' (first | refine And.intro ?_ ?_ | intro _))); all_goals (first | (exfalso; omega) | ((first | (exfalso; omega) | (refine h1.out ?_; clear h1 h2; clear Q1 Q2) | (refine h2.out ?_; clear h1 h2; clear Q1 Q2)); intro Q' hQ; simp [*]; (refine hQ.out _ ?_; clear hQ; clear Q')))))
    simp [*]

theorem modI_range (x n : Int) (h : 1 ≤ n) : 0 ≤ modI x n ∧ modI x n < n := by
  have h1 : x.tmod n < n := Int.tmod_lt_of_pos x (by omega)
  have h2 : -n < x.tmod n := Int.lt_tmod_of_pos x (by omega)
  unfold modI
  rw [if_neg (by omega)]
  split <;> omega
theorem nxV_range (xs : List Int) (i : Nat) (n : Int) (h : 1 ≤ n) : 0 ≤ nxV xs i n ∧ nxV xs i n < n := by
  unfold nxV
  split
  · exact modI_range _ _ h
  · omega
theorem nxI_le (xs : List Int) (i : Nat) (h : i ≤ xs.length) : nxI xs i ≤ xs.length := by
  unfold nxI; split <;> omega

/-- A letter's byte. -/
def chr (x : Int) : UInt8 := UInt8.ofNat (97 + x).toNat
theorem chr_nat (x : Int) (h1 : 0 ≤ x) (h2 : x < 100) : ((chr x).toNat : Int) = 97 + x := by
  simp [chr, UInt8.toNat_ofNat']
  omega

/-- A word's letters one by one, and the place on the tape. -/
def wdS (xs : List Int) (i0 : Nat) (m : Int) : Nat → List UInt8 × Nat
  | 0 => ([], i0)
  | k + 1 => let s := wdS xs i0 m k; (s.1 ++ [chr (nxV xs s.2 m)], nxI xs s.2)
theorem wdS_len (xs : List Int) (i0 : Nat) (m : Int) : ∀ k, (wdS xs i0 m k).1.length = k
  | 0 => rfl
  | k + 1 => by simp [wdS, wdS_len xs i0 m k]
theorem wdS_at (xs : List Int) (i0 : Nat) (m : Int) (h : i0 ≤ xs.length) : ∀ k, (wdS xs i0 m k).2 ≤ xs.length
  | 0 => h
  | k + 1 => nxI_le _ _ (wdS_at xs i0 m h k)
def wdV (xs : List Int) (i : Nat) (m most : Int) : List UInt8 := (wdS xs (nxI xs i) m (nxV xs i (most + 1)).toNat).1
def wdI (xs : List Int) (i : Nat) (m most : Int) : Nat := (wdS xs (nxI xs i) m (nxV xs i (most + 1)).toNat).2

def H14 (xs : List Int) (i : Nat) (m : Int) (b : List UInt8) (n : Int) : Fr := ⟨27, [(0, aE 0), (1, rE (iT m)), (7, hE 7), (8, rE (iT n)), (1027, aE 0)], [(0, tape xs i), (7, obytes b)]⟩

theorem c14 (xs : List Int) (i : Nat) (m most : Int) (h2 : xs.length ≤ 80) (hi : i ≤ xs.length) (hm : 1 ≤ m ∧ m ≤ 26) (hk : 0 ≤ most ∧ most < 1000) : L 14 [tape xs i, iT m, iT most] = some (sT ⟨(wdV xs i m most).toArray⟩, [tape xs (wdI xs i m most), .dead, .dead]) := by
  have hw : IntKind.i64.wrap (most + 1) = most + 1 := wrap_in (by omega) (by omega)
  have hn := c16 xs i (most + 1) (by omega) (by omega) ⟨by omega, by omega⟩
  have hr := nxV_range xs i (most + 1) (by omega)
  have hl := nxI_le xs i hi
  refine L_run cfn14 fn14 (runF_of bd14 ⟨of_decide_eq_true rfl, of_decide_eq_true rfl⟩ ?_)
  simp only [entryF, entryT, entryO, entryE, isIo]
  repeat' (first | refine thenC_n ?_ | refine thenC_x ?_ | refine thenC_r ?_ | refine blockC_n ?_ | refine blockC_hit2 rfl ?_ | refine blockC_miss rfl ?_ | refine blockC_r ?_ | refine loopC_x ?_ | refine loopC_r ?_ | refine rangeC_x ?_ | refine rangeC_r ?_ | refine q_seq rfl ?_ | refine q_block rfl ?_ | (refine q_frz rfl rfl (by simp [*]; rfl) ?_) | (refine q_region rfl rfl rfl fun Q' hQ => ?_; simp [*]; (refine hQ.out _ ?_; clear hQ; clear Q')) | (refine q_if rfl fun Q1 Q2 h1 h2 => ?_; simp [*, twoB_some, twoV_some, ltFI, leFI, ltFN, leFN, guardF, yieldF, getA, opE, rdV, scE, constE]; (try (repeat' (first | refine And.intro ?_ ?_ | intro _))); all_goals (first | (exfalso; omega) | (refine h1.out ?_; clear h1 h2; clear Q1 Q2) | (refine h2.out ?_; clear h1 h2; clear Q1 Q2))) | refine q_exit rfl ?_ | refine q_ret rfl ?_ | refine q_skip rfl ?_ | refine q_label rfl ?_ | refine q_drawW rfl rfl rfl rfl ?_ | (refine q_drawW_nil rfl fun Q' hQ => ?_; simp [*]; (refine hQ.out _ ?_; clear hQ; clear Q')) | (refine q_drawW_op rfl rfl fun Q' hQ => ?_; simp [*]; (refine hQ.out _ ?_; clear hQ; clear Q')) | (refine q_drawW_guard rfl rfl fun Q1 Q2 h1 h2 => ?_; simp [*, twoB_some, twoV_some, ltFI, leFI, ltFN, leFN, grdF, yieldF, getA, opE, rdV, scE, constE]; (try (repeat' (first | refine And.intro ?_ ?_ | intro _))); all_goals (first | (exfalso; omega) | ((first | (exfalso; omega) | (refine h1.out ?_; clear h1 h2; clear Q1 Q2) | (refine h2.out ?_; clear h1 h2; clear Q1 Q2)); intro Q' hQ; simp [*]; (refine hQ.out _ ?_; clear hQ; clear Q')))) | refine q_regionW rfl rfl rfl ?_ | (refine regP_nil (by decide) ?_) | (refine regP_op rfl rfl fun Q' hQ => ?_; simp [*]; (refine hQ.out _ ?_; clear hQ; clear Q')) | (refine regP_guard rfl rfl fun Q1 Q2 h1 h2 => ?_; simp [*, twoB_some, twoV_some, ltFI, leFI, ltFN, leFN, grdF, yieldF, getA, opE, rdV, scE, constE]; (try (repeat' (first | refine And.intro ?_ ?_ | intro _))); all_goals (first | (exfalso; omega) | ((first | (exfalso; omega) | (refine h1.out ?_; clear h1 h2; clear Q1 Q2) | (refine h2.out ?_; clear h1 h2; clear Q1 Q2)); intro Q' hQ; simp [*]; (refine hQ.out _ ?_; clear hQ; clear Q')))))
  generalize hN : nxV xs i (most + 1) = N at *
  generalize hI : nxI xs i = I at *
  refine q_loop rfl rfl (n := N.toNat) (fun q fr => ∃ k : Nat, (k : Int) ≤ N ∧ (q : Int) = N - k ∧ fr = H14 xs (wdS xs I m k).2 m (wdS xs I m k).1 (N - k)) (by simp only [LFm]; omega) ?_ ?_
  · refine ⟨0, by omega, by omega, ?_⟩
    simp [*, cf14, H14, wdS]
  · intro q fr ⟨k, k1, k2, hfr⟩
    subst hfr
    have hat := wdS_at xs I m hl k
    have hn2 := c16 xs (wdS xs I m k).2 m (by omega) (by omega) ⟨by omega, by omega⟩
    have hr2 := nxV_range xs (wdS xs I m k).2 m (by omega)
    have hlen := wdS_len xs I m k
    have hw1 : IntKind.i64.wrap (97 + nxV xs (wdS xs I m k).2 m) = (chr (nxV xs (wdS xs I m k).2 m)).toNat := by
      rw [chr_nat _ (by omega) (by omega)]; exact wrap_in (by omega) (by omega)
    have hb1 : k + 1 ≤ 140737488355328 := by omega
    have hb2 : k + 1 ≤ 4611686018427387904 := by omega
    have hw3 : IntKind.i64.wrap (N - k - 1) = N - k - 1 := wrap_in (by omega) (by omega)
    simp only [H14]
    repeat' (first | refine thenC_n ?_ | refine thenC_x ?_ | refine thenC_r ?_ | refine blockC_n ?_ | refine blockC_hit2 rfl ?_ | refine blockC_miss rfl ?_ | refine blockC_r ?_ | refine loopC_x ?_ | refine loopC_r ?_ | refine rangeC_x ?_ | refine rangeC_r ?_ | refine q_seq rfl ?_ | refine q_block rfl ?_ | (refine q_frz rfl rfl (by simp [*]; rfl) ?_) | (refine q_region rfl rfl rfl fun Q' hQ => ?_; simp [*]; (refine hQ.out _ ?_; clear hQ; clear Q')) | (refine q_if rfl fun Q1 Q2 h1 h2 => ?_; simp [*, twoB_some, twoV_some, ltFI, leFI, ltFN, leFN, guardF, yieldF, getA, opE, rdV, scE, constE]; (try (repeat' (first | refine And.intro ?_ ?_ | intro _))); all_goals (first | (exfalso; omega) | (refine h1.out ?_; clear h1 h2; clear Q1 Q2) | (refine h2.out ?_; clear h1 h2; clear Q1 Q2))) | refine q_exit rfl ?_ | refine q_ret rfl ?_ | refine q_skip rfl ?_ | refine q_label rfl ?_ | refine q_drawW rfl rfl rfl rfl ?_ | (refine q_drawW_nil rfl fun Q' hQ => ?_; simp [*]; (refine hQ.out _ ?_; clear hQ; clear Q')) | (refine q_drawW_op rfl rfl fun Q' hQ => ?_; simp [*]; (refine hQ.out _ ?_; clear hQ; clear Q')) | (refine q_drawW_guard rfl rfl fun Q1 Q2 h1 h2 => ?_; simp [*, twoB_some, twoV_some, ltFI, leFI, ltFN, leFN, grdF, yieldF, getA, opE, rdV, scE, constE]; (try (repeat' (first | refine And.intro ?_ ?_ | intro _))); all_goals (first | (exfalso; omega) | ((first | (exfalso; omega) | (refine h1.out ?_; clear h1 h2; clear Q1 Q2) | (refine h2.out ?_; clear h1 h2; clear Q1 Q2)); intro Q' hQ; simp [*]; (refine hQ.out _ ?_; clear hQ; clear Q')))) | refine q_regionW rfl rfl rfl ?_ | (refine regP_nil (by decide) ?_) | (refine regP_op rfl rfl fun Q' hQ => ?_; simp [*]; (refine hQ.out _ ?_; clear hQ; clear Q')) | (refine regP_guard rfl rfl fun Q1 Q2 h1 h2 => ?_; simp [*, twoB_some, twoV_some, ltFI, leFI, ltFN, leFN, grdF, yieldF, getA, opE, rdV, scE, constE]; (try (repeat' (first | refine And.intro ?_ ?_ | intro _))); all_goals (first | (exfalso; omega) | ((first | (exfalso; omega) | (refine h1.out ?_; clear h1 h2; clear Q1 Q2) | (refine h2.out ?_; clear h1 h2; clear Q1 Q2)); intro Q' hQ; simp [*]; (refine hQ.out _ ?_; clear hQ; clear Q')))))
    · rename_i hlt
      refine loopC_n (q - 1) (by omega) ⟨k + 1, by omega, by omega, ?_⟩
      have e3 : N - ((k : Int) + 1) = N - k - 1 := by omega
      simp [*, cf14, H14, wdS]
    · rename_i hge
      have e1 : wdV xs i m most = (wdS xs I m k).1 := by simp only [wdV, hN, hI, show N.toNat = k by omega]
      have e2 : wdI xs i m most = (wdS xs I m k).2 := by simp only [wdI, hN, hI, show N.toNat = k by omega]
      simp [*]
end Go.Proofs.YthalofddjlhcjaaDoor
end
section
/- Views of slices of integers, of rows and of cascade rows: what a slice value reads as. Over any program. -/
namespace Go.Proofs.YthalofddjlhcjaaDoor
set_option linter.unusedVariables false
set_option linter.unusedSimpArgs false
open Go.RowKit

/-- The first n cells behind an address hold F. -/
def Cells (w : World) (ga : Option Addr) (n : Nat) (F : Nat → Value) : Prop := ∀ j, j < n → ∃ g o, ga = some ⟨g, o, none⟩ ∧ w.cell? ⟨g, o + j, none⟩ = some (F j)

theorem Addr_add_block (a : Addr) (j : Nat) : (a.add j).block = a.block := by unfold Addr.add; split <;> rfl

theorem cell_below {w w' : World} (hb : Below w.heap.size w w') {a : Addr} {v : Value} (h : w.cell? a = some v) : w'.cell? a = some v := by
  rw [hb.cell (World.block_lt_of_cell? w a h)]; exact h

theorem Cells.below {w w' : World} {ga : Option Addr} {n : Nat} {F : Nat → Value} (h : Cells w ga n F) (hb : Below w.heap.size w w') : Cells w' ga n F := fun j hj => by
  obtain ⟨g, o, e, hc⟩ := h j hj
  exact ⟨g, o, e, cell_below hb hc⟩

theorem Cells.mono {w : World} {ga : Option Addr} {n m : Nat} {F : Nat → Value} (h : Cells w ga n F) (hm : m ≤ n) : Cells w ga m F := fun j hj => h j (by omega)
theorem Cells.congr {w : World} {ga : Option Addr} {n : Nat} {F G : Nat → Value} (h : Cells w ga n F) (e : ∀ j, j < n → F j = G j) : Cells w ga n G := fun j hj => by
  obtain ⟨g, o, e1, hc⟩ := h j hj
  exact ⟨g, o, e1, by rw [hc, e j hj]⟩

/-- The value is a slice of integers that reads as xs. -/
def IntsAt (w : World) (v : Value) (xs : List Int) : Prop :=
  ∃ ga cap, v = .slice ga xs.length cap ∧ xs.length ≤ cap ∧ cap ≤ maxLen ∧ Cells w ga xs.length (fun j => .int .i64 (xs.getD j 0))

theorem IntsAt.below {w w' : World} {v : Value} {xs : List Int} (h : IntsAt w v xs) (hb : Below w.heap.size w w') : IntsAt w' v xs := by
  obtain ⟨ga, cap, e, h1, h2, h3⟩ := h
  exact ⟨ga, cap, e, h1, h2, h3.below hb⟩

/-- The value is a slice of slices of integers. -/
def RowsAt (w : World) (v : Value) (rows : List (List Int)) : Prop :=
  ∃ ga cap, ∃ F : Nat → Value, v = .slice ga rows.length cap ∧ rows.length ≤ cap ∧ cap ≤ maxLen ∧ Cells w ga rows.length F ∧ ∀ j, j < rows.length → IntsAt w (F j) (rows.getD j [])

theorem RowsAt.below {w w' : World} {v : Value} {rows : List (List Int)} (h : RowsAt w v rows) (hb : Below w.heap.size w w') : RowsAt w' v rows := by
  obtain ⟨ga, cap, F, e, h1, h2, h3, h4⟩ := h
  exact ⟨ga, cap, F, e, h1, h2, h3.below hb, fun j hj => (h4 j hj).below hb⟩

/-- A cascade's row. -/
structure CRow where
  pre : List Int
  maps : List (List Int)

/-- A cascade. -/
structure Casc where
  letters : Int
  sizes : List Int
  rows : List CRow

/-- The value is a slice of cascade rows. -/
def CRowsAt (w : World) (v : Value) (rows : List CRow) : Prop :=
  ∃ ga cap, ∃ F G : Nat → Value, v = .slice ga rows.length cap ∧ rows.length ≤ cap ∧ cap ≤ maxLen ∧ ∀ j, (h : j < rows.length) → ∃ g o, ga = some ⟨g, o, none⟩ ∧ w.cell? ⟨g, o + j * 2, none⟩ = some (F j) ∧ w.cell? ⟨g, o + j * 2 + 1, none⟩ = some (G j) ∧ IntsAt w (F j) rows[j].pre ∧ RowsAt w (G j) rows[j].maps

theorem CRowsAt.below {w w' : World} {v : Value} {rows : List CRow} (h : CRowsAt w v rows) (hb : Below w.heap.size w w') : CRowsAt w' v rows := by
  obtain ⟨ga, cap, F, G, e, h1, h2, h3⟩ := h
  refine ⟨ga, cap, F, G, e, h1, h2, fun j hj => ?_⟩
  obtain ⟨g, o, e1, c1, c2, i1, i2⟩ := h3 j hj
  exact ⟨g, o, e1, cell_below hb c1, cell_below hb c2, i1.below hb, i2.below hb⟩

/-- The value is a cascade. -/
def CascAt (w : World) (v : Value) (c : Casc) : Prop :=
  ∃ s r, v = .agg #[.int .i64 c.letters, s, r] ∧ IntsAt w s c.sizes ∧ CRowsAt w r c.rows

theorem CascAt.below {w w' : World} {v : Value} {c : Casc} (h : CascAt w v c) (hb : Below w.heap.size w w') : CascAt w' v c := by
  obtain ⟨s, r, e, h1, h2⟩ := h
  exact ⟨s, r, e, h1.below hb, h2.below hb⟩
end Go.Proofs.YthalofddjlhcjaaDoor
end
section
/- Plain facts on lists of numbers and cascades. No program. -/
namespace Go.Proofs.YthalofddjlhcjaaDoor
set_option linter.unusedVariables false
set_option linter.unusedSimpArgs false

/-- The lexicographic order of lists. -/
def lexLt : List Int → List Int → Bool
  | _, [] => false
  | [], _ :: _ => true
  | a :: x, b :: y => decide (a < b) || (decide (a = b) && lexLt x y)

/-- What slices.Compare answers. -/
def cmpL : List Int → List Int → Int
  | [], [] => 0
  | [], _ :: _ => -1
  | _ :: _, [] => 1
  | a :: x, b :: y => if a < b then -1 else if b < a then 1 else cmpL x y

/-- The order of prefixes. -/
def cmpR (a b : List Int) : Int := if a.length < b.length then -1 else if b.length < a.length then 1 else cmpL a b

/-- All states lie below the sizes. -/
def inB (sizes xs : List Int) : Bool := (xs.zip sizes).all fun p => decide (0 ≤ p.1) && decide (p.1 < p.2)

def tupB (sizes xs : List Int) : Bool := decide (xs.length = sizes.length) && inB sizes xs

theorem getD_of_lt {α : Type} {l : List α} {i : Nat} (d : α) (h : i < l.length) : l.getD i d = l[i] := by simp [List.getD, List.getElem?_eq_getElem h]

theorem list_ext_getD {xs ys : List Int} (hl : xs.length = ys.length) (h : ∀ i, i < xs.length → xs.getD i 0 = ys.getD i 0) : xs = ys := by
  apply List.ext_getElem hl
  intro i h1 h2
  have := h i h1
  rwa [getD_of_lt 0 h1, getD_of_lt 0 h2] at this

theorem inB_iff (sizes xs : List Int) (hl : xs.length ≤ sizes.length) : inB sizes xs = true ↔ ∀ i, i < xs.length → 0 ≤ xs.getD i 0 ∧ xs.getD i 0 < sizes.getD i 0 := by
  unfold inB
  rw [List.all_eq_true]
  constructor
  · intro h i hi
    have hz : i < (xs.zip sizes).length := by simp; omega
    have := h (xs.zip sizes)[i] (List.getElem_mem _)
    simp only [List.getElem_zip, Bool.and_eq_true, decide_eq_true_eq] at this
    rw [getD_of_lt 0 hi, getD_of_lt 0 (by omega)]
    exact this
  · intro h p hp
    obtain ⟨i, hi, rfl⟩ := List.getElem_of_mem hp
    have hz : i < xs.length := by simp at hi; omega
    have := h i hz
    rw [getD_of_lt 0 hz, getD_of_lt 0 (by omega)] at this
    simp only [List.getElem_zip, Bool.and_eq_true, decide_eq_true_eq]
    exact this

theorem inB_false (sizes xs : List Int) (hl : xs.length ≤ sizes.length) (i : Nat) (hi : i < xs.length) (h : ¬ (0 ≤ xs.getD i 0 ∧ xs.getD i 0 < sizes.getD i 0)) : inB sizes xs = false := by
  rw [← Bool.not_eq_true, inB_iff _ _ hl]
  exact fun h' => h (h' i hi)

theorem lexLt_take : ∀ (xs ys : List Int) (k : Nat), k < xs.length → k < ys.length → (∀ i, i < k → xs.getD i 0 = ys.getD i 0) → xs.getD k 0 ≠ ys.getD k 0 → lexLt xs ys = decide (xs.getD k 0 < ys.getD k 0)
  | [], _, k, h, _, _, _ => by simp at h
  | _ :: _, [], k, _, h, _, _ => by simp at h
  | a :: x, b :: y, 0, _, _, _, hne => by
    simp at hne
    simp [lexLt, hne]
  | a :: x, b :: y, k + 1, h1, h2, he, hne => by
    have h0 := he 0 (by omega)
    simp at h0
    subst h0
    have ih := lexLt_take x y k (by simpa using h1) (by simpa using h2) (fun i hi => by have := he (i + 1) (by omega); simpa using this) (by simpa using hne)
    simp [lexLt] at ih ⊢
    exact ih

theorem lexLt_end : ∀ (xs ys : List Int), (∀ i, i < xs.length → i < ys.length → xs.getD i 0 = ys.getD i 0) → lexLt xs ys = decide (xs.length < ys.length)
  | [], [], _ => by simp [lexLt]
  | [], _ :: _, _ => by simp [lexLt]
  | _ :: _, [], _ => by simp [lexLt]
  | a :: x, b :: y, he => by
    have h0 := he 0 (by simp) (by simp)
    simp at h0
    subst h0
    have ih := lexLt_end x y (fun i h1 h2 => by have := he (i + 1) (by simpa using h1) (by simpa using h2); simpa using this)
    simp [lexLt, ih]

theorem cmpL_take : ∀ (xs ys : List Int) (k : Nat), k < xs.length → k < ys.length → (∀ i, i < k → xs.getD i 0 = ys.getD i 0) → xs.getD k 0 ≠ ys.getD k 0 → cmpL xs ys = if xs.getD k 0 < ys.getD k 0 then -1 else 1
  | [], _, k, h, _, _, _ => by simp at h
  | _ :: _, [], k, _, h, _, _ => by simp at h
  | a :: x, b :: y, 0, _, _, _, hne => by
    simp at hne
    simp only [cmpL, List.getD_cons_zero]
    by_cases h : a < b
    · simp [h]
    · have : b < a := by omega
      simp [h, this]
  | a :: x, b :: y, k + 1, h1, h2, he, hne => by
    have h0 := he 0 (by omega)
    simp at h0
    subst h0
    have ih := cmpL_take x y k (by simpa using h1) (by simpa using h2) (fun i hi => by have := he (i + 1) (by omega); simpa using this) (by simpa using hne)
    simp [cmpL] at ih ⊢
    exact ih

theorem cmpL_end : ∀ (xs ys : List Int), (∀ i, i < xs.length → i < ys.length → xs.getD i 0 = ys.getD i 0) → cmpL xs ys = if xs.length < ys.length then -1 else if ys.length < xs.length then 1 else 0
  | [], [], _ => by simp [cmpL]
  | [], _ :: _, _ => by simp [cmpL]
  | _ :: _, [], _ => by simp [cmpL]
  | a :: x, b :: y, he => by
    have h0 := he 0 (by simp) (by simp)
    simp at h0
    subst h0
    have ih := cmpL_end x y (fun i h1 h2 => by have := he (i + 1) (by simpa using h1) (by simpa using h2); simpa using this)
    simp [cmpL, ih]

theorem cmpL_lt : ∀ (xs ys : List Int), lexLt xs ys = decide (cmpL xs ys < 0)
  | [], [] => by simp [cmpL, lexLt]
  | [], _ :: _ => by simp [cmpL, lexLt]
  | _ :: _, [] => by simp [cmpL, lexLt]
  | a :: x, b :: y => by
    have ih := cmpL_lt x y
    simp only [cmpL, lexLt, ih]
    by_cases h : a < b
    · simp [h]
    · by_cases h2 : b < a
      · have : a ≠ b := by omega
        simp [h, h2, this]
      · have : a = b := by omega
        simp [this]

theorem cmpL_range : ∀ (xs ys : List Int), cmpL xs ys = -1 ∨ cmpL xs ys = 0 ∨ cmpL xs ys = 1
  | [], [] => by simp [cmpL]
  | [], _ :: _ => by simp [cmpL]
  | _ :: _, [] => by simp [cmpL]
  | a :: x, b :: y => by
    have ih := cmpL_range x y
    simp only [cmpL]
    split
    · simp
    · split
      · simp
      · exact ih

theorem cmpL_zero : ∀ (xs ys : List Int), cmpL xs ys = 0 ↔ xs = ys
  | [], [] => by simp [cmpL]
  | [], _ :: _ => by simp [cmpL]
  | _ :: _, [] => by simp [cmpL]
  | a :: x, b :: y => by
    have ih := cmpL_zero x y
    simp only [cmpL]
    by_cases h : a < b
    · have : a ≠ b := by omega
      simp [h, this]
    · by_cases h2 : b < a
      · have : a ≠ b := by omega
        simp [h, h2, this]
      · have : a = b := by omega
        simp [this, ih]

theorem cmpR_range (a b : List Int) : cmpR a b = -1 ∨ cmpR a b = 0 ∨ cmpR a b = 1 := by
  have := cmpL_range a b
  unfold cmpR; split
  · simp
  · split
    · simp
    · exact this

theorem cmpR_zero (a b : List Int) : cmpR a b = 0 ↔ a = b := by
  have := cmpL_zero a b
  unfold cmpR
  by_cases h : a.length < b.length
  · simp only [if_pos h]
    constructor
    · omega
    · intro e; subst e; omega
  · by_cases h2 : b.length < a.length
    · simp only [if_neg h, if_pos h2]
      constructor
      · omega
      · intro e; subst e; omega
    · simp only [if_neg h, if_neg h2]; exact this

/-- A map of a component with n states. -/
def mapB (n : Int) (m : List Int) : Bool := decide ((m.length : Int) = n) && m.all fun s => decide (0 ≤ s) && decide (s < n)

/-- A row of the right form. -/
def rowB (c : Casc) (r : CRow) : Bool := decide (r.pre.length < c.sizes.length) && inB c.sizes r.pre && decide ((r.maps.length : Int) = c.letters) && r.maps.all (mapB (c.sizes.getD r.pre.length 0))

theorem tupB_take (sizes xs : List Int) (h : xs.length < sizes.length) : tupB (sizes.take xs.length) xs = inB sizes xs := by
  have hl : (sizes.take xs.length).length = xs.length := by rw [List.length_take]; omega
  have e : ∀ i, i < xs.length → (sizes.take xs.length).getD i 0 = sizes.getD i 0 := fun i hi => by
    simp only [List.getD, List.getElem?_take_of_lt hi]
  have : tupB (sizes.take xs.length) xs = inB (sizes.take xs.length) xs := by simp [tupB, hl]
  rw [this, Bool.eq_iff_iff, inB_iff _ _ (by omega), inB_iff _ _ (by omega)]
  constructor
  · intro h i hi; have := h i hi; rwa [e i hi] at this
  · intro h i hi; rw [e i hi]; exact h i hi

theorem all_getD {α : Type} (p : α → Bool) (l : List α) (d : α) : l.all p = true ↔ ∀ i, i < l.length → p (l.getD i d) = true := by
  rw [List.all_eq_true]
  constructor
  · intro h i hi; rw [getD_of_lt d hi]; exact h _ (List.getElem_mem _)
  · intro h x hx
    obtain ⟨i, hi, rfl⟩ := List.getElem_of_mem hx
    have := h i hi
    rwa [getD_of_lt d hi] at this

theorem all_getD_false {α : Type} (p : α → Bool) (l : List α) (d : α) (i : Nat) (hi : i < l.length) (h : p (l.getD i d) = false) : l.all p = false := by
  rw [← Bool.not_eq_true, all_getD p l d]
  intro h'
  rw [h' i hi] at h
  cases h

theorem mapB_iff (n : Int) (m : List Int) (hl : (m.length : Int) = n) : mapB n m = true ↔ ∀ i, i < m.length → 0 ≤ m.getD i 0 ∧ m.getD i 0 < n := by
  unfold mapB
  rw [decide_eq_true hl, Bool.true_and, all_getD _ _ 0]
  simp

theorem rowB_short (c : Casc) (r : CRow) (h : ¬ r.pre.length < c.sizes.length) : rowB c r = false := by simp [rowB, h]
theorem rowB_in (c : Casc) (r : CRow) (h : inB c.sizes r.pre = false) : rowB c r = false := by simp [rowB, h]
theorem rowB_letters (c : Casc) (r : CRow) (h : ¬ (r.maps.length : Int) = c.letters) : rowB c r = false := by simp [rowB, h]
theorem rowB_maps (c : Casc) (r : CRow) (h1 : r.pre.length < c.sizes.length) (h2 : inB c.sizes r.pre = true) (h3 : (r.maps.length : Int) = c.letters) : rowB c r = r.maps.all (mapB (c.sizes.getD r.pre.length 0)) := by
  simp [rowB, h1, h2, h3]

/-- The rows have the right form and ascend. -/
def rowsUpB (c : Casc) (k : Nat) : Bool := (List.range k).all fun i => rowB c (c.rows.getD i ⟨[], []⟩) && (decide (i = 0) || decide (cmpR (c.rows.getD (i - 1) ⟨[], []⟩).pre (c.rows.getD i ⟨[], []⟩).pre < 0))

/-- The first error of a cascade. -/
def validE (c : Casc) : Int :=
  if c.letters < 1 ∨ 6 < c.letters then 1
  else if 24 < c.sizes.length ∨ 48000 < c.rows.length then 3
  else if (c.sizes.all fun n => decide (1 ≤ n) && decide (n ≤ 32)) && rowsUpB c c.rows.length then 0 else 23

theorem rowsUpB_succ (c : Casc) (k : Nat) : rowsUpB c (k + 1) = (rowsUpB c k && (rowB c (c.rows.getD k ⟨[], []⟩) && (decide (k = 0) || decide (cmpR (c.rows.getD (k - 1) ⟨[], []⟩).pre (c.rows.getD k ⟨[], []⟩).pre < 0)))) := by
  simp [rowsUpB, List.range_succ, List.all_append]

theorem rowsUpB_mono (c : Casc) {k n : Nat} (h : k ≤ n) (hf : rowsUpB c k = false) : rowsUpB c n = false := by
  rw [← Bool.not_eq_true] at hf ⊢
  intro h'
  apply hf
  simp only [rowsUpB, List.all_eq_true, List.mem_range] at h' ⊢
  exact fun i hi => h' i (by omega)
end Go.Proofs.YthalofddjlhcjaaDoor
end
section
/- More plain facts on cascades. No program. -/
namespace Go.Proofs.YthalofddjlhcjaaDoor
set_option linter.unusedVariables false
set_option linter.unusedSimpArgs false

theorem cmpL_trans : ∀ (a b c : List Int), cmpL a b < 0 → cmpL b c < 0 → cmpL a c < 0
  | [], _, [] => by intro h1 h2; cases ‹List Int› <;> simp [cmpL] at *
  | [], _, _ :: _ => by simp [cmpL]
  | _ :: _, [], _ => by simp [cmpL]
  | _ :: _, _ :: _, [] => by simp [cmpL]
  | a :: us, b :: bs, c :: cs => by
    have h := cmpL_trans us bs cs
    simp only [cmpL]
    intro h1 h2
    by_cases ab : a < b
    · by_cases bc : b < c
      · rw [if_pos (by omega)]; omega
      · by_cases cb : c < b
        · rw [if_neg bc, if_pos cb] at h2; omega
        · rw [if_pos (by omega)]; omega
    · by_cases ba : b < a
      · rw [if_neg ab, if_pos ba] at h1; omega
      · have : a = b := by omega
        subst this
        rw [if_neg ab, if_neg ba] at h1
        by_cases bc : a < c
        · rw [if_pos bc]; omega
        · by_cases cb : c < a
          · rw [if_neg bc, if_pos cb] at h2; omega
          · rw [if_neg bc, if_neg cb] at h2 ⊢
            exact h h1 h2

theorem cmpR_trans (a b c : List Int) (h1 : cmpR a b < 0) (h2 : cmpR b c < 0) : cmpR a c < 0 := by
  have := cmpL_trans a b c
  unfold cmpR at *
  by_cases ab : a.length < b.length
  · by_cases cb : c.length < b.length
    · rw [if_neg (by omega), if_pos cb] at h2; omega
    · rw [if_pos (by omega)]; omega
  · by_cases ba : b.length < a.length
    · rw [if_neg ab, if_pos ba] at h1; omega
    · rw [if_neg ab, if_neg ba] at h1
      by_cases bc : b.length < c.length
      · rw [if_pos (by omega)]; omega
      · by_cases cb : c.length < b.length
        · rw [if_neg bc, if_pos cb] at h2; omega
        · rw [if_neg bc, if_neg cb] at h2
          rw [if_neg (by omega), if_neg (by omega)]
          exact this h1 h2

/-- The rows ascend. -/
def UpR (rows : List CRow) : Prop := ∀ i j (hi : i < rows.length) (hj : j < rows.length), i < j → cmpR rows[i].pre rows[j].pre < 0

theorem upR_of (c : Casc) (h : rowsUpB c c.rows.length = true) : UpR c.rows := by
  have adj : ∀ i (h1 : i + 1 < c.rows.length), cmpR c.rows[i].pre c.rows[i + 1].pre < 0 := fun i h1 => by
    simp only [rowsUpB, List.all_eq_true, List.mem_range] at h
    have := h (i + 1) h1
    simp only [Nat.add_sub_cancel, getD_of_lt _ h1, getD_of_lt _ (show i < c.rows.length by omega)] at this
    rw [Bool.and_eq_true] at this
    simpa using this.2
  intro i j hi hj hij
  induction j with
  | zero => omega
  | succ j ih =>
    by_cases e : i = j
    · subst e; exact adj i hj
    · exact cmpR_trans _ _ _ (ih (by omega) (by omega)) (adj j hj)

/-- What a cascade without an error is like. -/
structure Valid (c : Casc) : Prop where
  l1 : 1 ≤ c.letters
  l2 : c.letters ≤ 6
  s1 : c.sizes.length ≤ 24
  r1 : c.rows.length ≤ 48000
  sz : ∀ i, i < c.sizes.length → 1 ≤ c.sizes.getD i 0 ∧ c.sizes.getD i 0 ≤ 32
  up : UpR c.rows
  row : ∀ i (h : i < c.rows.length), rowB c c.rows[i] = true

theorem valid_of (c : Casc) (h : validE c = 0) : Valid c := by
  unfold validE at h
  split at h
  · cases h
  · rename_i a1
    split at h
    · cases h
    · rename_i a2
      split at h
      · rename_i a3
        rw [Bool.and_eq_true] at a3
        obtain ⟨b1, b2⟩ := a3
        refine ⟨by omega, by omega, by omega, by omega, fun i hi => ?_, upR_of c b2, fun i hi => ?_⟩
        · have := (all_getD _ _ 0).1 b1 i hi
          rw [Bool.and_eq_true, decide_eq_true_iff, decide_eq_true_iff] at this
          exact this
        · simp only [rowsUpB, List.all_eq_true, List.mem_range] at b2
          have := b2 i hi
          rw [Bool.and_eq_true, getD_of_lt _ hi] at this
          exact this.1
      · cases h

theorem rowB_facts {c : Casc} {r : CRow} (h : rowB c r = true) : r.pre.length < c.sizes.length ∧ inB c.sizes r.pre = true ∧ (r.maps.length : Int) = c.letters ∧
    ∀ i, i < r.maps.length → ((r.maps.getD i []).length : Int) = c.sizes.getD r.pre.length 0 ∧ ∀ j, j < (r.maps.getD i []).length → 0 ≤ (r.maps.getD i []).getD j 0 ∧ (r.maps.getD i []).getD j 0 < c.sizes.getD r.pre.length 0 := by
  unfold rowB at h
  simp only [Bool.and_eq_true, decide_eq_true_eq] at h
  obtain ⟨⟨⟨h1, h2⟩, h3⟩, h4⟩ := h
  refine ⟨h1, h2, h3, fun i hi => ?_⟩
  have := (all_getD _ _ []).1 h4 i hi
  have hl : ((r.maps.getD i []).length : Int) = c.sizes.getD r.pre.length 0 := by
    unfold mapB at this
    rw [Bool.and_eq_true, decide_eq_true_iff] at this
    exact this.1
  exact ⟨hl, (mapB_iff _ _ hl).1 this⟩
end Go.Proofs.YthalofddjlhcjaaDoor
end
section
/- A cascade as a tree; a tuple of it. -/
namespace Go.Proofs.YthalofddjlhcjaaDoor
open Go
set_option maxRecDepth 100000
set_option maxHeartbeats 4000000
set_option linter.unusedVariables false
set_option linter.unusedSimpArgs false

/-- Rows: two cells each. -/
def rowCells : List CRow → List T
  | [] => []
  | r :: rs => ints r.pre :: intss r.maps :: rowCells rs
@[simp] theorem rowCells_length : ∀ rs : List CRow, (rowCells rs).length = rs.length * 2
  | [] => rfl
  | r :: rs => by simp [rowCells, rowCells_length rs]; omega
@[simp] theorem le_two {k n : Nat} (h : k < n) : (k * 2 + 2 ≤ n * 2) = True := by simp; omega
@[simp] theorem rowCells_0 : ∀ {rs : List CRow} {k : Nat} (h : k < rs.length), (rowCells rs)[k * 2]? = some (ints rs[k].pre)
  | r :: rs, 0, h => rfl
  | r :: rs, k + 1, h => by
    have := rowCells_0 (rs := rs) (k := k) (by simpa using h)
    simp only [rowCells, Nat.add_mul, Nat.one_mul, List.getElem?_cons_succ]
    exact this
@[simp] theorem rowCells_1 : ∀ {rs : List CRow} {k : Nat} (h : k < rs.length), (rowCells rs)[k * 2 + 1]? = some (intss rs[k].maps)
  | r :: rs, 0, h => rfl
  | r :: rs, k + 1, h => by
    have := rowCells_1 (rs := rs) (k := k) (by simpa using h)
    simp only [rowCells, Nat.add_mul, Nat.one_mul, Nat.add_right_comm _ 2 1, List.getElem?_cons_succ]
    exact this
@[simp] theorem rowCells_g0 {rs : List CRow} {k : Nat} (h : k < rs.length) (h' : k * 2 < (rowCells rs).length) : (rowCells rs)[k * 2]'h' = ints rs[k].pre := by
  have := rowCells_0 h
  rw [List.getElem?_eq_getElem h'] at this
  exact Option.some.inj this
@[simp] theorem rowCells_g1 {rs : List CRow} {k : Nat} (h : k < rs.length) (h' : k * 2 + 1 < (rowCells rs).length) : (rowCells rs)[k * 2 + 1]'h' = intss rs[k].maps := by
  have := rowCells_1 h
  rw [List.getElem?_eq_getElem h'] at this
  exact Option.some.inj this
@[simp] theorem rowCells_part : ∀ {rs : List CRow} {k : Nat} (h : k < rs.length), ((rowCells rs).drop (k * 2)).take 2 = [ints rs[k].pre, intss rs[k].maps]
  | r :: rs, 0, h => rfl
  | r :: rs, k + 1, h => by
    have := rowCells_part (rs := rs) (k := k) (by simpa using h)
    simp only [rowCells, Nat.add_mul, Nat.one_mul, List.drop_succ_cons]
    exact this
@[simp] theorem rowCells_demark : ∀ rs : List CRow, (rowCells rs).map demark = rowCells rs
  | [] => rfl
  | r :: rs => by simp [rowCells, rowCells_demark rs]
abbrev rowT (r : CRow) : T := .agg [ints r.pre, intss r.maps]
abbrev rowsT (rs : List CRow) : T := .sl rs.length (rowCells rs)
abbrev cascT (c : Casc) : T := .agg [iT c.letters, ints c.sizes, rowsT c.rows]

/-- A tuple's numbers one by one, and the place on the tape. -/
def tuS (xs : List Int) (i0 : Nat) (sz : List Int) : Nat → List Int × Nat
  | 0 => ([], i0)
  | k + 1 => let s := tuS xs i0 sz k; (s.1 ++ [nxV xs s.2 (sz.getD k 0)], nxI xs s.2)
theorem tuS_len (xs : List Int) (i0 : Nat) (sz : List Int) : ∀ k, (tuS xs i0 sz k).1.length = k
  | 0 => rfl
  | k + 1 => by simp [tuS, tuS_len xs i0 sz k]
theorem tuS_at (xs : List Int) (i0 : Nat) (sz : List Int) (h : i0 ≤ xs.length) : ∀ k, (tuS xs i0 sz k).2 ≤ xs.length
  | 0 => h
  | k + 1 => nxI_le _ _ (tuS_at xs i0 sz h k)
def tuV (xs : List Int) (i : Nat) (sz : List Int) : List Int := (tuS xs i sz sz.length).1
def tuI (xs : List Int) (i : Nat) (sz : List Int) : Nat := (tuS xs i sz sz.length).2

def H13 (xs : List Int) (i : Nat) (sz : List Int) (v : List Int) (k : Nat) : Fr := ⟨24, [(0, aE 0), (5, hE 5), (10, rE (ints sz)), (11, rE (iT sz.length)), (12, rE (iT k)), (1024, aE 0)], [(0, tape xs i), (5, ointsT v)]⟩

theorem c13 (xs : List Int) (i : Nat) (c : Casc) (h2 : xs.length ≤ 80) (hi : i ≤ xs.length) (hs : c.sizes.length ≤ 1000) (hz : ∀ x ∈ c.sizes, In64 x) : L 13 [tape xs i, cascT c] = some (ointsT (tuV xs i c.sizes), [tape xs (tuI xs i c.sizes), .dead]) := by
  refine L_run cfn13 fn13 (runF_of bd13 ⟨of_decide_eq_true rfl, of_decide_eq_true rfl⟩ ?_)
  simp only [entryF, entryT, entryO, entryE, isIo]
  repeat' (first | refine thenC_n ?_ | refine thenC_x ?_ | refine thenC_r ?_ | refine blockC_n ?_ | refine blockC_hit2 rfl ?_ | refine blockC_miss rfl ?_ | refine blockC_r ?_ | refine loopC_x ?_ | refine loopC_r ?_ | refine rangeC_x ?_ | refine rangeC_r ?_ | refine q_seq rfl ?_ | refine q_block rfl ?_ | (refine q_frz rfl rfl (by simp [*]; rfl) ?_) | (refine q_region rfl rfl rfl fun Q' hQ => ?_; simp [*]; (refine hQ.out _ ?_; clear hQ; clear Q')) | (refine q_if rfl fun Q1 Q2 h1 h2 => ?_; simp [*, twoB_some, twoV_some, ltFI, leFI, ltFN, leFN, guardF, yieldF, getA, opE, rdV, scE, constE]; (try (repeat' (first | refine And.intro ?_ ?_ | intro _))); all_goals (first | (exfalso; omega) | (refine h1.out ?_; clear h1 h2; clear Q1 Q2) | (refine h2.out ?_; clear h1 h2; clear Q1 Q2))) | refine q_exit rfl ?_ | refine q_ret rfl ?_ | refine q_skip rfl ?_ | refine q_label rfl ?_ | refine q_drawW rfl rfl rfl rfl ?_ | (refine q_drawW_nil rfl fun Q' hQ => ?_; simp [*]; (refine hQ.out _ ?_; clear hQ; clear Q')) | (refine q_drawW_op rfl rfl fun Q' hQ => ?_; simp [*]; (refine hQ.out _ ?_; clear hQ; clear Q')) | (refine q_drawW_guard rfl rfl fun Q1 Q2 h1 h2 => ?_; simp [*, twoB_some, twoV_some, ltFI, leFI, ltFN, leFN, grdF, yieldF, getA, opE, rdV, scE, constE]; (try (repeat' (first | refine And.intro ?_ ?_ | intro _))); all_goals (first | (exfalso; omega) | ((first | (exfalso; omega) | (refine h1.out ?_; clear h1 h2; clear Q1 Q2) | (refine h2.out ?_; clear h1 h2; clear Q1 Q2)); intro Q' hQ; simp [*]; (refine hQ.out _ ?_; clear hQ; clear Q')))) | refine q_regionW rfl rfl rfl ?_ | (refine regP_nil (by decide) ?_) | (refine regP_op rfl rfl fun Q' hQ => ?_; simp [*]; (refine hQ.out _ ?_; clear hQ; clear Q')) | (refine regP_guard rfl rfl fun Q1 Q2 h1 h2 => ?_; simp [*, twoB_some, twoV_some, ltFI, leFI, ltFN, leFN, grdF, yieldF, getA, opE, rdV, scE, constE]; (try (repeat' (first | refine And.intro ?_ ?_ | intro _))); all_goals (first | (exfalso; omega) | ((first | (exfalso; omega) | (refine h1.out ?_; clear h1 h2; clear Q1 Q2) | (refine h2.out ?_; clear h1 h2; clear Q1 Q2)); intro Q' hQ; simp [*]; (refine hQ.out _ ?_; clear hQ; clear Q')))))
  refine q_range rfl rfl (fun _ => True) (fun k => H13 xs (tuS xs i c.sizes k).2 c.sizes (tuS xs i c.sizes k).1 k) c.sizes.length (by simp only [LFm]; omega) trivial ?_ fun k hk _ => ?_
  · simp [*, cf13, H13, tuS]
  · have hat := tuS_at xs i c.sizes hi k
    have hlen := tuS_len xs i c.sizes k
    have hw3 : IntKind.i64.wrap ((k : Int) + 1) = k + 1 := wrap_in (by omega) (by omega)
    have hb1 : (k + 1) * 8 ≤ 140737488355328 := by omega
    have hb2 : k + 1 ≤ 4611686018427387904 := by omega
    have hn2 := fun h : k < c.sizes.length => c16 xs (tuS xs i c.sizes k).2 c.sizes[k] (by omega) (by omega) (hz _ (List.getElem_mem h))
    simp only [H13]
    repeat' (first | refine thenC_n ?_ | refine thenC_x ?_ | refine thenC_r ?_ | refine blockC_n ?_ | refine blockC_hit2 rfl ?_ | refine blockC_miss rfl ?_ | refine blockC_r ?_ | refine loopC_x ?_ | refine loopC_r ?_ | refine rangeC_x ?_ | refine rangeC_r ?_ | refine q_seq rfl ?_ | refine q_block rfl ?_ | (refine q_frz rfl rfl (by simp [*]; rfl) ?_) | (refine q_region rfl rfl rfl fun Q' hQ => ?_; simp [*]; (refine hQ.out _ ?_; clear hQ; clear Q')) | (refine q_if rfl fun Q1 Q2 h1 h2 => ?_; simp [*, twoB_some, twoV_some, ltFI, leFI, ltFN, leFN, guardF, yieldF, getA, opE, rdV, scE, constE]; (try (repeat' (first | refine And.intro ?_ ?_ | intro _))); all_goals (first | (exfalso; omega) | (refine h1.out ?_; clear h1 h2; clear Q1 Q2) | (refine h2.out ?_; clear h1 h2; clear Q1 Q2))) | refine q_exit rfl ?_ | refine q_ret rfl ?_ | refine q_skip rfl ?_ | refine q_label rfl ?_ | refine q_drawW rfl rfl rfl rfl ?_ | (refine q_drawW_nil rfl fun Q' hQ => ?_; simp [*]; (refine hQ.out _ ?_; clear hQ; clear Q')) | (refine q_drawW_op rfl rfl fun Q' hQ => ?_; simp [*]; (refine hQ.out _ ?_; clear hQ; clear Q')) | (refine q_drawW_guard rfl rfl fun Q1 Q2 h1 h2 => ?_; simp [*, twoB_some, twoV_some, ltFI, leFI, ltFN, leFN, grdF, yieldF, getA, opE, rdV, scE, constE]; (try (repeat' (first | refine And.intro ?_ ?_ | intro _))); all_goals (first | (exfalso; omega) | ((first | (exfalso; omega) | (refine h1.out ?_; clear h1 h2; clear Q1 Q2) | (refine h2.out ?_; clear h1 h2; clear Q1 Q2)); intro Q' hQ; simp [*]; (refine hQ.out _ ?_; clear hQ; clear Q')))) | refine q_regionW rfl rfl rfl ?_ | (refine regP_nil (by decide) ?_) | (refine regP_op rfl rfl fun Q' hQ => ?_; simp [*]; (refine hQ.out _ ?_; clear hQ; clear Q')) | (refine regP_guard rfl rfl fun Q1 Q2 h1 h2 => ?_; simp [*, twoB_some, twoV_some, ltFI, leFI, ltFN, leFN, grdF, yieldF, getA, opE, rdV, scE, constE]; (try (repeat' (first | refine And.intro ?_ ?_ | intro _))); all_goals (first | (exfalso; omega) | ((first | (exfalso; omega) | (refine h1.out ?_; clear h1 h2; clear Q1 Q2) | (refine h2.out ?_; clear h1 h2; clear Q1 Q2)); intro Q' hQ; simp [*]; (refine hQ.out _ ?_; clear hQ; clear Q')))))
    · rename_i hlt
      refine rangeC_n hlt trivial ?_
      simp [*, cf13, H13, tuS]
    · rename_i hge
      have e : k = c.sizes.length := by omega
      have e1 : tuV xs i c.sizes = (tuS xs i c.sizes k).1 := by rw [e]; rfl
      have e2 : tuI xs i c.sizes = (tuS xs i c.sizes k).2 := by rw [e]; rfl
      clear e
      simp [*]
end Go.Proofs.YthalofddjlhcjaaDoor
end
section
/- Comparisons of lists; is a list a tuple? -/
namespace Go.Proofs.YthalofddjlhcjaaDoor
open Go
set_option maxRecDepth 100000
set_option maxHeartbeats 4000000
set_option linter.unusedVariables false
set_option linter.unusedSimpArgs false

theorem c81 (x : Int) : L 81 [iT x] = some (bT false, [.dead]) := by
  refine L_run cfn81 fn81 (runF_of bd81 ⟨of_decide_eq_true rfl, of_decide_eq_true rfl⟩ ?_)
  simp only [entryF, entryT, entryO, entryE, isIo]
  repeat' (first | refine thenC_n ?_ | refine thenC_x ?_ | refine thenC_r ?_ | refine blockC_n ?_ | refine blockC_hit2 rfl ?_ | refine blockC_miss rfl ?_ | refine blockC_r ?_ | refine loopC_x ?_ | refine loopC_r ?_ | refine rangeC_x ?_ | refine rangeC_r ?_ | refine q_seq rfl ?_ | refine q_block rfl ?_ | (refine q_frz rfl rfl (by simp [*]; rfl) ?_) | (refine q_region rfl rfl rfl fun Q' hQ => ?_; simp [*]; (refine hQ.out _ ?_; clear hQ; clear Q')) | (refine q_if rfl fun Q1 Q2 h1 h2 => ?_; simp [*, twoB_some, twoV_some, ltFI, leFI, ltFN, leFN, guardF, yieldF, getA, opE, rdV, scE, constE]; (try (repeat' (first | refine And.intro ?_ ?_ | intro _))); all_goals (first | (exfalso; omega) | (refine h1.out ?_; clear h1 h2; clear Q1 Q2) | (refine h2.out ?_; clear h1 h2; clear Q1 Q2))) | refine q_exit rfl ?_ | refine q_ret rfl ?_ | refine q_skip rfl ?_ | refine q_label rfl ?_ | refine q_drawW rfl rfl rfl rfl ?_ | (refine q_drawW_nil rfl fun Q' hQ => ?_; simp [*]; (refine hQ.out _ ?_; clear hQ; clear Q')) | (refine q_drawW_op rfl rfl fun Q' hQ => ?_; simp [*]; (refine hQ.out _ ?_; clear hQ; clear Q')) | (refine q_drawW_guard rfl rfl fun Q1 Q2 h1 h2 => ?_; simp [*, twoB_some, twoV_some, ltFI, leFI, ltFN, leFN, grdF, yieldF, getA, opE, rdV, scE, constE]; (try (repeat' (first | refine And.intro ?_ ?_ | intro _))); all_goals (first | (exfalso; omega) | ((first | (exfalso; omega) | (refine h1.out ?_; clear h1 h2; clear Q1 Q2) | (refine h2.out ?_; clear h1 h2; clear Q1 Q2)); intro Q' hQ; simp [*]; (refine hQ.out _ ?_; clear hQ; clear Q')))) | refine q_regionW rfl rfl rfl ?_ | (refine regP_nil (by decide) ?_) | (refine regP_op rfl rfl fun Q' hQ => ?_; simp [*]; (refine hQ.out _ ?_; clear hQ; clear Q')) | (refine regP_guard rfl rfl fun Q1 Q2 h1 h2 => ?_; simp [*, twoB_some, twoV_some, ltFI, leFI, ltFN, leFN, grdF, yieldF, getA, opE, rdV, scE, constE]; (try (repeat' (first | refine And.intro ?_ ?_ | intro _))); all_goals (first | (exfalso; omega) | ((first | (exfalso; omega) | (refine h1.out ?_; clear h1 h2; clear Q1 Q2) | (refine h2.out ?_; clear h1 h2; clear Q1 Q2)); intro Q' hQ; simp [*]; (refine hQ.out _ ?_; clear hQ; clear Q')))))
  simp [*]
def cmpI (a b : Int) : Int := if a < b then -1 else if b < a then 1 else 0
theorem c72 (a b : Int) : L 72 [iT a, iT b] = some (iT (cmpI a b), [.dead, .dead]) := by
  have h1 := c81 a
  have h2 := c81 b
  refine L_run cfn72 fn72 (runF_of bd72 ⟨of_decide_eq_true rfl, of_decide_eq_true rfl⟩ ?_)
  simp only [entryF, entryT, entryO, entryE, isIo]
  repeat' (first | refine thenC_n ?_ | refine thenC_x ?_ | refine thenC_r ?_ | refine blockC_n ?_ | refine blockC_hit2 rfl ?_ | refine blockC_miss rfl ?_ | refine blockC_r ?_ | refine loopC_x ?_ | refine loopC_r ?_ | refine rangeC_x ?_ | refine rangeC_r ?_ | refine q_seq rfl ?_ | refine q_block rfl ?_ | (refine q_frz rfl rfl (by simp [*]; rfl) ?_) | (refine q_region rfl rfl rfl fun Q' hQ => ?_; simp [*]; (refine hQ.out _ ?_; clear hQ; clear Q')) | (refine q_if rfl fun Q1 Q2 h1 h2 => ?_; simp [*, twoB_some, twoV_some, ltFI, leFI, ltFN, leFN, guardF, yieldF, getA, opE, rdV, scE, constE]; (try (repeat' (first | refine And.intro ?_ ?_ | intro _))); all_goals (first | (exfalso; omega) | (refine h1.out ?_; clear h1 h2; clear Q1 Q2) | (refine h2.out ?_; clear h1 h2; clear Q1 Q2))) | refine q_exit rfl ?_ | refine q_ret rfl ?_ | refine q_skip rfl ?_ | refine q_label rfl ?_ | refine q_drawW rfl rfl rfl rfl ?_ | (refine q_drawW_nil rfl fun Q' hQ => ?_; simp [*]; (refine hQ.out _ ?_; clear hQ; clear Q')) | (refine q_drawW_op rfl rfl fun Q' hQ => ?_; simp [*]; (refine hQ.out _ ?_; clear hQ; clear Q')) | (refine q_drawW_guard rfl rfl fun Q1 Q2 h1 h2 => ?_; simp [*, twoB_some, twoV_some, ltFI, leFI, ltFN, leFN, grdF, yieldF, getA, opE, rdV, scE, constE]; (try (repeat' (first | refine And.intro ?_ ?_ | intro _))); all_goals (first | (exfalso; omega) | ((first | (exfalso; omega) | (refine h1.out ?_; clear h1 h2; clear Q1 Q2) | (refine h2.out ?_; clear h1 h2; clear Q1 Q2)); intro Q' hQ; simp [*]; (refine hQ.out _ ?_; clear hQ; clear Q')))) | refine q_regionW rfl rfl rfl ?_ | (refine regP_nil (by decide) ?_) | (refine regP_op rfl rfl fun Q' hQ => ?_; simp [*]; (refine hQ.out _ ?_; clear hQ; clear Q')) | (refine regP_guard rfl rfl fun Q1 Q2 h1 h2 => ?_; simp [*, twoB_some, twoV_some, ltFI, leFI, ltFN, leFN, grdF, yieldF, getA, opE, rdV, scE, constE]; (try (repeat' (first | refine And.intro ?_ ?_ | intro _))); all_goals (first | (exfalso; omega) | ((first | (exfalso; omega) | (refine h1.out ?_; clear h1 h2; clear Q1 Q2) | (refine h2.out ?_; clear h1 h2; clear Q1 Q2)); intro Q' hQ; simp [*]; (refine hQ.out _ ?_; clear hQ; clear Q')))))
  · have e : cmpI a b = -1 := by simp [cmpI]; omega
    simp [*]
  · have e : cmpI a b = 1 := by simp [cmpI]; omega
    simp [*]
  · have e : cmpI a b = 0 := by simp [cmpI]; omega
    simp [*]
/-- The first that is not 0, of two. -/
theorem c71 (a b : Int) : L 71 [.sl 2 [iT a, iT b]] = some (iT (if a ≠ 0 then a else b), [.dead]) := by
  refine L_run cfn71 fn71 (runF_of bd71 ⟨of_decide_eq_true rfl, of_decide_eq_true rfl⟩ ?_)
  simp only [entryF, entryT, entryO, entryE, isIo]
  repeat' (first | refine thenC_n ?_ | refine thenC_x ?_ | refine thenC_r ?_ | refine blockC_n ?_ | refine blockC_hit2 rfl ?_ | refine blockC_miss rfl ?_ | refine blockC_r ?_ | refine loopC_x ?_ | refine loopC_r ?_ | refine rangeC_x ?_ | refine rangeC_r ?_ | refine q_seq rfl ?_ | refine q_block rfl ?_ | (refine q_frz rfl rfl (by simp [*]; rfl) ?_) | (refine q_region rfl rfl rfl fun Q' hQ => ?_; simp [*]; (refine hQ.out _ ?_; clear hQ; clear Q')) | (refine q_if rfl fun Q1 Q2 h1 h2 => ?_; simp [*, twoB_some, twoV_some, ltFI, leFI, ltFN, leFN, guardF, yieldF, getA, opE, rdV, scE, constE]; (try (repeat' (first | refine And.intro ?_ ?_ | intro _))); all_goals (first | (exfalso; omega) | (refine h1.out ?_; clear h1 h2; clear Q1 Q2) | (refine h2.out ?_; clear h1 h2; clear Q1 Q2))) | refine q_exit rfl ?_ | refine q_ret rfl ?_ | refine q_skip rfl ?_ | refine q_label rfl ?_ | refine q_drawW rfl rfl rfl rfl ?_ | (refine q_drawW_nil rfl fun Q' hQ => ?_; simp [*]; (refine hQ.out _ ?_; clear hQ; clear Q')) | (refine q_drawW_op rfl rfl fun Q' hQ => ?_; simp [*]; (refine hQ.out _ ?_; clear hQ; clear Q')) | (refine q_drawW_guard rfl rfl fun Q1 Q2 h1 h2 => ?_; simp [*, twoB_some, twoV_some, ltFI, leFI, ltFN, leFN, grdF, yieldF, getA, opE, rdV, scE, constE]; (try (repeat' (first | refine And.intro ?_ ?_ | intro _))); all_goals (first | (exfalso; omega) | ((first | (exfalso; omega) | (refine h1.out ?_; clear h1 h2; clear Q1 Q2) | (refine h2.out ?_; clear h1 h2; clear Q1 Q2)); intro Q' hQ; simp [*]; (refine hQ.out _ ?_; clear hQ; clear Q')))) | refine q_regionW rfl rfl rfl ?_ | (refine regP_nil (by decide) ?_) | (refine regP_op rfl rfl fun Q' hQ => ?_; simp [*]; (refine hQ.out _ ?_; clear hQ; clear Q')) | (refine regP_guard rfl rfl fun Q1 Q2 h1 h2 => ?_; simp [*, twoB_some, twoV_some, ltFI, leFI, ltFN, leFN, grdF, yieldF, getA, opE, rdV, scE, constE]; (try (repeat' (first | refine And.intro ?_ ?_ | intro _))); all_goals (first | (exfalso; omega) | ((first | (exfalso; omega) | (refine h1.out ?_; clear h1 h2; clear Q1 Q2) | (refine h2.out ?_; clear h1 h2; clear Q1 Q2)); intro Q' hQ; simp [*]; (refine hQ.out _ ?_; clear hQ; clear Q')))))
  refine q_range rfl rfl (fun k => (0 < k → a = 0) ∧ (1 < k → b = 0)) (fun k => ⟨18, [(3, rE (iT 0)), (6, rE (.sl 2 [iT a, iT b])), (7, rE (iT 2)), (8, rE (iT k))], []⟩) 2 (by simp only [LFm]; omega) ⟨by omega, by omega⟩ ?_ fun k hk hI => ?_
  · simp [*, cf71]
  · match k, hk with
    | 0, _ =>
      repeat' (first | refine thenC_n ?_ | refine thenC_x ?_ | refine thenC_r ?_ | refine blockC_n ?_ | refine blockC_hit2 rfl ?_ | refine blockC_miss rfl ?_ | refine blockC_r ?_ | refine loopC_x ?_ | refine loopC_r ?_ | refine rangeC_x ?_ | refine rangeC_r ?_ | refine q_seq rfl ?_ | refine q_block rfl ?_ | (refine q_frz rfl rfl (by simp [*]; rfl) ?_) | (refine q_region rfl rfl rfl fun Q' hQ => ?_; simp [*]; (refine hQ.out _ ?_; clear hQ; clear Q')) | (refine q_if rfl fun Q1 Q2 h1 h2 => ?_; simp [*, twoB_some, twoV_some, ltFI, leFI, ltFN, leFN, guardF, yieldF, getA, opE, rdV, scE, constE]; (try (repeat' (first | refine And.intro ?_ ?_ | intro _))); all_goals (first | (exfalso; omega) | (refine h1.out ?_; clear h1 h2; clear Q1 Q2) | (refine h2.out ?_; clear h1 h2; clear Q1 Q2))) | refine q_exit rfl ?_ | refine q_ret rfl ?_ | refine q_skip rfl ?_ | refine q_label rfl ?_ | refine q_drawW rfl rfl rfl rfl ?_ | (refine q_drawW_nil rfl fun Q' hQ => ?_; simp [*]; (refine hQ.out _ ?_; clear hQ; clear Q')) | (refine q_drawW_op rfl rfl fun Q' hQ => ?_; simp [*]; (refine hQ.out _ ?_; clear hQ; clear Q')) | (refine q_drawW_guard rfl rfl fun Q1 Q2 h1 h2 => ?_; simp [*, twoB_some, twoV_some, ltFI, leFI, ltFN, leFN, grdF, yieldF, getA, opE, rdV, scE, constE]; (try (repeat' (first | refine And.intro ?_ ?_ | intro _))); all_goals (first | (exfalso; omega) | ((first | (exfalso; omega) | (refine h1.out ?_; clear h1 h2; clear Q1 Q2) | (refine h2.out ?_; clear h1 h2; clear Q1 Q2)); intro Q' hQ; simp [*]; (refine hQ.out _ ?_; clear hQ; clear Q')))) | refine q_regionW rfl rfl rfl ?_ | (refine regP_nil (by decide) ?_) | (refine regP_op rfl rfl fun Q' hQ => ?_; simp [*]; (refine hQ.out _ ?_; clear hQ; clear Q')) | (refine regP_guard rfl rfl fun Q1 Q2 h1 h2 => ?_; simp [*, twoB_some, twoV_some, ltFI, leFI, ltFN, leFN, grdF, yieldF, getA, opE, rdV, scE, constE]; (try (repeat' (first | refine And.intro ?_ ?_ | intro _))); all_goals (first | (exfalso; omega) | ((first | (exfalso; omega) | (refine h1.out ?_; clear h1 h2; clear Q1 Q2) | (refine h2.out ?_; clear h1 h2; clear Q1 Q2)); intro Q' hQ; simp [*]; (refine hQ.out _ ?_; clear hQ; clear Q')))))
      · simp [*]
      · refine rangeC_n (by omega) ⟨by omega, by omega⟩ ?_
        simp [*, cf71]
    | 1, _ =>
      have ha : a = 0 := hI.1 (by omega)
      subst ha
      repeat' (first | refine thenC_n ?_ | refine thenC_x ?_ | refine thenC_r ?_ | refine blockC_n ?_ | refine blockC_hit2 rfl ?_ | refine blockC_miss rfl ?_ | refine blockC_r ?_ | refine loopC_x ?_ | refine loopC_r ?_ | refine rangeC_x ?_ | refine rangeC_r ?_ | refine q_seq rfl ?_ | refine q_block rfl ?_ | (refine q_frz rfl rfl (by simp [*]; rfl) ?_) | (refine q_region rfl rfl rfl fun Q' hQ => ?_; simp [*]; (refine hQ.out _ ?_; clear hQ; clear Q')) | (refine q_if rfl fun Q1 Q2 h1 h2 => ?_; simp [*, twoB_some, twoV_some, ltFI, leFI, ltFN, leFN, guardF, yieldF, getA, opE, rdV, scE, constE]; (try (repeat' (first | refine And.intro ?_ ?_ | intro _))); all_goals (first | (exfalso; omega) | (refine h1.out ?_; clear h1 h2; clear Q1 Q2) | (refine h2.out ?_; clear h1 h2; clear Q1 Q2))) | refine q_exit rfl ?_ | refine q_ret rfl ?_ | refine q_skip rfl ?_ | refine q_label rfl ?_ | refine q_drawW rfl rfl rfl rfl ?_ | (refine q_drawW_nil rfl fun Q' hQ => ?_; simp [*]; (refine hQ.out _ ?_; clear hQ; clear Q')) | (refine q_drawW_op rfl rfl fun Q' hQ => ?_; simp [*]; (refine hQ.out _ ?_; clear hQ; clear Q')) | (refine q_drawW_guard rfl rfl fun Q1 Q2 h1 h2 => ?_; simp [*, twoB_some, twoV_some, ltFI, leFI, ltFN, leFN, grdF, yieldF, getA, opE, rdV, scE, constE]; (try (repeat' (first | refine And.intro ?_ ?_ | intro _))); all_goals (first | (exfalso; omega) | ((first | (exfalso; omega) | (refine h1.out ?_; clear h1 h2; clear Q1 Q2) | (refine h2.out ?_; clear h1 h2; clear Q1 Q2)); intro Q' hQ; simp [*]; (refine hQ.out _ ?_; clear hQ; clear Q')))) | refine q_regionW rfl rfl rfl ?_ | (refine regP_nil (by decide) ?_) | (refine regP_op rfl rfl fun Q' hQ => ?_; simp [*]; (refine hQ.out _ ?_; clear hQ; clear Q')) | (refine regP_guard rfl rfl fun Q1 Q2 h1 h2 => ?_; simp [*, twoB_some, twoV_some, ltFI, leFI, ltFN, leFN, grdF, yieldF, getA, opE, rdV, scE, constE]; (try (repeat' (first | refine And.intro ?_ ?_ | intro _))); all_goals (first | (exfalso; omega) | ((first | (exfalso; omega) | (refine h1.out ?_; clear h1 h2; clear Q1 Q2) | (refine h2.out ?_; clear h1 h2; clear Q1 Q2)); intro Q' hQ; simp [*]; (refine hQ.out _ ?_; clear hQ; clear Q')))))
      · simp [*]
      · refine rangeC_n (by omega) ⟨by omega, by omega⟩ ?_
        simp [*, cf71]
    | 2, _ =>
      have ha : a = 0 := hI.1 (by omega)
      have hb : b = 0 := hI.2 (by omega)
      subst ha hb
      repeat' (first | refine thenC_n ?_ | refine thenC_x ?_ | refine thenC_r ?_ | refine blockC_n ?_ | refine blockC_hit2 rfl ?_ | refine blockC_miss rfl ?_ | refine blockC_r ?_ | refine loopC_x ?_ | refine loopC_r ?_ | refine rangeC_x ?_ | refine rangeC_r ?_ | refine q_seq rfl ?_ | refine q_block rfl ?_ | (refine q_frz rfl rfl (by simp [*]; rfl) ?_) | (refine q_region rfl rfl rfl fun Q' hQ => ?_; simp [*]; (refine hQ.out _ ?_; clear hQ; clear Q')) | (refine q_if rfl fun Q1 Q2 h1 h2 => ?_; simp [*, twoB_some, twoV_some, ltFI, leFI, ltFN, leFN, guardF, yieldF, getA, opE, rdV, scE, constE]; (try (repeat' (first | refine And.intro ?_ ?_ | intro _))); all_goals (first | (exfalso; omega) | (refine h1.out ?_; clear h1 h2; clear Q1 Q2) | (refine h2.out ?_; clear h1 h2; clear Q1 Q2))) | refine q_exit rfl ?_ | refine q_ret rfl ?_ | refine q_skip rfl ?_ | refine q_label rfl ?_ | refine q_drawW rfl rfl rfl rfl ?_ | (refine q_drawW_nil rfl fun Q' hQ => ?_; simp [*]; (refine hQ.out _ ?_; clear hQ; clear Q')) | (refine q_drawW_op rfl rfl fun Q' hQ => ?_; simp [*]; (refine hQ.out _ ?_; clear hQ; clear Q')) | (refine q_drawW_guard rfl rfl fun Q1 Q2 h1 h2 => ?_; simp [*, twoB_some, twoV_some, ltFI, leFI, ltFN, leFN, grdF, yieldF, getA, opE, rdV, scE, constE]; (try (repeat' (first | refine And.intro ?_ ?_ | intro _))); all_goals (first | (exfalso; omega) | ((first | (exfalso; omega) | (refine h1.out ?_; clear h1 h2; clear Q1 Q2) | (refine h2.out ?_; clear h1 h2; clear Q1 Q2)); intro Q' hQ; simp [*]; (refine hQ.out _ ?_; clear hQ; clear Q')))) | refine q_regionW rfl rfl rfl ?_ | (refine regP_nil (by decide) ?_) | (refine regP_op rfl rfl fun Q' hQ => ?_; simp [*]; (refine hQ.out _ ?_; clear hQ; clear Q')) | (refine regP_guard rfl rfl fun Q1 Q2 h1 h2 => ?_; simp [*, twoB_some, twoV_some, ltFI, leFI, ltFN, leFN, grdF, yieldF, getA, opE, rdV, scE, constE]; (try (repeat' (first | refine And.intro ?_ ?_ | intro _))); all_goals (first | (exfalso; omega) | ((first | (exfalso; omega) | (refine h1.out ?_; clear h1 h2; clear Q1 Q2) | (refine h2.out ?_; clear h1 h2; clear Q1 Q2)); intro Q' hQ; simp [*]; (refine hQ.out _ ?_; clear hQ; clear Q')))))
      simp [*]

theorem cmpI_zero (a b : Int) : cmpI a b = 0 ↔ a = b := by unfold cmpI; split <;> (try split) <;> omega
def H73 (xs ys : List Int) (k : Nat) : Fr := ⟨36, [(0, rE (ints xs)), (1, rE (ints ys)), (9, rE (ints xs)), (10, rE (iT xs.length)), (11, rE (iT k))], []⟩
theorem c73 (xs ys : List Int) (h : xs.length < 2^62) (h2 : ys.length < 2^62) : L 73 [ints xs, ints ys] = some (iT (cmpL xs ys), [.dead, .dead]) := by
  have hc := c72
  refine L_run cfn73 fn73 (runF_of bd73 ⟨of_decide_eq_true rfl, of_decide_eq_true rfl⟩ ?_)
  simp only [entryF, entryT, entryO, entryE, isIo]
  repeat' (first | refine thenC_n ?_ | refine thenC_x ?_ | refine thenC_r ?_ | refine blockC_n ?_ | refine blockC_hit2 rfl ?_ | refine blockC_miss rfl ?_ | refine blockC_r ?_ | refine loopC_x ?_ | refine loopC_r ?_ | refine rangeC_x ?_ | refine rangeC_r ?_ | refine q_seq rfl ?_ | refine q_block rfl ?_ | (refine q_frz rfl rfl (by simp [*]; rfl) ?_) | (refine q_region rfl rfl rfl fun Q' hQ => ?_; simp [*]; (refine hQ.out _ ?_; clear hQ; clear Q')) | (refine q_if rfl fun Q1 Q2 h1 h2 => ?_; simp [*, twoB_some, twoV_some, ltFI, leFI, ltFN, leFN, guardF, yieldF, getA, opE, rdV, scE, constE]; (try (repeat' (first | refine And.intro ?_ ?_ | intro _))); all_goals (first | (exfalso; omega) | (refine h1.out ?_; clear h1 h2; clear Q1 Q2) | (refine h2.out ?_; clear h1 h2; clear Q1 Q2))) | refine q_exit rfl ?_ | refine q_ret rfl ?_ | refine q_skip rfl ?_ | refine q_label rfl ?_ | refine q_drawW rfl rfl rfl rfl ?_ | (refine q_drawW_nil rfl fun Q' hQ => ?_; simp [*]; (refine hQ.out _ ?_; clear hQ; clear Q')) | (refine q_drawW_op rfl rfl fun Q' hQ => ?_; simp [*]; (refine hQ.out _ ?_; clear hQ; clear Q')) | (refine q_drawW_guard rfl rfl fun Q1 Q2 h1 h2 => ?_; simp [*, twoB_some, twoV_some, ltFI, leFI, ltFN, leFN, grdF, yieldF, getA, opE, rdV, scE, constE]; (try (repeat' (first | refine And.intro ?_ ?_ | intro _))); all_goals (first | (exfalso; omega) | ((first | (exfalso; omega) | (refine h1.out ?_; clear h1 h2; clear Q1 Q2) | (refine h2.out ?_; clear h1 h2; clear Q1 Q2)); intro Q' hQ; simp [*]; (refine hQ.out _ ?_; clear hQ; clear Q')))) | refine q_regionW rfl rfl rfl ?_ | (refine regP_nil (by decide) ?_) | (refine regP_op rfl rfl fun Q' hQ => ?_; simp [*]; (refine hQ.out _ ?_; clear hQ; clear Q')) | (refine regP_guard rfl rfl fun Q1 Q2 h1 h2 => ?_; simp [*, twoB_some, twoV_some, ltFI, leFI, ltFN, leFN, grdF, yieldF, getA, opE, rdV, scE, constE]; (try (repeat' (first | refine And.intro ?_ ?_ | intro _))); all_goals (first | (exfalso; omega) | ((first | (exfalso; omega) | (refine h1.out ?_; clear h1 h2; clear Q1 Q2) | (refine h2.out ?_; clear h1 h2; clear Q1 Q2)); intro Q' hQ; simp [*]; (refine hQ.out _ ?_; clear hQ; clear Q')))))
  refine q_range rfl rfl (fun k => k ≤ ys.length ∧ ∀ i, i < k → xs.getD i 0 = ys.getD i 0) (H73 xs ys) xs.length (by simp only [LFm]; omega) ⟨by omega, fun i hi => by omega⟩ ?_ fun k hk hI => ?_
  · simp [*, cf73, H73]
  · have hw : IntKind.i64.wrap ((k : Int) + 1) = k + 1 := wrap_in (by omega) (by omega)
    obtain ⟨hI1, hI2⟩ := hI
    have HI := Hid.mk hI2
    clear hI2
    simp only [H73]
    repeat' (first | refine thenC_n ?_ | refine thenC_x ?_ | refine thenC_r ?_ | refine blockC_n ?_ | refine blockC_hit2 rfl ?_ | refine blockC_miss rfl ?_ | refine blockC_r ?_ | refine loopC_x ?_ | refine loopC_r ?_ | refine rangeC_x ?_ | refine rangeC_r ?_ | refine q_seq rfl ?_ | refine q_block rfl ?_ | (refine q_frz rfl rfl (by simp [*]; rfl) ?_) | (refine q_region rfl rfl rfl fun Q' hQ => ?_; simp [*]; (refine hQ.out _ ?_; clear hQ; clear Q')) | (refine q_if rfl fun Q1 Q2 h1 h2 => ?_; simp [*, twoB_some, twoV_some, ltFI, leFI, ltFN, leFN, guardF, yieldF, getA, opE, rdV, scE, constE]; (try (repeat' (first | refine And.intro ?_ ?_ | intro _))); all_goals (first | (exfalso; omega) | (refine h1.out ?_; clear h1 h2; clear Q1 Q2) | (refine h2.out ?_; clear h1 h2; clear Q1 Q2))) | refine q_exit rfl ?_ | refine q_ret rfl ?_ | refine q_skip rfl ?_ | refine q_label rfl ?_ | refine q_drawW rfl rfl rfl rfl ?_ | (refine q_drawW_nil rfl fun Q' hQ => ?_; simp [*]; (refine hQ.out _ ?_; clear hQ; clear Q')) | (refine q_drawW_op rfl rfl fun Q' hQ => ?_; simp [*]; (refine hQ.out _ ?_; clear hQ; clear Q')) | (refine q_drawW_guard rfl rfl fun Q1 Q2 h1 h2 => ?_; simp [*, twoB_some, twoV_some, ltFI, leFI, ltFN, leFN, grdF, yieldF, getA, opE, rdV, scE, constE]; (try (repeat' (first | refine And.intro ?_ ?_ | intro _))); all_goals (first | (exfalso; omega) | ((first | (exfalso; omega) | (refine h1.out ?_; clear h1 h2; clear Q1 Q2) | (refine h2.out ?_; clear h1 h2; clear Q1 Q2)); intro Q' hQ; simp [*]; (refine hQ.out _ ?_; clear hQ; clear Q')))) | refine q_regionW rfl rfl rfl ?_ | (refine regP_nil (by decide) ?_) | (refine regP_op rfl rfl fun Q' hQ => ?_; simp [*]; (refine hQ.out _ ?_; clear hQ; clear Q')) | (refine regP_guard rfl rfl fun Q1 Q2 h1 h2 => ?_; simp [*, twoB_some, twoV_some, ltFI, leFI, ltFN, leFN, grdF, yieldF, getA, opE, rdV, scE, constE]; (try (repeat' (first | refine And.intro ?_ ?_ | intro _))); all_goals (first | (exfalso; omega) | ((first | (exfalso; omega) | (refine h1.out ?_; clear h1 h2; clear Q1 Q2) | (refine h2.out ?_; clear h1 h2; clear Q1 Q2)); intro Q' hQ; simp [*]; (refine hQ.out _ ?_; clear hQ; clear Q')))))
    · rename_i a1 a2
      have e : cmpL xs ys = 1 := by
        rw [cmpL_end xs ys (fun i h1 h2 => HI.out i (by omega))]
        rw [if_neg (by omega), if_pos (by omega)]
      simp [*]
    · rename_i a1 a2 a3
      have hne : xs[k] ≠ ys[k] := fun e => a3 ((cmpI_zero _ _).2 e)
      have e : cmpL xs ys = cmpI xs[k] ys[k] := by
        rw [cmpL_take xs ys k a1 (by omega) HI.out (by rw [getD_of_lt 0 a1, getD_of_lt 0 (by omega)]; exact hne), getD_of_lt 0 a1, getD_of_lt 0 (by omega)]
        unfold cmpI; split <;> (try split) <;> omega
      simp [*]
    · rename_i a1 a2 a3
      refine rangeC_n a1 ⟨by omega, fun i hi => ?_⟩ ?_
      · by_cases e : i = k
        · subst e; rw [getD_of_lt 0 a1, getD_of_lt 0 (by omega)]; exact (cmpI_zero _ _).1 a3
        · exact HI.out i (by omega)
      · simp [*, cf73, H73]
    · rename_i a1 a2
      have e : cmpL xs ys = -1 := by
        rw [cmpL_end xs ys (fun i h1 h2 => HI.out i (by omega)), if_pos (by omega)]
      simp [*]
    · rename_i a1 a2
      have e : cmpL xs ys = 0 := by
        rw [cmpL_end xs ys (fun i h1 h2 => HI.out i (by omega)), if_neg (by omega), if_neg (by omega)]
      simp [*]
end Go.Proofs.YthalofddjlhcjaaDoor
end
section
/- Tuples, rows, orders, equality of lists. -/
namespace Go.Proofs.YthalofddjlhcjaaDoor
open Go
set_option maxRecDepth 100000
set_option maxHeartbeats 4000000
set_option linter.unusedVariables false
set_option linter.unusedSimpArgs false

theorem c58 (xs ys : List Int) (h : xs.length < 2^62) (h2 : ys.length < 2^62) : L 58 [ints xs, ints ys] = some (iT (cmpR xs ys), [.dead, .dead]) := by
  have h1 := c73 xs ys h h2
  have h3 := c72 xs.length ys.length
  have h4 := c71 (cmpI xs.length ys.length) (cmpL xs ys)
  have e : (if cmpI xs.length ys.length ≠ 0 then cmpI xs.length ys.length else cmpL xs ys) = cmpR xs ys := by
    unfold cmpR cmpI
    split <;> (try split) <;> simp_all <;> omega
  rw [e] at h4
  clear e
  refine L_run cfn58 fn58 (runF_of bd58 ⟨of_decide_eq_true rfl, of_decide_eq_true rfl⟩ ?_)
  simp only [entryF, entryT, entryO, entryE, isIo]
  repeat' (first | refine thenC_n ?_ | refine thenC_x ?_ | refine thenC_r ?_ | refine blockC_n ?_ | refine blockC_hit2 rfl ?_ | refine blockC_miss rfl ?_ | refine blockC_r ?_ | refine loopC_x ?_ | refine loopC_r ?_ | refine rangeC_x ?_ | refine rangeC_r ?_ | refine q_seq rfl ?_ | refine q_block rfl ?_ | (refine q_frz rfl rfl (by simp [*]; rfl) ?_) | (refine q_region rfl rfl rfl fun Q' hQ => ?_; simp [*]; (refine hQ.out _ ?_; clear hQ; clear Q')) | (refine q_if rfl fun Q1 Q2 h1 h2 => ?_; simp [*, twoB_some, twoV_some, ltFI, leFI, ltFN, leFN, guardF, yieldF, getA, opE, rdV, scE, constE]; (try (repeat' (first | refine And.intro ?_ ?_ | intro _))); all_goals (first | (exfalso; omega) | (refine h1.out ?_; clear h1 h2; clear Q1 Q2) | (refine h2.out ?_; clear h1 h2; clear Q1 Q2))) | refine q_exit rfl ?_ | refine q_ret rfl ?_ | refine q_skip rfl ?_ | refine q_label rfl ?_ | refine q_drawW rfl rfl rfl rfl ?_ | (refine q_drawW_nil rfl fun Q' hQ => ?_; simp [*]; (refine hQ.out _ ?_; clear hQ; clear Q')) | (refine q_drawW_op rfl rfl fun Q' hQ => ?_; simp [*]; (refine hQ.out _ ?_; clear hQ; clear Q')) | (refine q_drawW_guard rfl rfl fun Q1 Q2 h1 h2 => ?_; simp [*, twoB_some, twoV_some, ltFI, leFI, ltFN, leFN, grdF, yieldF, getA, opE, rdV, scE, constE]; (try (repeat' (first | refine And.intro ?_ ?_ | intro _))); all_goals (first | (exfalso; omega) | ((first | (exfalso; omega) | (refine h1.out ?_; clear h1 h2; clear Q1 Q2) | (refine h2.out ?_; clear h1 h2; clear Q1 Q2)); intro Q' hQ; simp [*]; (refine hQ.out _ ?_; clear hQ; clear Q')))) | refine q_regionW rfl rfl rfl ?_ | (refine regP_nil (by decide) ?_) | (refine regP_op rfl rfl fun Q' hQ => ?_; simp [*]; (refine hQ.out _ ?_; clear hQ; clear Q')) | (refine regP_guard rfl rfl fun Q1 Q2 h1 h2 => ?_; simp [*, twoB_some, twoV_some, ltFI, leFI, ltFN, leFN, grdF, yieldF, getA, opE, rdV, scE, constE]; (try (repeat' (first | refine And.intro ?_ ?_ | intro _))); all_goals (first | (exfalso; omega) | ((first | (exfalso; omega) | (refine h1.out ?_; clear h1 h2; clear Q1 Q2) | (refine h2.out ?_; clear h1 h2; clear Q1 Q2)); intro Q' hQ; simp [*]; (refine hQ.out _ ?_; clear hQ; clear Q')))))
  all_goals simp [*]

def H31 (sz xs : List Int) (k : Nat) : Fr := ⟨30, [(0, rE (ints sz)), (12, rE (ints xs)), (13, rE (iT xs.length)), (14, rE (iT k))], []⟩
theorem c31 (sz xs : List Int) (h : xs.length < 2^62) (h2 : sz.length < 2^62) : L 31 [ints sz, ints xs] = some (bT (tupB sz xs), [.dead, .dead]) := by
  refine L_run cfn31 fn31 (runF_of bd31 ⟨of_decide_eq_true rfl, of_decide_eq_true rfl⟩ ?_)
  simp only [entryF, entryT, entryO, entryE, isIo]
  by_cases hl : xs.length = sz.length
  · have e0 : tupB sz xs = inB sz xs := by simp [tupB, hl]
    rw [e0]
    repeat' (first | refine thenC_n ?_ | refine thenC_x ?_ | refine thenC_r ?_ | refine blockC_n ?_ | refine blockC_hit2 rfl ?_ | refine blockC_miss rfl ?_ | refine blockC_r ?_ | refine loopC_x ?_ | refine loopC_r ?_ | refine rangeC_x ?_ | refine rangeC_r ?_ | refine q_seq rfl ?_ | refine q_block rfl ?_ | (refine q_frz rfl rfl (by simp [*]; rfl) ?_) | (refine q_region rfl rfl rfl fun Q' hQ => ?_; simp [*]; (refine hQ.out _ ?_; clear hQ; clear Q')) | (refine q_if rfl fun Q1 Q2 h1 h2 => ?_; simp [*, twoB_some, twoV_some, ltFI, leFI, ltFN, leFN, guardF, yieldF, getA, opE, rdV, scE, constE]; (try (repeat' (first | refine And.intro ?_ ?_ | intro _))); all_goals (first | (exfalso; omega) | (refine h1.out ?_; clear h1 h2; clear Q1 Q2) | (refine h2.out ?_; clear h1 h2; clear Q1 Q2))) | refine q_exit rfl ?_ | refine q_ret rfl ?_ | refine q_skip rfl ?_ | refine q_label rfl ?_ | refine q_drawW rfl rfl rfl rfl ?_ | (refine q_drawW_nil rfl fun Q' hQ => ?_; simp [*]; (refine hQ.out _ ?_; clear hQ; clear Q')) | (refine q_drawW_op rfl rfl fun Q' hQ => ?_; simp [*]; (refine hQ.out _ ?_; clear hQ; clear Q')) | (refine q_drawW_guard rfl rfl fun Q1 Q2 h1 h2 => ?_; simp [*, twoB_some, twoV_some, ltFI, leFI, ltFN, leFN, grdF, yieldF, getA, opE, rdV, scE, constE]; (try (repeat' (first | refine And.intro ?_ ?_ | intro _))); all_goals (first | (exfalso; omega) | ((first | (exfalso; omega) | (refine h1.out ?_; clear h1 h2; clear Q1 Q2) | (refine h2.out ?_; clear h1 h2; clear Q1 Q2)); intro Q' hQ; simp [*]; (refine hQ.out _ ?_; clear hQ; clear Q')))) | refine q_regionW rfl rfl rfl ?_ | (refine regP_nil (by decide) ?_) | (refine regP_op rfl rfl fun Q' hQ => ?_; simp [*]; (refine hQ.out _ ?_; clear hQ; clear Q')) | (refine regP_guard rfl rfl fun Q1 Q2 h1 h2 => ?_; simp [*, twoB_some, twoV_some, ltFI, leFI, ltFN, leFN, grdF, yieldF, getA, opE, rdV, scE, constE]; (try (repeat' (first | refine And.intro ?_ ?_ | intro _))); all_goals (first | (exfalso; omega) | ((first | (exfalso; omega) | (refine h1.out ?_; clear h1 h2; clear Q1 Q2) | (refine h2.out ?_; clear h1 h2; clear Q1 Q2)); intro Q' hQ; simp [*]; (refine hQ.out _ ?_; clear hQ; clear Q')))))
    refine q_range rfl rfl (fun k => ∀ i, i < k → 0 ≤ xs.getD i 0 ∧ xs.getD i 0 < sz.getD i 0) (H31 sz xs) xs.length (by simp only [LFm]; omega) (fun i hi => by omega) ?_ fun k hk hI => ?_
    · simp [*, cf31, H31]
    · have hw : IntKind.i64.wrap ((k : Int) + 1) = k + 1 := wrap_in (by omega) (by omega)
      have HI := Hid.mk hI
      have HL := Hid.mk hl
      clear hI hl e0
      have hlt2 : k < xs.length → k < sz.length := by have := HL.out; omega
      simp only [H31]
      repeat' (first | refine thenC_n ?_ | refine thenC_x ?_ | refine thenC_r ?_ | refine blockC_n ?_ | refine blockC_hit2 rfl ?_ | refine blockC_miss rfl ?_ | refine blockC_r ?_ | refine loopC_x ?_ | refine loopC_r ?_ | refine rangeC_x ?_ | refine rangeC_r ?_ | refine q_seq rfl ?_ | refine q_block rfl ?_ | (refine q_frz rfl rfl (by simp [*]; rfl) ?_) | (refine q_region rfl rfl rfl fun Q' hQ => ?_; simp [*]; (refine hQ.out _ ?_; clear hQ; clear Q')) | (refine q_if rfl fun Q1 Q2 h1 h2 => ?_; simp [*, twoB_some, twoV_some, ltFI, leFI, ltFN, leFN, guardF, yieldF, getA, opE, rdV, scE, constE]; (try (repeat' (first | refine And.intro ?_ ?_ | intro _))); all_goals (first | (exfalso; omega) | (refine h1.out ?_; clear h1 h2; clear Q1 Q2) | (refine h2.out ?_; clear h1 h2; clear Q1 Q2))) | refine q_exit rfl ?_ | refine q_ret rfl ?_ | refine q_skip rfl ?_ | refine q_label rfl ?_ | refine q_drawW rfl rfl rfl rfl ?_ | (refine q_drawW_nil rfl fun Q' hQ => ?_; simp [*]; (refine hQ.out _ ?_; clear hQ; clear Q')) | (refine q_drawW_op rfl rfl fun Q' hQ => ?_; simp [*]; (refine hQ.out _ ?_; clear hQ; clear Q')) | (refine q_drawW_guard rfl rfl fun Q1 Q2 h1 h2 => ?_; simp [*, twoB_some, twoV_some, ltFI, leFI, ltFN, leFN, grdF, yieldF, getA, opE, rdV, scE, constE]; (try (repeat' (first | refine And.intro ?_ ?_ | intro _))); all_goals (first | (exfalso; omega) | ((first | (exfalso; omega) | (refine h1.out ?_; clear h1 h2; clear Q1 Q2) | (refine h2.out ?_; clear h1 h2; clear Q1 Q2)); intro Q' hQ; simp [*]; (refine hQ.out _ ?_; clear hQ; clear Q')))) | refine q_regionW rfl rfl rfl ?_ | (refine regP_nil (by decide) ?_) | (refine regP_op rfl rfl fun Q' hQ => ?_; simp [*]; (refine hQ.out _ ?_; clear hQ; clear Q')) | (refine regP_guard rfl rfl fun Q1 Q2 h1 h2 => ?_; simp [*, twoB_some, twoV_some, ltFI, leFI, ltFN, leFN, grdF, yieldF, getA, opE, rdV, scE, constE]; (try (repeat' (first | refine And.intro ?_ ?_ | intro _))); all_goals (first | (exfalso; omega) | ((first | (exfalso; omega) | (refine h1.out ?_; clear h1 h2; clear Q1 Q2) | (refine h2.out ?_; clear h1 h2; clear Q1 Q2)); intro Q' hQ; simp [*]; (refine hQ.out _ ?_; clear hQ; clear Q')))))
      all_goals first
        | (have a1 : k < xs.length := by assumption
           have e : inB sz xs = false := inB_false sz xs (by have := HL.out; omega) k a1 (by rw [getD_of_lt 0 a1, getD_of_lt 0 (hlt2 a1)]; intro hh; omega)
           simp [*]
           done)
        | (have a1 : k < xs.length := by assumption
           refine rangeC_n a1 (fun i hi => ?_) ?_
           · by_cases e : i = k
             · subst e; rw [getD_of_lt 0 a1, getD_of_lt 0 (hlt2 a1)]; omega
             · exact HI.out i (by omega)
           · simp [*, cf31, H31])
        | (have e : inB sz xs = true := (inB_iff sz xs (by have := HL.out; omega)).2 (fun i hi => HI.out i (by omega))
           simp [*])
  · have e0 : tupB sz xs = false := by simp [tupB, hl]
    repeat' (first | refine thenC_n ?_ | refine thenC_x ?_ | refine thenC_r ?_ | refine blockC_n ?_ | refine blockC_hit2 rfl ?_ | refine blockC_miss rfl ?_ | refine blockC_r ?_ | refine loopC_x ?_ | refine loopC_r ?_ | refine rangeC_x ?_ | refine rangeC_r ?_ | refine q_seq rfl ?_ | refine q_block rfl ?_ | (refine q_frz rfl rfl (by simp [*]; rfl) ?_) | (refine q_region rfl rfl rfl fun Q' hQ => ?_; simp [*]; (refine hQ.out _ ?_; clear hQ; clear Q')) | (refine q_if rfl fun Q1 Q2 h1 h2 => ?_; simp [*, twoB_some, twoV_some, ltFI, leFI, ltFN, leFN, guardF, yieldF, getA, opE, rdV, scE, constE]; (try (repeat' (first | refine And.intro ?_ ?_ | intro _))); all_goals (first | (exfalso; omega) | (refine h1.out ?_; clear h1 h2; clear Q1 Q2) | (refine h2.out ?_; clear h1 h2; clear Q1 Q2))) | refine q_exit rfl ?_ | refine q_ret rfl ?_ | refine q_skip rfl ?_ | refine q_label rfl ?_ | refine q_drawW rfl rfl rfl rfl ?_ | (refine q_drawW_nil rfl fun Q' hQ => ?_; simp [*]; (refine hQ.out _ ?_; clear hQ; clear Q')) | (refine q_drawW_op rfl rfl fun Q' hQ => ?_; simp [*]; (refine hQ.out _ ?_; clear hQ; clear Q')) | (refine q_drawW_guard rfl rfl fun Q1 Q2 h1 h2 => ?_; simp [*, twoB_some, twoV_some, ltFI, leFI, ltFN, leFN, grdF, yieldF, getA, opE, rdV, scE, constE]; (try (repeat' (first | refine And.intro ?_ ?_ | intro _))); all_goals (first | (exfalso; omega) | ((first | (exfalso; omega) | (refine h1.out ?_; clear h1 h2; clear Q1 Q2) | (refine h2.out ?_; clear h1 h2; clear Q1 Q2)); intro Q' hQ; simp [*]; (refine hQ.out _ ?_; clear hQ; clear Q')))) | refine q_regionW rfl rfl rfl ?_ | (refine regP_nil (by decide) ?_) | (refine regP_op rfl rfl fun Q' hQ => ?_; simp [*]; (refine hQ.out _ ?_; clear hQ; clear Q')) | (refine regP_guard rfl rfl fun Q1 Q2 h1 h2 => ?_; simp [*, twoB_some, twoV_some, ltFI, leFI, ltFN, leFN, grdF, yieldF, getA, opE, rdV, scE, constE]; (try (repeat' (first | refine And.intro ?_ ?_ | intro _))); all_goals (first | (exfalso; omega) | ((first | (exfalso; omega) | (refine h1.out ?_; clear h1 h2; clear Q1 Q2) | (refine h2.out ?_; clear h1 h2; clear Q1 Q2)); intro Q' hQ; simp [*]; (refine hQ.out _ ?_; clear hQ; clear Q')))))
    simp [*]
end Go.Proofs.YthalofddjlhcjaaDoor
end
section
/- Orders, equality of lists, rows found: the reference's; and what a valid row is. -/
namespace Go.Proofs.YthalofddjlhcjaaDoor
open Go
set_option maxRecDepth 100000
set_option maxHeartbeats 4000000
set_option linter.unusedVariables false
set_option linter.unusedSimpArgs false

def H59 (sz xs : List Int) (k : Nat) : Fr := ⟨25, [(0, rE (ints sz)), (7, rE (ints xs)), (8, rE (iT xs.length)), (9, rE (iT k))], []⟩
theorem c59 (sz xs : List Int) (h : xs.length < 2^62) (hl : xs.length ≤ sz.length) : L 59 [ints sz, ints xs] = some (bT (inB sz xs), [.dead, .dead]) := by
  refine L_run cfn59 fn59 (runF_of bd59 ⟨of_decide_eq_true rfl, of_decide_eq_true rfl⟩ ?_)
  simp only [entryF, entryT, entryO, entryE, isIo]
  repeat' (first | refine thenC_n ?_ | refine thenC_x ?_ | refine thenC_r ?_ | refine blockC_n ?_ | refine blockC_hit2 rfl ?_ | refine blockC_miss rfl ?_ | refine blockC_r ?_ | refine loopC_x ?_ | refine loopC_r ?_ | refine rangeC_x ?_ | refine rangeC_r ?_ | refine q_seq rfl ?_ | refine q_block rfl ?_ | (refine q_frz rfl rfl (by simp [*]; rfl) ?_) | (refine q_region rfl rfl rfl fun Q' hQ => ?_; simp [*]; (refine hQ.out _ ?_; clear hQ; clear Q')) | (refine q_if rfl fun Q1 Q2 h1 h2 => ?_; simp [*, twoB_some, twoV_some, ltFI, leFI, ltFN, leFN, guardF, yieldF, getA, opE, rdV, scE, constE]; (try (repeat' (first | refine And.intro ?_ ?_ | intro _))); all_goals (first | (exfalso; omega) | (refine h1.out ?_; clear h1 h2; clear Q1 Q2) | (refine h2.out ?_; clear h1 h2; clear Q1 Q2))) | refine q_exit rfl ?_ | refine q_ret rfl ?_ | refine q_skip rfl ?_ | refine q_label rfl ?_ | refine q_drawW rfl rfl rfl rfl ?_ | (refine q_drawW_nil rfl fun Q' hQ => ?_; simp [*]; (refine hQ.out _ ?_; clear hQ; clear Q')) | (refine q_drawW_op rfl rfl fun Q' hQ => ?_; simp [*]; (refine hQ.out _ ?_; clear hQ; clear Q')) | (refine q_drawW_guard rfl rfl fun Q1 Q2 h1 h2 => ?_; simp [*, twoB_some, twoV_some, ltFI, leFI, ltFN, leFN, grdF, yieldF, getA, opE, rdV, scE, constE]; (try (repeat' (first | refine And.intro ?_ ?_ | intro _))); all_goals (first | (exfalso; omega) | ((first | (exfalso; omega) | (refine h1.out ?_; clear h1 h2; clear Q1 Q2) | (refine h2.out ?_; clear h1 h2; clear Q1 Q2)); intro Q' hQ; simp [*]; (refine hQ.out _ ?_; clear hQ; clear Q')))) | refine q_regionW rfl rfl rfl ?_ | (refine regP_nil (by decide) ?_) | (refine regP_op rfl rfl fun Q' hQ => ?_; simp [*]; (refine hQ.out _ ?_; clear hQ; clear Q')) | (refine regP_guard rfl rfl fun Q1 Q2 h1 h2 => ?_; simp [*, twoB_some, twoV_some, ltFI, leFI, ltFN, leFN, grdF, yieldF, getA, opE, rdV, scE, constE]; (try (repeat' (first | refine And.intro ?_ ?_ | intro _))); all_goals (first | (exfalso; omega) | ((first | (exfalso; omega) | (refine h1.out ?_; clear h1 h2; clear Q1 Q2) | (refine h2.out ?_; clear h1 h2; clear Q1 Q2)); intro Q' hQ; simp [*]; (refine hQ.out _ ?_; clear hQ; clear Q')))))
  refine q_range rfl rfl (fun k => ∀ i, i < k → 0 ≤ xs.getD i 0 ∧ xs.getD i 0 < sz.getD i 0) (H59 sz xs) xs.length (by simp only [LFm]; omega) (fun i hi => by omega) ?_ fun k hk hI => ?_
  · simp [*, H59]
  · have hw : IntKind.i64.wrap ((k : Int) + 1) = k + 1 := wrap_in (by omega) (by omega)
    have HI := Hid.mk hI
    have HL := Hid.mk hl
    clear hI hl
    have hlt2 : k < xs.length → k < sz.length := by have := HL.out; omega
    simp only [H59]
    repeat' (first | refine thenC_n ?_ | refine thenC_x ?_ | refine thenC_r ?_ | refine blockC_n ?_ | refine blockC_hit2 rfl ?_ | refine blockC_miss rfl ?_ | refine blockC_r ?_ | refine loopC_x ?_ | refine loopC_r ?_ | refine rangeC_x ?_ | refine rangeC_r ?_ | refine q_seq rfl ?_ | refine q_block rfl ?_ | (refine q_frz rfl rfl (by simp [*]; rfl) ?_) | (refine q_region rfl rfl rfl fun Q' hQ => ?_; simp [*]; (refine hQ.out _ ?_; clear hQ; clear Q')) | (refine q_if rfl fun Q1 Q2 h1 h2 => ?_; simp [*, twoB_some, twoV_some, ltFI, leFI, ltFN, leFN, guardF, yieldF, getA, opE, rdV, scE, constE]; (try (repeat' (first | refine And.intro ?_ ?_ | intro _))); all_goals (first | (exfalso; omega) | (refine h1.out ?_; clear h1 h2; clear Q1 Q2) | (refine h2.out ?_; clear h1 h2; clear Q1 Q2))) | refine q_exit rfl ?_ | refine q_ret rfl ?_ | refine q_skip rfl ?_ | refine q_label rfl ?_ | refine q_drawW rfl rfl rfl rfl ?_ | (refine q_drawW_nil rfl fun Q' hQ => ?_; simp [*]; (refine hQ.out _ ?_; clear hQ; clear Q')) | (refine q_drawW_op rfl rfl fun Q' hQ => ?_; simp [*]; (refine hQ.out _ ?_; clear hQ; clear Q')) | (refine q_drawW_guard rfl rfl fun Q1 Q2 h1 h2 => ?_; simp [*, twoB_some, twoV_some, ltFI, leFI, ltFN, leFN, grdF, yieldF, getA, opE, rdV, scE, constE]; (try (repeat' (first | refine And.intro ?_ ?_ | intro _))); all_goals (first | (exfalso; omega) | ((first | (exfalso; omega) | (refine h1.out ?_; clear h1 h2; clear Q1 Q2) | (refine h2.out ?_; clear h1 h2; clear Q1 Q2)); intro Q' hQ; simp [*]; (refine hQ.out _ ?_; clear hQ; clear Q')))) | refine q_regionW rfl rfl rfl ?_ | (refine regP_nil (by decide) ?_) | (refine regP_op rfl rfl fun Q' hQ => ?_; simp [*]; (refine hQ.out _ ?_; clear hQ; clear Q')) | (refine regP_guard rfl rfl fun Q1 Q2 h1 h2 => ?_; simp [*, twoB_some, twoV_some, ltFI, leFI, ltFN, leFN, grdF, yieldF, getA, opE, rdV, scE, constE]; (try (repeat' (first | refine And.intro ?_ ?_ | intro _))); all_goals (first | (exfalso; omega) | ((first | (exfalso; omega) | (refine h1.out ?_; clear h1 h2; clear Q1 Q2) | (refine h2.out ?_; clear h1 h2; clear Q1 Q2)); intro Q' hQ; simp [*]; (refine hQ.out _ ?_; clear hQ; clear Q')))))
    all_goals first
      | (have a1 : k < xs.length := by assumption
         have e : inB sz xs = false := inB_false sz xs (by have := HL.out; omega) k a1 (by rw [getD_of_lt 0 a1, getD_of_lt 0 (hlt2 a1)]; intro hh; omega)
         simp [*]
         done)
      | (have a1 : k < xs.length := by assumption
         refine rangeC_n a1 (fun i hi => ?_) ?_
         · by_cases e : i = k
           · subst e; rw [getD_of_lt 0 a1, getD_of_lt 0 (hlt2 a1)]; omega
           · exact HI.out i (by omega)
         · simp [*, H59])
      | (have e : inB sz xs = true := (inB_iff sz xs (by have := HL.out; omega)).2 (fun i hi => HI.out i (by omega))
         simp [*])

theorem c39 (c : Casc) (xs : List Int) (h : xs.length < 2^62) (h2 : c.sizes.length < 2^62) : L 39 [cascT c, ints xs] = some (bT (tupB c.sizes xs), [.dead, .dead]) := by
  refine L_run cfn39 fn39 (runF_of bd39 ⟨of_decide_eq_true rfl, of_decide_eq_true rfl⟩ ?_)
  simp only [entryF, entryT, entryO, entryE, isIo]
  by_cases hl : xs.length = c.sizes.length
  · have h1 := c59 c.sizes xs h (by omega)
    have e0 : tupB c.sizes xs = inB c.sizes xs := by simp [tupB, hl]
    rw [e0]
    clear e0
    repeat' (first | refine thenC_n ?_ | refine thenC_x ?_ | refine thenC_r ?_ | refine blockC_n ?_ | refine blockC_hit2 rfl ?_ | refine blockC_miss rfl ?_ | refine blockC_r ?_ | refine loopC_x ?_ | refine loopC_r ?_ | refine rangeC_x ?_ | refine rangeC_r ?_ | refine q_seq rfl ?_ | refine q_block rfl ?_ | (refine q_frz rfl rfl (by simp [*]; rfl) ?_) | (refine q_region rfl rfl rfl fun Q' hQ => ?_; simp [*]; (refine hQ.out _ ?_; clear hQ; clear Q')) | (refine q_if rfl fun Q1 Q2 h1 h2 => ?_; simp [*, twoB_some, twoV_some, ltFI, leFI, ltFN, leFN, guardF, yieldF, getA, opE, rdV, scE, constE]; (try (repeat' (first | refine And.intro ?_ ?_ | intro _))); all_goals (first | (exfalso; omega) | (refine h1.out ?_; clear h1 h2; clear Q1 Q2) | (refine h2.out ?_; clear h1 h2; clear Q1 Q2))) | refine q_exit rfl ?_ | refine q_ret rfl ?_ | refine q_skip rfl ?_ | refine q_label rfl ?_ | refine q_drawW rfl rfl rfl rfl ?_ | (refine q_drawW_nil rfl fun Q' hQ => ?_; simp [*]; (refine hQ.out _ ?_; clear hQ; clear Q')) | (refine q_drawW_op rfl rfl fun Q' hQ => ?_; simp [*]; (refine hQ.out _ ?_; clear hQ; clear Q')) | (refine q_drawW_guard rfl rfl fun Q1 Q2 h1 h2 => ?_; simp [*, twoB_some, twoV_some, ltFI, leFI, ltFN, leFN, grdF, yieldF, getA, opE, rdV, scE, constE]; (try (repeat' (first | refine And.intro ?_ ?_ | intro _))); all_goals (first | (exfalso; omega) | ((first | (exfalso; omega) | (refine h1.out ?_; clear h1 h2; clear Q1 Q2) | (refine h2.out ?_; clear h1 h2; clear Q1 Q2)); intro Q' hQ; simp [*]; (refine hQ.out _ ?_; clear hQ; clear Q')))) | refine q_regionW rfl rfl rfl ?_ | (refine regP_nil (by decide) ?_) | (refine regP_op rfl rfl fun Q' hQ => ?_; simp [*]; (refine hQ.out _ ?_; clear hQ; clear Q')) | (refine regP_guard rfl rfl fun Q1 Q2 h1 h2 => ?_; simp [*, twoB_some, twoV_some, ltFI, leFI, ltFN, leFN, grdF, yieldF, getA, opE, rdV, scE, constE]; (try (repeat' (first | refine And.intro ?_ ?_ | intro _))); all_goals (first | (exfalso; omega) | ((first | (exfalso; omega) | (refine h1.out ?_; clear h1 h2; clear Q1 Q2) | (refine h2.out ?_; clear h1 h2; clear Q1 Q2)); intro Q' hQ; simp [*]; (refine hQ.out _ ?_; clear hQ; clear Q')))))
    all_goals simp [*]
  · have e0 : tupB c.sizes xs = false := by simp [tupB, hl]
    repeat' (first | refine thenC_n ?_ | refine thenC_x ?_ | refine thenC_r ?_ | refine blockC_n ?_ | refine blockC_hit2 rfl ?_ | refine blockC_miss rfl ?_ | refine blockC_r ?_ | refine loopC_x ?_ | refine loopC_r ?_ | refine rangeC_x ?_ | refine rangeC_r ?_ | refine q_seq rfl ?_ | refine q_block rfl ?_ | (refine q_frz rfl rfl (by simp [*]; rfl) ?_) | (refine q_region rfl rfl rfl fun Q' hQ => ?_; simp [*]; (refine hQ.out _ ?_; clear hQ; clear Q')) | (refine q_if rfl fun Q1 Q2 h1 h2 => ?_; simp [*, twoB_some, twoV_some, ltFI, leFI, ltFN, leFN, guardF, yieldF, getA, opE, rdV, scE, constE]; (try (repeat' (first | refine And.intro ?_ ?_ | intro _))); all_goals (first | (exfalso; omega) | (refine h1.out ?_; clear h1 h2; clear Q1 Q2) | (refine h2.out ?_; clear h1 h2; clear Q1 Q2))) | refine q_exit rfl ?_ | refine q_ret rfl ?_ | refine q_skip rfl ?_ | refine q_label rfl ?_ | refine q_drawW rfl rfl rfl rfl ?_ | (refine q_drawW_nil rfl fun Q' hQ => ?_; simp [*]; (refine hQ.out _ ?_; clear hQ; clear Q')) | (refine q_drawW_op rfl rfl fun Q' hQ => ?_; simp [*]; (refine hQ.out _ ?_; clear hQ; clear Q')) | (refine q_drawW_guard rfl rfl fun Q1 Q2 h1 h2 => ?_; simp [*, twoB_some, twoV_some, ltFI, leFI, ltFN, leFN, grdF, yieldF, getA, opE, rdV, scE, constE]; (try (repeat' (first | refine And.intro ?_ ?_ | intro _))); all_goals (first | (exfalso; omega) | ((first | (exfalso; omega) | (refine h1.out ?_; clear h1 h2; clear Q1 Q2) | (refine h2.out ?_; clear h1 h2; clear Q1 Q2)); intro Q' hQ; simp [*]; (refine hQ.out _ ?_; clear hQ; clear Q')))) | refine q_regionW rfl rfl rfl ?_ | (refine regP_nil (by decide) ?_) | (refine regP_op rfl rfl fun Q' hQ => ?_; simp [*]; (refine hQ.out _ ?_; clear hQ; clear Q')) | (refine regP_guard rfl rfl fun Q1 Q2 h1 h2 => ?_; simp [*, twoB_some, twoV_some, ltFI, leFI, ltFN, leFN, grdF, yieldF, getA, opE, rdV, scE, constE]; (try (repeat' (first | refine And.intro ?_ ?_ | intro _))); all_goals (first | (exfalso; omega) | ((first | (exfalso; omega) | (refine h1.out ?_; clear h1 h2; clear Q1 Q2) | (refine h2.out ?_; clear h1 h2; clear Q1 Q2)); intro Q' hQ; simp [*]; (refine hQ.out _ ?_; clear hQ; clear Q')))))
    all_goals simp [*]

def H74 (xs ys : List Int) (k : Nat) : Fr := ⟨41, [(0, rE (ints xs)), (1, rE (ints ys)), (5, rE (iT k))], []⟩
theorem c74 (xs ys : List Int) (h : xs.length < 2^62) (h2 : ys.length < 2^62) : L 74 [ints xs, ints ys] = some (bT (lexLt xs ys), [.dead, .dead]) := by
  refine L_run cfn74 fn74 (runF_of bd74 ⟨of_decide_eq_true rfl, of_decide_eq_true rfl⟩ ?_)
  simp only [entryF, entryT, entryO, entryE, isIo]
  repeat' (first | refine thenC_n ?_ | refine thenC_x ?_ | refine thenC_r ?_ | refine blockC_n ?_ | refine blockC_hit2 rfl ?_ | refine blockC_miss rfl ?_ | refine blockC_r ?_ | refine loopC_x ?_ | refine loopC_r ?_ | refine rangeC_x ?_ | refine rangeC_r ?_ | refine q_seq rfl ?_ | refine q_block rfl ?_ | (refine q_frz rfl rfl (by simp [*]; rfl) ?_) | (refine q_region rfl rfl rfl fun Q' hQ => ?_; simp [*]; (refine hQ.out _ ?_; clear hQ; clear Q')) | (refine q_if rfl fun Q1 Q2 h1 h2 => ?_; simp [*, twoB_some, twoV_some, ltFI, leFI, ltFN, leFN, guardF, yieldF, getA, opE, rdV, scE, constE]; (try (repeat' (first | refine And.intro ?_ ?_ | intro _))); all_goals (first | (exfalso; omega) | (refine h1.out ?_; clear h1 h2; clear Q1 Q2) | (refine h2.out ?_; clear h1 h2; clear Q1 Q2))) | refine q_exit rfl ?_ | refine q_ret rfl ?_ | refine q_skip rfl ?_ | refine q_label rfl ?_ | refine q_drawW rfl rfl rfl rfl ?_ | (refine q_drawW_nil rfl fun Q' hQ => ?_; simp [*]; (refine hQ.out _ ?_; clear hQ; clear Q')) | (refine q_drawW_op rfl rfl fun Q' hQ => ?_; simp [*]; (refine hQ.out _ ?_; clear hQ; clear Q')) | (refine q_drawW_guard rfl rfl fun Q1 Q2 h1 h2 => ?_; simp [*, twoB_some, twoV_some, ltFI, leFI, ltFN, leFN, grdF, yieldF, getA, opE, rdV, scE, constE]; (try (repeat' (first | refine And.intro ?_ ?_ | intro _))); all_goals (first | (exfalso; omega) | ((first | (exfalso; omega) | (refine h1.out ?_; clear h1 h2; clear Q1 Q2) | (refine h2.out ?_; clear h1 h2; clear Q1 Q2)); intro Q' hQ; simp [*]; (refine hQ.out _ ?_; clear hQ; clear Q')))) | refine q_regionW rfl rfl rfl ?_ | (refine regP_nil (by decide) ?_) | (refine regP_op rfl rfl fun Q' hQ => ?_; simp [*]; (refine hQ.out _ ?_; clear hQ; clear Q')) | (refine regP_guard rfl rfl fun Q1 Q2 h1 h2 => ?_; simp [*, twoB_some, twoV_some, ltFI, leFI, ltFN, leFN, grdF, yieldF, getA, opE, rdV, scE, constE]; (try (repeat' (first | refine And.intro ?_ ?_ | intro _))); all_goals (first | (exfalso; omega) | ((first | (exfalso; omega) | (refine h1.out ?_; clear h1 h2; clear Q1 Q2) | (refine h2.out ?_; clear h1 h2; clear Q1 Q2)); intro Q' hQ; simp [*]; (refine hQ.out _ ?_; clear hQ; clear Q')))))
  refine q_range rfl rfl (fun k => k ≤ ys.length ∧ ∀ i, i < k → xs.getD i 0 = ys.getD i 0) (H74 xs ys) xs.length (by simp only [LFm]; omega) ⟨by omega, fun i hi => by omega⟩ ?_ fun k hk hI => ?_
  · simp [*, H74]
  · have hw : IntKind.i64.wrap ((k : Int) + 1) = k + 1 := wrap_in (by omega) (by omega)
    obtain ⟨hI1, hI2⟩ := hI
    have HI := Hid.mk hI2
    clear hI2
    simp only [H74]
    repeat' (first | refine thenC_n ?_ | refine thenC_x ?_ | refine thenC_r ?_ | refine blockC_n ?_ | refine blockC_hit2 rfl ?_ | refine blockC_miss rfl ?_ | refine blockC_r ?_ | refine loopC_x ?_ | refine loopC_r ?_ | refine rangeC_x ?_ | refine rangeC_r ?_ | refine q_seq rfl ?_ | refine q_block rfl ?_ | (refine q_frz rfl rfl (by simp [*]; rfl) ?_) | (refine q_region rfl rfl rfl fun Q' hQ => ?_; simp [*]; (refine hQ.out _ ?_; clear hQ; clear Q')) | (refine q_if rfl fun Q1 Q2 h1 h2 => ?_; simp [*, twoB_some, twoV_some, ltFI, leFI, ltFN, leFN, guardF, yieldF, getA, opE, rdV, scE, constE]; (try (repeat' (first | refine And.intro ?_ ?_ | intro _))); all_goals (first | (exfalso; omega) | (refine h1.out ?_; clear h1 h2; clear Q1 Q2) | (refine h2.out ?_; clear h1 h2; clear Q1 Q2))) | refine q_exit rfl ?_ | refine q_ret rfl ?_ | refine q_skip rfl ?_ | refine q_label rfl ?_ | refine q_drawW rfl rfl rfl rfl ?_ | (refine q_drawW_nil rfl fun Q' hQ => ?_; simp [*]; (refine hQ.out _ ?_; clear hQ; clear Q')) | (refine q_drawW_op rfl rfl fun Q' hQ => ?_; simp [*]; (refine hQ.out _ ?_; clear hQ; clear Q')) | (refine q_drawW_guard rfl rfl fun Q1 Q2 h1 h2 => ?_; simp [*, twoB_some, twoV_some, ltFI, leFI, ltFN, leFN, grdF, yieldF, getA, opE, rdV, scE, constE]; (try (repeat' (first | refine And.intro ?_ ?_ | intro _))); all_goals (first | (exfalso; omega) | ((first | (exfalso; omega) | (refine h1.out ?_; clear h1 h2; clear Q1 Q2) | (refine h2.out ?_; clear h1 h2; clear Q1 Q2)); intro Q' hQ; simp [*]; (refine hQ.out _ ?_; clear hQ; clear Q')))) | refine q_regionW rfl rfl rfl ?_ | (refine regP_nil (by decide) ?_) | (refine regP_op rfl rfl fun Q' hQ => ?_; simp [*]; (refine hQ.out _ ?_; clear hQ; clear Q')) | (refine regP_guard rfl rfl fun Q1 Q2 h1 h2 => ?_; simp [*, twoB_some, twoV_some, ltFI, leFI, ltFN, leFN, grdF, yieldF, getA, opE, rdV, scE, constE]; (try (repeat' (first | refine And.intro ?_ ?_ | intro _))); all_goals (first | (exfalso; omega) | ((first | (exfalso; omega) | (refine h1.out ?_; clear h1 h2; clear Q1 Q2) | (refine h2.out ?_; clear h1 h2; clear Q1 Q2)); intro Q' hQ; simp [*]; (refine hQ.out _ ?_; clear hQ; clear Q')))))
    all_goals first
      | (have a1 : k < xs.length := by assumption
         have a2 : k < ys.length := by assumption
         have a3 : ¬ xs[k] = ys[k] := by assumption
         have e : lexLt xs ys = decide (xs[k] < ys[k]) := by
           rw [lexLt_take xs ys k a1 a2 HI.out (by rw [getD_of_lt 0 a1, getD_of_lt 0 a2]; exact a3), getD_of_lt 0 a1, getD_of_lt 0 a2]
         simp [*]
         done)
      | (have a1 : k < xs.length := by assumption
         have a2 : k < ys.length := by assumption
         have a3 : xs[k] = ys[k] := by assumption
         refine rangeC_n a1 ⟨by omega, fun i hi => ?_⟩ ?_
         · by_cases e : i = k
           · subst e; rw [getD_of_lt 0 a1, getD_of_lt 0 a2]; exact a3
           · exact HI.out i (by omega)
         · simp [*, H74])
      | (have e : lexLt xs ys = decide (xs.length < ys.length) := lexLt_end xs ys (fun i h1 h2 => HI.out i (by omega))
         simp [*])

theorem c60 (xs ys : List Int) (h : xs.length < 2^62) (h2 : ys.length < 2^62) : L 60 [ints xs, ints ys] = some (bT (decide (cmpR xs ys < 0)), [.dead, .dead]) := by
  have h1 := c74 xs ys h h2
  refine L_run cfn60 fn60 (runF_of bd60 ⟨of_decide_eq_true rfl, of_decide_eq_true rfl⟩ ?_)
  simp only [entryF, entryT, entryO, entryE, isIo]
  by_cases hl : xs.length = ys.length
  · have e : decide (cmpR xs ys < 0) = lexLt xs ys := by
      rw [cmpL_lt]; simp [cmpR, hl]
    rw [e]
    clear e
    repeat' (first | refine thenC_n ?_ | refine thenC_x ?_ | refine thenC_r ?_ | refine blockC_n ?_ | refine blockC_hit2 rfl ?_ | refine blockC_miss rfl ?_ | refine blockC_r ?_ | refine loopC_x ?_ | refine loopC_r ?_ | refine rangeC_x ?_ | refine rangeC_r ?_ | refine q_seq rfl ?_ | refine q_block rfl ?_ | (refine q_frz rfl rfl (by simp [*]; rfl) ?_) | (refine q_region rfl rfl rfl fun Q' hQ => ?_; simp [*]; (refine hQ.out _ ?_; clear hQ; clear Q')) | (refine q_if rfl fun Q1 Q2 h1 h2 => ?_; simp [*, twoB_some, twoV_some, ltFI, leFI, ltFN, leFN, guardF, yieldF, getA, opE, rdV, scE, constE]; (try (repeat' (first | refine And.intro ?_ ?_ | intro _))); all_goals (first | (exfalso; omega) | (refine h1.out ?_; clear h1 h2; clear Q1 Q2) | (refine h2.out ?_; clear h1 h2; clear Q1 Q2))) | refine q_exit rfl ?_ | refine q_ret rfl ?_ | refine q_skip rfl ?_ | refine q_label rfl ?_ | refine q_drawW rfl rfl rfl rfl ?_ | (refine q_drawW_nil rfl fun Q' hQ => ?_; simp [*]; (refine hQ.out _ ?_; clear hQ; clear Q')) | (refine q_drawW_op rfl rfl fun Q' hQ => ?_; simp [*]; (refine hQ.out _ ?_; clear hQ; clear Q')) | (refine q_drawW_guard rfl rfl fun Q1 Q2 h1 h2 => ?_; simp [*, twoB_some, twoV_some, ltFI, leFI, ltFN, leFN, grdF, yieldF, getA, opE, rdV, scE, constE]; (try (repeat' (first | refine And.intro ?_ ?_ | intro _))); all_goals (first | (exfalso; omega) | ((first | (exfalso; omega) | (refine h1.out ?_; clear h1 h2; clear Q1 Q2) | (refine h2.out ?_; clear h1 h2; clear Q1 Q2)); intro Q' hQ; simp [*]; (refine hQ.out _ ?_; clear hQ; clear Q')))) | refine q_regionW rfl rfl rfl ?_ | (refine regP_nil (by decide) ?_) | (refine regP_op rfl rfl fun Q' hQ => ?_; simp [*]; (refine hQ.out _ ?_; clear hQ; clear Q')) | (refine regP_guard rfl rfl fun Q1 Q2 h1 h2 => ?_; simp [*, twoB_some, twoV_some, ltFI, leFI, ltFN, leFN, grdF, yieldF, getA, opE, rdV, scE, constE]; (try (repeat' (first | refine And.intro ?_ ?_ | intro _))); all_goals (first | (exfalso; omega) | ((first | (exfalso; omega) | (refine h1.out ?_; clear h1 h2; clear Q1 Q2) | (refine h2.out ?_; clear h1 h2; clear Q1 Q2)); intro Q' hQ; simp [*]; (refine hQ.out _ ?_; clear hQ; clear Q')))))
    all_goals simp [*]
  · have e : decide (cmpR xs ys < 0) = decide (xs.length < ys.length) := by
      unfold cmpR
      split
      · simp [*]
      · split
        · simp [*]
        · omega
    rw [e]
    clear e
    repeat' (first | refine thenC_n ?_ | refine thenC_x ?_ | refine thenC_r ?_ | refine blockC_n ?_ | refine blockC_hit2 rfl ?_ | refine blockC_miss rfl ?_ | refine blockC_r ?_ | refine loopC_x ?_ | refine loopC_r ?_ | refine rangeC_x ?_ | refine rangeC_r ?_ | refine q_seq rfl ?_ | refine q_block rfl ?_ | (refine q_frz rfl rfl (by simp [*]; rfl) ?_) | (refine q_region rfl rfl rfl fun Q' hQ => ?_; simp [*]; (refine hQ.out _ ?_; clear hQ; clear Q')) | (refine q_if rfl fun Q1 Q2 h1 h2 => ?_; simp [*, twoB_some, twoV_some, ltFI, leFI, ltFN, leFN, guardF, yieldF, getA, opE, rdV, scE, constE]; (try (repeat' (first | refine And.intro ?_ ?_ | intro _))); all_goals (first | (exfalso; omega) | (refine h1.out ?_; clear h1 h2; clear Q1 Q2) | (refine h2.out ?_; clear h1 h2; clear Q1 Q2))) | refine q_exit rfl ?_ | refine q_ret rfl ?_ | refine q_skip rfl ?_ | refine q_label rfl ?_ | refine q_drawW rfl rfl rfl rfl ?_ | (refine q_drawW_nil rfl fun Q' hQ => ?_; simp [*]; (refine hQ.out _ ?_; clear hQ; clear Q')) | (refine q_drawW_op rfl rfl fun Q' hQ => ?_; simp [*]; (refine hQ.out _ ?_; clear hQ; clear Q')) | (refine q_drawW_guard rfl rfl fun Q1 Q2 h1 h2 => ?_; simp [*, twoB_some, twoV_some, ltFI, leFI, ltFN, leFN, grdF, yieldF, getA, opE, rdV, scE, constE]; (try (repeat' (first | refine And.intro ?_ ?_ | intro _))); all_goals (first | (exfalso; omega) | ((first | (exfalso; omega) | (refine h1.out ?_; clear h1 h2; clear Q1 Q2) | (refine h2.out ?_; clear h1 h2; clear Q1 Q2)); intro Q' hQ; simp [*]; (refine hQ.out _ ?_; clear hQ; clear Q')))) | refine q_regionW rfl rfl rfl ?_ | (refine regP_nil (by decide) ?_) | (refine regP_op rfl rfl fun Q' hQ => ?_; simp [*]; (refine hQ.out _ ?_; clear hQ; clear Q')) | (refine regP_guard rfl rfl fun Q1 Q2 h1 h2 => ?_; simp [*, twoB_some, twoV_some, ltFI, leFI, ltFN, leFN, grdF, yieldF, getA, opE, rdV, scE, constE]; (try (repeat' (first | refine And.intro ?_ ?_ | intro _))); all_goals (first | (exfalso; omega) | ((first | (exfalso; omega) | (refine h1.out ?_; clear h1 h2; clear Q1 Q2) | (refine h2.out ?_; clear h1 h2; clear Q1 Q2)); intro Q' hQ; simp [*]; (refine hQ.out _ ?_; clear hQ; clear Q')))))
    all_goals simp [*]

def H19 (xs ys : List Int) (k : Nat) : Fr := ⟨26, [(0, rE (ints xs)), (1, rE (ints ys)), (12, rE (iT xs.length)), (13, rE (iT k))], []⟩
theorem c19 (xs ys : List Int) (h : xs.length < 2^62) (h2 : ys.length < 2^62) : L 19 [ints xs, ints ys] = some (bT (decide (xs = ys)), [.dead, .dead]) := by
  refine L_run cfn19 fn19 (runF_of bd19 ⟨of_decide_eq_true rfl, of_decide_eq_true rfl⟩ ?_)
  simp only [entryF, entryT, entryO, entryE, isIo]
  by_cases hl : xs.length = ys.length
  · repeat' (first | refine thenC_n ?_ | refine thenC_x ?_ | refine thenC_r ?_ | refine blockC_n ?_ | refine blockC_hit2 rfl ?_ | refine blockC_miss rfl ?_ | refine blockC_r ?_ | refine loopC_x ?_ | refine loopC_r ?_ | refine rangeC_x ?_ | refine rangeC_r ?_ | refine q_seq rfl ?_ | refine q_block rfl ?_ | (refine q_frz rfl rfl (by simp [*]; rfl) ?_) | (refine q_region rfl rfl rfl fun Q' hQ => ?_; simp [*]; (refine hQ.out _ ?_; clear hQ; clear Q')) | (refine q_if rfl fun Q1 Q2 h1 h2 => ?_; simp [*, twoB_some, twoV_some, ltFI, leFI, ltFN, leFN, guardF, yieldF, getA, opE, rdV, scE, constE]; (try (repeat' (first | refine And.intro ?_ ?_ | intro _))); all_goals (first | (exfalso; omega) | (refine h1.out ?_; clear h1 h2; clear Q1 Q2) | (refine h2.out ?_; clear h1 h2; clear Q1 Q2))) | refine q_exit rfl ?_ | refine q_ret rfl ?_ | refine q_skip rfl ?_ | refine q_label rfl ?_ | refine q_drawW rfl rfl rfl rfl ?_ | (refine q_drawW_nil rfl fun Q' hQ => ?_; simp [*]; (refine hQ.out _ ?_; clear hQ; clear Q')) | (refine q_drawW_op rfl rfl fun Q' hQ => ?_; simp [*]; (refine hQ.out _ ?_; clear hQ; clear Q')) | (refine q_drawW_guard rfl rfl fun Q1 Q2 h1 h2 => ?_; simp [*, twoB_some, twoV_some, ltFI, leFI, ltFN, leFN, grdF, yieldF, getA, opE, rdV, scE, constE]; (try (repeat' (first | refine And.intro ?_ ?_ | intro _))); all_goals (first | (exfalso; omega) | ((first | (exfalso; omega) | (refine h1.out ?_; clear h1 h2; clear Q1 Q2) | (refine h2.out ?_; clear h1 h2; clear Q1 Q2)); intro Q' hQ; simp [*]; (refine hQ.out _ ?_; clear hQ; clear Q')))) | refine q_regionW rfl rfl rfl ?_ | (refine regP_nil (by decide) ?_) | (refine regP_op rfl rfl fun Q' hQ => ?_; simp [*]; (refine hQ.out _ ?_; clear hQ; clear Q')) | (refine regP_guard rfl rfl fun Q1 Q2 h1 h2 => ?_; simp [*, twoB_some, twoV_some, ltFI, leFI, ltFN, leFN, grdF, yieldF, getA, opE, rdV, scE, constE]; (try (repeat' (first | refine And.intro ?_ ?_ | intro _))); all_goals (first | (exfalso; omega) | ((first | (exfalso; omega) | (refine h1.out ?_; clear h1 h2; clear Q1 Q2) | (refine h2.out ?_; clear h1 h2; clear Q1 Q2)); intro Q' hQ; simp [*]; (refine hQ.out _ ?_; clear hQ; clear Q')))))
    refine q_range rfl rfl (fun k => ∀ i, i < k → xs.getD i 0 = ys.getD i 0) (H19 xs ys) xs.length (by simp only [LFm]; omega) (fun i hi => by omega) ?_ fun k hk hI => ?_
    · simp [*, H19]
    · have hw : IntKind.i64.wrap ((k : Int) + 1) = k + 1 := wrap_in (by omega) (by omega)
      have HI := Hid.mk hI
      have HL := Hid.mk hl
      clear hI hl
      have hlt2 : k < xs.length → k < ys.length := by have := HL.out; omega
      simp only [H19]
      repeat' (first | refine thenC_n ?_ | refine thenC_x ?_ | refine thenC_r ?_ | refine blockC_n ?_ | refine blockC_hit2 rfl ?_ | refine blockC_miss rfl ?_ | refine blockC_r ?_ | refine loopC_x ?_ | refine loopC_r ?_ | refine rangeC_x ?_ | refine rangeC_r ?_ | refine q_seq rfl ?_ | refine q_block rfl ?_ | (refine q_frz rfl rfl (by simp [*]; rfl) ?_) | (refine q_region rfl rfl rfl fun Q' hQ => ?_; simp [*]; (refine hQ.out _ ?_; clear hQ; clear Q')) | (refine q_if rfl fun Q1 Q2 h1 h2 => ?_; simp [*, twoB_some, twoV_some, ltFI, leFI, ltFN, leFN, guardF, yieldF, getA, opE, rdV, scE, constE]; (try (repeat' (first | refine And.intro ?_ ?_ | intro _))); all_goals (first | (exfalso; omega) | (refine h1.out ?_; clear h1 h2; clear Q1 Q2) | (refine h2.out ?_; clear h1 h2; clear Q1 Q2))) | refine q_exit rfl ?_ | refine q_ret rfl ?_ | refine q_skip rfl ?_ | refine q_label rfl ?_ | refine q_drawW rfl rfl rfl rfl ?_ | (refine q_drawW_nil rfl fun Q' hQ => ?_; simp [*]; (refine hQ.out _ ?_; clear hQ; clear Q')) | (refine q_drawW_op rfl rfl fun Q' hQ => ?_; simp [*]; (refine hQ.out _ ?_; clear hQ; clear Q')) | (refine q_drawW_guard rfl rfl fun Q1 Q2 h1 h2 => ?_; simp [*, twoB_some, twoV_some, ltFI, leFI, ltFN, leFN, grdF, yieldF, getA, opE, rdV, scE, constE]; (try (repeat' (first | refine And.intro ?_ ?_ | intro _))); all_goals (first | (exfalso; omega) | ((first | (exfalso; omega) | (refine h1.out ?_; clear h1 h2; clear Q1 Q2) | (refine h2.out ?_; clear h1 h2; clear Q1 Q2)); intro Q' hQ; simp [*]; (refine hQ.out _ ?_; clear hQ; clear Q')))) | refine q_regionW rfl rfl rfl ?_ | (refine regP_nil (by decide) ?_) | (refine regP_op rfl rfl fun Q' hQ => ?_; simp [*]; (refine hQ.out _ ?_; clear hQ; clear Q')) | (refine regP_guard rfl rfl fun Q1 Q2 h1 h2 => ?_; simp [*, twoB_some, twoV_some, ltFI, leFI, ltFN, leFN, grdF, yieldF, getA, opE, rdV, scE, constE]; (try (repeat' (first | refine And.intro ?_ ?_ | intro _))); all_goals (first | (exfalso; omega) | ((first | (exfalso; omega) | (refine h1.out ?_; clear h1 h2; clear Q1 Q2) | (refine h2.out ?_; clear h1 h2; clear Q1 Q2)); intro Q' hQ; simp [*]; (refine hQ.out _ ?_; clear hQ; clear Q')))))
      all_goals first
        | (have a1 : k < xs.length := by assumption
           have a3 : ¬ xs[k] = ys[k]'(hlt2 a1) := by assumption
           have e : decide (xs = ys) = false := by
             rw [decide_eq_false_iff_not]; intro e; subst e; exact a3 rfl
           rw [e]
           clear e
           simp [*]
           done)
        | (have a1 : k < xs.length := by assumption
           have a3 : xs[k] = ys[k]'(hlt2 a1) := by assumption
           refine rangeC_n a1 (fun i hi => ?_) ?_
           · by_cases e : i = k
             · subst e; rw [getD_of_lt 0 a1, getD_of_lt 0 (hlt2 a1)]; exact a3
             · exact HI.out i (by omega)
           · simp [*, H19])
        | (have e : decide (xs = ys) = true := by
             rw [decide_eq_true_iff]; exact list_ext_getD HL.out fun i hi => HI.out i (by omega)
           rw [e]
           clear e
           simp [*])
  · have e : decide (xs = ys) = false := by
      rw [decide_eq_false_iff_not]; intro e; exact hl (by rw [e])
    rw [e]
    clear e
    repeat' (first | refine thenC_n ?_ | refine thenC_x ?_ | refine thenC_r ?_ | refine blockC_n ?_ | refine blockC_hit2 rfl ?_ | refine blockC_miss rfl ?_ | refine blockC_r ?_ | refine loopC_x ?_ | refine loopC_r ?_ | refine rangeC_x ?_ | refine rangeC_r ?_ | refine q_seq rfl ?_ | refine q_block rfl ?_ | (refine q_frz rfl rfl (by simp [*]; rfl) ?_) | (refine q_region rfl rfl rfl fun Q' hQ => ?_; simp [*]; (refine hQ.out _ ?_; clear hQ; clear Q')) | (refine q_if rfl fun Q1 Q2 h1 h2 => ?_; simp [*, twoB_some, twoV_some, ltFI, leFI, ltFN, leFN, guardF, yieldF, getA, opE, rdV, scE, constE]; (try (repeat' (first | refine And.intro ?_ ?_ | intro _))); all_goals (first | (exfalso; omega) | (refine h1.out ?_; clear h1 h2; clear Q1 Q2) | (refine h2.out ?_; clear h1 h2; clear Q1 Q2))) | refine q_exit rfl ?_ | refine q_ret rfl ?_ | refine q_skip rfl ?_ | refine q_label rfl ?_ | refine q_drawW rfl rfl rfl rfl ?_ | (refine q_drawW_nil rfl fun Q' hQ => ?_; simp [*]; (refine hQ.out _ ?_; clear hQ; clear Q')) | (refine q_drawW_op rfl rfl fun Q' hQ => ?_; simp [*]; (refine hQ.out _ ?_; clear hQ; clear Q')) | (refine q_drawW_guard rfl rfl fun Q1 Q2 h1 h2 => ?_; simp [*, twoB_some, twoV_some, ltFI, leFI, ltFN, leFN, grdF, yieldF, getA, opE, rdV, scE, constE]; (try (repeat' (first | refine And.intro ?_ ?_ | intro _))); all_goals (first | (exfalso; omega) | ((first | (exfalso; omega) | (refine h1.out ?_; clear h1 h2; clear Q1 Q2) | (refine h2.out ?_; clear h1 h2; clear Q1 Q2)); intro Q' hQ; simp [*]; (refine hQ.out _ ?_; clear hQ; clear Q')))) | refine q_regionW rfl rfl rfl ?_ | (refine regP_nil (by decide) ?_) | (refine regP_op rfl rfl fun Q' hQ => ?_; simp [*]; (refine hQ.out _ ?_; clear hQ; clear Q')) | (refine regP_guard rfl rfl fun Q1 Q2 h1 h2 => ?_; simp [*, twoB_some, twoV_some, ltFI, leFI, ltFN, leFN, grdF, yieldF, getA, opE, rdV, scE, constE]; (try (repeat' (first | refine And.intro ?_ ?_ | intro _))); all_goals (first | (exfalso; omega) | ((first | (exfalso; omega) | (refine h1.out ?_; clear h1 h2; clear Q1 Q2) | (refine h2.out ?_; clear h1 h2; clear Q1 Q2)); intro Q' hQ; simp [*]; (refine hQ.out _ ?_; clear hQ; clear Q')))))
    all_goals simp [*]
end Go.Proofs.YthalofddjlhcjaaDoor
end
section
/- Lists of lists compared, rows found; what a valid cascade is: program. -/
namespace Go.Proofs.YthalofddjlhcjaaDoor
open Go
set_option maxRecDepth 100000
set_option maxHeartbeats 4000000
set_option linter.unusedVariables false
set_option linter.unusedSimpArgs false

/-- The number of the first that p holds of, or -1. -/
def findI {α : Type} (p : α → Bool) (l : List α) : Int := match l.findIdx? p with | some i => (i : Int) | none => -1
theorem findI_hit {α : Type} {p : α → Bool} {l : List α} {k : Nat} (h : k < l.length) (hp : p l[k] = true) (hn : ∀ i, i < k → ∀ h : i < l.length, p l[i] = false) : findI p l = k := by
  unfold findI
  rw [List.findIdx?_eq_some_iff_getElem.2 ⟨h, hp, fun j hj => by rw [hn j hj (by omega)]; simp⟩]
theorem findI_none {α : Type} {p : α → Bool} {l : List α} (hn : ∀ i, ∀ h : i < l.length, p l[i] = false) : findI p l = -1 := by
  unfold findI
  rw [List.findIdx?_eq_none_iff.2 (fun x hx => by
    obtain ⟨i, hi, rfl⟩ := List.getElem_of_mem hx
    exact hn i hi)]
/-- Every number of a place is less than 2^62. -/
def short (xss : List (List Int)) : Prop := xss.length < 2^62 ∧ ∀ m ∈ xss, m.length < 2^62
structure RB (r : CRow) : Prop where
  pre : r.pre.length < 2^62
  maps : short r.maps
structure CB (c : Casc) : Prop where
  sz : c.sizes.length < 2^62
  rows : c.rows.length < 2^62
  row : ∀ r ∈ c.rows, RB r

def H22 (xs ys : List (List Int)) (k : Nat) : Fr := ⟨27, [(0, rE (intss xs)), (1, rE (intss ys)), (12, rE (iT xs.length)), (13, rE (iT k))], []⟩
theorem c22 (xs ys : List (List Int)) (h : short xs) (h2 : short ys) : L 22 [intss xs, intss ys] = some (bT (decide (xs = ys)), [.dead, .dead]) := by
  have h19 : ∀ i (h3 : i < xs.length) (h4 : i < ys.length), L 19 [ints xs[i], ints ys[i]] = some (bT (decide (xs[i] = ys[i])), [.dead, .dead]) := fun i h3 h4 => c19 _ _ (h.2 _ (List.getElem_mem h3)) (h2.2 _ (List.getElem_mem h4))
  obtain ⟨h, -⟩ := h
  obtain ⟨h2, -⟩ := h2
  refine L_run cfn22 fn22 (runF_of bd22 ⟨of_decide_eq_true rfl, of_decide_eq_true rfl⟩ ?_)
  simp only [entryF, entryT, entryO, entryE, isIo]
  by_cases hl : xs.length = ys.length
  · repeat' (first | refine thenC_n ?_ | refine thenC_x ?_ | refine thenC_r ?_ | refine blockC_n ?_ | refine blockC_hit2 rfl ?_ | refine blockC_miss rfl ?_ | refine blockC_r ?_ | refine loopC_x ?_ | refine loopC_r ?_ | refine rangeC_x ?_ | refine rangeC_r ?_ | refine q_seq rfl ?_ | refine q_block rfl ?_ | (refine q_frz rfl rfl (by simp [*]; rfl) ?_) | (refine q_region rfl rfl rfl fun Q' hQ => ?_; simp [*]; (refine hQ.out _ ?_; clear hQ; clear Q')) | (refine q_if rfl fun Q1 Q2 h1 h2 => ?_; simp [*, twoB_some, twoV_some, ltFI, leFI, ltFN, leFN, guardF, yieldF, getA, opE, rdV, scE, constE]; (try (repeat' (first | refine And.intro ?_ ?_ | intro _))); all_goals (first | (exfalso; omega) | (refine h1.out ?_; clear h1 h2; clear Q1 Q2) | (refine h2.out ?_; clear h1 h2; clear Q1 Q2))) | refine q_exit rfl ?_ | refine q_ret rfl ?_ | refine q_skip rfl ?_ | refine q_label rfl ?_ | refine q_drawW rfl rfl rfl rfl ?_ | (refine q_drawW_nil rfl fun Q' hQ => ?_; simp [*]; (refine hQ.out _ ?_; clear hQ; clear Q')) | (refine q_drawW_op rfl rfl fun Q' hQ => ?_; simp [*]; (refine hQ.out _ ?_; clear hQ; clear Q')) | (refine q_drawW_guard rfl rfl fun Q1 Q2 h1 h2 => ?_; simp [*, twoB_some, twoV_some, ltFI, leFI, ltFN, leFN, grdF, yieldF, getA, opE, rdV, scE, constE]; (try (repeat' (first | refine And.intro ?_ ?_ | intro _))); all_goals (first | (exfalso; omega) | ((first | (exfalso; omega) | (refine h1.out ?_; clear h1 h2; clear Q1 Q2) | (refine h2.out ?_; clear h1 h2; clear Q1 Q2)); intro Q' hQ; simp [*]; (refine hQ.out _ ?_; clear hQ; clear Q')))) | refine q_regionW rfl rfl rfl ?_ | (refine regP_nil (by decide) ?_) | (refine regP_op rfl rfl fun Q' hQ => ?_; simp [*]; (refine hQ.out _ ?_; clear hQ; clear Q')) | (refine regP_guard rfl rfl fun Q1 Q2 h1 h2 => ?_; simp [*, twoB_some, twoV_some, ltFI, leFI, ltFN, leFN, grdF, yieldF, getA, opE, rdV, scE, constE]; (try (repeat' (first | refine And.intro ?_ ?_ | intro _))); all_goals (first | (exfalso; omega) | ((first | (exfalso; omega) | (refine h1.out ?_; clear h1 h2; clear Q1 Q2) | (refine h2.out ?_; clear h1 h2; clear Q1 Q2)); intro Q' hQ; simp [*]; (refine hQ.out _ ?_; clear hQ; clear Q')))))
    refine q_range rfl rfl (fun k => ∀ i, i < k → ∀ (h3 : i < xs.length) (h4 : i < ys.length), xs[i] = ys[i]) (H22 xs ys) xs.length (by simp only [LFm]; omega) (fun i hi => by omega) ?_ fun k hk hI => ?_
    · simp [*, H22]
    · have hw : IntKind.i64.wrap ((k : Int) + 1) = k + 1 := wrap_in (by omega) (by omega)
      have HI := Hid.mk hI
      have HL := Hid.mk hl
      clear hI hl
      have hlt2 : k < xs.length → k < ys.length := by have := HL.out; omega
      have h19k := fun h3 h4 => h19 k h3 h4
      clear h19
      simp only [H22]
      repeat' (first | refine thenC_n ?_ | refine thenC_x ?_ | refine thenC_r ?_ | refine blockC_n ?_ | refine blockC_hit2 rfl ?_ | refine blockC_miss rfl ?_ | refine blockC_r ?_ | refine loopC_x ?_ | refine loopC_r ?_ | refine rangeC_x ?_ | refine rangeC_r ?_ | refine q_seq rfl ?_ | refine q_block rfl ?_ | (refine q_frz rfl rfl (by simp [*]; rfl) ?_) | (refine q_region rfl rfl rfl fun Q' hQ => ?_; simp [*]; (refine hQ.out _ ?_; clear hQ; clear Q')) | (refine q_if rfl fun Q1 Q2 h1 h2 => ?_; simp [*, twoB_some, twoV_some, ltFI, leFI, ltFN, leFN, guardF, yieldF, getA, opE, rdV, scE, constE]; (try (repeat' (first | refine And.intro ?_ ?_ | intro _))); all_goals (first | (exfalso; omega) | (refine h1.out ?_; clear h1 h2; clear Q1 Q2) | (refine h2.out ?_; clear h1 h2; clear Q1 Q2))) | refine q_exit rfl ?_ | refine q_ret rfl ?_ | refine q_skip rfl ?_ | refine q_label rfl ?_ | refine q_drawW rfl rfl rfl rfl ?_ | (refine q_drawW_nil rfl fun Q' hQ => ?_; simp [*]; (refine hQ.out _ ?_; clear hQ; clear Q')) | (refine q_drawW_op rfl rfl fun Q' hQ => ?_; simp [*]; (refine hQ.out _ ?_; clear hQ; clear Q')) | (refine q_drawW_guard rfl rfl fun Q1 Q2 h1 h2 => ?_; simp [*, twoB_some, twoV_some, ltFI, leFI, ltFN, leFN, grdF, yieldF, getA, opE, rdV, scE, constE]; (try (repeat' (first | refine And.intro ?_ ?_ | intro _))); all_goals (first | (exfalso; omega) | ((first | (exfalso; omega) | (refine h1.out ?_; clear h1 h2; clear Q1 Q2) | (refine h2.out ?_; clear h1 h2; clear Q1 Q2)); intro Q' hQ; simp [*]; (refine hQ.out _ ?_; clear hQ; clear Q')))) | refine q_regionW rfl rfl rfl ?_ | (refine regP_nil (by decide) ?_) | (refine regP_op rfl rfl fun Q' hQ => ?_; simp [*]; (refine hQ.out _ ?_; clear hQ; clear Q')) | (refine regP_guard rfl rfl fun Q1 Q2 h1 h2 => ?_; simp [*, twoB_some, twoV_some, ltFI, leFI, ltFN, leFN, grdF, yieldF, getA, opE, rdV, scE, constE]; (try (repeat' (first | refine And.intro ?_ ?_ | intro _))); all_goals (first | (exfalso; omega) | ((first | (exfalso; omega) | (refine h1.out ?_; clear h1 h2; clear Q1 Q2) | (refine h2.out ?_; clear h1 h2; clear Q1 Q2)); intro Q' hQ; simp [*]; (refine hQ.out _ ?_; clear hQ; clear Q')))))
      all_goals first
        | (have a1 : k < xs.length := by assumption
           have a3 : ¬ xs[k] = ys[k]'(hlt2 a1) := by assumption
           have e : decide (xs = ys) = false := by
             rw [decide_eq_false_iff_not]; intro e; subst e; exact a3 rfl
           rw [e]
           clear e
           simp [*]
           done)
        | (have a1 : k < xs.length := by assumption
           have a3 : xs[k] = ys[k]'(hlt2 a1) := by assumption
           refine rangeC_n a1 (fun i hi h3 h4 => ?_) ?_
           · by_cases e : i = k
             · subst e; exact a3
             · exact HI.out i (by omega) h3 h4
           · clear h19k
             simp [*, H22])
        | (have e : decide (xs = ys) = true := by
             rw [decide_eq_true_iff]
             exact List.ext_getElem HL.out fun i h3 h4 => HI.out i (by omega) h3 h4
           rw [e]
           clear e
           simp [*])
  · have e : decide (xs = ys) = false := by
      rw [decide_eq_false_iff_not]; intro e; exact hl (by rw [e])
    rw [e]
    clear e
    repeat' (first | refine thenC_n ?_ | refine thenC_x ?_ | refine thenC_r ?_ | refine blockC_n ?_ | refine blockC_hit2 rfl ?_ | refine blockC_miss rfl ?_ | refine blockC_r ?_ | refine loopC_x ?_ | refine loopC_r ?_ | refine rangeC_x ?_ | refine rangeC_r ?_ | refine q_seq rfl ?_ | refine q_block rfl ?_ | (refine q_frz rfl rfl (by simp [*]; rfl) ?_) | (refine q_region rfl rfl rfl fun Q' hQ => ?_; simp [*]; (refine hQ.out _ ?_; clear hQ; clear Q')) | (refine q_if rfl fun Q1 Q2 h1 h2 => ?_; simp [*, twoB_some, twoV_some, ltFI, leFI, ltFN, leFN, guardF, yieldF, getA, opE, rdV, scE, constE]; (try (repeat' (first | refine And.intro ?_ ?_ | intro _))); all_goals (first | (exfalso; omega) | (refine h1.out ?_; clear h1 h2; clear Q1 Q2) | (refine h2.out ?_; clear h1 h2; clear Q1 Q2))) | refine q_exit rfl ?_ | refine q_ret rfl ?_ | refine q_skip rfl ?_ | refine q_label rfl ?_ | refine q_drawW rfl rfl rfl rfl ?_ | (refine q_drawW_nil rfl fun Q' hQ => ?_; simp [*]; (refine hQ.out _ ?_; clear hQ; clear Q')) | (refine q_drawW_op rfl rfl fun Q' hQ => ?_; simp [*]; (refine hQ.out _ ?_; clear hQ; clear Q')) | (refine q_drawW_guard rfl rfl fun Q1 Q2 h1 h2 => ?_; simp [*, twoB_some, twoV_some, ltFI, leFI, ltFN, leFN, grdF, yieldF, getA, opE, rdV, scE, constE]; (try (repeat' (first | refine And.intro ?_ ?_ | intro _))); all_goals (first | (exfalso; omega) | ((first | (exfalso; omega) | (refine h1.out ?_; clear h1 h2; clear Q1 Q2) | (refine h2.out ?_; clear h1 h2; clear Q1 Q2)); intro Q' hQ; simp [*]; (refine hQ.out _ ?_; clear hQ; clear Q')))) | refine q_regionW rfl rfl rfl ?_ | (refine regP_nil (by decide) ?_) | (refine regP_op rfl rfl fun Q' hQ => ?_; simp [*]; (refine hQ.out _ ?_; clear hQ; clear Q')) | (refine regP_guard rfl rfl fun Q1 Q2 h1 h2 => ?_; simp [*, twoB_some, twoV_some, ltFI, leFI, ltFN, leFN, grdF, yieldF, getA, opE, rdV, scE, constE]; (try (repeat' (first | refine And.intro ?_ ?_ | intro _))); all_goals (first | (exfalso; omega) | ((first | (exfalso; omega) | (refine h1.out ?_; clear h1 h2; clear Q1 Q2) | (refine h2.out ?_; clear h1 h2; clear Q1 Q2)); intro Q' hQ; simp [*]; (refine hQ.out _ ?_; clear hQ; clear Q')))))
    all_goals simp [*]

def H41 (xs : List (List Int)) (x : List Int) (k : Nat) : Fr := ⟨19, [(1, rE (ints x)), (7, rE (intss xs)), (8, rE (iT xs.length)), (9, rE (iT k))], []⟩
theorem c41 (xs : List (List Int)) (x : List Int) (h : short xs) (h2 : x.length < 2^62) : L 41 [intss xs, ints x] = some (iT (findI (fun y => decide (x = y)) xs), [.dead, .dead]) := by
  have h19 : ∀ i (h3 : i < xs.length), L 19 [ints x, ints xs[i]] = some (bT (decide (x = xs[i])), [.dead, .dead]) := fun i h3 => c19 _ _ h2 (h.2 _ (List.getElem_mem h3))
  obtain ⟨h, -⟩ := h
  refine L_run cfn41 fn41 (runF_of bd41 ⟨of_decide_eq_true rfl, of_decide_eq_true rfl⟩ ?_)
  simp only [entryF, entryT, entryO, entryE, isIo]
  repeat' (first | refine thenC_n ?_ | refine thenC_x ?_ | refine thenC_r ?_ | refine blockC_n ?_ | refine blockC_hit2 rfl ?_ | refine blockC_miss rfl ?_ | refine blockC_r ?_ | refine loopC_x ?_ | refine loopC_r ?_ | refine rangeC_x ?_ | refine rangeC_r ?_ | refine q_seq rfl ?_ | refine q_block rfl ?_ | (refine q_frz rfl rfl (by simp [*]; rfl) ?_) | (refine q_region rfl rfl rfl fun Q' hQ => ?_; simp [*]; (refine hQ.out _ ?_; clear hQ; clear Q')) | (refine q_if rfl fun Q1 Q2 h1 h2 => ?_; simp [*, twoB_some, twoV_some, ltFI, leFI, ltFN, leFN, guardF, yieldF, getA, opE, rdV, scE, constE]; (try (repeat' (first | refine And.intro ?_ ?_ | intro _))); all_goals (first | (exfalso; omega) | (refine h1.out ?_; clear h1 h2; clear Q1 Q2) | (refine h2.out ?_; clear h1 h2; clear Q1 Q2))) | refine q_exit rfl ?_ | refine q_ret rfl ?_ | refine q_skip rfl ?_ | refine q_label rfl ?_ | refine q_drawW rfl rfl rfl rfl ?_ | (refine q_drawW_nil rfl fun Q' hQ => ?_; simp [*]; (refine hQ.out _ ?_; clear hQ; clear Q')) | (refine q_drawW_op rfl rfl fun Q' hQ => ?_; simp [*]; (refine hQ.out _ ?_; clear hQ; clear Q')) | (refine q_drawW_guard rfl rfl fun Q1 Q2 h1 h2 => ?_; simp [*, twoB_some, twoV_some, ltFI, leFI, ltFN, leFN, grdF, yieldF, getA, opE, rdV, scE, constE]; (try (repeat' (first | refine And.intro ?_ ?_ | intro _))); all_goals (first | (exfalso; omega) | ((first | (exfalso; omega) | (refine h1.out ?_; clear h1 h2; clear Q1 Q2) | (refine h2.out ?_; clear h1 h2; clear Q1 Q2)); intro Q' hQ; simp [*]; (refine hQ.out _ ?_; clear hQ; clear Q')))) | refine q_regionW rfl rfl rfl ?_ | (refine regP_nil (by decide) ?_) | (refine regP_op rfl rfl fun Q' hQ => ?_; simp [*]; (refine hQ.out _ ?_; clear hQ; clear Q')) | (refine regP_guard rfl rfl fun Q1 Q2 h1 h2 => ?_; simp [*, twoB_some, twoV_some, ltFI, leFI, ltFN, leFN, grdF, yieldF, getA, opE, rdV, scE, constE]; (try (repeat' (first | refine And.intro ?_ ?_ | intro _))); all_goals (first | (exfalso; omega) | ((first | (exfalso; omega) | (refine h1.out ?_; clear h1 h2; clear Q1 Q2) | (refine h2.out ?_; clear h1 h2; clear Q1 Q2)); intro Q' hQ; simp [*]; (refine hQ.out _ ?_; clear hQ; clear Q')))))
  refine q_range rfl rfl (fun k => ∀ i, i < k → ∀ (h3 : i < xs.length), (decide (x = xs[i])) = false) (H41 xs x) xs.length (by simp only [LFm]; omega) (fun i hi => by omega) ?_ fun k hk hI => ?_
  · simp [*, H41]
  · have hw : IntKind.i64.wrap ((k : Int) + 1) = k + 1 := wrap_in (by omega) (by omega)
    have HI := Hid.mk hI
    clear hI
    have h19k := fun h3 => h19 k h3
    clear h19
    simp only [H41]
    repeat' (first | refine thenC_n ?_ | refine thenC_x ?_ | refine thenC_r ?_ | refine blockC_n ?_ | refine blockC_hit2 rfl ?_ | refine blockC_miss rfl ?_ | refine blockC_r ?_ | refine loopC_x ?_ | refine loopC_r ?_ | refine rangeC_x ?_ | refine rangeC_r ?_ | refine q_seq rfl ?_ | refine q_block rfl ?_ | (refine q_frz rfl rfl (by simp [*]; rfl) ?_) | (refine q_region rfl rfl rfl fun Q' hQ => ?_; simp [*]; (refine hQ.out _ ?_; clear hQ; clear Q')) | (refine q_if rfl fun Q1 Q2 h1 h2 => ?_; simp [*, twoB_some, twoV_some, ltFI, leFI, ltFN, leFN, guardF, yieldF, getA, opE, rdV, scE, constE]; (try (repeat' (first | refine And.intro ?_ ?_ | intro _))); all_goals (first | (exfalso; omega) | (refine h1.out ?_; clear h1 h2; clear Q1 Q2) | (refine h2.out ?_; clear h1 h2; clear Q1 Q2))) | refine q_exit rfl ?_ | refine q_ret rfl ?_ | refine q_skip rfl ?_ | refine q_label rfl ?_ | refine q_drawW rfl rfl rfl rfl ?_ | (refine q_drawW_nil rfl fun Q' hQ => ?_; simp [*]; (refine hQ.out _ ?_; clear hQ; clear Q')) | (refine q_drawW_op rfl rfl fun Q' hQ => ?_; simp [*]; (refine hQ.out _ ?_; clear hQ; clear Q')) | (refine q_drawW_guard rfl rfl fun Q1 Q2 h1 h2 => ?_; simp [*, twoB_some, twoV_some, ltFI, leFI, ltFN, leFN, grdF, yieldF, getA, opE, rdV, scE, constE]; (try (repeat' (first | refine And.intro ?_ ?_ | intro _))); all_goals (first | (exfalso; omega) | ((first | (exfalso; omega) | (refine h1.out ?_; clear h1 h2; clear Q1 Q2) | (refine h2.out ?_; clear h1 h2; clear Q1 Q2)); intro Q' hQ; simp [*]; (refine hQ.out _ ?_; clear hQ; clear Q')))) | refine q_regionW rfl rfl rfl ?_ | (refine regP_nil (by decide) ?_) | (refine regP_op rfl rfl fun Q' hQ => ?_; simp [*]; (refine hQ.out _ ?_; clear hQ; clear Q')) | (refine regP_guard rfl rfl fun Q1 Q2 h1 h2 => ?_; simp [*, twoB_some, twoV_some, ltFI, leFI, ltFN, leFN, grdF, yieldF, getA, opE, rdV, scE, constE]; (try (repeat' (first | refine And.intro ?_ ?_ | intro _))); all_goals (first | (exfalso; omega) | ((first | (exfalso; omega) | (refine h1.out ?_; clear h1 h2; clear Q1 Q2) | (refine h2.out ?_; clear h1 h2; clear Q1 Q2)); intro Q' hQ; simp [*]; (refine hQ.out _ ?_; clear hQ; clear Q')))))
    all_goals first
      | (have a1 : k < xs.length := by assumption
         have a3 : x = xs[k] := by assumption
         have e : findI (fun y => decide (x = y)) xs = k := findI_hit a1 (by simpa using a3) HI.out
         rw [e]
         clear e a3
         simp [*]
         done)
      | (have a1 : k < xs.length := by assumption
         have a3 : ¬ x = xs[k] := by assumption
         refine rangeC_n a1 (fun i hi h3 => ?_) ?_
         · by_cases e : i = k
           · subst e; simpa using a3
           · exact HI.out i (by omega) h3
         · clear h19k
           simp [*, H41])
      | (have e : findI (fun y => decide (x = y)) xs = -1 := findI_none fun i h3 => HI.out i (by omega) h3
         rw [e]
         clear e
         simp [*])

def H61 (rs : List CRow) (p : List Int) (k : Nat) : Fr := ⟨21, [(1, rE (ints p)), (8, rE (rowsT rs)), (9, rE (iT rs.length)), (10, rE (iT k))], []⟩
theorem c61 (c : Casc) (p : List Int) (h : CB c) (h2 : p.length < 2^62) : L 61 [cascT c, ints p] = some (iT (findI (fun r => decide (r.pre = p)) c.rows), [.dead, .dead]) := by
  have h19 : ∀ i (h3 : i < c.rows.length), L 19 [ints c.rows[i].pre, ints p] = some (bT (decide (c.rows[i].pre = p)), [.dead, .dead]) := fun i h3 => c19 _ _ (h.row _ (List.getElem_mem h3)).pre h2
  have h := h.rows
  refine L_run cfn61 fn61 (runF_of bd61 ⟨of_decide_eq_true rfl, of_decide_eq_true rfl⟩ ?_)
  simp only [entryF, entryT, entryO, entryE, isIo]
  repeat' (first | refine thenC_n ?_ | refine thenC_x ?_ | refine thenC_r ?_ | refine blockC_n ?_ | refine blockC_hit2 rfl ?_ | refine blockC_miss rfl ?_ | refine blockC_r ?_ | refine loopC_x ?_ | refine loopC_r ?_ | refine rangeC_x ?_ | refine rangeC_r ?_ | refine q_seq rfl ?_ | refine q_block rfl ?_ | (refine q_frz rfl rfl (by simp [*]; rfl) ?_) | (refine q_region rfl rfl rfl fun Q' hQ => ?_; simp [*]; (refine hQ.out _ ?_; clear hQ; clear Q')) | (refine q_if rfl fun Q1 Q2 h1 h2 => ?_; simp [*, twoB_some, twoV_some, ltFI, leFI, ltFN, leFN, guardF, yieldF, getA, opE, rdV, scE, constE]; (try (repeat' (first | refine And.intro ?_ ?_ | intro _))); all_goals (first | (exfalso; omega) | (refine h1.out ?_; clear h1 h2; clear Q1 Q2) | (refine h2.out ?_; clear h1 h2; clear Q1 Q2))) | refine q_exit rfl ?_ | refine q_ret rfl ?_ | refine q_skip rfl ?_ | refine q_label rfl ?_ | refine q_drawW rfl rfl rfl rfl ?_ | (refine q_drawW_nil rfl fun Q' hQ => ?_; simp [*]; (refine hQ.out _ ?_; clear hQ; clear Q')) | (refine q_drawW_op rfl rfl fun Q' hQ => ?_; simp [*]; (refine hQ.out _ ?_; clear hQ; clear Q')) | (refine q_drawW_guard rfl rfl fun Q1 Q2 h1 h2 => ?_; simp [*, twoB_some, twoV_some, ltFI, leFI, ltFN, leFN, grdF, yieldF, getA, opE, rdV, scE, constE]; (try (repeat' (first | refine And.intro ?_ ?_ | intro _))); all_goals (first | (exfalso; omega) | ((first | (exfalso; omega) | (refine h1.out ?_; clear h1 h2; clear Q1 Q2) | (refine h2.out ?_; clear h1 h2; clear Q1 Q2)); intro Q' hQ; simp [*]; (refine hQ.out _ ?_; clear hQ; clear Q')))) | refine q_regionW rfl rfl rfl ?_ | (refine regP_nil (by decide) ?_) | (refine regP_op rfl rfl fun Q' hQ => ?_; simp [*]; (refine hQ.out _ ?_; clear hQ; clear Q')) | (refine regP_guard rfl rfl fun Q1 Q2 h1 h2 => ?_; simp [*, twoB_some, twoV_some, ltFI, leFI, ltFN, leFN, grdF, yieldF, getA, opE, rdV, scE, constE]; (try (repeat' (first | refine And.intro ?_ ?_ | intro _))); all_goals (first | (exfalso; omega) | ((first | (exfalso; omega) | (refine h1.out ?_; clear h1 h2; clear Q1 Q2) | (refine h2.out ?_; clear h1 h2; clear Q1 Q2)); intro Q' hQ; simp [*]; (refine hQ.out _ ?_; clear hQ; clear Q')))))
  refine q_range rfl rfl (fun k => ∀ i, i < k → ∀ (h3 : i < c.rows.length), (decide (c.rows[i].pre = p)) = false) (H61 c.rows p) c.rows.length (by simp only [LFm]; omega) (fun i hi => by omega) ?_ fun k hk hI => ?_
  · simp [*, H61]
  · have hw : IntKind.i64.wrap ((k : Int) + 1) = k + 1 := wrap_in (by omega) (by omega)
    have HI := Hid.mk hI
    clear hI
    have h19k := fun h3 => h19 k h3
    clear h19
    simp only [H61]
    repeat' (first | refine thenC_n ?_ | refine thenC_x ?_ | refine thenC_r ?_ | refine blockC_n ?_ | refine blockC_hit2 rfl ?_ | refine blockC_miss rfl ?_ | refine blockC_r ?_ | refine loopC_x ?_ | refine loopC_r ?_ | refine rangeC_x ?_ | refine rangeC_r ?_ | refine q_seq rfl ?_ | refine q_block rfl ?_ | (refine q_frz rfl rfl (by simp [*]; rfl) ?_) | (refine q_region rfl rfl rfl fun Q' hQ => ?_; simp [*]; (refine hQ.out _ ?_; clear hQ; clear Q')) | (refine q_if rfl fun Q1 Q2 h1 h2 => ?_; simp [*, twoB_some, twoV_some, ltFI, leFI, ltFN, leFN, guardF, yieldF, getA, opE, rdV, scE, constE]; (try (repeat' (first | refine And.intro ?_ ?_ | intro _))); all_goals (first | (exfalso; omega) | (refine h1.out ?_; clear h1 h2; clear Q1 Q2) | (refine h2.out ?_; clear h1 h2; clear Q1 Q2))) | refine q_exit rfl ?_ | refine q_ret rfl ?_ | refine q_skip rfl ?_ | refine q_label rfl ?_ | refine q_drawW rfl rfl rfl rfl ?_ | (refine q_drawW_nil rfl fun Q' hQ => ?_; simp [*]; (refine hQ.out _ ?_; clear hQ; clear Q')) | (refine q_drawW_op rfl rfl fun Q' hQ => ?_; simp [*]; (refine hQ.out _ ?_; clear hQ; clear Q')) | (refine q_drawW_guard rfl rfl fun Q1 Q2 h1 h2 => ?_; simp [*, twoB_some, twoV_some, ltFI, leFI, ltFN, leFN, grdF, yieldF, getA, opE, rdV, scE, constE]; (try (repeat' (first | refine And.intro ?_ ?_ | intro _))); all_goals (first | (exfalso; omega) | ((first | (exfalso; omega) | (refine h1.out ?_; clear h1 h2; clear Q1 Q2) | (refine h2.out ?_; clear h1 h2; clear Q1 Q2)); intro Q' hQ; simp [*]; (refine hQ.out _ ?_; clear hQ; clear Q')))) | refine q_regionW rfl rfl rfl ?_ | (refine regP_nil (by decide) ?_) | (refine regP_op rfl rfl fun Q' hQ => ?_; simp [*]; (refine hQ.out _ ?_; clear hQ; clear Q')) | (refine regP_guard rfl rfl fun Q1 Q2 h1 h2 => ?_; simp [*, twoB_some, twoV_some, ltFI, leFI, ltFN, leFN, grdF, yieldF, getA, opE, rdV, scE, constE]; (try (repeat' (first | refine And.intro ?_ ?_ | intro _))); all_goals (first | (exfalso; omega) | ((first | (exfalso; omega) | (refine h1.out ?_; clear h1 h2; clear Q1 Q2) | (refine h2.out ?_; clear h1 h2; clear Q1 Q2)); intro Q' hQ; simp [*]; (refine hQ.out _ ?_; clear hQ; clear Q')))))
    all_goals first
      | (have a1 : k < c.rows.length := by assumption
         have a3 : c.rows[k].pre = p := by assumption
         have e : findI (fun r => decide (r.pre = p)) c.rows = k := findI_hit a1 (by simpa using a3) HI.out
         rw [e]
         clear e a3
         simp [*]
         done)
      | (have a1 : k < c.rows.length := by assumption
         have a3 : ¬ c.rows[k].pre = p := by assumption
         refine rangeC_n a1 (fun i hi h3 => ?_) ?_
         · by_cases e : i = k
           · subst e; simpa using a3
           · exact HI.out i (by omega) h3
         · clear h19k
           simp [*, H61])
      | (have e : findI (fun r => decide (r.pre = p)) c.rows = -1 := findI_none fun i h3 => HI.out i (by omega) h3
         rw [e]
         clear e
         simp [*])
end Go.Proofs.YthalofddjlhcjaaDoor
end
section
/- What a valid row is: program. -/
namespace Go.Proofs.YthalofddjlhcjaaDoor
open Go
set_option maxRecDepth 100000
set_option maxHeartbeats 4000000
set_option linter.unusedVariables false
set_option linter.unusedSimpArgs false

def H62 (c : Casc) (r : CRow) (k : Nat) : Fr := ⟨70, [(2, aE 2), (5, rE (iT r.pre.length)), (37, rE (intss r.maps)), (38, rE (iT r.maps.length)), (39, rE (iT k))], [(2, .vr [iT c.letters, ints c.sizes, rowsT c.rows])]⟩
def H62b (c : Casc) (r : CRow) (k : Nat) (f : List Int) (j : Nat) : Fr := ⟨70, [(2, aE 2), (5, rE (iT r.pre.length)), (37, rE (intss r.maps)), (38, rE (iT r.maps.length)), (39, rE (iT k)), (51, rE (ints f)), (52, rE (iT f.length)), (53, rE (iT j))], [(2, .vr [iT c.letters, ints c.sizes, rowsT c.rows])]⟩
theorem mapB_bad {n : Int} {m : List Int} (j : Nat) (hj : j < m.length) (h : ¬ (0 ≤ m[j] ∧ m[j] < n)) : mapB n m = false := by
  unfold mapB
  rw [Bool.and_eq_false_iff]
  right
  rw [List.all_eq_false]
  exact ⟨m[j], List.getElem_mem hj, by simpa using h⟩

theorem c62 (c : Casc) (r : CRow) (h : CB c) (hr : RB r) : L 62 [cascT c, rowT r] = some (bT (rowB c r), [.dead, .dead]) := by
  have hsz := h.sz
  have hp := hr.pre
  obtain ⟨hm1, hm2⟩ := hr.maps
  clear h hr
  refine L_run cfn62 fn62 (runF_of bd62 ⟨of_decide_eq_true rfl, of_decide_eq_true rfl⟩ ?_)
  simp only [entryF, entryT, entryO, entryE, isIo]
  by_cases h1 : r.pre.length < c.sizes.length
  case neg =>
    have e : rowB c r = false := rowB_short c r h1
    rw [e]
    clear e
    repeat' (first | refine thenC_n ?_ | refine thenC_x ?_ | refine thenC_r ?_ | refine blockC_n ?_ | refine blockC_hit2 rfl ?_ | refine blockC_miss rfl ?_ | refine blockC_r ?_ | refine loopC_x ?_ | refine loopC_r ?_ | refine rangeC_x ?_ | refine rangeC_r ?_ | refine q_seq rfl ?_ | refine q_block rfl ?_ | (refine q_frz rfl rfl (by simp [*]; rfl) ?_) | (refine q_region rfl rfl rfl fun Q' hQ => ?_; simp [*]; (refine hQ.out _ ?_; clear hQ; clear Q')) | (refine q_if rfl fun Q1 Q2 h1 h2 => ?_; simp [*, twoB_some, twoV_some, ltFI, leFI, ltFN, leFN, guardF, yieldF, getA, opE, rdV, scE, constE]; (try (repeat' (first | refine And.intro ?_ ?_ | intro _))); all_goals (first | (exfalso; omega) | (refine h1.out ?_; clear h1 h2; clear Q1 Q2) | (refine h2.out ?_; clear h1 h2; clear Q1 Q2))) | refine q_exit rfl ?_ | refine q_ret rfl ?_ | refine q_skip rfl ?_ | refine q_label rfl ?_ | refine q_drawW rfl rfl rfl rfl ?_ | (refine q_drawW_nil rfl fun Q' hQ => ?_; simp [*]; (refine hQ.out _ ?_; clear hQ; clear Q')) | (refine q_drawW_op rfl rfl fun Q' hQ => ?_; simp [*]; (refine hQ.out _ ?_; clear hQ; clear Q')) | (refine q_drawW_guard rfl rfl fun Q1 Q2 h1 h2 => ?_; simp [*, twoB_some, twoV_some, ltFI, leFI, ltFN, leFN, grdF, yieldF, getA, opE, rdV, scE, constE]; (try (repeat' (first | refine And.intro ?_ ?_ | intro _))); all_goals (first | (exfalso; omega) | ((first | (exfalso; omega) | (refine h1.out ?_; clear h1 h2; clear Q1 Q2) | (refine h2.out ?_; clear h1 h2; clear Q1 Q2)); intro Q' hQ; simp [*]; (refine hQ.out _ ?_; clear hQ; clear Q')))) | refine q_regionW rfl rfl rfl ?_ | (refine regP_nil (by decide) ?_) | (refine regP_op rfl rfl fun Q' hQ => ?_; simp [*]; (refine hQ.out _ ?_; clear hQ; clear Q')) | (refine regP_guard rfl rfl fun Q1 Q2 h1 h2 => ?_; simp [*, twoB_some, twoV_some, ltFI, leFI, ltFN, leFN, grdF, yieldF, getA, opE, rdV, scE, constE]; (try (repeat' (first | refine And.intro ?_ ?_ | intro _))); all_goals (first | (exfalso; omega) | ((first | (exfalso; omega) | (refine h1.out ?_; clear h1 h2; clear Q1 Q2) | (refine h2.out ?_; clear h1 h2; clear Q1 Q2)); intro Q' hQ; simp [*]; (refine hQ.out _ ?_; clear hQ; clear Q')))))
    all_goals simp [*]
  have h31 : L 31 [.sl r.pre.length (List.take r.pre.length (List.map (fun x => T.sc (.int .i64 x)) c.sizes)), ints r.pre] = some (bT (inB c.sizes r.pre), [.dead, .dead]) := by
    have := c31 (c.sizes.take r.pre.length) r.pre hp (by simp; omega)
    rw [tupB_take c.sizes r.pre h1] at this
    rw [← this]
    simp [ints, List.map_take, Nat.min_eq_left (Nat.le_of_lt h1)]
  have hle : r.pre.length ≤ c.sizes.length := by omega
  by_cases h2 : inB c.sizes r.pre = true
  case neg =>
    have h2 : inB c.sizes r.pre = false := by simpa using h2
    have e : rowB c r = false := rowB_in c r h2
    rw [e]
    clear e
    rw [h2] at h31
    repeat' (first | refine thenC_n ?_ | refine thenC_x ?_ | refine thenC_r ?_ | refine blockC_n ?_ | refine blockC_hit2 rfl ?_ | refine blockC_miss rfl ?_ | refine blockC_r ?_ | refine loopC_x ?_ | refine loopC_r ?_ | refine rangeC_x ?_ | refine rangeC_r ?_ | refine q_seq rfl ?_ | refine q_block rfl ?_ | (refine q_frz rfl rfl (by simp [*]; rfl) ?_) | (refine q_region rfl rfl rfl fun Q' hQ => ?_; simp [*]; (refine hQ.out _ ?_; clear hQ; clear Q')) | (refine q_if rfl fun Q1 Q2 h1 h2 => ?_; simp [*, twoB_some, twoV_some, ltFI, leFI, ltFN, leFN, guardF, yieldF, getA, opE, rdV, scE, constE]; (try (repeat' (first | refine And.intro ?_ ?_ | intro _))); all_goals (first | (exfalso; omega) | (refine h1.out ?_; clear h1 h2; clear Q1 Q2) | (refine h2.out ?_; clear h1 h2; clear Q1 Q2))) | refine q_exit rfl ?_ | refine q_ret rfl ?_ | refine q_skip rfl ?_ | refine q_label rfl ?_ | refine q_drawW rfl rfl rfl rfl ?_ | (refine q_drawW_nil rfl fun Q' hQ => ?_; simp [*]; (refine hQ.out _ ?_; clear hQ; clear Q')) | (refine q_drawW_op rfl rfl fun Q' hQ => ?_; simp [*]; (refine hQ.out _ ?_; clear hQ; clear Q')) | (refine q_drawW_guard rfl rfl fun Q1 Q2 h1 h2 => ?_; simp [*, twoB_some, twoV_some, ltFI, leFI, ltFN, leFN, grdF, yieldF, getA, opE, rdV, scE, constE]; (try (repeat' (first | refine And.intro ?_ ?_ | intro _))); all_goals (first | (exfalso; omega) | ((first | (exfalso; omega) | (refine h1.out ?_; clear h1 h2; clear Q1 Q2) | (refine h2.out ?_; clear h1 h2; clear Q1 Q2)); intro Q' hQ; simp [*]; (refine hQ.out _ ?_; clear hQ; clear Q')))) | refine q_regionW rfl rfl rfl ?_ | (refine regP_nil (by decide) ?_) | (refine regP_op rfl rfl fun Q' hQ => ?_; simp [*]; (refine hQ.out _ ?_; clear hQ; clear Q')) | (refine regP_guard rfl rfl fun Q1 Q2 h1 h2 => ?_; simp [*, twoB_some, twoV_some, ltFI, leFI, ltFN, leFN, grdF, yieldF, getA, opE, rdV, scE, constE]; (try (repeat' (first | refine And.intro ?_ ?_ | intro _))); all_goals (first | (exfalso; omega) | ((first | (exfalso; omega) | (refine h1.out ?_; clear h1 h2; clear Q1 Q2) | (refine h2.out ?_; clear h1 h2; clear Q1 Q2)); intro Q' hQ; simp [*]; (refine hQ.out _ ?_; clear hQ; clear Q')))))
    all_goals simp [*]
  by_cases h3 : (r.maps.length : Int) = c.letters
  case neg =>
    have e : rowB c r = false := rowB_letters c r h3
    rw [e]
    clear e
    rw [h2] at h31
    repeat' (first | refine thenC_n ?_ | refine thenC_x ?_ | refine thenC_r ?_ | refine blockC_n ?_ | refine blockC_hit2 rfl ?_ | refine blockC_miss rfl ?_ | refine blockC_r ?_ | refine loopC_x ?_ | refine loopC_r ?_ | refine rangeC_x ?_ | refine rangeC_r ?_ | refine q_seq rfl ?_ | refine q_block rfl ?_ | (refine q_frz rfl rfl (by simp [*]; rfl) ?_) | (refine q_region rfl rfl rfl fun Q' hQ => ?_; simp [*]; (refine hQ.out _ ?_; clear hQ; clear Q')) | (refine q_if rfl fun Q1 Q2 h1 h2 => ?_; simp [*, twoB_some, twoV_some, ltFI, leFI, ltFN, leFN, guardF, yieldF, getA, opE, rdV, scE, constE]; (try (repeat' (first | refine And.intro ?_ ?_ | intro _))); all_goals (first | (exfalso; omega) | (refine h1.out ?_; clear h1 h2; clear Q1 Q2) | (refine h2.out ?_; clear h1 h2; clear Q1 Q2))) | refine q_exit rfl ?_ | refine q_ret rfl ?_ | refine q_skip rfl ?_ | refine q_label rfl ?_ | refine q_drawW rfl rfl rfl rfl ?_ | (refine q_drawW_nil rfl fun Q' hQ => ?_; simp [*]; (refine hQ.out _ ?_; clear hQ; clear Q')) | (refine q_drawW_op rfl rfl fun Q' hQ => ?_; simp [*]; (refine hQ.out _ ?_; clear hQ; clear Q')) | (refine q_drawW_guard rfl rfl fun Q1 Q2 h1 h2 => ?_; simp [*, twoB_some, twoV_some, ltFI, leFI, ltFN, leFN, grdF, yieldF, getA, opE, rdV, scE, constE]; (try (repeat' (first | refine And.intro ?_ ?_ | intro _))); all_goals (first | (exfalso; omega) | ((first | (exfalso; omega) | (refine h1.out ?_; clear h1 h2; clear Q1 Q2) | (refine h2.out ?_; clear h1 h2; clear Q1 Q2)); intro Q' hQ; simp [*]; (refine hQ.out _ ?_; clear hQ; clear Q')))) | refine q_regionW rfl rfl rfl ?_ | (refine regP_nil (by decide) ?_) | (refine regP_op rfl rfl fun Q' hQ => ?_; simp [*]; (refine hQ.out _ ?_; clear hQ; clear Q')) | (refine regP_guard rfl rfl fun Q1 Q2 h1 h2 => ?_; simp [*, twoB_some, twoV_some, ltFI, leFI, ltFN, leFN, grdF, yieldF, getA, opE, rdV, scE, constE]; (try (repeat' (first | refine And.intro ?_ ?_ | intro _))); all_goals (first | (exfalso; omega) | ((first | (exfalso; omega) | (refine h1.out ?_; clear h1 h2; clear Q1 Q2) | (refine h2.out ?_; clear h1 h2; clear Q1 Q2)); intro Q' hQ; simp [*]; (refine hQ.out _ ?_; clear hQ; clear Q')))))
    all_goals simp [*]
  have e0 : rowB c r = r.maps.all (mapB c.sizes[r.pre.length]) := by rw [rowB_maps c r h1 h2 h3, getD_of_lt 0 h1]
  rw [e0]
  rw [h2] at h31
  clear e0 h2
  repeat' (first | refine thenC_n ?_ | refine thenC_x ?_ | refine thenC_r ?_ | refine blockC_n ?_ | refine blockC_hit2 rfl ?_ | refine blockC_miss rfl ?_ | refine blockC_r ?_ | refine loopC_x ?_ | refine loopC_r ?_ | refine rangeC_x ?_ | refine rangeC_r ?_ | refine q_seq rfl ?_ | refine q_block rfl ?_ | (refine q_frz rfl rfl (by simp [*]; rfl) ?_) | (refine q_region rfl rfl rfl fun Q' hQ => ?_; simp [*]; (refine hQ.out _ ?_; clear hQ; clear Q')) | (refine q_if rfl fun Q1 Q2 h1 h2 => ?_; simp [*, twoB_some, twoV_some, ltFI, leFI, ltFN, leFN, guardF, yieldF, getA, opE, rdV, scE, constE]; (try (repeat' (first | refine And.intro ?_ ?_ | intro _))); all_goals (first | (exfalso; omega) | (refine h1.out ?_; clear h1 h2; clear Q1 Q2) | (refine h2.out ?_; clear h1 h2; clear Q1 Q2))) | refine q_exit rfl ?_ | refine q_ret rfl ?_ | refine q_skip rfl ?_ | refine q_label rfl ?_ | refine q_drawW rfl rfl rfl rfl ?_ | (refine q_drawW_nil rfl fun Q' hQ => ?_; simp [*]; (refine hQ.out _ ?_; clear hQ; clear Q')) | (refine q_drawW_op rfl rfl fun Q' hQ => ?_; simp [*]; (refine hQ.out _ ?_; clear hQ; clear Q')) | (refine q_drawW_guard rfl rfl fun Q1 Q2 h1 h2 => ?_; simp [*, twoB_some, twoV_some, ltFI, leFI, ltFN, leFN, grdF, yieldF, getA, opE, rdV, scE, constE]; (try (repeat' (first | refine And.intro ?_ ?_ | intro _))); all_goals (first | (exfalso; omega) | ((first | (exfalso; omega) | (refine h1.out ?_; clear h1 h2; clear Q1 Q2) | (refine h2.out ?_; clear h1 h2; clear Q1 Q2)); intro Q' hQ; simp [*]; (refine hQ.out _ ?_; clear hQ; clear Q')))) | refine q_regionW rfl rfl rfl ?_ | (refine regP_nil (by decide) ?_) | (refine regP_op rfl rfl fun Q' hQ => ?_; simp [*]; (refine hQ.out _ ?_; clear hQ; clear Q')) | (refine regP_guard rfl rfl fun Q1 Q2 h1 h2 => ?_; simp [*, twoB_some, twoV_some, ltFI, leFI, ltFN, leFN, grdF, yieldF, getA, opE, rdV, scE, constE]; (try (repeat' (first | refine And.intro ?_ ?_ | intro _))); all_goals (first | (exfalso; omega) | ((first | (exfalso; omega) | (refine h1.out ?_; clear h1 h2; clear Q1 Q2) | (refine h2.out ?_; clear h1 h2; clear Q1 Q2)); intro Q' hQ; simp [*]; (refine hQ.out _ ?_; clear hQ; clear Q')))))
  clear h31
  have H3 := Hid.mk h3
  clear h3
  refine q_range rfl rfl (fun k => ∀ i, i < k → ∀ h : i < r.maps.length, mapB c.sizes[r.pre.length] r.maps[i] = true) (H62 c r) r.maps.length (by simp only [LFm]; omega) (fun i hi => by omega) ?_ fun k hk hI => ?_
  · have h3 := H3.out
    simp [*, H62]
  · have hw : IntKind.i64.wrap ((k : Int) + 1) = k + 1 := wrap_in (by omega) (by omega)
    have HI := Hid.mk hI
    clear hI
    simp only [H62]
    by_cases hlt : k < r.maps.length
    case neg =>
      have e : r.maps.all (mapB c.sizes[r.pre.length]) = true := by
        rw [List.all_eq_true]
        intro m hm
        obtain ⟨i, hi, rfl⟩ := List.getElem_of_mem hm
        exact HI.out i (by omega) hi
      rw [e]
      clear e
      repeat' (first | refine thenC_n ?_ | refine thenC_x ?_ | refine thenC_r ?_ | refine blockC_n ?_ | refine blockC_hit2 rfl ?_ | refine blockC_miss rfl ?_ | refine blockC_r ?_ | refine loopC_x ?_ | refine loopC_r ?_ | refine rangeC_x ?_ | refine rangeC_r ?_ | refine q_seq rfl ?_ | refine q_block rfl ?_ | (refine q_frz rfl rfl (by simp [*]; rfl) ?_) | (refine q_region rfl rfl rfl fun Q' hQ => ?_; simp [*]; (refine hQ.out _ ?_; clear hQ; clear Q')) | (refine q_if rfl fun Q1 Q2 h1 h2 => ?_; simp [*, twoB_some, twoV_some, ltFI, leFI, ltFN, leFN, guardF, yieldF, getA, opE, rdV, scE, constE]; (try (repeat' (first | refine And.intro ?_ ?_ | intro _))); all_goals (first | (exfalso; omega) | (refine h1.out ?_; clear h1 h2; clear Q1 Q2) | (refine h2.out ?_; clear h1 h2; clear Q1 Q2))) | refine q_exit rfl ?_ | refine q_ret rfl ?_ | refine q_skip rfl ?_ | refine q_label rfl ?_ | refine q_drawW rfl rfl rfl rfl ?_ | (refine q_drawW_nil rfl fun Q' hQ => ?_; simp [*]; (refine hQ.out _ ?_; clear hQ; clear Q')) | (refine q_drawW_op rfl rfl fun Q' hQ => ?_; simp [*]; (refine hQ.out _ ?_; clear hQ; clear Q')) | (refine q_drawW_guard rfl rfl fun Q1 Q2 h1 h2 => ?_; simp [*, twoB_some, twoV_some, ltFI, leFI, ltFN, leFN, grdF, yieldF, getA, opE, rdV, scE, constE]; (try (repeat' (first | refine And.intro ?_ ?_ | intro _))); all_goals (first | (exfalso; omega) | ((first | (exfalso; omega) | (refine h1.out ?_; clear h1 h2; clear Q1 Q2) | (refine h2.out ?_; clear h1 h2; clear Q1 Q2)); intro Q' hQ; simp [*]; (refine hQ.out _ ?_; clear hQ; clear Q')))) | refine q_regionW rfl rfl rfl ?_ | (refine regP_nil (by decide) ?_) | (refine regP_op rfl rfl fun Q' hQ => ?_; simp [*]; (refine hQ.out _ ?_; clear hQ; clear Q')) | (refine regP_guard rfl rfl fun Q1 Q2 h1 h2 => ?_; simp [*, twoB_some, twoV_some, ltFI, leFI, ltFN, leFN, grdF, yieldF, getA, opE, rdV, scE, constE]; (try (repeat' (first | refine And.intro ?_ ?_ | intro _))); all_goals (first | (exfalso; omega) | ((first | (exfalso; omega) | (refine h1.out ?_; clear h1 h2; clear Q1 Q2) | (refine h2.out ?_; clear h1 h2; clear Q1 Q2)); intro Q' hQ; simp [*]; (refine hQ.out _ ?_; clear hQ; clear Q')))))
      all_goals simp [*]
    have hfl := hm2 _ (List.getElem_mem hlt)
    have hbad : mapB c.sizes[r.pre.length] r.maps[k] = false → r.maps.all (mapB c.sizes[r.pre.length]) = false := fun hb => by
      rw [List.all_eq_false]
      exact ⟨_, List.getElem_mem hlt, by simp [hb]⟩
    clear hm2
    by_cases hl : (r.maps[k].length : Int) = c.sizes[r.pre.length]
    case neg =>
      have e : r.maps.all (mapB c.sizes[r.pre.length]) = false := hbad (by simp [mapB, hl])
      rw [e]
      clear e hbad
      repeat' (first | refine thenC_n ?_ | refine thenC_x ?_ | refine thenC_r ?_ | refine blockC_n ?_ | refine blockC_hit2 rfl ?_ | refine blockC_miss rfl ?_ | refine blockC_r ?_ | refine loopC_x ?_ | refine loopC_r ?_ | refine rangeC_x ?_ | refine rangeC_r ?_ | refine q_seq rfl ?_ | refine q_block rfl ?_ | (refine q_frz rfl rfl (by simp [*]; rfl) ?_) | (refine q_region rfl rfl rfl fun Q' hQ => ?_; simp [*]; (refine hQ.out _ ?_; clear hQ; clear Q')) | (refine q_if rfl fun Q1 Q2 h1 h2 => ?_; simp [*, twoB_some, twoV_some, ltFI, leFI, ltFN, leFN, guardF, yieldF, getA, opE, rdV, scE, constE]; (try (repeat' (first | refine And.intro ?_ ?_ | intro _))); all_goals (first | (exfalso; omega) | (refine h1.out ?_; clear h1 h2; clear Q1 Q2) | (refine h2.out ?_; clear h1 h2; clear Q1 Q2))) | refine q_exit rfl ?_ | refine q_ret rfl ?_ | refine q_skip rfl ?_ | refine q_label rfl ?_ | refine q_drawW rfl rfl rfl rfl ?_ | (refine q_drawW_nil rfl fun Q' hQ => ?_; simp [*]; (refine hQ.out _ ?_; clear hQ; clear Q')) | (refine q_drawW_op rfl rfl fun Q' hQ => ?_; simp [*]; (refine hQ.out _ ?_; clear hQ; clear Q')) | (refine q_drawW_guard rfl rfl fun Q1 Q2 h1 h2 => ?_; simp [*, twoB_some, twoV_some, ltFI, leFI, ltFN, leFN, grdF, yieldF, getA, opE, rdV, scE, constE]; (try (repeat' (first | refine And.intro ?_ ?_ | intro _))); all_goals (first | (exfalso; omega) | ((first | (exfalso; omega) | (refine h1.out ?_; clear h1 h2; clear Q1 Q2) | (refine h2.out ?_; clear h1 h2; clear Q1 Q2)); intro Q' hQ; simp [*]; (refine hQ.out _ ?_; clear hQ; clear Q')))) | refine q_regionW rfl rfl rfl ?_ | (refine regP_nil (by decide) ?_) | (refine regP_op rfl rfl fun Q' hQ => ?_; simp [*]; (refine hQ.out _ ?_; clear hQ; clear Q')) | (refine regP_guard rfl rfl fun Q1 Q2 h1 h2 => ?_; simp [*, twoB_some, twoV_some, ltFI, leFI, ltFN, leFN, grdF, yieldF, getA, opE, rdV, scE, constE]; (try (repeat' (first | refine And.intro ?_ ?_ | intro _))); all_goals (first | (exfalso; omega) | ((first | (exfalso; omega) | (refine h1.out ?_; clear h1 h2; clear Q1 Q2) | (refine h2.out ?_; clear h1 h2; clear Q1 Q2)); intro Q' hQ; simp [*]; (refine hQ.out _ ?_; clear hQ; clear Q')))))
      all_goals simp [*]
    have HB := Hid.mk hbad
    clear hbad
    repeat' (first | refine thenC_n ?_ | refine thenC_x ?_ | refine thenC_r ?_ | refine blockC_n ?_ | refine blockC_hit2 rfl ?_ | refine blockC_miss rfl ?_ | refine blockC_r ?_ | refine loopC_x ?_ | refine loopC_r ?_ | refine rangeC_x ?_ | refine rangeC_r ?_ | refine q_seq rfl ?_ | refine q_block rfl ?_ | (refine q_frz rfl rfl (by simp [*]; rfl) ?_) | (refine q_region rfl rfl rfl fun Q' hQ => ?_; simp [*]; (refine hQ.out _ ?_; clear hQ; clear Q')) | (refine q_if rfl fun Q1 Q2 h1 h2 => ?_; simp [*, twoB_some, twoV_some, ltFI, leFI, ltFN, leFN, guardF, yieldF, getA, opE, rdV, scE, constE]; (try (repeat' (first | refine And.intro ?_ ?_ | intro _))); all_goals (first | (exfalso; omega) | (refine h1.out ?_; clear h1 h2; clear Q1 Q2) | (refine h2.out ?_; clear h1 h2; clear Q1 Q2))) | refine q_exit rfl ?_ | refine q_ret rfl ?_ | refine q_skip rfl ?_ | refine q_label rfl ?_ | refine q_drawW rfl rfl rfl rfl ?_ | (refine q_drawW_nil rfl fun Q' hQ => ?_; simp [*]; (refine hQ.out _ ?_; clear hQ; clear Q')) | (refine q_drawW_op rfl rfl fun Q' hQ => ?_; simp [*]; (refine hQ.out _ ?_; clear hQ; clear Q')) | (refine q_drawW_guard rfl rfl fun Q1 Q2 h1 h2 => ?_; simp [*, twoB_some, twoV_some, ltFI, leFI, ltFN, leFN, grdF, yieldF, getA, opE, rdV, scE, constE]; (try (repeat' (first | refine And.intro ?_ ?_ | intro _))); all_goals (first | (exfalso; omega) | ((first | (exfalso; omega) | (refine h1.out ?_; clear h1 h2; clear Q1 Q2) | (refine h2.out ?_; clear h1 h2; clear Q1 Q2)); intro Q' hQ; simp [*]; (refine hQ.out _ ?_; clear hQ; clear Q')))) | refine q_regionW rfl rfl rfl ?_ | (refine regP_nil (by decide) ?_) | (refine regP_op rfl rfl fun Q' hQ => ?_; simp [*]; (refine hQ.out _ ?_; clear hQ; clear Q')) | (refine regP_guard rfl rfl fun Q1 Q2 h1 h2 => ?_; simp [*, twoB_some, twoV_some, ltFI, leFI, ltFN, leFN, grdF, yieldF, getA, opE, rdV, scE, constE]; (try (repeat' (first | refine And.intro ?_ ?_ | intro _))); all_goals (first | (exfalso; omega) | ((first | (exfalso; omega) | (refine h1.out ?_; clear h1 h2; clear Q1 Q2) | (refine h2.out ?_; clear h1 h2; clear Q1 Q2)); intro Q' hQ; simp [*]; (refine hQ.out _ ?_; clear hQ; clear Q')))))
    refine q_range rfl rfl (fun j => ∀ i, i < j → ∀ h : i < r.maps[k].length, 0 ≤ r.maps[k][i] ∧ r.maps[k][i] < c.sizes[r.pre.length]) (H62b c r k r.maps[k]) r.maps[k].length (by simp only [LFm]; omega) (fun i hi => by omega) ?_ fun j hj hJ => ?_
    · simp [*, H62b]
    · have hwj : IntKind.i64.wrap ((j : Int) + 1) = j + 1 := wrap_in (by omega) (by omega)
      have HJ := Hid.mk hJ
      have HL := Hid.mk hl
      clear hJ hl
      simp only [H62b]
      repeat' (first | refine thenC_n ?_ | refine thenC_x ?_ | refine thenC_r ?_ | refine blockC_n ?_ | refine blockC_hit2 rfl ?_ | refine blockC_miss rfl ?_ | refine blockC_r ?_ | refine loopC_x ?_ | refine loopC_r ?_ | refine rangeC_x ?_ | refine rangeC_r ?_ | refine q_seq rfl ?_ | refine q_block rfl ?_ | (refine q_frz rfl rfl (by simp [*]; rfl) ?_) | (refine q_region rfl rfl rfl fun Q' hQ => ?_; simp [*]; (refine hQ.out _ ?_; clear hQ; clear Q')) | (refine q_if rfl fun Q1 Q2 h1 h2 => ?_; simp [*, twoB_some, twoV_some, ltFI, leFI, ltFN, leFN, guardF, yieldF, getA, opE, rdV, scE, constE]; (try (repeat' (first | refine And.intro ?_ ?_ | intro _))); all_goals (first | (exfalso; omega) | (refine h1.out ?_; clear h1 h2; clear Q1 Q2) | (refine h2.out ?_; clear h1 h2; clear Q1 Q2))) | refine q_exit rfl ?_ | refine q_ret rfl ?_ | refine q_skip rfl ?_ | refine q_label rfl ?_ | refine q_drawW rfl rfl rfl rfl ?_ | (refine q_drawW_nil rfl fun Q' hQ => ?_; simp [*]; (refine hQ.out _ ?_; clear hQ; clear Q')) | (refine q_drawW_op rfl rfl fun Q' hQ => ?_; simp [*]; (refine hQ.out _ ?_; clear hQ; clear Q')) | (refine q_drawW_guard rfl rfl fun Q1 Q2 h1 h2 => ?_; simp [*, twoB_some, twoV_some, ltFI, leFI, ltFN, leFN, grdF, yieldF, getA, opE, rdV, scE, constE]; (try (repeat' (first | refine And.intro ?_ ?_ | intro _))); all_goals (first | (exfalso; omega) | ((first | (exfalso; omega) | (refine h1.out ?_; clear h1 h2; clear Q1 Q2) | (refine h2.out ?_; clear h1 h2; clear Q1 Q2)); intro Q' hQ; simp [*]; (refine hQ.out _ ?_; clear hQ; clear Q')))) | refine q_regionW rfl rfl rfl ?_ | (refine regP_nil (by decide) ?_) | (refine regP_op rfl rfl fun Q' hQ => ?_; simp [*]; (refine hQ.out _ ?_; clear hQ; clear Q')) | (refine regP_guard rfl rfl fun Q1 Q2 h1 h2 => ?_; simp [*, twoB_some, twoV_some, ltFI, leFI, ltFN, leFN, grdF, yieldF, getA, opE, rdV, scE, constE]; (try (repeat' (first | refine And.intro ?_ ?_ | intro _))); all_goals (first | (exfalso; omega) | ((first | (exfalso; omega) | (refine h1.out ?_; clear h1 h2; clear Q1 Q2) | (refine h2.out ?_; clear h1 h2; clear Q1 Q2)); intro Q' hQ; simp [*]; (refine hQ.out _ ?_; clear hQ; clear Q')))))
      all_goals first
        | (have a1 : j < r.maps[k].length := by assumption
           have e : r.maps.all (mapB c.sizes[r.pre.length]) = false := HB.out (mapB_bad j a1 (by intro hh; omega))
           rw [e]
           clear e
           simp [*]
           done)
        | (have a1 : j < r.maps[k].length := by assumption
           refine rangeC_n a1 (fun i hi h => ?_) ?_
           · by_cases e : i = j
             · subst e; omega
             · exact HJ.out i (by omega) h
           · simp [*, H62b]
           done)
        | (refine rangeC_n hlt (fun i hi h => ?_) ?_
           · by_cases e : i = k
             · subst e
               rw [mapB_iff _ _ HL.out]
               intro i2 hi2
               rw [getD_of_lt 0 hi2]
               exact HJ.out i2 (by omega) hi2
             · exact HI.out i (by omega) h
           · simp [*, H62])
end Go.Proofs.YthalofddjlhcjaaDoor
end
section
/- The first error of a cascade: program. -/
namespace Go.Proofs.YthalofddjlhcjaaDoor
open Go
set_option maxRecDepth 100000
set_option maxHeartbeats 4000000
set_option linter.unusedVariables false
set_option linter.unusedSimpArgs false

def H43a (c : Casc) (k : Nat) : Fr := ⟨69, [(1, aE 1), (26, rE (ints c.sizes)), (27, rE (iT c.sizes.length)), (28, rE (iT k))], [(1, .vr [iT c.letters, ints c.sizes, rowsT c.rows])]⟩
def H43b (c : Casc) (k : Nat) : Fr := ⟨69, [(1, aE 1), (40, rE (rowsT c.rows)), (41, rE (iT c.rows.length)), (42, rE (iT k))], [(1, .vr [iT c.letters, ints c.sizes, rowsT c.rows])]⟩
theorem validE_sizes {c : Casc} (h1 : ¬ (c.letters < 1 ∨ 6 < c.letters)) (h2 : ¬ (24 < c.sizes.length ∨ 48000 < c.rows.length)) (k : Nat) (hk : k < c.sizes.length) (h : ¬ (1 ≤ c.sizes[k] ∧ c.sizes[k] ≤ 32)) : validE c = 23 := by
  have : (c.sizes.all fun n => decide (1 ≤ n) && decide (n ≤ 32)) = false := by
    rw [List.all_eq_false]
    exact ⟨_, List.getElem_mem hk, by simpa using h⟩
  unfold validE
  rw [if_neg h1, if_neg h2, this]
  simp
theorem validE_rows {c : Casc} (h1 : ¬ (c.letters < 1 ∨ 6 < c.letters)) (h2 : ¬ (24 < c.sizes.length ∨ 48000 < c.rows.length)) (k : Nat) (hk : k ≤ c.rows.length) (h : rowsUpB c k = false) : validE c = 23 := by
  unfold validE
  rw [if_neg h1, if_neg h2, rowsUpB_mono c hk h]
  simp
theorem validE_ok {c : Casc} (h1 : ¬ (c.letters < 1 ∨ 6 < c.letters)) (h2 : ¬ (24 < c.sizes.length ∨ 48000 < c.rows.length)) (h3 : ∀ i, ∀ h : i < c.sizes.length, 1 ≤ c.sizes[i] ∧ c.sizes[i] ≤ 32) (h : rowsUpB c c.rows.length = true) : validE c = 0 := by
  have : (c.sizes.all fun n => decide (1 ≤ n) && decide (n ≤ 32)) = true := by
    rw [List.all_eq_true]
    intro x hx
    obtain ⟨i, hi, rfl⟩ := List.getElem_of_mem hx
    simpa using h3 i hi
  unfold validE
  rw [if_neg h1, if_neg h2, this, h]
  simp
theorem rowsUp_step {c : Casc} {k : Nat} (hk : k < c.rows.length) : rowsUpB c (k + 1) = (rowsUpB c k && (rowB c c.rows[k] && (decide (k = 0) || decide (cmpR (c.rows[k - 1]'(by omega)).pre c.rows[k].pre < 0)))) := by
  rw [rowsUpB_succ, getD_of_lt _ hk, getD_of_lt _ (by omega)]

theorem c43 (c : Casc) (h : CB c) : L 43 [cascT c] = some (iT (validE c), [.dead]) := by
  have h62 : ∀ i (h3 : i < c.rows.length), L 62 [cascT c, rowT c.rows[i]] = some (bT (rowB c c.rows[i]), [.dead, .dead]) := fun i h3 => c62 _ _ h (h.row _ (List.getElem_mem h3))
  have h58 : ∀ i (h3 : i + 1 < c.rows.length), L 58 [ints (c.rows[i]'(by omega)).pre, ints c.rows[i + 1].pre] = some (iT (cmpR (c.rows[i]'(by omega)).pre c.rows[i + 1].pre), [.dead, .dead]) := fun i h3 => c58 _ _ (h.row _ (List.getElem_mem _)).pre (h.row _ (List.getElem_mem _)).pre
  have hsz := h.sz
  have hrw := h.rows
  clear h
  refine L_run cfn43 fn43 (runF_of bd43 ⟨of_decide_eq_true rfl, of_decide_eq_true rfl⟩ ?_)
  simp only [entryF, entryT, entryO, entryE, isIo]
  by_cases h1 : c.letters < 1 ∨ 6 < c.letters
  · have e : validE c = 1 := by unfold validE; rw [if_pos h1]
    rw [e]
    clear e h62 h58
    rcases h1 with h1 | h1
    · repeat' (first | refine thenC_n ?_ | refine thenC_x ?_ | refine thenC_r ?_ | refine blockC_n ?_ | refine blockC_hit2 rfl ?_ | refine blockC_miss rfl ?_ | refine blockC_r ?_ | refine loopC_x ?_ | refine loopC_r ?_ | refine rangeC_x ?_ | refine rangeC_r ?_ | refine q_seq rfl ?_ | refine q_block rfl ?_ | (refine q_frz rfl rfl (by simp [*]; rfl) ?_) | (refine q_region rfl rfl rfl fun Q' hQ => ?_; simp [*]; (refine hQ.out _ ?_; clear hQ; clear Q')) | (refine q_if rfl fun Q1 Q2 h1 h2 => ?_; simp [*, twoB_some, twoV_some, ltFI, leFI, ltFN, leFN, guardF, yieldF, getA, opE, rdV, scE, constE]; (try (repeat' (first | refine And.intro ?_ ?_ | intro _))); all_goals (first | (exfalso; omega) | (refine h1.out ?_; clear h1 h2; clear Q1 Q2) | (refine h2.out ?_; clear h1 h2; clear Q1 Q2))) | refine q_exit rfl ?_ | refine q_ret rfl ?_ | refine q_skip rfl ?_ | refine q_label rfl ?_ | refine q_drawW rfl rfl rfl rfl ?_ | (refine q_drawW_nil rfl fun Q' hQ => ?_; simp [*]; (refine hQ.out _ ?_; clear hQ; clear Q')) | (refine q_drawW_op rfl rfl fun Q' hQ => ?_; simp [*]; (refine hQ.out _ ?_; clear hQ; clear Q')) | (refine q_drawW_guard rfl rfl fun Q1 Q2 h1 h2 => ?_; simp [*, twoB_some, twoV_some, ltFI, leFI, ltFN, leFN, grdF, yieldF, getA, opE, rdV, scE, constE]; (try (repeat' (first | refine And.intro ?_ ?_ | intro _))); all_goals (first | (exfalso; omega) | ((first | (exfalso; omega) | (refine h1.out ?_; clear h1 h2; clear Q1 Q2) | (refine h2.out ?_; clear h1 h2; clear Q1 Q2)); intro Q' hQ; simp [*]; (refine hQ.out _ ?_; clear hQ; clear Q')))) | refine q_regionW rfl rfl rfl ?_ | (refine regP_nil (by decide) ?_) | (refine regP_op rfl rfl fun Q' hQ => ?_; simp [*]; (refine hQ.out _ ?_; clear hQ; clear Q')) | (refine regP_guard rfl rfl fun Q1 Q2 h1 h2 => ?_; simp [*, twoB_some, twoV_some, ltFI, leFI, ltFN, leFN, grdF, yieldF, getA, opE, rdV, scE, constE]; (try (repeat' (first | refine And.intro ?_ ?_ | intro _))); all_goals (first | (exfalso; omega) | ((first | (exfalso; omega) | (refine h1.out ?_; clear h1 h2; clear Q1 Q2) | (refine h2.out ?_; clear h1 h2; clear Q1 Q2)); intro Q' hQ; simp [*]; (refine hQ.out _ ?_; clear hQ; clear Q')))))
      all_goals simp [*]
    · repeat' (first | refine thenC_n ?_ | refine thenC_x ?_ | refine thenC_r ?_ | refine blockC_n ?_ | refine blockC_hit2 rfl ?_ | refine blockC_miss rfl ?_ | refine blockC_r ?_ | refine loopC_x ?_ | refine loopC_r ?_ | refine rangeC_x ?_ | refine rangeC_r ?_ | refine q_seq rfl ?_ | refine q_block rfl ?_ | (refine q_frz rfl rfl (by simp [*]; rfl) ?_) | (refine q_region rfl rfl rfl fun Q' hQ => ?_; simp [*]; (refine hQ.out _ ?_; clear hQ; clear Q')) | (refine q_if rfl fun Q1 Q2 h1 h2 => ?_; simp [*, twoB_some, twoV_some, ltFI, leFI, ltFN, leFN, guardF, yieldF, getA, opE, rdV, scE, constE]; (try (repeat' (first | refine And.intro ?_ ?_ | intro _))); all_goals (first | (exfalso; omega) | (refine h1.out ?_; clear h1 h2; clear Q1 Q2) | (refine h2.out ?_; clear h1 h2; clear Q1 Q2))) | refine q_exit rfl ?_ | refine q_ret rfl ?_ | refine q_skip rfl ?_ | refine q_label rfl ?_ | refine q_drawW rfl rfl rfl rfl ?_ | (refine q_drawW_nil rfl fun Q' hQ => ?_; simp [*]; (refine hQ.out _ ?_; clear hQ; clear Q')) | (refine q_drawW_op rfl rfl fun Q' hQ => ?_; simp [*]; (refine hQ.out _ ?_; clear hQ; clear Q')) | (refine q_drawW_guard rfl rfl fun Q1 Q2 h1 h2 => ?_; simp [*, twoB_some, twoV_some, ltFI, leFI, ltFN, leFN, grdF, yieldF, getA, opE, rdV, scE, constE]; (try (repeat' (first | refine And.intro ?_ ?_ | intro _))); all_goals (first | (exfalso; omega) | ((first | (exfalso; omega) | (refine h1.out ?_; clear h1 h2; clear Q1 Q2) | (refine h2.out ?_; clear h1 h2; clear Q1 Q2)); intro Q' hQ; simp [*]; (refine hQ.out _ ?_; clear hQ; clear Q')))) | refine q_regionW rfl rfl rfl ?_ | (refine regP_nil (by decide) ?_) | (refine regP_op rfl rfl fun Q' hQ => ?_; simp [*]; (refine hQ.out _ ?_; clear hQ; clear Q')) | (refine regP_guard rfl rfl fun Q1 Q2 h1 h2 => ?_; simp [*, twoB_some, twoV_some, ltFI, leFI, ltFN, leFN, grdF, yieldF, getA, opE, rdV, scE, constE]; (try (repeat' (first | refine And.intro ?_ ?_ | intro _))); all_goals (first | (exfalso; omega) | ((first | (exfalso; omega) | (refine h1.out ?_; clear h1 h2; clear Q1 Q2) | (refine h2.out ?_; clear h1 h2; clear Q1 Q2)); intro Q' hQ; simp [*]; (refine hQ.out _ ?_; clear hQ; clear Q')))))
      all_goals simp [*]
  have h1a : ¬ c.letters < 1 := by omega
  have h1b : ¬ 6 < c.letters := by omega
  by_cases h2 : 24 < c.sizes.length ∨ 48000 < c.rows.length
  · have e : validE c = 3 := by unfold validE; rw [if_neg h1, if_pos h2]
    rw [e]
    clear e h62 h58 h1
    rcases h2 with h2 | h2
    · repeat' (first | refine thenC_n ?_ | refine thenC_x ?_ | refine thenC_r ?_ | refine blockC_n ?_ | refine blockC_hit2 rfl ?_ | refine blockC_miss rfl ?_ | refine blockC_r ?_ | refine loopC_x ?_ | refine loopC_r ?_ | refine rangeC_x ?_ | refine rangeC_r ?_ | refine q_seq rfl ?_ | refine q_block rfl ?_ | (refine q_frz rfl rfl (by simp [*]; rfl) ?_) | (refine q_region rfl rfl rfl fun Q' hQ => ?_; simp [*]; (refine hQ.out _ ?_; clear hQ; clear Q')) | (refine q_if rfl fun Q1 Q2 h1 h2 => ?_; simp [*, twoB_some, twoV_some, ltFI, leFI, ltFN, leFN, guardF, yieldF, getA, opE, rdV, scE, constE]; (try (repeat' (first | refine And.intro ?_ ?_ | intro _))); all_goals (first | (exfalso; omega) | (refine h1.out ?_; clear h1 h2; clear Q1 Q2) | (refine h2.out ?_; clear h1 h2; clear Q1 Q2))) | refine q_exit rfl ?_ | refine q_ret rfl ?_ | refine q_skip rfl ?_ | refine q_label rfl ?_ | refine q_drawW rfl rfl rfl rfl ?_ | (refine q_drawW_nil rfl fun Q' hQ => ?_; simp [*]; (refine hQ.out _ ?_; clear hQ; clear Q')) | (refine q_drawW_op rfl rfl fun Q' hQ => ?_; simp [*]; (refine hQ.out _ ?_; clear hQ; clear Q')) | (refine q_drawW_guard rfl rfl fun Q1 Q2 h1 h2 => ?_; simp [*, twoB_some, twoV_some, ltFI, leFI, ltFN, leFN, grdF, yieldF, getA, opE, rdV, scE, constE]; (try (repeat' (first | refine And.intro ?_ ?_ | intro _))); all_goals (first | (exfalso; omega) | ((first | (exfalso; omega) | (refine h1.out ?_; clear h1 h2; clear Q1 Q2) | (refine h2.out ?_; clear h1 h2; clear Q1 Q2)); intro Q' hQ; simp [*]; (refine hQ.out _ ?_; clear hQ; clear Q')))) | refine q_regionW rfl rfl rfl ?_ | (refine regP_nil (by decide) ?_) | (refine regP_op rfl rfl fun Q' hQ => ?_; simp [*]; (refine hQ.out _ ?_; clear hQ; clear Q')) | (refine regP_guard rfl rfl fun Q1 Q2 h1 h2 => ?_; simp [*, twoB_some, twoV_some, ltFI, leFI, ltFN, leFN, grdF, yieldF, getA, opE, rdV, scE, constE]; (try (repeat' (first | refine And.intro ?_ ?_ | intro _))); all_goals (first | (exfalso; omega) | ((first | (exfalso; omega) | (refine h1.out ?_; clear h1 h2; clear Q1 Q2) | (refine h2.out ?_; clear h1 h2; clear Q1 Q2)); intro Q' hQ; simp [*]; (refine hQ.out _ ?_; clear hQ; clear Q')))))
      all_goals simp [*]
    · repeat' (first | refine thenC_n ?_ | refine thenC_x ?_ | refine thenC_r ?_ | refine blockC_n ?_ | refine blockC_hit2 rfl ?_ | refine blockC_miss rfl ?_ | refine blockC_r ?_ | refine loopC_x ?_ | refine loopC_r ?_ | refine rangeC_x ?_ | refine rangeC_r ?_ | refine q_seq rfl ?_ | refine q_block rfl ?_ | (refine q_frz rfl rfl (by simp [*]; rfl) ?_) | (refine q_region rfl rfl rfl fun Q' hQ => ?_; simp [*]; (refine hQ.out _ ?_; clear hQ; clear Q')) | (refine q_if rfl fun Q1 Q2 h1 h2 => ?_; simp [*, twoB_some, twoV_some, ltFI, leFI, ltFN, leFN, guardF, yieldF, getA, opE, rdV, scE, constE]; (try (repeat' (first | refine And.intro ?_ ?_ | intro _))); all_goals (first | (exfalso; omega) | (refine h1.out ?_; clear h1 h2; clear Q1 Q2) | (refine h2.out ?_; clear h1 h2; clear Q1 Q2))) | refine q_exit rfl ?_ | refine q_ret rfl ?_ | refine q_skip rfl ?_ | refine q_label rfl ?_ | refine q_drawW rfl rfl rfl rfl ?_ | (refine q_drawW_nil rfl fun Q' hQ => ?_; simp [*]; (refine hQ.out _ ?_; clear hQ; clear Q')) | (refine q_drawW_op rfl rfl fun Q' hQ => ?_; simp [*]; (refine hQ.out _ ?_; clear hQ; clear Q')) | (refine q_drawW_guard rfl rfl fun Q1 Q2 h1 h2 => ?_; simp [*, twoB_some, twoV_some, ltFI, leFI, ltFN, leFN, grdF, yieldF, getA, opE, rdV, scE, constE]; (try (repeat' (first | refine And.intro ?_ ?_ | intro _))); all_goals (first | (exfalso; omega) | ((first | (exfalso; omega) | (refine h1.out ?_; clear h1 h2; clear Q1 Q2) | (refine h2.out ?_; clear h1 h2; clear Q1 Q2)); intro Q' hQ; simp [*]; (refine hQ.out _ ?_; clear hQ; clear Q')))) | refine q_regionW rfl rfl rfl ?_ | (refine regP_nil (by decide) ?_) | (refine regP_op rfl rfl fun Q' hQ => ?_; simp [*]; (refine hQ.out _ ?_; clear hQ; clear Q')) | (refine regP_guard rfl rfl fun Q1 Q2 h1 h2 => ?_; simp [*, twoB_some, twoV_some, ltFI, leFI, ltFN, leFN, grdF, yieldF, getA, opE, rdV, scE, constE]; (try (repeat' (first | refine And.intro ?_ ?_ | intro _))); all_goals (first | (exfalso; omega) | ((first | (exfalso; omega) | (refine h1.out ?_; clear h1 h2; clear Q1 Q2) | (refine h2.out ?_; clear h1 h2; clear Q1 Q2)); intro Q' hQ; simp [*]; (refine hQ.out _ ?_; clear hQ; clear Q')))))
      all_goals simp [*]
  have h2a : ¬ 24 < c.sizes.length := by omega
  have h2b : ¬ 48000 < c.rows.length := by omega
  have H1 := Hid.mk h1
  have H2 := Hid.mk h2
  have H62 := Hid.mk h62
  have H58 := Hid.mk h58
  clear h1 h2 h62 h58
  repeat' (first | refine thenC_n ?_ | refine thenC_x ?_ | refine thenC_r ?_ | refine blockC_n ?_ | refine blockC_hit2 rfl ?_ | refine blockC_miss rfl ?_ | refine blockC_r ?_ | refine loopC_x ?_ | refine loopC_r ?_ | refine rangeC_x ?_ | refine rangeC_r ?_ | refine q_seq rfl ?_ | refine q_block rfl ?_ | (refine q_frz rfl rfl (by simp [*]; rfl) ?_) | (refine q_region rfl rfl rfl fun Q' hQ => ?_; simp [*]; (refine hQ.out _ ?_; clear hQ; clear Q')) | (refine q_if rfl fun Q1 Q2 h1 h2 => ?_; simp [*, twoB_some, twoV_some, ltFI, leFI, ltFN, leFN, guardF, yieldF, getA, opE, rdV, scE, constE]; (try (repeat' (first | refine And.intro ?_ ?_ | intro _))); all_goals (first | (exfalso; omega) | (refine h1.out ?_; clear h1 h2; clear Q1 Q2) | (refine h2.out ?_; clear h1 h2; clear Q1 Q2))) | refine q_exit rfl ?_ | refine q_ret rfl ?_ | refine q_skip rfl ?_ | refine q_label rfl ?_ | refine q_drawW rfl rfl rfl rfl ?_ | (refine q_drawW_nil rfl fun Q' hQ => ?_; simp [*]; (refine hQ.out _ ?_; clear hQ; clear Q')) | (refine q_drawW_op rfl rfl fun Q' hQ => ?_; simp [*]; (refine hQ.out _ ?_; clear hQ; clear Q')) | (refine q_drawW_guard rfl rfl fun Q1 Q2 h1 h2 => ?_; simp [*, twoB_some, twoV_some, ltFI, leFI, ltFN, leFN, grdF, yieldF, getA, opE, rdV, scE, constE]; (try (repeat' (first | refine And.intro ?_ ?_ | intro _))); all_goals (first | (exfalso; omega) | ((first | (exfalso; omega) | (refine h1.out ?_; clear h1 h2; clear Q1 Q2) | (refine h2.out ?_; clear h1 h2; clear Q1 Q2)); intro Q' hQ; simp [*]; (refine hQ.out _ ?_; clear hQ; clear Q')))) | refine q_regionW rfl rfl rfl ?_ | (refine regP_nil (by decide) ?_) | (refine regP_op rfl rfl fun Q' hQ => ?_; simp [*]; (refine hQ.out _ ?_; clear hQ; clear Q')) | (refine regP_guard rfl rfl fun Q1 Q2 h1 h2 => ?_; simp [*, twoB_some, twoV_some, ltFI, leFI, ltFN, leFN, grdF, yieldF, getA, opE, rdV, scE, constE]; (try (repeat' (first | refine And.intro ?_ ?_ | intro _))); all_goals (first | (exfalso; omega) | ((first | (exfalso; omega) | (refine h1.out ?_; clear h1 h2; clear Q1 Q2) | (refine h2.out ?_; clear h1 h2; clear Q1 Q2)); intro Q' hQ; simp [*]; (refine hQ.out _ ?_; clear hQ; clear Q')))))
  clear h1a h1b h2a h2b
  refine q_range rfl rfl (fun k => ∀ i, i < k → ∀ h : i < c.sizes.length, 1 ≤ c.sizes[i] ∧ c.sizes[i] ≤ 32) (H43a c) c.sizes.length (by simp only [LFm]; omega) (fun i hi => by omega) ?_ fun k hk hI => ?_
  · simp [*, H43a]
  · have hw : IntKind.i64.wrap ((k : Int) + 1) = k + 1 := wrap_in (by omega) (by omega)
    have HI := Hid.mk hI
    clear hI
    simp only [H43a]
    by_cases hlt : k < c.sizes.length
    · repeat' (first | refine thenC_n ?_ | refine thenC_x ?_ | refine thenC_r ?_ | refine blockC_n ?_ | refine blockC_hit2 rfl ?_ | refine blockC_miss rfl ?_ | refine blockC_r ?_ | refine loopC_x ?_ | refine loopC_r ?_ | refine rangeC_x ?_ | refine rangeC_r ?_ | refine q_seq rfl ?_ | refine q_block rfl ?_ | (refine q_frz rfl rfl (by simp [*]; rfl) ?_) | (refine q_region rfl rfl rfl fun Q' hQ => ?_; simp [*]; (refine hQ.out _ ?_; clear hQ; clear Q')) | (refine q_if rfl fun Q1 Q2 h1 h2 => ?_; simp [*, twoB_some, twoV_some, ltFI, leFI, ltFN, leFN, guardF, yieldF, getA, opE, rdV, scE, constE]; (try (repeat' (first | refine And.intro ?_ ?_ | intro _))); all_goals (first | (exfalso; omega) | (refine h1.out ?_; clear h1 h2; clear Q1 Q2) | (refine h2.out ?_; clear h1 h2; clear Q1 Q2))) | refine q_exit rfl ?_ | refine q_ret rfl ?_ | refine q_skip rfl ?_ | refine q_label rfl ?_ | refine q_drawW rfl rfl rfl rfl ?_ | (refine q_drawW_nil rfl fun Q' hQ => ?_; simp [*]; (refine hQ.out _ ?_; clear hQ; clear Q')) | (refine q_drawW_op rfl rfl fun Q' hQ => ?_; simp [*]; (refine hQ.out _ ?_; clear hQ; clear Q')) | (refine q_drawW_guard rfl rfl fun Q1 Q2 h1 h2 => ?_; simp [*, twoB_some, twoV_some, ltFI, leFI, ltFN, leFN, grdF, yieldF, getA, opE, rdV, scE, constE]; (try (repeat' (first | refine And.intro ?_ ?_ | intro _))); all_goals (first | (exfalso; omega) | ((first | (exfalso; omega) | (refine h1.out ?_; clear h1 h2; clear Q1 Q2) | (refine h2.out ?_; clear h1 h2; clear Q1 Q2)); intro Q' hQ; simp [*]; (refine hQ.out _ ?_; clear hQ; clear Q')))) | refine q_regionW rfl rfl rfl ?_ | (refine regP_nil (by decide) ?_) | (refine regP_op rfl rfl fun Q' hQ => ?_; simp [*]; (refine hQ.out _ ?_; clear hQ; clear Q')) | (refine regP_guard rfl rfl fun Q1 Q2 h1 h2 => ?_; simp [*, twoB_some, twoV_some, ltFI, leFI, ltFN, leFN, grdF, yieldF, getA, opE, rdV, scE, constE]; (try (repeat' (first | refine And.intro ?_ ?_ | intro _))); all_goals (first | (exfalso; omega) | ((first | (exfalso; omega) | (refine h1.out ?_; clear h1 h2; clear Q1 Q2) | (refine h2.out ?_; clear h1 h2; clear Q1 Q2)); intro Q' hQ; simp [*]; (refine hQ.out _ ?_; clear hQ; clear Q')))))
      all_goals first
        | (have e : validE c = 23 := validE_sizes H1.out H2.out k hlt (by intro hh; omega)
           rw [e]
           clear e
           simp [*]
           done)
        | (refine rangeC_n hlt (fun i hi h => ?_) ?_
           · by_cases e : i = k
             · subst e; omega
             · exact HI.out i (by omega) h
           · simp [*, H43a])
    repeat' (first | refine thenC_n ?_ | refine thenC_x ?_ | refine thenC_r ?_ | refine blockC_n ?_ | refine blockC_hit2 rfl ?_ | refine blockC_miss rfl ?_ | refine blockC_r ?_ | refine loopC_x ?_ | refine loopC_r ?_ | refine rangeC_x ?_ | refine rangeC_r ?_ | refine q_seq rfl ?_ | refine q_block rfl ?_ | (refine q_frz rfl rfl (by simp [*]; rfl) ?_) | (refine q_region rfl rfl rfl fun Q' hQ => ?_; simp [*]; (refine hQ.out _ ?_; clear hQ; clear Q')) | (refine q_if rfl fun Q1 Q2 h1 h2 => ?_; simp [*, twoB_some, twoV_some, ltFI, leFI, ltFN, leFN, guardF, yieldF, getA, opE, rdV, scE, constE]; (try (repeat' (first | refine And.intro ?_ ?_ | intro _))); all_goals (first | (exfalso; omega) | (refine h1.out ?_; clear h1 h2; clear Q1 Q2) | (refine h2.out ?_; clear h1 h2; clear Q1 Q2))) | refine q_exit rfl ?_ | refine q_ret rfl ?_ | refine q_skip rfl ?_ | refine q_label rfl ?_ | refine q_drawW rfl rfl rfl rfl ?_ | (refine q_drawW_nil rfl fun Q' hQ => ?_; simp [*]; (refine hQ.out _ ?_; clear hQ; clear Q')) | (refine q_drawW_op rfl rfl fun Q' hQ => ?_; simp [*]; (refine hQ.out _ ?_; clear hQ; clear Q')) | (refine q_drawW_guard rfl rfl fun Q1 Q2 h1 h2 => ?_; simp [*, twoB_some, twoV_some, ltFI, leFI, ltFN, leFN, grdF, yieldF, getA, opE, rdV, scE, constE]; (try (repeat' (first | refine And.intro ?_ ?_ | intro _))); all_goals (first | (exfalso; omega) | ((first | (exfalso; omega) | (refine h1.out ?_; clear h1 h2; clear Q1 Q2) | (refine h2.out ?_; clear h1 h2; clear Q1 Q2)); intro Q' hQ; simp [*]; (refine hQ.out _ ?_; clear hQ; clear Q')))) | refine q_regionW rfl rfl rfl ?_ | (refine regP_nil (by decide) ?_) | (refine regP_op rfl rfl fun Q' hQ => ?_; simp [*]; (refine hQ.out _ ?_; clear hQ; clear Q')) | (refine regP_guard rfl rfl fun Q1 Q2 h1 h2 => ?_; simp [*, twoB_some, twoV_some, ltFI, leFI, ltFN, leFN, grdF, yieldF, getA, opE, rdV, scE, constE]; (try (repeat' (first | refine And.intro ?_ ?_ | intro _))); all_goals (first | (exfalso; omega) | ((first | (exfalso; omega) | (refine h1.out ?_; clear h1 h2; clear Q1 Q2) | (refine h2.out ?_; clear h1 h2; clear Q1 Q2)); intro Q' hQ; simp [*]; (refine hQ.out _ ?_; clear hQ; clear Q')))))
    clear hw
    have HS : Hid (∀ i, ∀ h : i < c.sizes.length, 1 ≤ c.sizes[i] ∧ c.sizes[i] ≤ 32) := ⟨fun i h => HI.out i (by omega) h⟩
    clear HI hk hlt
    refine q_range rfl rfl (fun k => rowsUpB c k = true) (H43b c) c.rows.length (by simp only [LFm]; omega) (by simp [rowsUpB]) ?_ fun k hk hI => ?_
    · simp [*, H43b]
    · have hw : IntKind.i64.wrap ((k : Int) + 1) = k + 1 := wrap_in (by omega) (by omega)
      simp only [H43b]
      by_cases hlt : k < c.rows.length
      case neg =>
        have e : validE c = 0 := validE_ok H1.out H2.out HS.out (by rw [show c.rows.length = k by omega]; exact hI)
        rw [e]
        clear e hI
        repeat' (first | refine thenC_n ?_ | refine thenC_x ?_ | refine thenC_r ?_ | refine blockC_n ?_ | refine blockC_hit2 rfl ?_ | refine blockC_miss rfl ?_ | refine blockC_r ?_ | refine loopC_x ?_ | refine loopC_r ?_ | refine rangeC_x ?_ | refine rangeC_r ?_ | refine q_seq rfl ?_ | refine q_block rfl ?_ | (refine q_frz rfl rfl (by simp [*]; rfl) ?_) | (refine q_region rfl rfl rfl fun Q' hQ => ?_; simp [*]; (refine hQ.out _ ?_; clear hQ; clear Q')) | (refine q_if rfl fun Q1 Q2 h1 h2 => ?_; simp [*, twoB_some, twoV_some, ltFI, leFI, ltFN, leFN, guardF, yieldF, getA, opE, rdV, scE, constE]; (try (repeat' (first | refine And.intro ?_ ?_ | intro _))); all_goals (first | (exfalso; omega) | (refine h1.out ?_; clear h1 h2; clear Q1 Q2) | (refine h2.out ?_; clear h1 h2; clear Q1 Q2))) | refine q_exit rfl ?_ | refine q_ret rfl ?_ | refine q_skip rfl ?_ | refine q_label rfl ?_ | refine q_drawW rfl rfl rfl rfl ?_ | (refine q_drawW_nil rfl fun Q' hQ => ?_; simp [*]; (refine hQ.out _ ?_; clear hQ; clear Q')) | (refine q_drawW_op rfl rfl fun Q' hQ => ?_; simp [*]; (refine hQ.out _ ?_; clear hQ; clear Q')) | (refine q_drawW_guard rfl rfl fun Q1 Q2 h1 h2 => ?_; simp [*, twoB_some, twoV_some, ltFI, leFI, ltFN, leFN, grdF, yieldF, getA, opE, rdV, scE, constE]; (try (repeat' (first | refine And.intro ?_ ?_ | intro _))); all_goals (first | (exfalso; omega) | ((first | (exfalso; omega) | (refine h1.out ?_; clear h1 h2; clear Q1 Q2) | (refine h2.out ?_; clear h1 h2; clear Q1 Q2)); intro Q' hQ; simp [*]; (refine hQ.out _ ?_; clear hQ; clear Q')))) | refine q_regionW rfl rfl rfl ?_ | (refine regP_nil (by decide) ?_) | (refine regP_op rfl rfl fun Q' hQ => ?_; simp [*]; (refine hQ.out _ ?_; clear hQ; clear Q')) | (refine regP_guard rfl rfl fun Q1 Q2 h1 h2 => ?_; simp [*, twoB_some, twoV_some, ltFI, leFI, ltFN, leFN, grdF, yieldF, getA, opE, rdV, scE, constE]; (try (repeat' (first | refine And.intro ?_ ?_ | intro _))); all_goals (first | (exfalso; omega) | ((first | (exfalso; omega) | (refine h1.out ?_; clear h1 h2; clear Q1 Q2) | (refine h2.out ?_; clear h1 h2; clear Q1 Q2)); intro Q' hQ; simp [*]; (refine hQ.out _ ?_; clear hQ; clear Q')))))
        all_goals simp [*]
      have hst := rowsUp_step hlt
      rw [hI, Bool.true_and] at hst
      clear hI
      have h62 := H62.out k hlt
      cases hrow : rowB c c.rows[k] with
      | false =>
        have e : validE c = 23 := validE_rows H1.out H2.out (k + 1) (by omega) (by rw [hst, hrow]; simp)
        rw [e]
        clear e hst
        repeat' (first | refine thenC_n ?_ | refine thenC_x ?_ | refine thenC_r ?_ | refine blockC_n ?_ | refine blockC_hit2 rfl ?_ | refine blockC_miss rfl ?_ | refine blockC_r ?_ | refine loopC_x ?_ | refine loopC_r ?_ | refine rangeC_x ?_ | refine rangeC_r ?_ | refine q_seq rfl ?_ | refine q_block rfl ?_ | (refine q_frz rfl rfl (by simp [*]; rfl) ?_) | (refine q_region rfl rfl rfl fun Q' hQ => ?_; simp [*]; (refine hQ.out _ ?_; clear hQ; clear Q')) | (refine q_if rfl fun Q1 Q2 h1 h2 => ?_; simp [*, twoB_some, twoV_some, ltFI, leFI, ltFN, leFN, guardF, yieldF, getA, opE, rdV, scE, constE]; (try (repeat' (first | refine And.intro ?_ ?_ | intro _))); all_goals (first | (exfalso; omega) | (refine h1.out ?_; clear h1 h2; clear Q1 Q2) | (refine h2.out ?_; clear h1 h2; clear Q1 Q2))) | refine q_exit rfl ?_ | refine q_ret rfl ?_ | refine q_skip rfl ?_ | refine q_label rfl ?_ | refine q_drawW rfl rfl rfl rfl ?_ | (refine q_drawW_nil rfl fun Q' hQ => ?_; simp [*]; (refine hQ.out _ ?_; clear hQ; clear Q')) | (refine q_drawW_op rfl rfl fun Q' hQ => ?_; simp [*]; (refine hQ.out _ ?_; clear hQ; clear Q')) | (refine q_drawW_guard rfl rfl fun Q1 Q2 h1 h2 => ?_; simp [*, twoB_some, twoV_some, ltFI, leFI, ltFN, leFN, grdF, yieldF, getA, opE, rdV, scE, constE]; (try (repeat' (first | refine And.intro ?_ ?_ | intro _))); all_goals (first | (exfalso; omega) | ((first | (exfalso; omega) | (refine h1.out ?_; clear h1 h2; clear Q1 Q2) | (refine h2.out ?_; clear h1 h2; clear Q1 Q2)); intro Q' hQ; simp [*]; (refine hQ.out _ ?_; clear hQ; clear Q')))) | refine q_regionW rfl rfl rfl ?_ | (refine regP_nil (by decide) ?_) | (refine regP_op rfl rfl fun Q' hQ => ?_; simp [*]; (refine hQ.out _ ?_; clear hQ; clear Q')) | (refine regP_guard rfl rfl fun Q1 Q2 h1 h2 => ?_; simp [*, twoB_some, twoV_some, ltFI, leFI, ltFN, leFN, grdF, yieldF, getA, opE, rdV, scE, constE]; (try (repeat' (first | refine And.intro ?_ ?_ | intro _))); all_goals (first | (exfalso; omega) | ((first | (exfalso; omega) | (refine h1.out ?_; clear h1 h2; clear Q1 Q2) | (refine h2.out ?_; clear h1 h2; clear Q1 Q2)); intro Q' hQ; simp [*]; (refine hQ.out _ ?_; clear hQ; clear Q')))))
        all_goals simp [*]
      | true =>
        rw [hrow, Bool.true_and] at hst
        rcases Nat.eq_zero_or_pos k with hk0 | hk0
        · have hst2 : rowsUpB c (k + 1) = true := by rw [hst]; simp [hk0]
          have hk1 : ¬ 0 < k := by omega
          clear hst hk0
          repeat' (first | refine thenC_n ?_ | refine thenC_x ?_ | refine thenC_r ?_ | refine blockC_n ?_ | refine blockC_hit2 rfl ?_ | refine blockC_miss rfl ?_ | refine blockC_r ?_ | refine loopC_x ?_ | refine loopC_r ?_ | refine rangeC_x ?_ | refine rangeC_r ?_ | refine q_seq rfl ?_ | refine q_block rfl ?_ | (refine q_frz rfl rfl (by simp [*]; rfl) ?_) | (refine q_region rfl rfl rfl fun Q' hQ => ?_; simp [*]; (refine hQ.out _ ?_; clear hQ; clear Q')) | (refine q_if rfl fun Q1 Q2 h1 h2 => ?_; simp [*, twoB_some, twoV_some, ltFI, leFI, ltFN, leFN, guardF, yieldF, getA, opE, rdV, scE, constE]; (try (repeat' (first | refine And.intro ?_ ?_ | intro _))); all_goals (first | (exfalso; omega) | (refine h1.out ?_; clear h1 h2; clear Q1 Q2) | (refine h2.out ?_; clear h1 h2; clear Q1 Q2))) | refine q_exit rfl ?_ | refine q_ret rfl ?_ | refine q_skip rfl ?_ | refine q_label rfl ?_ | refine q_drawW rfl rfl rfl rfl ?_ | (refine q_drawW_nil rfl fun Q' hQ => ?_; simp [*]; (refine hQ.out _ ?_; clear hQ; clear Q')) | (refine q_drawW_op rfl rfl fun Q' hQ => ?_; simp [*]; (refine hQ.out _ ?_; clear hQ; clear Q')) | (refine q_drawW_guard rfl rfl fun Q1 Q2 h1 h2 => ?_; simp [*, twoB_some, twoV_some, ltFI, leFI, ltFN, leFN, grdF, yieldF, getA, opE, rdV, scE, constE]; (try (repeat' (first | refine And.intro ?_ ?_ | intro _))); all_goals (first | (exfalso; omega) | ((first | (exfalso; omega) | (refine h1.out ?_; clear h1 h2; clear Q1 Q2) | (refine h2.out ?_; clear h1 h2; clear Q1 Q2)); intro Q' hQ; simp [*]; (refine hQ.out _ ?_; clear hQ; clear Q')))) | refine q_regionW rfl rfl rfl ?_ | (refine regP_nil (by decide) ?_) | (refine regP_op rfl rfl fun Q' hQ => ?_; simp [*]; (refine hQ.out _ ?_; clear hQ; clear Q')) | (refine regP_guard rfl rfl fun Q1 Q2 h1 h2 => ?_; simp [*, twoB_some, twoV_some, ltFI, leFI, ltFN, leFN, grdF, yieldF, getA, opE, rdV, scE, constE]; (try (repeat' (first | refine And.intro ?_ ?_ | intro _))); all_goals (first | (exfalso; omega) | ((first | (exfalso; omega) | (refine h1.out ?_; clear h1 h2; clear Q1 Q2) | (refine h2.out ?_; clear h1 h2; clear Q1 Q2)); intro Q' hQ; simp [*]; (refine hQ.out _ ?_; clear hQ; clear Q')))))
          refine rangeC_n hlt hst2 ?_
          simp [*, H43b]
        · obtain ⟨j, hj⟩ : ∃ j, k = j + 1 := ⟨k - 1, by omega⟩
          have hjl : j < c.rows.length := by omega
          have h58 : L 58 [ints c.rows[j].pre, ints c.rows[k].pre] = some (iT (cmpR c.rows[j].pre c.rows[k].pre), [.dead, .dead]) := by
            subst hj; exact H58.out j hlt
          have hst2 : rowsUpB c (k + 1) = decide (cmpR c.rows[j].pre c.rows[k].pre < 0) := by
            rw [hst]; subst hj; simp
          have hj1 : (k : Int) - 1 = j := by omega
          have hw1 : IntKind.i64.wrap (j : Int) = j := wrap_in (by omega) (by omega)
          clear hst hj
          by_cases hc : cmpR c.rows[j].pre c.rows[k].pre < 0
          · have hst3 : rowsUpB c (k + 1) = true := by rw [hst2]; simpa using hc
            clear hst2
            repeat' (first | refine thenC_n ?_ | refine thenC_x ?_ | refine thenC_r ?_ | refine blockC_n ?_ | refine blockC_hit2 rfl ?_ | refine blockC_miss rfl ?_ | refine blockC_r ?_ | refine loopC_x ?_ | refine loopC_r ?_ | refine rangeC_x ?_ | refine rangeC_r ?_ | refine q_seq rfl ?_ | refine q_block rfl ?_ | (refine q_frz rfl rfl (by simp [*]; rfl) ?_) | (refine q_region rfl rfl rfl fun Q' hQ => ?_; simp [*]; (refine hQ.out _ ?_; clear hQ; clear Q')) | (refine q_if rfl fun Q1 Q2 h1 h2 => ?_; simp [*, twoB_some, twoV_some, ltFI, leFI, ltFN, leFN, guardF, yieldF, getA, opE, rdV, scE, constE]; (try (repeat' (first | refine And.intro ?_ ?_ | intro _))); all_goals (first | (exfalso; omega) | (refine h1.out ?_; clear h1 h2; clear Q1 Q2) | (refine h2.out ?_; clear h1 h2; clear Q1 Q2))) | refine q_exit rfl ?_ | refine q_ret rfl ?_ | refine q_skip rfl ?_ | refine q_label rfl ?_ | refine q_drawW rfl rfl rfl rfl ?_ | (refine q_drawW_nil rfl fun Q' hQ => ?_; simp [*]; (refine hQ.out _ ?_; clear hQ; clear Q')) | (refine q_drawW_op rfl rfl fun Q' hQ => ?_; simp [*]; (refine hQ.out _ ?_; clear hQ; clear Q')) | (refine q_drawW_guard rfl rfl fun Q1 Q2 h1 h2 => ?_; simp [*, twoB_some, twoV_some, ltFI, leFI, ltFN, leFN, grdF, yieldF, getA, opE, rdV, scE, constE]; (try (repeat' (first | refine And.intro ?_ ?_ | intro _))); all_goals (first | (exfalso; omega) | ((first | (exfalso; omega) | (refine h1.out ?_; clear h1 h2; clear Q1 Q2) | (refine h2.out ?_; clear h1 h2; clear Q1 Q2)); intro Q' hQ; simp [*]; (refine hQ.out _ ?_; clear hQ; clear Q')))) | refine q_regionW rfl rfl rfl ?_ | (refine regP_nil (by decide) ?_) | (refine regP_op rfl rfl fun Q' hQ => ?_; simp [*]; (refine hQ.out _ ?_; clear hQ; clear Q')) | (refine regP_guard rfl rfl fun Q1 Q2 h1 h2 => ?_; simp [*, twoB_some, twoV_some, ltFI, leFI, ltFN, leFN, grdF, yieldF, getA, opE, rdV, scE, constE]; (try (repeat' (first | refine And.intro ?_ ?_ | intro _))); all_goals (first | (exfalso; omega) | ((first | (exfalso; omega) | (refine h1.out ?_; clear h1 h2; clear Q1 Q2) | (refine h2.out ?_; clear h1 h2; clear Q1 Q2)); intro Q' hQ; simp [*]; (refine hQ.out _ ?_; clear hQ; clear Q')))))
            refine rangeC_n hlt hst3 ?_
            simp [*, H43b]
          · have e : validE c = 23 := validE_rows H1.out H2.out (k + 1) (by omega) (by rw [hst2]; simpa using hc)
            rw [e]
            clear e hst2
            repeat' (first | refine thenC_n ?_ | refine thenC_x ?_ | refine thenC_r ?_ | refine blockC_n ?_ | refine blockC_hit2 rfl ?_ | refine blockC_miss rfl ?_ | refine blockC_r ?_ | refine loopC_x ?_ | refine loopC_r ?_ | refine rangeC_x ?_ | refine rangeC_r ?_ | refine q_seq rfl ?_ | refine q_block rfl ?_ | (refine q_frz rfl rfl (by simp [*]; rfl) ?_) | (refine q_region rfl rfl rfl fun Q' hQ => ?_; simp [*]; (refine hQ.out _ ?_; clear hQ; clear Q')) | (refine q_if rfl fun Q1 Q2 h1 h2 => ?_; simp [*, twoB_some, twoV_some, ltFI, leFI, ltFN, leFN, guardF, yieldF, getA, opE, rdV, scE, constE]; (try (repeat' (first | refine And.intro ?_ ?_ | intro _))); all_goals (first | (exfalso; omega) | (refine h1.out ?_; clear h1 h2; clear Q1 Q2) | (refine h2.out ?_; clear h1 h2; clear Q1 Q2))) | refine q_exit rfl ?_ | refine q_ret rfl ?_ | refine q_skip rfl ?_ | refine q_label rfl ?_ | refine q_drawW rfl rfl rfl rfl ?_ | (refine q_drawW_nil rfl fun Q' hQ => ?_; simp [*]; (refine hQ.out _ ?_; clear hQ; clear Q')) | (refine q_drawW_op rfl rfl fun Q' hQ => ?_; simp [*]; (refine hQ.out _ ?_; clear hQ; clear Q')) | (refine q_drawW_guard rfl rfl fun Q1 Q2 h1 h2 => ?_; simp [*, twoB_some, twoV_some, ltFI, leFI, ltFN, leFN, grdF, yieldF, getA, opE, rdV, scE, constE]; (try (repeat' (first | refine And.intro ?_ ?_ | intro _))); all_goals (first | (exfalso; omega) | ((first | (exfalso; omega) | (refine h1.out ?_; clear h1 h2; clear Q1 Q2) | (refine h2.out ?_; clear h1 h2; clear Q1 Q2)); intro Q' hQ; simp [*]; (refine hQ.out _ ?_; clear hQ; clear Q')))) | refine q_regionW rfl rfl rfl ?_ | (refine regP_nil (by decide) ?_) | (refine regP_op rfl rfl fun Q' hQ => ?_; simp [*]; (refine hQ.out _ ?_; clear hQ; clear Q')) | (refine regP_guard rfl rfl fun Q1 Q2 h1 h2 => ?_; simp [*, twoB_some, twoV_some, ltFI, leFI, ltFN, leFN, grdF, yieldF, getA, opE, rdV, scE, constE]; (try (repeat' (first | refine And.intro ?_ ?_ | intro _))); all_goals (first | (exfalso; omega) | ((first | (exfalso; omega) | (refine h1.out ?_; clear h1 h2; clear Q1 Q2) | (refine h2.out ?_; clear h1 h2; clear Q1 Q2)); intro Q' hQ; simp [*]; (refine hQ.out _ ?_; clear hQ; clear Q')))))
            all_goals simp [*]

theorem c30 (c : Casc) (h : CB c) : L 30 [cascT c] = some (.tup [if validE c = 0 then cascT c else .agg [iT 0, .os 0 0 [], .os 0 0 []], iT (validE c)], [.dead]) := by
  have h1 := c43 c h
  clear h
  refine L_run cfn30 fn30 (runF_of bd30 ⟨of_decide_eq_true rfl, of_decide_eq_true rfl⟩ ?_)
  simp only [entryF, entryT, entryO, entryE, isIo]
  by_cases hv : validE c = 0
  · rw [if_pos hv]
    repeat' (first | refine thenC_n ?_ | refine thenC_x ?_ | refine thenC_r ?_ | refine blockC_n ?_ | refine blockC_hit2 rfl ?_ | refine blockC_miss rfl ?_ | refine blockC_r ?_ | refine loopC_x ?_ | refine loopC_r ?_ | refine rangeC_x ?_ | refine rangeC_r ?_ | refine q_seq rfl ?_ | refine q_block rfl ?_ | (refine q_frz rfl rfl (by simp [*]; rfl) ?_) | (refine q_region rfl rfl rfl fun Q' hQ => ?_; simp [*]; (refine hQ.out _ ?_; clear hQ; clear Q')) | (refine q_if rfl fun Q1 Q2 h1 h2 => ?_; simp [*, twoB_some, twoV_some, ltFI, leFI, ltFN, leFN, guardF, yieldF, getA, opE, rdV, scE, constE]; (try (repeat' (first | refine And.intro ?_ ?_ | intro _))); all_goals (first | (exfalso; omega) | (refine h1.out ?_; clear h1 h2; clear Q1 Q2) | (refine h2.out ?_; clear h1 h2; clear Q1 Q2))) | refine q_exit rfl ?_ | refine q_ret rfl ?_ | refine q_skip rfl ?_ | refine q_label rfl ?_ | refine q_drawW rfl rfl rfl rfl ?_ | (refine q_drawW_nil rfl fun Q' hQ => ?_; simp [*]; (refine hQ.out _ ?_; clear hQ; clear Q')) | (refine q_drawW_op rfl rfl fun Q' hQ => ?_; simp [*]; (refine hQ.out _ ?_; clear hQ; clear Q')) | (refine q_drawW_guard rfl rfl fun Q1 Q2 h1 h2 => ?_; simp [*, twoB_some, twoV_some, ltFI, leFI, ltFN, leFN, grdF, yieldF, getA, opE, rdV, scE, constE]; (try (repeat' (first | refine And.intro ?_ ?_ | intro _))); all_goals (first | (exfalso; omega) | ((first | (exfalso; omega) | (refine h1.out ?_; clear h1 h2; clear Q1 Q2) | (refine h2.out ?_; clear h1 h2; clear Q1 Q2)); intro Q' hQ; simp [*]; (refine hQ.out _ ?_; clear hQ; clear Q')))) | refine q_regionW rfl rfl rfl ?_ | (refine regP_nil (by decide) ?_) | (refine regP_op rfl rfl fun Q' hQ => ?_; simp [*]; (refine hQ.out _ ?_; clear hQ; clear Q')) | (refine regP_guard rfl rfl fun Q1 Q2 h1 h2 => ?_; simp [*, twoB_some, twoV_some, ltFI, leFI, ltFN, leFN, grdF, yieldF, getA, opE, rdV, scE, constE]; (try (repeat' (first | refine And.intro ?_ ?_ | intro _))); all_goals (first | (exfalso; omega) | ((first | (exfalso; omega) | (refine h1.out ?_; clear h1 h2; clear Q1 Q2) | (refine h2.out ?_; clear h1 h2; clear Q1 Q2)); intro Q' hQ; simp [*]; (refine hQ.out _ ?_; clear hQ; clear Q')))))
    all_goals simp [*]
  · rw [if_neg hv]
    repeat' (first | refine thenC_n ?_ | refine thenC_x ?_ | refine thenC_r ?_ | refine blockC_n ?_ | refine blockC_hit2 rfl ?_ | refine blockC_miss rfl ?_ | refine blockC_r ?_ | refine loopC_x ?_ | refine loopC_r ?_ | refine rangeC_x ?_ | refine rangeC_r ?_ | refine q_seq rfl ?_ | refine q_block rfl ?_ | (refine q_frz rfl rfl (by simp [*]; rfl) ?_) | (refine q_region rfl rfl rfl fun Q' hQ => ?_; simp [*]; (refine hQ.out _ ?_; clear hQ; clear Q')) | (refine q_if rfl fun Q1 Q2 h1 h2 => ?_; simp [*, twoB_some, twoV_some, ltFI, leFI, ltFN, leFN, guardF, yieldF, getA, opE, rdV, scE, constE]; (try (repeat' (first | refine And.intro ?_ ?_ | intro _))); all_goals (first | (exfalso; omega) | (refine h1.out ?_; clear h1 h2; clear Q1 Q2) | (refine h2.out ?_; clear h1 h2; clear Q1 Q2))) | refine q_exit rfl ?_ | refine q_ret rfl ?_ | refine q_skip rfl ?_ | refine q_label rfl ?_ | refine q_drawW rfl rfl rfl rfl ?_ | (refine q_drawW_nil rfl fun Q' hQ => ?_; simp [*]; (refine hQ.out _ ?_; clear hQ; clear Q')) | (refine q_drawW_op rfl rfl fun Q' hQ => ?_; simp [*]; (refine hQ.out _ ?_; clear hQ; clear Q')) | (refine q_drawW_guard rfl rfl fun Q1 Q2 h1 h2 => ?_; simp [*, twoB_some, twoV_some, ltFI, leFI, ltFN, leFN, grdF, yieldF, getA, opE, rdV, scE, constE]; (try (repeat' (first | refine And.intro ?_ ?_ | intro _))); all_goals (first | (exfalso; omega) | ((first | (exfalso; omega) | (refine h1.out ?_; clear h1 h2; clear Q1 Q2) | (refine h2.out ?_; clear h1 h2; clear Q1 Q2)); intro Q' hQ; simp [*]; (refine hQ.out _ ?_; clear hQ; clear Q')))) | refine q_regionW rfl rfl rfl ?_ | (refine regP_nil (by decide) ?_) | (refine regP_op rfl rfl fun Q' hQ => ?_; simp [*]; (refine hQ.out _ ?_; clear hQ; clear Q')) | (refine regP_guard rfl rfl fun Q1 Q2 h1 h2 => ?_; simp [*, twoB_some, twoV_some, ltFI, leFI, ltFN, leFN, grdF, yieldF, getA, opE, rdV, scE, constE]; (try (repeat' (first | refine And.intro ?_ ?_ | intro _))); all_goals (first | (exfalso; omega) | ((first | (exfalso; omega) | (refine h1.out ?_; clear h1 h2; clear Q1 Q2) | (refine h2.out ?_; clear h1 h2; clear Q1 Q2)); intro Q' hQ; simp [*]; (refine hQ.out _ ?_; clear hQ; clear Q')))))
    all_goals simp [*]
end Go.Proofs.YthalofddjlhcjaaDoor
end
section
/- Plain facts on a search among rows that ascend. No program. -/
namespace Go.Proofs.YthalofddjlhcjaaDoor
set_option linter.unusedVariables false
set_option linter.unusedSimpArgs false

/-- Where the search ends. -/
def lowB (rows : List CRow) (p : List Int) : Nat := (rows.takeWhile fun r => decide (cmpR r.pre p < 0)).length
def hasB (rows : List CRow) (p : List Int) : Bool := rows.any fun r => decide (r.pre = p)

/-- What the search answers. -/
def Found (rows : List CRow) (p : List Int) (i : Nat) (b : Bool) : Prop := i = lowB rows p ∧ b = hasB rows p

theorem takeWhile_len {α : Type} (q : α → Bool) : ∀ (l : List α) (i : Nat), i ≤ l.length → (∀ k (h : k < l.length), k < i → q l[k] = true) → (∀ h : i < l.length, q l[i] = false) → (l.takeWhile q).length = i
  | [], i, hi, _, _ => by simp at hi; simp [hi]
  | a :: l, 0, _, _, h2 => by
    have := h2 (by simp)
    simp at this
    simp [List.takeWhile_cons, this]
  | a :: l, i + 1, hi, h1, h2 => by
    have e := h1 0 (by simp) (by omega)
    simp at e
    have ih := takeWhile_len q l i (by simpa using hi) (fun k h hk => by have := h1 (k + 1) (by simpa using h) (by omega); simpa using this) (fun h => by have := h2 (by simpa using h); simpa using this)
    simp [List.takeWhile_cons, e, ih]

theorem hasB_iff (rows : List CRow) (p : List Int) : hasB rows p = true ↔ ∃ j, ∃ h : j < rows.length, rows[j].pre = p := by
  unfold hasB
  rw [List.any_eq_true]
  constructor
  · rintro ⟨r, hr, e⟩
    obtain ⟨j, hj, rfl⟩ := List.getElem_of_mem hr
    exact ⟨j, hj, of_decide_eq_true e⟩
  · rintro ⟨j, hj, e⟩
    exact ⟨rows[j], List.getElem_mem _, decide_eq_true e⟩

/-- All rows before i are less, all from j on are not. -/
def Between (rows : List CRow) (p : List Int) (i j : Nat) : Prop :=
  (∀ k (h : k < rows.length), k < i → cmpR rows[k].pre p < 0) ∧ (∀ k (h : k < rows.length), j ≤ k → ¬ cmpR rows[k].pre p < 0)

theorem between_up {rows : List CRow} (hu : UpR rows) {p : List Int} {i j k : Nat} (h : Between rows p i j) (hk : k < rows.length) (hc : cmpR rows[k].pre p < 0) : Between rows p (k + 1) j :=
  ⟨fun l hl hlk => by
    by_cases e : l = k
    · subst e; exact hc
    · exact cmpR_trans _ _ _ (hu l k hl hk (by omega)) hc, h.2⟩
theorem between_down {rows : List CRow} (hu : UpR rows) {p : List Int} {i j k : Nat} (h : Between rows p i j) (hk : k < rows.length) (hc : ¬ cmpR rows[k].pre p < 0) : Between rows p i k :=
  ⟨h.1, fun l hl hlk => by
    by_cases e : l = k
    · subst e; exact hc
    · exact fun h' => hc (cmpR_trans _ _ _ (hu k l hk hl (by omega)) h')⟩
theorem low_of {rows : List CRow} {p : List Int} {i : Nat} (h : Between rows p i i) (hi : i ≤ rows.length) : lowB rows p = i :=
  takeWhile_len _ rows i hi (fun k hk hki => decide_eq_true (h.1 k hk hki)) (fun hk => decide_eq_false (h.2 i hk (Nat.le_refl _)))
theorem found_of {rows : List CRow} (hu : UpR rows) {p : List Int} {i : Nat} (h : Between rows p i i) (hi : i < rows.length) : Found rows p i (decide (cmpR rows[i].pre p = 0)) := by
  refine ⟨(low_of h (by omega)).symm, ?_⟩
  rw [Bool.eq_iff_iff, decide_eq_true_iff, hasB_iff]
  constructor
  · exact fun e => ⟨i, hi, (cmpR_zero _ _).1 e⟩
  · rintro ⟨j, hj, e⟩
    rcases Nat.lt_trichotomy j i with hl | hl | hl
    · have := h.1 j hj hl; rw [(cmpR_zero _ _).2 e] at this; omega
    · subst hl; exact (cmpR_zero _ _).2 e
    · have := hu i j hi hj hl
      rw [e] at this
      exact absurd this (h.2 i hi (Nat.le_refl _))
theorem found_none {rows : List CRow} {p : List Int} {i : Nat} (h : Between rows p i i) (hi : ¬ i < rows.length) (hi2 : i ≤ rows.length) : Found rows p i false := by
  refine ⟨(low_of h hi2).symm, ?_⟩
  rw [eq_comm, ← Bool.not_eq_true, hasB_iff]
  rintro ⟨j, hj, e⟩
  have := h.1 j hj (by omega)
  rw [(cmpR_zero _ _).2 e] at this
  omega
theorem low_row {rows : List CRow} (hu : UpR rows) {p : List Int} (h : hasB rows p = true) : ∃ hl : lowB rows p < rows.length, rows[lowB rows p].pre = p := by
  obtain ⟨j, hj, e⟩ := (hasB_iff _ _).1 h
  have hb : Between rows p j j := ⟨fun k hk hkj => by rw [← e]; exact hu k j hk hj hkj, fun k hk hjk => by
    by_cases ek : k = j
    · subst ek; rw [(cmpR_zero _ _).2 e]; omega
    · intro hlt
      have := hu j k hj hk (by omega)
      rw [e] at this
      have h2 := cmpR_trans _ _ _ this hlt
      rw [(cmpR_zero p p).2 rfl] at h2
      omega⟩
  have hl := low_of hb (by omega)
  exact ⟨by omega, by simp only [hl]; exact e⟩

end Go.Proofs.YthalofddjlhcjaaDoor
end
section
/- A search among rows that ascend. -/
namespace Go.Proofs.YthalofddjlhcjaaDoor
open Go
set_option maxRecDepth 100000
set_option maxHeartbeats 4000000
set_option linter.unusedVariables false
set_option linter.unusedSimpArgs false

theorem c57 (r : CRow) (p : List Int) (hr : r.pre.length < 2^62) (hp : p.length < 2^62) : L 57 [rowT r, ints p] = some (iT (cmpR r.pre p), [.dead, .dead]) := by
  have h := c58 r.pre p hr hp
  refine L_run cfn57 fn57 (runF_of bd57 ⟨of_decide_eq_true rfl, of_decide_eq_true rfl⟩ ?_)
  simp only [entryF, entryT, entryO, entryE, isIo]
  repeat' (first | refine thenC_n ?_ | refine thenC_x ?_ | refine thenC_r ?_ | refine blockC_n ?_ | refine blockC_hit2 rfl ?_ | refine blockC_miss rfl ?_ | refine blockC_r ?_ | refine loopC_x ?_ | refine loopC_r ?_ | refine rangeC_x ?_ | refine rangeC_r ?_ | refine q_seq rfl ?_ | refine q_block rfl ?_ | (refine q_frz rfl rfl (by simp [*]; rfl) ?_) | (refine q_region rfl rfl rfl fun Q' hQ => ?_; simp [*]; (refine hQ.out _ ?_; clear hQ; clear Q')) | (refine q_if rfl fun Q1 Q2 h1 h2 => ?_; simp [*, twoB_some, twoV_some, ltFI, leFI, ltFN, leFN, guardF, yieldF, getA, opE, rdV, scE, constE]; (try (repeat' (first | refine And.intro ?_ ?_ | intro _))); all_goals (first | (exfalso; omega) | (refine h1.out ?_; clear h1 h2; clear Q1 Q2) | (refine h2.out ?_; clear h1 h2; clear Q1 Q2))) | refine q_exit rfl ?_ | refine q_ret rfl ?_ | refine q_skip rfl ?_ | refine q_label rfl ?_ | refine q_drawW rfl rfl rfl rfl ?_ | (refine q_drawW_nil rfl fun Q' hQ => ?_; simp [*]; (refine hQ.out _ ?_; clear hQ; clear Q')) | (refine q_drawW_op rfl rfl fun Q' hQ => ?_; simp [*]; (refine hQ.out _ ?_; clear hQ; clear Q')) | (refine q_drawW_guard rfl rfl fun Q1 Q2 h1 h2 => ?_; simp [*, twoB_some, twoV_some, ltFI, leFI, ltFN, leFN, grdF, yieldF, getA, opE, rdV, scE, constE]; (try (repeat' (first | refine And.intro ?_ ?_ | intro _))); all_goals (first | (exfalso; omega) | ((first | (exfalso; omega) | (refine h1.out ?_; clear h1 h2; clear Q1 Q2) | (refine h2.out ?_; clear h1 h2; clear Q1 Q2)); intro Q' hQ; simp [*]; (refine hQ.out _ ?_; clear hQ; clear Q')))) | refine q_regionW rfl rfl rfl ?_ | (refine regP_nil (by decide) ?_) | (refine regP_op rfl rfl fun Q' hQ => ?_; simp [*]; (refine hQ.out _ ?_; clear hQ; clear Q')) | (refine regP_guard rfl rfl fun Q1 Q2 h1 h2 => ?_; simp [*, twoB_some, twoV_some, ltFI, leFI, ltFN, leFN, grdF, yieldF, getA, opE, rdV, scE, constE]; (try (repeat' (first | refine And.intro ?_ ?_ | intro _))); all_goals (first | (exfalso; omega) | ((first | (exfalso; omega) | (refine h1.out ?_; clear h1 h2; clear Q1 Q2) | (refine h2.out ?_; clear h1 h2; clear Q1 Q2)); intro Q' hQ; simp [*]; (refine hQ.out _ ?_; clear hQ; clear Q')))))
  all_goals simp [*]

abbrev fT (f : FuncId) : T := .sc (.func (.func f) #[] #[])
def H56 (rs : List CRow) (p : List Int) (i j : Nat) : Fr := ⟨49, [(0, rE (rowsT rs)), (1, rE (ints p)), (2, rE (fT 57)), (8, rE (iT rs.length)), (9, rE (iT i)), (10, rE (iT j))], []⟩
theorem c56 (rs : List CRow) (p : List Int) (hu : UpR rs) (hr : rs.length ≤ 48000) (hp : p.length < 2^62) (hb : ∀ r ∈ rs, RB r) : L 56 [rowsT rs, ints p, fT 57] = some (.tup [iT (lowB rs p), bT (hasB rs p)], [.dead, .dead, .dead]) := by
  have H57 : Hid (∀ i (h : i < rs.length), L 57 [rowT rs[i], ints p] = some (iT (cmpR rs[i].pre p), [.dead, .dead])) := ⟨fun i h => c57 _ _ (hb _ (List.getElem_mem h)).pre hp⟩
  have HU := Hid.mk hu
  clear hu hb
  refine L_run cfn56 fn56 (runF_of bd56 ⟨of_decide_eq_true rfl, of_decide_eq_true rfl⟩ ?_)
  simp only [entryF, entryT, entryO, entryE, isIo]
  repeat' (first | refine thenC_n ?_ | refine thenC_x ?_ | refine thenC_r ?_ | refine blockC_n ?_ | refine blockC_hit2 rfl ?_ | refine blockC_miss rfl ?_ | refine blockC_r ?_ | refine loopC_x ?_ | refine loopC_r ?_ | refine rangeC_x ?_ | refine rangeC_r ?_ | refine q_seq rfl ?_ | refine q_block rfl ?_ | (refine q_frz rfl rfl (by simp [*]; rfl) ?_) | (refine q_region rfl rfl rfl fun Q' hQ => ?_; simp [*]; (refine hQ.out _ ?_; clear hQ; clear Q')) | (refine q_if rfl fun Q1 Q2 h1 h2 => ?_; simp [*, twoB_some, twoV_some, ltFI, leFI, ltFN, leFN, guardF, yieldF, getA, opE, rdV, scE, constE]; (try (repeat' (first | refine And.intro ?_ ?_ | intro _))); all_goals (first | (exfalso; omega) | (refine h1.out ?_; clear h1 h2; clear Q1 Q2) | (refine h2.out ?_; clear h1 h2; clear Q1 Q2))) | refine q_exit rfl ?_ | refine q_ret rfl ?_ | refine q_skip rfl ?_ | refine q_label rfl ?_ | refine q_drawW rfl rfl rfl rfl ?_ | (refine q_drawW_nil rfl fun Q' hQ => ?_; simp [*]; (refine hQ.out _ ?_; clear hQ; clear Q')) | (refine q_drawW_op rfl rfl fun Q' hQ => ?_; simp [*]; (refine hQ.out _ ?_; clear hQ; clear Q')) | (refine q_drawW_guard rfl rfl fun Q1 Q2 h1 h2 => ?_; simp [*, twoB_some, twoV_some, ltFI, leFI, ltFN, leFN, grdF, yieldF, getA, opE, rdV, scE, constE]; (try (repeat' (first | refine And.intro ?_ ?_ | intro _))); all_goals (first | (exfalso; omega) | ((first | (exfalso; omega) | (refine h1.out ?_; clear h1 h2; clear Q1 Q2) | (refine h2.out ?_; clear h1 h2; clear Q1 Q2)); intro Q' hQ; simp [*]; (refine hQ.out _ ?_; clear hQ; clear Q')))) | refine q_regionW rfl rfl rfl ?_ | (refine regP_nil (by decide) ?_) | (refine regP_op rfl rfl fun Q' hQ => ?_; simp [*]; (refine hQ.out _ ?_; clear hQ; clear Q')) | (refine regP_guard rfl rfl fun Q1 Q2 h1 h2 => ?_; simp [*, twoB_some, twoV_some, ltFI, leFI, ltFN, leFN, grdF, yieldF, getA, opE, rdV, scE, constE]; (try (repeat' (first | refine And.intro ?_ ?_ | intro _))); all_goals (first | (exfalso; omega) | ((first | (exfalso; omega) | (refine h1.out ?_; clear h1 h2; clear Q1 Q2) | (refine h2.out ?_; clear h1 h2; clear Q1 Q2)); intro Q' hQ; simp [*]; (refine hQ.out _ ?_; clear hQ; clear Q')))))
  refine q_loop rfl rfl (n := rs.length) (fun q fr => ∃ i j : Nat, i ≤ j ∧ j ≤ rs.length ∧ q = j - i ∧ Between rs p i j ∧ fr = H56 rs p i j) (by simp only [LFm]; omega) ?_ ?_
  · refine ⟨0, rs.length, by omega, by omega, by omega, ⟨fun k h hk => by omega, fun k h hk => by omega⟩, ?_⟩
    simp [*, H56]
  · rintro q fr ⟨i, j, hij, hj, rfl, hbt, rfl⟩
    have HB := Hid.mk hbt
    clear hbt
    simp only [H56]
    by_cases hlt : i < j
    · have hw1 : IntKind.i64.wrap ((i : Int) + j) = i + j := wrap_in (by omega) (by omega)
      have hw2 : IntKind.u64.wrap ((i : Int) + j) = i + j := by rw [IntKind.wrap_u64]; omega
      obtain ⟨m, hm⟩ : ∃ m, m = (i + j) / 2 := ⟨_, rfl⟩
      have hw3 : ((i : Int) + j).fdiv 2 = m := by rw [Int.fdiv_eq_ediv_of_nonneg _ (by omega)]; omega
      have hw4 : ((i : Int) + j) / 2 = m := by omega
      have hw5 : IntKind.i64.wrap (m : Int) = m := wrap_in (by omega) (by omega)
      have hw6 : IntKind.i64.wrap ((m : Int) + 1) = m + 1 := wrap_in (by omega) (by omega)
      have hml : m < rs.length := by omega
      have hc := H57.out m hml
      have hmi : i ≤ m ∧ m < j := by omega
      clear hm
      by_cases hlo : cmpR rs[m].pre p < 0
      · repeat' (first | refine thenC_n ?_ | refine thenC_x ?_ | refine thenC_r ?_ | refine blockC_n ?_ | refine blockC_hit2 rfl ?_ | refine blockC_miss rfl ?_ | refine blockC_r ?_ | refine loopC_x ?_ | refine loopC_r ?_ | refine rangeC_x ?_ | refine rangeC_r ?_ | refine q_seq rfl ?_ | refine q_block rfl ?_ | (refine q_frz rfl rfl (by simp [*]; rfl) ?_) | (refine q_region rfl rfl rfl fun Q' hQ => ?_; simp [*]; (refine hQ.out _ ?_; clear hQ; clear Q')) | (refine q_if rfl fun Q1 Q2 h1 h2 => ?_; simp [*, twoB_some, twoV_some, ltFI, leFI, ltFN, leFN, guardF, yieldF, getA, opE, rdV, scE, constE]; (try (repeat' (first | refine And.intro ?_ ?_ | intro _))); all_goals (first | (exfalso; omega) | (refine h1.out ?_; clear h1 h2; clear Q1 Q2) | (refine h2.out ?_; clear h1 h2; clear Q1 Q2))) | refine q_exit rfl ?_ | refine q_ret rfl ?_ | refine q_skip rfl ?_ | refine q_label rfl ?_ | refine q_drawW rfl rfl rfl rfl ?_ | (refine q_drawW_nil rfl fun Q' hQ => ?_; simp [*]; (refine hQ.out _ ?_; clear hQ; clear Q')) | (refine q_drawW_op rfl rfl fun Q' hQ => ?_; simp [*]; (refine hQ.out _ ?_; clear hQ; clear Q')) | (refine q_drawW_guard rfl rfl fun Q1 Q2 h1 h2 => ?_; simp [*, twoB_some, twoV_some, ltFI, leFI, ltFN, leFN, grdF, yieldF, getA, opE, rdV, scE, constE]; (try (repeat' (first | refine And.intro ?_ ?_ | intro _))); all_goals (first | (exfalso; omega) | ((first | (exfalso; omega) | (refine h1.out ?_; clear h1 h2; clear Q1 Q2) | (refine h2.out ?_; clear h1 h2; clear Q1 Q2)); intro Q' hQ; simp [*]; (refine hQ.out _ ?_; clear hQ; clear Q')))) | refine q_regionW rfl rfl rfl ?_ | (refine regP_nil (by decide) ?_) | (refine regP_op rfl rfl fun Q' hQ => ?_; simp [*]; (refine hQ.out _ ?_; clear hQ; clear Q')) | (refine regP_guard rfl rfl fun Q1 Q2 h1 h2 => ?_; simp [*, twoB_some, twoV_some, ltFI, leFI, ltFN, leFN, grdF, yieldF, getA, opE, rdV, scE, constE]; (try (repeat' (first | refine And.intro ?_ ?_ | intro _))); all_goals (first | (exfalso; omega) | ((first | (exfalso; omega) | (refine h1.out ?_; clear h1 h2; clear Q1 Q2) | (refine h2.out ?_; clear h1 h2; clear Q1 Q2)); intro Q' hQ; simp [*]; (refine hQ.out _ ?_; clear hQ; clear Q')))))
        refine loopC_n (j - (m + 1)) (by omega) ⟨m + 1, j, by omega, hj, rfl, between_up HU.out HB.out hml hlo, ?_⟩
        simp [*, H56]
      · repeat' (first | refine thenC_n ?_ | refine thenC_x ?_ | refine thenC_r ?_ | refine blockC_n ?_ | refine blockC_hit2 rfl ?_ | refine blockC_miss rfl ?_ | refine blockC_r ?_ | refine loopC_x ?_ | refine loopC_r ?_ | refine rangeC_x ?_ | refine rangeC_r ?_ | refine q_seq rfl ?_ | refine q_block rfl ?_ | (refine q_frz rfl rfl (by simp [*]; rfl) ?_) | (refine q_region rfl rfl rfl fun Q' hQ => ?_; simp [*]; (refine hQ.out _ ?_; clear hQ; clear Q')) | (refine q_if rfl fun Q1 Q2 h1 h2 => ?_; simp [*, twoB_some, twoV_some, ltFI, leFI, ltFN, leFN, guardF, yieldF, getA, opE, rdV, scE, constE]; (try (repeat' (first | refine And.intro ?_ ?_ | intro _))); all_goals (first | (exfalso; omega) | (refine h1.out ?_; clear h1 h2; clear Q1 Q2) | (refine h2.out ?_; clear h1 h2; clear Q1 Q2))) | refine q_exit rfl ?_ | refine q_ret rfl ?_ | refine q_skip rfl ?_ | refine q_label rfl ?_ | refine q_drawW rfl rfl rfl rfl ?_ | (refine q_drawW_nil rfl fun Q' hQ => ?_; simp [*]; (refine hQ.out _ ?_; clear hQ; clear Q')) | (refine q_drawW_op rfl rfl fun Q' hQ => ?_; simp [*]; (refine hQ.out _ ?_; clear hQ; clear Q')) | (refine q_drawW_guard rfl rfl fun Q1 Q2 h1 h2 => ?_; simp [*, twoB_some, twoV_some, ltFI, leFI, ltFN, leFN, grdF, yieldF, getA, opE, rdV, scE, constE]; (try (repeat' (first | refine And.intro ?_ ?_ | intro _))); all_goals (first | (exfalso; omega) | ((first | (exfalso; omega) | (refine h1.out ?_; clear h1 h2; clear Q1 Q2) | (refine h2.out ?_; clear h1 h2; clear Q1 Q2)); intro Q' hQ; simp [*]; (refine hQ.out _ ?_; clear hQ; clear Q')))) | refine q_regionW rfl rfl rfl ?_ | (refine regP_nil (by decide) ?_) | (refine regP_op rfl rfl fun Q' hQ => ?_; simp [*]; (refine hQ.out _ ?_; clear hQ; clear Q')) | (refine regP_guard rfl rfl fun Q1 Q2 h1 h2 => ?_; simp [*, twoB_some, twoV_some, ltFI, leFI, ltFN, leFN, grdF, yieldF, getA, opE, rdV, scE, constE]; (try (repeat' (first | refine And.intro ?_ ?_ | intro _))); all_goals (first | (exfalso; omega) | ((first | (exfalso; omega) | (refine h1.out ?_; clear h1 h2; clear Q1 Q2) | (refine h2.out ?_; clear h1 h2; clear Q1 Q2)); intro Q' hQ; simp [*]; (refine hQ.out _ ?_; clear hQ; clear Q')))))
        refine loopC_n (m - i) (by omega) ⟨i, m, by omega, by omega, rfl, between_down HU.out HB.out hml hlo, ?_⟩
        simp [*, H56]
    · have e : i = j := by omega
      subst e
      by_cases hi : i < rs.length
      · obtain ⟨e1, e2⟩ := found_of HU.out HB.out hi
        have hc := H57.out i hi
        rw [← e2, ← e1]
        clear e1 e2
        repeat' (first | refine thenC_n ?_ | refine thenC_x ?_ | refine thenC_r ?_ | refine blockC_n ?_ | refine blockC_hit2 rfl ?_ | refine blockC_miss rfl ?_ | refine blockC_r ?_ | refine loopC_x ?_ | refine loopC_r ?_ | refine rangeC_x ?_ | refine rangeC_r ?_ | refine q_seq rfl ?_ | refine q_block rfl ?_ | (refine q_frz rfl rfl (by simp [*]; rfl) ?_) | (refine q_region rfl rfl rfl fun Q' hQ => ?_; simp [*]; (refine hQ.out _ ?_; clear hQ; clear Q')) | (refine q_if rfl fun Q1 Q2 h1 h2 => ?_; simp [*, twoB_some, twoV_some, ltFI, leFI, ltFN, leFN, guardF, yieldF, getA, opE, rdV, scE, constE]; (try (repeat' (first | refine And.intro ?_ ?_ | intro _))); all_goals (first | (exfalso; omega) | (refine h1.out ?_; clear h1 h2; clear Q1 Q2) | (refine h2.out ?_; clear h1 h2; clear Q1 Q2))) | refine q_exit rfl ?_ | refine q_ret rfl ?_ | refine q_skip rfl ?_ | refine q_label rfl ?_ | refine q_drawW rfl rfl rfl rfl ?_ | (refine q_drawW_nil rfl fun Q' hQ => ?_; simp [*]; (refine hQ.out _ ?_; clear hQ; clear Q')) | (refine q_drawW_op rfl rfl fun Q' hQ => ?_; simp [*]; (refine hQ.out _ ?_; clear hQ; clear Q')) | (refine q_drawW_guard rfl rfl fun Q1 Q2 h1 h2 => ?_; simp [*, twoB_some, twoV_some, ltFI, leFI, ltFN, leFN, grdF, yieldF, getA, opE, rdV, scE, constE]; (try (repeat' (first | refine And.intro ?_ ?_ | intro _))); all_goals (first | (exfalso; omega) | ((first | (exfalso; omega) | (refine h1.out ?_; clear h1 h2; clear Q1 Q2) | (refine h2.out ?_; clear h1 h2; clear Q1 Q2)); intro Q' hQ; simp [*]; (refine hQ.out _ ?_; clear hQ; clear Q')))) | refine q_regionW rfl rfl rfl ?_ | (refine regP_nil (by decide) ?_) | (refine regP_op rfl rfl fun Q' hQ => ?_; simp [*]; (refine hQ.out _ ?_; clear hQ; clear Q')) | (refine regP_guard rfl rfl fun Q1 Q2 h1 h2 => ?_; simp [*, twoB_some, twoV_some, ltFI, leFI, ltFN, leFN, grdF, yieldF, getA, opE, rdV, scE, constE]; (try (repeat' (first | refine And.intro ?_ ?_ | intro _))); all_goals (first | (exfalso; omega) | ((first | (exfalso; omega) | (refine h1.out ?_; clear h1 h2; clear Q1 Q2) | (refine h2.out ?_; clear h1 h2; clear Q1 Q2)); intro Q' hQ; simp [*]; (refine hQ.out _ ?_; clear hQ; clear Q')))))
        all_goals simp [*]
      · obtain ⟨e1, e2⟩ := found_none HB.out hi (by omega)
        rw [← e2, ← e1]
        clear e1 e2
        repeat' (first | refine thenC_n ?_ | refine thenC_x ?_ | refine thenC_r ?_ | refine blockC_n ?_ | refine blockC_hit2 rfl ?_ | refine blockC_miss rfl ?_ | refine blockC_r ?_ | refine loopC_x ?_ | refine loopC_r ?_ | refine rangeC_x ?_ | refine rangeC_r ?_ | refine q_seq rfl ?_ | refine q_block rfl ?_ | (refine q_frz rfl rfl (by simp [*]; rfl) ?_) | (refine q_region rfl rfl rfl fun Q' hQ => ?_; simp [*]; (refine hQ.out _ ?_; clear hQ; clear Q')) | (refine q_if rfl fun Q1 Q2 h1 h2 => ?_; simp [*, twoB_some, twoV_some, ltFI, leFI, ltFN, leFN, guardF, yieldF, getA, opE, rdV, scE, constE]; (try (repeat' (first | refine And.intro ?_ ?_ | intro _))); all_goals (first | (exfalso; omega) | (refine h1.out ?_; clear h1 h2; clear Q1 Q2) | (refine h2.out ?_; clear h1 h2; clear Q1 Q2))) | refine q_exit rfl ?_ | refine q_ret rfl ?_ | refine q_skip rfl ?_ | refine q_label rfl ?_ | refine q_drawW rfl rfl rfl rfl ?_ | (refine q_drawW_nil rfl fun Q' hQ => ?_; simp [*]; (refine hQ.out _ ?_; clear hQ; clear Q')) | (refine q_drawW_op rfl rfl fun Q' hQ => ?_; simp [*]; (refine hQ.out _ ?_; clear hQ; clear Q')) | (refine q_drawW_guard rfl rfl fun Q1 Q2 h1 h2 => ?_; simp [*, twoB_some, twoV_some, ltFI, leFI, ltFN, leFN, grdF, yieldF, getA, opE, rdV, scE, constE]; (try (repeat' (first | refine And.intro ?_ ?_ | intro _))); all_goals (first | (exfalso; omega) | ((first | (exfalso; omega) | (refine h1.out ?_; clear h1 h2; clear Q1 Q2) | (refine h2.out ?_; clear h1 h2; clear Q1 Q2)); intro Q' hQ; simp [*]; (refine hQ.out _ ?_; clear hQ; clear Q')))) | refine q_regionW rfl rfl rfl ?_ | (refine regP_nil (by decide) ?_) | (refine regP_op rfl rfl fun Q' hQ => ?_; simp [*]; (refine hQ.out _ ?_; clear hQ; clear Q')) | (refine regP_guard rfl rfl fun Q1 Q2 h1 h2 => ?_; simp [*, twoB_some, twoV_some, ltFI, leFI, ltFN, leFN, grdF, yieldF, getA, opE, rdV, scE, constE]; (try (repeat' (first | refine And.intro ?_ ?_ | intro _))); all_goals (first | (exfalso; omega) | ((first | (exfalso; omega) | (refine h1.out ?_; clear h1 h2; clear Q1 Q2) | (refine h2.out ?_; clear h1 h2; clear Q1 Q2)); intro Q' hQ; simp [*]; (refine hQ.out _ ?_; clear hQ; clear Q')))))
        all_goals simp [*]
end Go.Proofs.YthalofddjlhcjaaDoor
end
section
/- Words; a letter's step of a cascade. -/
namespace Go.Proofs.YthalofddjlhcjaaDoor
open Go
set_option maxRecDepth 100000
set_option maxHeartbeats 4000000
set_option linter.unusedVariables false
set_option linter.unusedSimpArgs false

/-- Is a byte one of the first n letters? -/
def letB (n : Int) (b : UInt8) : Bool := decide (97 ≤ b.toNat) && decide ((b.toNat : Int) - 97 < n)
/-- Is a string a word over n letters? -/
def wordB (s : ByteArray) (n : Int) : Bool := decide (1 ≤ n ∧ n ≤ 6 ∧ s.size ≤ 2048) && s.data.toList.all (letB n)
theorem wordB_bad {s : ByteArray} {n : Int} (k : Nat) (hk : k < s.size) (h : letB n s[k] = false) : wordB s n = false := by
  unfold wordB
  rw [Bool.and_eq_false_iff]
  right
  rw [List.all_eq_false]
  exact ⟨s[k], by simp [ByteArray.getElem_eq_getElem_data], by simp [h]⟩
theorem wordB_ok {s : ByteArray} {n : Int} (h0 : 1 ≤ n ∧ n ≤ 6 ∧ s.size ≤ 2048) (h : ∀ i, ∀ hi : i < s.size, letB n s[i] = true) : wordB s n = true := by
  unfold wordB
  rw [Bool.and_eq_true]
  refine ⟨by simpa using h0, ?_⟩
  rw [List.all_eq_true]
  intro b hb
  obtain ⟨i, hi, rfl⟩ := List.getElem_of_mem hb
  exact h i (by simpa using hi)
theorem wordB_out {s : ByteArray} {n : Int} (h0 : ¬ (1 ≤ n ∧ n ≤ 6 ∧ s.size ≤ 2048)) : wordB s n = false := by
  unfold wordB
  rw [decide_eq_false h0]; rfl

def H32 (s : ByteArray) (n : Int) (k : Nat) : Fr := ⟨36, [(0, rE (sT s)), (1, rE (iT n)), (18, rE (iT s.size)), (19, rE (iT k))], []⟩
theorem c32 (s : ByteArray) (n : Int) (hs : s.size < 2^62) : L 32 [sT s, iT n] = some (bT (wordB s n), [.dead, .dead]) := by
  refine L_run cfn32 fn32 (runF_of bd32 ⟨of_decide_eq_true rfl, of_decide_eq_true rfl⟩ ?_)
  simp only [entryF, entryT, entryO, entryE, isIo]
  by_cases h0 : 1 ≤ n ∧ n ≤ 6 ∧ s.size ≤ 2048
  case neg =>
    rw [wordB_out h0]
    by_cases h1 : n < 1
    · clear h0
      repeat' (first | refine thenC_n ?_ | refine thenC_x ?_ | refine thenC_r ?_ | refine blockC_n ?_ | refine blockC_hit2 rfl ?_ | refine blockC_miss rfl ?_ | refine blockC_r ?_ | refine loopC_x ?_ | refine loopC_r ?_ | refine rangeC_x ?_ | refine rangeC_r ?_ | refine q_seq rfl ?_ | refine q_block rfl ?_ | (refine q_frz rfl rfl (by simp [*]; rfl) ?_) | (refine q_region rfl rfl rfl fun Q' hQ => ?_; simp [*]; (refine hQ.out _ ?_; clear hQ; clear Q')) | (refine q_if rfl fun Q1 Q2 h1 h2 => ?_; simp [*, twoB_some, twoV_some, ltFI, leFI, ltFN, leFN, guardF, yieldF, getA, opE, rdV, scE, constE]; (try (repeat' (first | refine And.intro ?_ ?_ | intro _))); all_goals (first | (exfalso; omega) | (refine h1.out ?_; clear h1 h2; clear Q1 Q2) | (refine h2.out ?_; clear h1 h2; clear Q1 Q2))) | refine q_exit rfl ?_ | refine q_ret rfl ?_ | refine q_skip rfl ?_ | refine q_label rfl ?_ | refine q_drawW rfl rfl rfl rfl ?_ | (refine q_drawW_nil rfl fun Q' hQ => ?_; simp [*]; (refine hQ.out _ ?_; clear hQ; clear Q')) | (refine q_drawW_op rfl rfl fun Q' hQ => ?_; simp [*]; (refine hQ.out _ ?_; clear hQ; clear Q')) | (refine q_drawW_guard rfl rfl fun Q1 Q2 h1 h2 => ?_; simp [*, twoB_some, twoV_some, ltFI, leFI, ltFN, leFN, grdF, yieldF, getA, opE, rdV, scE, constE]; (try (repeat' (first | refine And.intro ?_ ?_ | intro _))); all_goals (first | (exfalso; omega) | ((first | (exfalso; omega) | (refine h1.out ?_; clear h1 h2; clear Q1 Q2) | (refine h2.out ?_; clear h1 h2; clear Q1 Q2)); intro Q' hQ; simp [*]; (refine hQ.out _ ?_; clear hQ; clear Q')))) | refine q_regionW rfl rfl rfl ?_ | (refine regP_nil (by decide) ?_) | (refine regP_op rfl rfl fun Q' hQ => ?_; simp [*]; (refine hQ.out _ ?_; clear hQ; clear Q')) | (refine regP_guard rfl rfl fun Q1 Q2 h1 h2 => ?_; simp [*, twoB_some, twoV_some, ltFI, leFI, ltFN, leFN, grdF, yieldF, getA, opE, rdV, scE, constE]; (try (repeat' (first | refine And.intro ?_ ?_ | intro _))); all_goals (first | (exfalso; omega) | ((first | (exfalso; omega) | (refine h1.out ?_; clear h1 h2; clear Q1 Q2) | (refine h2.out ?_; clear h1 h2; clear Q1 Q2)); intro Q' hQ; simp [*]; (refine hQ.out _ ?_; clear hQ; clear Q')))))
      all_goals simp [*]
    · by_cases h2 : 6 < n
      · clear h0
        repeat' (first | refine thenC_n ?_ | refine thenC_x ?_ | refine thenC_r ?_ | refine blockC_n ?_ | refine blockC_hit2 rfl ?_ | refine blockC_miss rfl ?_ | refine blockC_r ?_ | refine loopC_x ?_ | refine loopC_r ?_ | refine rangeC_x ?_ | refine rangeC_r ?_ | refine q_seq rfl ?_ | refine q_block rfl ?_ | (refine q_frz rfl rfl (by simp [*]; rfl) ?_) | (refine q_region rfl rfl rfl fun Q' hQ => ?_; simp [*]; (refine hQ.out _ ?_; clear hQ; clear Q')) | (refine q_if rfl fun Q1 Q2 h1 h2 => ?_; simp [*, twoB_some, twoV_some, ltFI, leFI, ltFN, leFN, guardF, yieldF, getA, opE, rdV, scE, constE]; (try (repeat' (first | refine And.intro ?_ ?_ | intro _))); all_goals (first | (exfalso; omega) | (refine h1.out ?_; clear h1 h2; clear Q1 Q2) | (refine h2.out ?_; clear h1 h2; clear Q1 Q2))) | refine q_exit rfl ?_ | refine q_ret rfl ?_ | refine q_skip rfl ?_ | refine q_label rfl ?_ | refine q_drawW rfl rfl rfl rfl ?_ | (refine q_drawW_nil rfl fun Q' hQ => ?_; simp [*]; (refine hQ.out _ ?_; clear hQ; clear Q')) | (refine q_drawW_op rfl rfl fun Q' hQ => ?_; simp [*]; (refine hQ.out _ ?_; clear hQ; clear Q')) | (refine q_drawW_guard rfl rfl fun Q1 Q2 h1 h2 => ?_; simp [*, twoB_some, twoV_some, ltFI, leFI, ltFN, leFN, grdF, yieldF, getA, opE, rdV, scE, constE]; (try (repeat' (first | refine And.intro ?_ ?_ | intro _))); all_goals (first | (exfalso; omega) | ((first | (exfalso; omega) | (refine h1.out ?_; clear h1 h2; clear Q1 Q2) | (refine h2.out ?_; clear h1 h2; clear Q1 Q2)); intro Q' hQ; simp [*]; (refine hQ.out _ ?_; clear hQ; clear Q')))) | refine q_regionW rfl rfl rfl ?_ | (refine regP_nil (by decide) ?_) | (refine regP_op rfl rfl fun Q' hQ => ?_; simp [*]; (refine hQ.out _ ?_; clear hQ; clear Q')) | (refine regP_guard rfl rfl fun Q1 Q2 h1 h2 => ?_; simp [*, twoB_some, twoV_some, ltFI, leFI, ltFN, leFN, grdF, yieldF, getA, opE, rdV, scE, constE]; (try (repeat' (first | refine And.intro ?_ ?_ | intro _))); all_goals (first | (exfalso; omega) | ((first | (exfalso; omega) | (refine h1.out ?_; clear h1 h2; clear Q1 Q2) | (refine h2.out ?_; clear h1 h2; clear Q1 Q2)); intro Q' hQ; simp [*]; (refine hQ.out _ ?_; clear hQ; clear Q')))))
        all_goals simp [*]
      · have h3 : 2048 < s.size := by omega
        clear h0
        repeat' (first | refine thenC_n ?_ | refine thenC_x ?_ | refine thenC_r ?_ | refine blockC_n ?_ | refine blockC_hit2 rfl ?_ | refine blockC_miss rfl ?_ | refine blockC_r ?_ | refine loopC_x ?_ | refine loopC_r ?_ | refine rangeC_x ?_ | refine rangeC_r ?_ | refine q_seq rfl ?_ | refine q_block rfl ?_ | (refine q_frz rfl rfl (by simp [*]; rfl) ?_) | (refine q_region rfl rfl rfl fun Q' hQ => ?_; simp [*]; (refine hQ.out _ ?_; clear hQ; clear Q')) | (refine q_if rfl fun Q1 Q2 h1 h2 => ?_; simp [*, twoB_some, twoV_some, ltFI, leFI, ltFN, leFN, guardF, yieldF, getA, opE, rdV, scE, constE]; (try (repeat' (first | refine And.intro ?_ ?_ | intro _))); all_goals (first | (exfalso; omega) | (refine h1.out ?_; clear h1 h2; clear Q1 Q2) | (refine h2.out ?_; clear h1 h2; clear Q1 Q2))) | refine q_exit rfl ?_ | refine q_ret rfl ?_ | refine q_skip rfl ?_ | refine q_label rfl ?_ | refine q_drawW rfl rfl rfl rfl ?_ | (refine q_drawW_nil rfl fun Q' hQ => ?_; simp [*]; (refine hQ.out _ ?_; clear hQ; clear Q')) | (refine q_drawW_op rfl rfl fun Q' hQ => ?_; simp [*]; (refine hQ.out _ ?_; clear hQ; clear Q')) | (refine q_drawW_guard rfl rfl fun Q1 Q2 h1 h2 => ?_; simp [*, twoB_some, twoV_some, ltFI, leFI, ltFN, leFN, grdF, yieldF, getA, opE, rdV, scE, constE]; (try (repeat' (first | refine And.intro ?_ ?_ | intro _))); all_goals (first | (exfalso; omega) | ((first | (exfalso; omega) | (refine h1.out ?_; clear h1 h2; clear Q1 Q2) | (refine h2.out ?_; clear h1 h2; clear Q1 Q2)); intro Q' hQ; simp [*]; (refine hQ.out _ ?_; clear hQ; clear Q')))) | refine q_regionW rfl rfl rfl ?_ | (refine regP_nil (by decide) ?_) | (refine regP_op rfl rfl fun Q' hQ => ?_; simp [*]; (refine hQ.out _ ?_; clear hQ; clear Q')) | (refine regP_guard rfl rfl fun Q1 Q2 h1 h2 => ?_; simp [*, twoB_some, twoV_some, ltFI, leFI, ltFN, leFN, grdF, yieldF, getA, opE, rdV, scE, constE]; (try (repeat' (first | refine And.intro ?_ ?_ | intro _))); all_goals (first | (exfalso; omega) | ((first | (exfalso; omega) | (refine h1.out ?_; clear h1 h2; clear Q1 Q2) | (refine h2.out ?_; clear h1 h2; clear Q1 Q2)); intro Q' hQ; simp [*]; (refine hQ.out _ ?_; clear hQ; clear Q')))))
        all_goals simp [*]
  have H0 := Hid.mk h0
  obtain ⟨h1, h2, h3⟩ := h0
  have h1a : ¬ n < 1 := by omega
  have h2a : ¬ 6 < n := by omega
  have h3a : ¬ 2048 < s.size := by omega
  repeat' (first | refine thenC_n ?_ | refine thenC_x ?_ | refine thenC_r ?_ | refine blockC_n ?_ | refine blockC_hit2 rfl ?_ | refine blockC_miss rfl ?_ | refine blockC_r ?_ | refine loopC_x ?_ | refine loopC_r ?_ | refine rangeC_x ?_ | refine rangeC_r ?_ | refine q_seq rfl ?_ | refine q_block rfl ?_ | (refine q_frz rfl rfl (by simp [*]; rfl) ?_) | (refine q_region rfl rfl rfl fun Q' hQ => ?_; simp [*]; (refine hQ.out _ ?_; clear hQ; clear Q')) | (refine q_if rfl fun Q1 Q2 h1 h2 => ?_; simp [*, twoB_some, twoV_some, ltFI, leFI, ltFN, leFN, guardF, yieldF, getA, opE, rdV, scE, constE]; (try (repeat' (first | refine And.intro ?_ ?_ | intro _))); all_goals (first | (exfalso; omega) | (refine h1.out ?_; clear h1 h2; clear Q1 Q2) | (refine h2.out ?_; clear h1 h2; clear Q1 Q2))) | refine q_exit rfl ?_ | refine q_ret rfl ?_ | refine q_skip rfl ?_ | refine q_label rfl ?_ | refine q_drawW rfl rfl rfl rfl ?_ | (refine q_drawW_nil rfl fun Q' hQ => ?_; simp [*]; (refine hQ.out _ ?_; clear hQ; clear Q')) | (refine q_drawW_op rfl rfl fun Q' hQ => ?_; simp [*]; (refine hQ.out _ ?_; clear hQ; clear Q')) | (refine q_drawW_guard rfl rfl fun Q1 Q2 h1 h2 => ?_; simp [*, twoB_some, twoV_some, ltFI, leFI, ltFN, leFN, grdF, yieldF, getA, opE, rdV, scE, constE]; (try (repeat' (first | refine And.intro ?_ ?_ | intro _))); all_goals (first | (exfalso; omega) | ((first | (exfalso; omega) | (refine h1.out ?_; clear h1 h2; clear Q1 Q2) | (refine h2.out ?_; clear h1 h2; clear Q1 Q2)); intro Q' hQ; simp [*]; (refine hQ.out _ ?_; clear hQ; clear Q')))) | refine q_regionW rfl rfl rfl ?_ | (refine regP_nil (by decide) ?_) | (refine regP_op rfl rfl fun Q' hQ => ?_; simp [*]; (refine hQ.out _ ?_; clear hQ; clear Q')) | (refine regP_guard rfl rfl fun Q1 Q2 h1 h2 => ?_; simp [*, twoB_some, twoV_some, ltFI, leFI, ltFN, leFN, grdF, yieldF, getA, opE, rdV, scE, constE]; (try (repeat' (first | refine And.intro ?_ ?_ | intro _))); all_goals (first | (exfalso; omega) | ((first | (exfalso; omega) | (refine h1.out ?_; clear h1 h2; clear Q1 Q2) | (refine h2.out ?_; clear h1 h2; clear Q1 Q2)); intro Q' hQ; simp [*]; (refine hQ.out _ ?_; clear hQ; clear Q')))))
  clear h1a h2a h3a
  refine q_range rfl rfl (fun k => ∀ i, i < k → ∀ hi : i < s.size, letB n s[i] = true) (H32 s n) s.size (by simp only [LFm]; omega) (fun i hi => by omega) ?_ fun k hk hI => ?_
  · simp [*, H32]
  · have hw : IntKind.i64.wrap ((k : Int) + 1) = k + 1 := wrap_in (by omega) (by omega)
    have HI := Hid.mk hI
    clear hI
    simp only [H32]
    by_cases hlt : k < s.size
    case neg =>
      rw [wordB_ok H0.out (fun i hi => HI.out i (by omega) hi)]
      repeat' (first | refine thenC_n ?_ | refine thenC_x ?_ | refine thenC_r ?_ | refine blockC_n ?_ | refine blockC_hit2 rfl ?_ | refine blockC_miss rfl ?_ | refine blockC_r ?_ | refine loopC_x ?_ | refine loopC_r ?_ | refine rangeC_x ?_ | refine rangeC_r ?_ | refine q_seq rfl ?_ | refine q_block rfl ?_ | (refine q_frz rfl rfl (by simp [*]; rfl) ?_) | (refine q_region rfl rfl rfl fun Q' hQ => ?_; simp [*]; (refine hQ.out _ ?_; clear hQ; clear Q')) | (refine q_if rfl fun Q1 Q2 h1 h2 => ?_; simp [*, twoB_some, twoV_some, ltFI, leFI, ltFN, leFN, guardF, yieldF, getA, opE, rdV, scE, constE]; (try (repeat' (first | refine And.intro ?_ ?_ | intro _))); all_goals (first | (exfalso; omega) | (refine h1.out ?_; clear h1 h2; clear Q1 Q2) | (refine h2.out ?_; clear h1 h2; clear Q1 Q2))) | refine q_exit rfl ?_ | refine q_ret rfl ?_ | refine q_skip rfl ?_ | refine q_label rfl ?_ | refine q_drawW rfl rfl rfl rfl ?_ | (refine q_drawW_nil rfl fun Q' hQ => ?_; simp [*]; (refine hQ.out _ ?_; clear hQ; clear Q')) | (refine q_drawW_op rfl rfl fun Q' hQ => ?_; simp [*]; (refine hQ.out _ ?_; clear hQ; clear Q')) | (refine q_drawW_guard rfl rfl fun Q1 Q2 h1 h2 => ?_; simp [*, twoB_some, twoV_some, ltFI, leFI, ltFN, leFN, grdF, yieldF, getA, opE, rdV, scE, constE]; (try (repeat' (first | refine And.intro ?_ ?_ | intro _))); all_goals (first | (exfalso; omega) | ((first | (exfalso; omega) | (refine h1.out ?_; clear h1 h2; clear Q1 Q2) | (refine h2.out ?_; clear h1 h2; clear Q1 Q2)); intro Q' hQ; simp [*]; (refine hQ.out _ ?_; clear hQ; clear Q')))) | refine q_regionW rfl rfl rfl ?_ | (refine regP_nil (by decide) ?_) | (refine regP_op rfl rfl fun Q' hQ => ?_; simp [*]; (refine hQ.out _ ?_; clear hQ; clear Q')) | (refine regP_guard rfl rfl fun Q1 Q2 h1 h2 => ?_; simp [*, twoB_some, twoV_some, ltFI, leFI, ltFN, leFN, grdF, yieldF, getA, opE, rdV, scE, constE]; (try (repeat' (first | refine And.intro ?_ ?_ | intro _))); all_goals (first | (exfalso; omega) | ((first | (exfalso; omega) | (refine h1.out ?_; clear h1 h2; clear Q1 Q2) | (refine h2.out ?_; clear h1 h2; clear Q1 Q2)); intro Q' hQ; simp [*]; (refine hQ.out _ ?_; clear hQ; clear Q')))))
      all_goals simp [*]
    have hb := wordB_bad (n := n) k hlt
    have hb2 := s[k].toNat_lt
    by_cases h97 : 97 ≤ s[k].toNat
    case neg =>
      rw [hb (by simp [letB, h97])]
      clear hb
      have h97' : ((s[k].toNat : Int)) < 97 := by omega
      repeat' (first | refine thenC_n ?_ | refine thenC_x ?_ | refine thenC_r ?_ | refine blockC_n ?_ | refine blockC_hit2 rfl ?_ | refine blockC_miss rfl ?_ | refine blockC_r ?_ | refine loopC_x ?_ | refine loopC_r ?_ | refine rangeC_x ?_ | refine rangeC_r ?_ | refine q_seq rfl ?_ | refine q_block rfl ?_ | (refine q_frz rfl rfl (by simp [*]; rfl) ?_) | (refine q_region rfl rfl rfl fun Q' hQ => ?_; simp [*]; (refine hQ.out _ ?_; clear hQ; clear Q')) | (refine q_if rfl fun Q1 Q2 h1 h2 => ?_; simp [*, twoB_some, twoV_some, ltFI, leFI, ltFN, leFN, guardF, yieldF, getA, opE, rdV, scE, constE]; (try (repeat' (first | refine And.intro ?_ ?_ | intro _))); all_goals (first | (exfalso; omega) | (refine h1.out ?_; clear h1 h2; clear Q1 Q2) | (refine h2.out ?_; clear h1 h2; clear Q1 Q2))) | refine q_exit rfl ?_ | refine q_ret rfl ?_ | refine q_skip rfl ?_ | refine q_label rfl ?_ | refine q_drawW rfl rfl rfl rfl ?_ | (refine q_drawW_nil rfl fun Q' hQ => ?_; simp [*]; (refine hQ.out _ ?_; clear hQ; clear Q')) | (refine q_drawW_op rfl rfl fun Q' hQ => ?_; simp [*]; (refine hQ.out _ ?_; clear hQ; clear Q')) | (refine q_drawW_guard rfl rfl fun Q1 Q2 h1 h2 => ?_; simp [*, twoB_some, twoV_some, ltFI, leFI, ltFN, leFN, grdF, yieldF, getA, opE, rdV, scE, constE]; (try (repeat' (first | refine And.intro ?_ ?_ | intro _))); all_goals (first | (exfalso; omega) | ((first | (exfalso; omega) | (refine h1.out ?_; clear h1 h2; clear Q1 Q2) | (refine h2.out ?_; clear h1 h2; clear Q1 Q2)); intro Q' hQ; simp [*]; (refine hQ.out _ ?_; clear hQ; clear Q')))) | refine q_regionW rfl rfl rfl ?_ | (refine regP_nil (by decide) ?_) | (refine regP_op rfl rfl fun Q' hQ => ?_; simp [*]; (refine hQ.out _ ?_; clear hQ; clear Q')) | (refine regP_guard rfl rfl fun Q1 Q2 h1 h2 => ?_; simp [*, twoB_some, twoV_some, ltFI, leFI, ltFN, leFN, grdF, yieldF, getA, opE, rdV, scE, constE]; (try (repeat' (first | refine And.intro ?_ ?_ | intro _))); all_goals (first | (exfalso; omega) | ((first | (exfalso; omega) | (refine h1.out ?_; clear h1 h2; clear Q1 Q2) | (refine h2.out ?_; clear h1 h2; clear Q1 Q2)); intro Q' hQ; simp [*]; (refine hQ.out _ ?_; clear hQ; clear Q')))))
      all_goals simp [*]
    have h97' : ¬ ((s[k].toNat : Int)) < 97 := by omega
    have hw1 : IntKind.u8.wrap ((s[k].toNat : Int) - 97) = (s[k].toNat : Int) - 97 := by rw [IntKind.wrap_u8]; omega
    have hw2 : IntKind.i64.wrap ((s[k].toNat : Int) - 97) = (s[k].toNat : Int) - 97 := wrap_in (by omega) (by omega)
    by_cases hln : (s[k].toNat : Int) - 97 < n
    case neg =>
      rw [hb (by simp [letB, hln])]
      clear hb
      have hln' : n ≤ (s[k].toNat : Int) - 97 := by omega
      repeat' (first | refine thenC_n ?_ | refine thenC_x ?_ | refine thenC_r ?_ | refine blockC_n ?_ | refine blockC_hit2 rfl ?_ | refine blockC_miss rfl ?_ | refine blockC_r ?_ | refine loopC_x ?_ | refine loopC_r ?_ | refine rangeC_x ?_ | refine rangeC_r ?_ | refine q_seq rfl ?_ | refine q_block rfl ?_ | (refine q_frz rfl rfl (by simp [*]; rfl) ?_) | (refine q_region rfl rfl rfl fun Q' hQ => ?_; simp [*]; (refine hQ.out _ ?_; clear hQ; clear Q')) | (refine q_if rfl fun Q1 Q2 h1 h2 => ?_; simp [*, twoB_some, twoV_some, ltFI, leFI, ltFN, leFN, guardF, yieldF, getA, opE, rdV, scE, constE]; (try (repeat' (first | refine And.intro ?_ ?_ | intro _))); all_goals (first | (exfalso; omega) | (refine h1.out ?_; clear h1 h2; clear Q1 Q2) | (refine h2.out ?_; clear h1 h2; clear Q1 Q2))) | refine q_exit rfl ?_ | refine q_ret rfl ?_ | refine q_skip rfl ?_ | refine q_label rfl ?_ | refine q_drawW rfl rfl rfl rfl ?_ | (refine q_drawW_nil rfl fun Q' hQ => ?_; simp [*]; (refine hQ.out _ ?_; clear hQ; clear Q')) | (refine q_drawW_op rfl rfl fun Q' hQ => ?_; simp [*]; (refine hQ.out _ ?_; clear hQ; clear Q')) | (refine q_drawW_guard rfl rfl fun Q1 Q2 h1 h2 => ?_; simp [*, twoB_some, twoV_some, ltFI, leFI, ltFN, leFN, grdF, yieldF, getA, opE, rdV, scE, constE]; (try (repeat' (first | refine And.intro ?_ ?_ | intro _))); all_goals (first | (exfalso; omega) | ((first | (exfalso; omega) | (refine h1.out ?_; clear h1 h2; clear Q1 Q2) | (refine h2.out ?_; clear h1 h2; clear Q1 Q2)); intro Q' hQ; simp [*]; (refine hQ.out _ ?_; clear hQ; clear Q')))) | refine q_regionW rfl rfl rfl ?_ | (refine regP_nil (by decide) ?_) | (refine regP_op rfl rfl fun Q' hQ => ?_; simp [*]; (refine hQ.out _ ?_; clear hQ; clear Q')) | (refine regP_guard rfl rfl fun Q1 Q2 h1 h2 => ?_; simp [*, twoB_some, twoV_some, ltFI, leFI, ltFN, leFN, grdF, yieldF, getA, opE, rdV, scE, constE]; (try (repeat' (first | refine And.intro ?_ ?_ | intro _))); all_goals (first | (exfalso; omega) | ((first | (exfalso; omega) | (refine h1.out ?_; clear h1 h2; clear Q1 Q2) | (refine h2.out ?_; clear h1 h2; clear Q1 Q2)); intro Q' hQ; simp [*]; (refine hQ.out _ ?_; clear hQ; clear Q')))))
      all_goals simp [*]
    clear hb
    repeat' (first | refine thenC_n ?_ | refine thenC_x ?_ | refine thenC_r ?_ | refine blockC_n ?_ | refine blockC_hit2 rfl ?_ | refine blockC_miss rfl ?_ | refine blockC_r ?_ | refine loopC_x ?_ | refine loopC_r ?_ | refine rangeC_x ?_ | refine rangeC_r ?_ | refine q_seq rfl ?_ | refine q_block rfl ?_ | (refine q_frz rfl rfl (by simp [*]; rfl) ?_) | (refine q_region rfl rfl rfl fun Q' hQ => ?_; simp [*]; (refine hQ.out _ ?_; clear hQ; clear Q')) | (refine q_if rfl fun Q1 Q2 h1 h2 => ?_; simp [*, twoB_some, twoV_some, ltFI, leFI, ltFN, leFN, guardF, yieldF, getA, opE, rdV, scE, constE]; (try (repeat' (first | refine And.intro ?_ ?_ | intro _))); all_goals (first | (exfalso; omega) | (refine h1.out ?_; clear h1 h2; clear Q1 Q2) | (refine h2.out ?_; clear h1 h2; clear Q1 Q2))) | refine q_exit rfl ?_ | refine q_ret rfl ?_ | refine q_skip rfl ?_ | refine q_label rfl ?_ | refine q_drawW rfl rfl rfl rfl ?_ | (refine q_drawW_nil rfl fun Q' hQ => ?_; simp [*]; (refine hQ.out _ ?_; clear hQ; clear Q')) | (refine q_drawW_op rfl rfl fun Q' hQ => ?_; simp [*]; (refine hQ.out _ ?_; clear hQ; clear Q')) | (refine q_drawW_guard rfl rfl fun Q1 Q2 h1 h2 => ?_; simp [*, twoB_some, twoV_some, ltFI, leFI, ltFN, leFN, grdF, yieldF, getA, opE, rdV, scE, constE]; (try (repeat' (first | refine And.intro ?_ ?_ | intro _))); all_goals (first | (exfalso; omega) | ((first | (exfalso; omega) | (refine h1.out ?_; clear h1 h2; clear Q1 Q2) | (refine h2.out ?_; clear h1 h2; clear Q1 Q2)); intro Q' hQ; simp [*]; (refine hQ.out _ ?_; clear hQ; clear Q')))) | refine q_regionW rfl rfl rfl ?_ | (refine regP_nil (by decide) ?_) | (refine regP_op rfl rfl fun Q' hQ => ?_; simp [*]; (refine hQ.out _ ?_; clear hQ; clear Q')) | (refine regP_guard rfl rfl fun Q1 Q2 h1 h2 => ?_; simp [*, twoB_some, twoV_some, ltFI, leFI, ltFN, leFN, grdF, yieldF, getA, opE, rdV, scE, constE]; (try (repeat' (first | refine And.intro ?_ ?_ | intro _))); all_goals (first | (exfalso; omega) | ((first | (exfalso; omega) | (refine h1.out ?_; clear h1 h2; clear Q1 Q2) | (refine h2.out ?_; clear h1 h2; clear Q1 Q2)); intro Q' hQ; simp [*]; (refine hQ.out _ ?_; clear hQ; clear Q')))))
    refine rangeC_n hlt (fun i hi hi2 => ?_) ?_
    · by_cases e : i = k
      · subst e; simp [letB, h97, hln]
      · exact HI.out i (by omega) hi2
    · simp [*, H32]
end Go.Proofs.YthalofddjlhcjaaDoor
end
section
/- What a step of a cascade is. No program. -/
namespace Go.Proofs.YthalofddjlhcjaaDoor
set_option linter.unusedVariables false
set_option linter.unusedSimpArgs false

/-- The number of the row of a prefix. -/
def rowIx (c : Casc) (p : List Int) : Option Nat := c.rows.findIdx? fun r => decide (r.pre = p)
/-- The coordinate behind a letter. -/
def stVal (c : Casc) (x : List Int) (l : Nat) (i : Nat) : Int := match rowIx c (x.take i) with
  | some k => ((c.rows.getD k ⟨[], []⟩).maps.getD l []).getD (x.getD i 0).toNat 0
  | none => 0
def stV (c : Casc) (x : List Int) (l : Nat) : List Int := (List.range x.length).map (stVal c x l)
def stOk (c : Casc) (x : List Int) : Bool := (List.range x.length).all fun i => hasB c.rows (x.take i)
/-- The tuple behind a letter, or an error. -/
def stepG (c : Casc) (x : List Int) (l : Int) : List Int × Int :=
  if tupB c.sizes x = true ∧ 0 ≤ l ∧ l < c.letters then (if stOk c x = true then (stV c x l.toNat, 0) else ([], 23)) else ([], 1)

theorem rowIx_has {c : Casc} (hu : UpR c.rows) {p : List Int} (h : hasB c.rows p = true) : rowIx c p = some (lowB c.rows p) := by
  obtain ⟨hl, e⟩ := low_row hu h
  unfold rowIx
  rw [List.findIdx?_eq_some_iff_getElem]
  refine ⟨hl, by simpa using e, fun j hj => ?_⟩
  intro hh
  have e2 : c.rows[j].pre = p := by simpa using hh
  have := hu j _ (by omega) hl hj
  rw [e, e2, (cmpR_zero p p).2 rfl] at this
  omega
theorem rowIx_none {c : Casc} {p : List Int} (h : hasB c.rows p = false) : rowIx c p = none := by
  unfold rowIx
  rw [List.findIdx?_eq_none_iff]
  intro r hr
  rw [← Bool.not_eq_true]
  intro e
  rw [← Bool.not_eq_true] at h
  apply h
  unfold hasB
  rw [List.any_eq_true]
  exact ⟨r, hr, e⟩
theorem stV_length (c : Casc) (x : List Int) (l : Nat) : (stV c x l).length = x.length := by simp [stV]
theorem stV_get (c : Casc) (x : List Int) (l i : Nat) (h : i < x.length) : (stV c x l)[i]? = some (stVal c x l i) := by
  simp [stV, h]

/-- The cell that a step reads. -/
theorem step_cell {c : Casc} (hv : Valid c) {x : List Int} (hx : tupB c.sizes x = true) {l k : Nat} (hl : (l : Int) < c.letters) (hk : k < x.length) (hh : hasB c.rows (x.take k) = true) :
    ∃ (low s : Nat) (h1 : low < c.rows.length) (h2 : l < c.rows[low].maps.length) (h3 : s < c.rows[low].maps[l].length), lowB c.rows (x.take k) = low ∧ x[k] = s ∧ stVal c x l k = c.rows[low].maps[l][s] := by
  obtain ⟨h1, e1⟩ := low_row hv.up hh
  obtain ⟨f1, f2, f3, f4⟩ := rowB_facts (hv.row _ h1)
  have h2 : l < c.rows[lowB c.rows (x.take k)].maps.length := by omega
  have hlen : x.length = c.sizes.length ∧ inB c.sizes x = true := by simpa [tupB] using hx
  have hxk := (inB_iff c.sizes x (by omega)).1 hlen.2 k hk
  rw [getD_of_lt 0 hk] at hxk
  obtain ⟨g1, -⟩ := f4 l h2
  rw [getD_of_lt _ h2, e1] at g1
  have hpl : (x.take k).length = k := by simp; omega
  rw [hpl] at g1
  obtain ⟨s, hs⟩ := Int.eq_ofNat_of_zero_le hxk.1
  have h3 : s < c.rows[lowB c.rows (x.take k)].maps[l].length := by omega
  refine ⟨_, s, h1, h2, h3, rfl, hs, ?_⟩
  unfold stVal
  rw [rowIx_has hv.up hh]
  simp only
  rw [getD_of_lt _ h1, getD_of_lt _ h2, getD_of_lt 0 hk, hs]
  simp only [Int.toNat_natCast]
  rw [getD_of_lt _ h3]
end Go.Proofs.YthalofddjlhcjaaDoor
end
section
/- A letter's step of a cascade: program. -/
namespace Go.Proofs.YthalofddjlhcjaaDoor
open Go
set_option maxRecDepth 100000
set_option maxHeartbeats 4000000
set_option linter.unusedVariables false
set_option linter.unusedSimpArgs false

/-- The tuple as far as it is made. -/
def yk (c : Casc) (x : List Int) (l k : Nat) : List Int := (stV c x l).take k ++ List.replicate (x.length - k) 0
theorem yk_length (c : Casc) (x : List Int) (l k : Nat) (h : k ≤ x.length) : (yk c x l k).length = x.length := by
  simp [yk, stV_length]; omega
theorem yk_zero (c : Casc) (x : List Int) (l : Nat) : (yk c x l 0).map (fun x => T.sc (.int .i64 x)) = List.replicate x.length (iT 0) := by
  simp [yk]
theorem yk_all (c : Casc) (x : List Int) (l : Nat) : yk c x l x.length = stV c x l := by
  simp [yk, List.take_of_length_le (Nat.le_of_eq (stV_length c x l))]
theorem yk_set (c : Casc) (x : List Int) (l k : Nat) (h : k < x.length) : ((yk c x l k).map (fun x => T.sc (.int .i64 x))).set k (.sc (.int .i64 (stVal c x l k))) = (yk c x l (k + 1)).map (fun x => T.sc (.int .i64 x)) := by
  have hv : (stV c x l)[k]? = some (stVal c x l k) := stV_get c x l k h
  have hl := stV_length c x l
  rw [← List.map_set (f := fun x => T.sc (.int .i64 x))]
  congr 1
  unfold yk
  rw [List.set_append_right _ _ (by simp; omega)]
  have e : k - (List.take k (stV c x l)).length = 0 := by simp; omega
  rw [e, List.take_add_one, hv]
  obtain ⟨m, hm⟩ : ∃ m, x.length - k = m + 1 := ⟨x.length - k - 1, by omega⟩
  rw [hm, show x.length - (k + 1) = m by omega]
  simp [List.replicate_succ]

def H34 (c : Casc) (x : List Int) (l : Nat) (k : Nat) : Fr := ⟨70, [(1, rE (ints x)), (2, rE (iT l)), (3, aE 3), (8, hE 8), (33, rE (ints x)), (34, rE (iT x.length)), (35, rE (iT k))], [(3, .vr [iT c.letters, ints c.sizes, rowsT c.rows]), (8, .os 1 x.length ((yk c x l k).map fun x => .sc (.int .i64 x)))]⟩

theorem c34 (c : Casc) (x : List Int) (l : Int) (hc : CB c) (hv : Valid c) (hx : x.length < 2^62) (hl : In64 l) : L 34 [cascT c, ints x, iT l] = some (.tup [ointsT (stepG c x l).1, iT (stepG c x l).2], [.dead, .dead, .dead]) := by
  have h31 := c31 c.sizes x hx hc.sz
  refine L_run cfn34 fn34 (runF_of bd34 ⟨of_decide_eq_true rfl, of_decide_eq_true rfl⟩ ?_)
  simp only [entryF, entryT, entryO, entryE, isIo]
  by_cases h1 : tupB c.sizes x = true ∧ 0 ≤ l ∧ l < c.letters
  case neg => as_aux_lemma =>
    have e : stepG c x l = ([], 1) := by unfold stepG; rw [if_neg h1]
    rw [e]
    clear e hv
    cases ht : tupB c.sizes x with
    | false =>
      rw [ht] at h31
      repeat' (first | refine thenC_n ?_ | refine thenC_x ?_ | refine thenC_r ?_ | refine blockC_n ?_ | refine blockC_hit2 rfl ?_ | refine blockC_miss rfl ?_ | refine blockC_r ?_ | refine loopC_x ?_ | refine loopC_r ?_ | refine rangeC_x ?_ | refine rangeC_r ?_ | refine q_seq rfl ?_ | refine q_block rfl ?_ | (refine q_frz rfl rfl (by simp [*]; rfl) ?_) | (refine q_region rfl rfl rfl fun Q' hQ => ?_; simp [*]; (refine hQ.out _ ?_; clear hQ; clear Q')) | (refine q_if rfl fun Q1 Q2 h1 h2 => ?_; simp [*, twoB_some, twoV_some, ltFI, leFI, ltFN, leFN, guardF, yieldF, getA, opE, rdV, scE, constE]; (try (repeat' (first | refine And.intro ?_ ?_ | intro _))); all_goals (first | (exfalso; omega) | (refine h1.out ?_; clear h1 h2; clear Q1 Q2) | (refine h2.out ?_; clear h1 h2; clear Q1 Q2))) | refine q_exit rfl ?_ | refine q_ret rfl ?_ | refine q_skip rfl ?_ | refine q_label rfl ?_ | refine q_drawW rfl rfl rfl rfl ?_ | (refine q_drawW_nil rfl fun Q' hQ => ?_; simp [*]; (refine hQ.out _ ?_; clear hQ; clear Q')) | (refine q_drawW_op rfl rfl fun Q' hQ => ?_; simp [*]; (refine hQ.out _ ?_; clear hQ; clear Q')) | (refine q_drawW_guard rfl rfl fun Q1 Q2 h1 h2 => ?_; simp [*, twoB_some, twoV_some, ltFI, leFI, ltFN, leFN, grdF, yieldF, getA, opE, rdV, scE, constE]; (try (repeat' (first | refine And.intro ?_ ?_ | intro _))); all_goals (first | (exfalso; omega) | ((first | (exfalso; omega) | (refine h1.out ?_; clear h1 h2; clear Q1 Q2) | (refine h2.out ?_; clear h1 h2; clear Q1 Q2)); intro Q' hQ; simp [*]; (refine hQ.out _ ?_; clear hQ; clear Q')))) | refine q_regionW rfl rfl rfl ?_ | (refine regP_nil (by decide) ?_) | (refine regP_op rfl rfl fun Q' hQ => ?_; simp [*]; (refine hQ.out _ ?_; clear hQ; clear Q')) | (refine regP_guard rfl rfl fun Q1 Q2 h1 h2 => ?_; simp [*, twoB_some, twoV_some, ltFI, leFI, ltFN, leFN, grdF, yieldF, getA, opE, rdV, scE, constE]; (try (repeat' (first | refine And.intro ?_ ?_ | intro _))); all_goals (first | (exfalso; omega) | ((first | (exfalso; omega) | (refine h1.out ?_; clear h1 h2; clear Q1 Q2) | (refine h2.out ?_; clear h1 h2; clear Q1 Q2)); intro Q' hQ; simp [*]; (refine hQ.out _ ?_; clear hQ; clear Q')))))
      all_goals simp [*]
    | true =>
      rw [ht] at h31
      by_cases h2 : l < 0
      · clear h1
        repeat' (first | refine thenC_n ?_ | refine thenC_x ?_ | refine thenC_r ?_ | refine blockC_n ?_ | refine blockC_hit2 rfl ?_ | refine blockC_miss rfl ?_ | refine blockC_r ?_ | refine loopC_x ?_ | refine loopC_r ?_ | refine rangeC_x ?_ | refine rangeC_r ?_ | refine q_seq rfl ?_ | refine q_block rfl ?_ | (refine q_frz rfl rfl (by simp [*]; rfl) ?_) | (refine q_region rfl rfl rfl fun Q' hQ => ?_; simp [*]; (refine hQ.out _ ?_; clear hQ; clear Q')) | (refine q_if rfl fun Q1 Q2 h1 h2 => ?_; simp [*, twoB_some, twoV_some, ltFI, leFI, ltFN, leFN, guardF, yieldF, getA, opE, rdV, scE, constE]; (try (repeat' (first | refine And.intro ?_ ?_ | intro _))); all_goals (first | (exfalso; omega) | (refine h1.out ?_; clear h1 h2; clear Q1 Q2) | (refine h2.out ?_; clear h1 h2; clear Q1 Q2))) | refine q_exit rfl ?_ | refine q_ret rfl ?_ | refine q_skip rfl ?_ | refine q_label rfl ?_ | refine q_drawW rfl rfl rfl rfl ?_ | (refine q_drawW_nil rfl fun Q' hQ => ?_; simp [*]; (refine hQ.out _ ?_; clear hQ; clear Q')) | (refine q_drawW_op rfl rfl fun Q' hQ => ?_; simp [*]; (refine hQ.out _ ?_; clear hQ; clear Q')) | (refine q_drawW_guard rfl rfl fun Q1 Q2 h1 h2 => ?_; simp [*, twoB_some, twoV_some, ltFI, leFI, ltFN, leFN, grdF, yieldF, getA, opE, rdV, scE, constE]; (try (repeat' (first | refine And.intro ?_ ?_ | intro _))); all_goals (first | (exfalso; omega) | ((first | (exfalso; omega) | (refine h1.out ?_; clear h1 h2; clear Q1 Q2) | (refine h2.out ?_; clear h1 h2; clear Q1 Q2)); intro Q' hQ; simp [*]; (refine hQ.out _ ?_; clear hQ; clear Q')))) | refine q_regionW rfl rfl rfl ?_ | (refine regP_nil (by decide) ?_) | (refine regP_op rfl rfl fun Q' hQ => ?_; simp [*]; (refine hQ.out _ ?_; clear hQ; clear Q')) | (refine regP_guard rfl rfl fun Q1 Q2 h1 h2 => ?_; simp [*, twoB_some, twoV_some, ltFI, leFI, ltFN, leFN, grdF, yieldF, getA, opE, rdV, scE, constE]; (try (repeat' (first | refine And.intro ?_ ?_ | intro _))); all_goals (first | (exfalso; omega) | ((first | (exfalso; omega) | (refine h1.out ?_; clear h1 h2; clear Q1 Q2) | (refine h2.out ?_; clear h1 h2; clear Q1 Q2)); intro Q' hQ; simp [*]; (refine hQ.out _ ?_; clear hQ; clear Q')))))
        all_goals simp [*]
      · have h3 : c.letters ≤ l := by
          rcases Int.lt_or_le l c.letters with h | h
          · exact absurd ⟨ht, by omega, h⟩ h1
          · exact h
        clear h1
        repeat' (first | refine thenC_n ?_ | refine thenC_x ?_ | refine thenC_r ?_ | refine blockC_n ?_ | refine blockC_hit2 rfl ?_ | refine blockC_miss rfl ?_ | refine blockC_r ?_ | refine loopC_x ?_ | refine loopC_r ?_ | refine rangeC_x ?_ | refine rangeC_r ?_ | refine q_seq rfl ?_ | refine q_block rfl ?_ | (refine q_frz rfl rfl (by simp [*]; rfl) ?_) | (refine q_region rfl rfl rfl fun Q' hQ => ?_; simp [*]; (refine hQ.out _ ?_; clear hQ; clear Q')) | (refine q_if rfl fun Q1 Q2 h1 h2 => ?_; simp [*, twoB_some, twoV_some, ltFI, leFI, ltFN, leFN, guardF, yieldF, getA, opE, rdV, scE, constE]; (try (repeat' (first | refine And.intro ?_ ?_ | intro _))); all_goals (first | (exfalso; omega) | (refine h1.out ?_; clear h1 h2; clear Q1 Q2) | (refine h2.out ?_; clear h1 h2; clear Q1 Q2))) | refine q_exit rfl ?_ | refine q_ret rfl ?_ | refine q_skip rfl ?_ | refine q_label rfl ?_ | refine q_drawW rfl rfl rfl rfl ?_ | (refine q_drawW_nil rfl fun Q' hQ => ?_; simp [*]; (refine hQ.out _ ?_; clear hQ; clear Q')) | (refine q_drawW_op rfl rfl fun Q' hQ => ?_; simp [*]; (refine hQ.out _ ?_; clear hQ; clear Q')) | (refine q_drawW_guard rfl rfl fun Q1 Q2 h1 h2 => ?_; simp [*, twoB_some, twoV_some, ltFI, leFI, ltFN, leFN, grdF, yieldF, getA, opE, rdV, scE, constE]; (try (repeat' (first | refine And.intro ?_ ?_ | intro _))); all_goals (first | (exfalso; omega) | ((first | (exfalso; omega) | (refine h1.out ?_; clear h1 h2; clear Q1 Q2) | (refine h2.out ?_; clear h1 h2; clear Q1 Q2)); intro Q' hQ; simp [*]; (refine hQ.out _ ?_; clear hQ; clear Q')))) | refine q_regionW rfl rfl rfl ?_ | (refine regP_nil (by decide) ?_) | (refine regP_op rfl rfl fun Q' hQ => ?_; simp [*]; (refine hQ.out _ ?_; clear hQ; clear Q')) | (refine regP_guard rfl rfl fun Q1 Q2 h1 h2 => ?_; simp [*, twoB_some, twoV_some, ltFI, leFI, ltFN, leFN, grdF, yieldF, getA, opE, rdV, scE, constE]; (try (repeat' (first | refine And.intro ?_ ?_ | intro _))); all_goals (first | (exfalso; omega) | ((first | (exfalso; omega) | (refine h1.out ?_; clear h1 h2; clear Q1 Q2) | (refine h2.out ?_; clear h1 h2; clear Q1 Q2)); intro Q' hQ; simp [*]; (refine hQ.out _ ?_; clear hQ; clear Q')))))
        all_goals simp [*]
  obtain ⟨h1, h2, h3⟩ := h1
  rw [h1] at h31
  have hxl : x.length = c.sizes.length := by
    have : x.length = c.sizes.length ∧ inB c.sizes x = true := by simpa [tupB] using h1
    exact this.1
  have hs24 : x.length ≤ 24 := by rw [hxl]; exact hv.s1
  clear hxl
  have HG : Hid (stepG c x l = if stOk c x = true then (stV c x l.toNat, 0) else ([], 23)) := ⟨by unfold stepG; rw [if_pos ⟨h1, h2, h3⟩]⟩
  obtain ⟨n, hn⟩ := Int.eq_ofNat_of_zero_le h2
  subst hn
  simp only [Int.toNat_natCast] at HG
  have h2a : ¬ ((n : Int)) < 0 := by omega
  have h3a : ¬ c.letters ≤ n := by omega
  have H1 := Hid.mk h1
  have hb1 : (x.length : Int) ≤ 140737488355328 := by omega
  have hb2 : 8 * (x.length : Int) ≤ 140737488355328 := by omega
  have hy0 := yk_zero c x n
  clear h1 h2
  repeat' (first | refine thenC_n ?_ | refine thenC_x ?_ | refine thenC_r ?_ | refine blockC_n ?_ | refine blockC_hit2 rfl ?_ | refine blockC_miss rfl ?_ | refine blockC_r ?_ | refine loopC_x ?_ | refine loopC_r ?_ | refine rangeC_x ?_ | refine rangeC_r ?_ | refine q_seq rfl ?_ | refine q_block rfl ?_ | (refine q_frz rfl rfl (by simp [*]; rfl) ?_) | (refine q_region rfl rfl rfl fun Q' hQ => ?_; simp [*]; (refine hQ.out _ ?_; clear hQ; clear Q')) | (refine q_if rfl fun Q1 Q2 h1 h2 => ?_; simp [*, twoB_some, twoV_some, ltFI, leFI, ltFN, leFN, guardF, yieldF, getA, opE, rdV, scE, constE]; (try (repeat' (first | refine And.intro ?_ ?_ | intro _))); all_goals (first | (exfalso; omega) | (refine h1.out ?_; clear h1 h2; clear Q1 Q2) | (refine h2.out ?_; clear h1 h2; clear Q1 Q2))) | refine q_exit rfl ?_ | refine q_ret rfl ?_ | refine q_skip rfl ?_ | refine q_label rfl ?_ | refine q_drawW rfl rfl rfl rfl ?_ | (refine q_drawW_nil rfl fun Q' hQ => ?_; simp [*]; (refine hQ.out _ ?_; clear hQ; clear Q')) | (refine q_drawW_op rfl rfl fun Q' hQ => ?_; simp [*]; (refine hQ.out _ ?_; clear hQ; clear Q')) | (refine q_drawW_guard rfl rfl fun Q1 Q2 h1 h2 => ?_; simp [*, twoB_some, twoV_some, ltFI, leFI, ltFN, leFN, grdF, yieldF, getA, opE, rdV, scE, constE]; (try (repeat' (first | refine And.intro ?_ ?_ | intro _))); all_goals (first | (exfalso; omega) | ((first | (exfalso; omega) | (refine h1.out ?_; clear h1 h2; clear Q1 Q2) | (refine h2.out ?_; clear h1 h2; clear Q1 Q2)); intro Q' hQ; simp [*]; (refine hQ.out _ ?_; clear hQ; clear Q')))) | refine q_regionW rfl rfl rfl ?_ | (refine regP_nil (by decide) ?_) | (refine regP_op rfl rfl fun Q' hQ => ?_; simp [*]; (refine hQ.out _ ?_; clear hQ; clear Q')) | (refine regP_guard rfl rfl fun Q1 Q2 h1 h2 => ?_; simp [*, twoB_some, twoV_some, ltFI, leFI, ltFN, leFN, grdF, yieldF, getA, opE, rdV, scE, constE]; (try (repeat' (first | refine And.intro ?_ ?_ | intro _))); all_goals (first | (exfalso; omega) | ((first | (exfalso; omega) | (refine h1.out ?_; clear h1 h2; clear Q1 Q2) | (refine h2.out ?_; clear h1 h2; clear Q1 Q2)); intro Q' hQ; simp [*]; (refine hQ.out _ ?_; clear hQ; clear Q')))))
  clear h2a h3a h31 hb1 hb2
  refine q_range rfl rfl (fun k => ∀ i, i < k → hasB c.rows (x.take i) = true) (H34 c x n) x.length (by simp only [LFm]; omega) (fun i hi => by omega) ?_ fun k hk hI => ?_
  · simp [*, H34]
  · as_aux_lemma =>
    have HI := Hid.mk hI
    have HV := Hid.mk hv
    clear hI hy0 hv
    have hw : IntKind.i64.wrap ((k : Int) + 1) = k + 1 := wrap_in (by omega) (by omega)
    have hyl := yk_length c x n k hk
    simp only [H34]
    by_cases hlt : k < x.length
    case neg =>
      have hok : stOk c x = true := by
        unfold stOk
        rw [List.all_eq_true]
        intro i hi
        exact HI.out i (by have := List.mem_range.1 hi; omega)
      have hkn : k = x.length := by omega
      have he : yk c x n k = stV c x n := by rw [hkn]; exact yk_all c x n
      have hsl := stV_length c x n
      rw [HG.out, if_pos hok]
      clear hkn hok hyl
      repeat' (first | refine thenC_n ?_ | refine thenC_x ?_ | refine thenC_r ?_ | refine blockC_n ?_ | refine blockC_hit2 rfl ?_ | refine blockC_miss rfl ?_ | refine blockC_r ?_ | refine loopC_x ?_ | refine loopC_r ?_ | refine rangeC_x ?_ | refine rangeC_r ?_ | refine q_seq rfl ?_ | refine q_block rfl ?_ | (refine q_frz rfl rfl (by simp [*]; rfl) ?_) | (refine q_region rfl rfl rfl fun Q' hQ => ?_; simp [*]; (refine hQ.out _ ?_; clear hQ; clear Q')) | (refine q_if rfl fun Q1 Q2 h1 h2 => ?_; simp [*, twoB_some, twoV_some, ltFI, leFI, ltFN, leFN, guardF, yieldF, getA, opE, rdV, scE, constE]; (try (repeat' (first | refine And.intro ?_ ?_ | intro _))); all_goals (first | (exfalso; omega) | (refine h1.out ?_; clear h1 h2; clear Q1 Q2) | (refine h2.out ?_; clear h1 h2; clear Q1 Q2))) | refine q_exit rfl ?_ | refine q_ret rfl ?_ | refine q_skip rfl ?_ | refine q_label rfl ?_ | refine q_drawW rfl rfl rfl rfl ?_ | (refine q_drawW_nil rfl fun Q' hQ => ?_; simp [*]; (refine hQ.out _ ?_; clear hQ; clear Q')) | (refine q_drawW_op rfl rfl fun Q' hQ => ?_; simp [*]; (refine hQ.out _ ?_; clear hQ; clear Q')) | (refine q_drawW_guard rfl rfl fun Q1 Q2 h1 h2 => ?_; simp [*, twoB_some, twoV_some, ltFI, leFI, ltFN, leFN, grdF, yieldF, getA, opE, rdV, scE, constE]; (try (repeat' (first | refine And.intro ?_ ?_ | intro _))); all_goals (first | (exfalso; omega) | ((first | (exfalso; omega) | (refine h1.out ?_; clear h1 h2; clear Q1 Q2) | (refine h2.out ?_; clear h1 h2; clear Q1 Q2)); intro Q' hQ; simp [*]; (refine hQ.out _ ?_; clear hQ; clear Q')))) | refine q_regionW rfl rfl rfl ?_ | (refine regP_nil (by decide) ?_) | (refine regP_op rfl rfl fun Q' hQ => ?_; simp [*]; (refine hQ.out _ ?_; clear hQ; clear Q')) | (refine regP_guard rfl rfl fun Q1 Q2 h1 h2 => ?_; simp [*, twoB_some, twoV_some, ltFI, leFI, ltFN, leFN, grdF, yieldF, getA, opE, rdV, scE, constE]; (try (repeat' (first | refine And.intro ?_ ?_ | intro _))); all_goals (first | (exfalso; omega) | ((first | (exfalso; omega) | (refine h1.out ?_; clear h1 h2; clear Q1 Q2) | (refine h2.out ?_; clear h1 h2; clear Q1 Q2)); intro Q' hQ; simp [*]; (refine hQ.out _ ?_; clear hQ; clear Q')))))
      all_goals simp [*]
    have hkl : k ≤ x.length := by omega
    have hk1 : k + 1 ≤ x.length := by omega
    have h56 : L 56 [rowsT c.rows, .sl k (List.take k (List.map (fun x => T.sc (.int .i64 x)) x)), fT 57] = some (.tup [iT (lowB c.rows (x.take k)), bT (hasB c.rows (x.take k))], [.dead, .dead, .dead]) := by
      have := c56 c.rows (x.take k) HV.out.up HV.out.r1 (by simp; omega) hc.row
      rw [← this]
      simp [ints, List.map_take, Nat.min_eq_left hkl]
    cases hh : hasB c.rows (x.take k) with
    | false =>
      have hok : stOk c x = false := by
        unfold stOk
        rw [List.all_eq_false]
        exact ⟨k, List.mem_range.2 hlt, by simp [hh]⟩
      rw [HG.out, if_neg (by simp [hok])]
      rw [hh] at h56
      clear hok
      repeat' (first | refine thenC_n ?_ | refine thenC_x ?_ | refine thenC_r ?_ | refine blockC_n ?_ | refine blockC_hit2 rfl ?_ | refine blockC_miss rfl ?_ | refine blockC_r ?_ | refine loopC_x ?_ | refine loopC_r ?_ | refine rangeC_x ?_ | refine rangeC_r ?_ | refine q_seq rfl ?_ | refine q_block rfl ?_ | (refine q_frz rfl rfl (by simp [*]; rfl) ?_) | (refine q_region rfl rfl rfl fun Q' hQ => ?_; simp [*]; (refine hQ.out _ ?_; clear hQ; clear Q')) | (refine q_if rfl fun Q1 Q2 h1 h2 => ?_; simp [*, twoB_some, twoV_some, ltFI, leFI, ltFN, leFN, guardF, yieldF, getA, opE, rdV, scE, constE]; (try (repeat' (first | refine And.intro ?_ ?_ | intro _))); all_goals (first | (exfalso; omega) | (refine h1.out ?_; clear h1 h2; clear Q1 Q2) | (refine h2.out ?_; clear h1 h2; clear Q1 Q2))) | refine q_exit rfl ?_ | refine q_ret rfl ?_ | refine q_skip rfl ?_ | refine q_label rfl ?_ | refine q_drawW rfl rfl rfl rfl ?_ | (refine q_drawW_nil rfl fun Q' hQ => ?_; simp [*]; (refine hQ.out _ ?_; clear hQ; clear Q')) | (refine q_drawW_op rfl rfl fun Q' hQ => ?_; simp [*]; (refine hQ.out _ ?_; clear hQ; clear Q')) | (refine q_drawW_guard rfl rfl fun Q1 Q2 h1 h2 => ?_; simp [*, twoB_some, twoV_some, ltFI, leFI, ltFN, leFN, grdF, yieldF, getA, opE, rdV, scE, constE]; (try (repeat' (first | refine And.intro ?_ ?_ | intro _))); all_goals (first | (exfalso; omega) | ((first | (exfalso; omega) | (refine h1.out ?_; clear h1 h2; clear Q1 Q2) | (refine h2.out ?_; clear h1 h2; clear Q1 Q2)); intro Q' hQ; simp [*]; (refine hQ.out _ ?_; clear hQ; clear Q')))) | refine q_regionW rfl rfl rfl ?_ | (refine regP_nil (by decide) ?_) | (refine regP_op rfl rfl fun Q' hQ => ?_; simp [*]; (refine hQ.out _ ?_; clear hQ; clear Q')) | (refine regP_guard rfl rfl fun Q1 Q2 h1 h2 => ?_; simp [*, twoB_some, twoV_some, ltFI, leFI, ltFN, leFN, grdF, yieldF, getA, opE, rdV, scE, constE]; (try (repeat' (first | refine And.intro ?_ ?_ | intro _))); all_goals (first | (exfalso; omega) | ((first | (exfalso; omega) | (refine h1.out ?_; clear h1 h2; clear Q1 Q2) | (refine h2.out ?_; clear h1 h2; clear Q1 Q2)); intro Q' hQ; simp [*]; (refine hQ.out _ ?_; clear hQ; clear Q')))))
      all_goals simp [*]
    | true =>
      rw [hh] at h56
      obtain ⟨low, s, a1, a2, a3, e1, e2, e3⟩ := step_cell HV.out H1.out (show (n : Int) < c.letters by omega) hlt hh
      rw [e1] at h56
      have hset := yk_set c x n k hlt
      rw [e3] at hset
      clear e1 e3
      have a2' : (n : Int) < c.rows[low].maps.length := by omega
      have a3' : (s : Int) < c.rows[low].maps[n].length := by omega
      repeat' (first | refine thenC_n ?_ | refine thenC_x ?_ | refine thenC_r ?_ | refine blockC_n ?_ | refine blockC_hit2 rfl ?_ | refine blockC_miss rfl ?_ | refine blockC_r ?_ | refine loopC_x ?_ | refine loopC_r ?_ | refine rangeC_x ?_ | refine rangeC_r ?_ | refine q_seq rfl ?_ | refine q_block rfl ?_ | (refine q_frz rfl rfl (by simp [*]; rfl) ?_) | (refine q_region rfl rfl rfl fun Q' hQ => ?_; simp [*]; (refine hQ.out _ ?_; clear hQ; clear Q')) | (refine q_if rfl fun Q1 Q2 h1 h2 => ?_; simp [*, twoB_some, twoV_some, ltFI, leFI, ltFN, leFN, guardF, yieldF, getA, opE, rdV, scE, constE]; (try (repeat' (first | refine And.intro ?_ ?_ | intro _))); all_goals (first | (exfalso; omega) | (refine h1.out ?_; clear h1 h2; clear Q1 Q2) | (refine h2.out ?_; clear h1 h2; clear Q1 Q2))) | refine q_exit rfl ?_ | refine q_ret rfl ?_ | refine q_skip rfl ?_ | refine q_label rfl ?_ | refine q_drawW rfl rfl rfl rfl ?_ | (refine q_drawW_nil rfl fun Q' hQ => ?_; simp [*]; (refine hQ.out _ ?_; clear hQ; clear Q')) | (refine q_drawW_op rfl rfl fun Q' hQ => ?_; simp [*]; (refine hQ.out _ ?_; clear hQ; clear Q')) | (refine q_drawW_guard rfl rfl fun Q1 Q2 h1 h2 => ?_; simp [*, twoB_some, twoV_some, ltFI, leFI, ltFN, leFN, grdF, yieldF, getA, opE, rdV, scE, constE]; (try (repeat' (first | refine And.intro ?_ ?_ | intro _))); all_goals (first | (exfalso; omega) | ((first | (exfalso; omega) | (refine h1.out ?_; clear h1 h2; clear Q1 Q2) | (refine h2.out ?_; clear h1 h2; clear Q1 Q2)); intro Q' hQ; simp [*]; (refine hQ.out _ ?_; clear hQ; clear Q')))) | refine q_regionW rfl rfl rfl ?_ | (refine regP_nil (by decide) ?_) | (refine regP_op rfl rfl fun Q' hQ => ?_; simp [*]; (refine hQ.out _ ?_; clear hQ; clear Q')) | (refine regP_guard rfl rfl fun Q1 Q2 h1 h2 => ?_; simp [*, twoB_some, twoV_some, ltFI, leFI, ltFN, leFN, grdF, yieldF, getA, opE, rdV, scE, constE]; (try (repeat' (first | refine And.intro ?_ ?_ | intro _))); all_goals (first | (exfalso; omega) | ((first | (exfalso; omega) | (refine h1.out ?_; clear h1 h2; clear Q1 Q2) | (refine h2.out ?_; clear h1 h2; clear Q1 Q2)); intro Q' hQ; simp [*]; (refine hQ.out _ ?_; clear hQ; clear Q')))))
      refine rangeC_n hlt (fun i hi => ?_) ?_
      · by_cases e : i = k
        · subst e; exact hh
        · exact HI.out i (by omega)
      · simp [*, H34]
end Go.Proofs.YthalofddjlhcjaaDoor
end
