/- Proved here: the law CascadeOrder returns true for every input, and its arguments read afterwards as before; the row's listed tables are tied to the program's text by the given tie. No other condition. -/
import Derived.Test.YthalofddjlhcjaaDoorMO3
import Derived.Shelf.Small.Wraps
import Derived.Shelf.Utf8.RuneCount
import Derived.Shelf.Strconv.Itoa0
import Derived.Shelf.Strconv.Itoa1
import Derived.Shelf.LaysM
import Derived.Shelf.Strconv.Itoa2
import Derived.Shelf.Strings.Search1
import Derived.Shelf.Strings.Search2
import Derived.Shelf.Strings.Search3
import Derived.Shelf.Strings.Cut
import Derived.Shelf.Strings.Count
import Derived.Shelf.Strings.Shaped
import Derived.Shelf.Strconv.AppendUint10
import Derived.Shelf.Strconv.AppendInt10
import Derived.Shelf.Strconv.AppendIntPublic10
import Derived.Shelf.Strings.Split
import Derived.Shelf.Strings.SplitShaped
import Derived.Shelf.Unicode.Decode
import Derived.Shelf.Strings.RuneCount
import Derived.Shelf.Strings.Explode
import Derived.Shelf.Unicode.DecodeSlow
import Derived.Shelf.Unicode.DecodeAny
import Derived.Ground.Names2Prog
import Derived.Shelf.Slices.Clone
import Derived.Shelf.Slices.SearchI
import Derived.Test.YthalofddjlhcjaaDoorProg
import Derived.ChangeOld
import Derived.ChangeReads
import Derived.Below
import Derived.ChangeSlices
import Derived.Deep.Grids
import Derived.WideShapes
import Derived.WalkKit
import Derived.ProofKit
import Derived.Test.YthalofddjlhcjaaDoorCards
import Derived.Test.YthalofddjlhcjaaDoorTie
import Derived.OpenShut
import Derived.ShutString
import Derived.Deep.DeepHandedRow
set_option linter.unusedVariables false
set_option linter.unusedSimpArgs false
section
/- A letter's step, a word's run of a cascade: program. -/
namespace Go.Proofs.YthalofddjlhcjaaDoor
open Go
set_option maxRecDepth 100000
set_option maxHeartbeats 4000000
set_option linter.unusedVariables false
set_option linter.unusedSimpArgs false

/-- What Step answers. -/
def StepG (c : Casc) (x : List Int) (l : Int) : List Int × Int := if validE c = 0 then stepG c x l else ([], validE c)
theorem c35 (c : Casc) (x : List Int) (l : Int) (hc : CB c) (hx : x.length < 2^62) (hl : In64 l) : L 35 [cascT c, ints x, iT l] = some (.tup [ointsT (StepG c x l).1, iT (StepG c x l).2], [.dead, .dead, .dead]) := by
  have h30 := c30 c hc
  refine L_run cfn35 fn35 (runF_of bd35 ⟨of_decide_eq_true rfl, of_decide_eq_true rfl⟩ ?_)
  simp only [entryF, entryT, entryO, entryE, isIo]
  by_cases hv : validE c = 0
  · have h34 := c34 c x l hc (valid_of c hv) hx hl
    have e : StepG c x l = stepG c x l := by unfold StepG; rw [if_pos hv]
    rw [e]
    rw [if_pos hv, hv] at h30
    clear e hv
    repeat' (first | refine thenC_n ?_ | refine thenC_x ?_ | refine thenC_r ?_ | refine blockC_n ?_ | refine blockC_hit2 rfl ?_ | refine blockC_miss rfl ?_ | refine blockC_r ?_ | refine loopC_x ?_ | refine loopC_r ?_ | refine rangeC_x ?_ | refine rangeC_r ?_ | refine q_seq rfl ?_ | refine q_block rfl ?_ | (refine q_frz rfl rfl (by simp [*]; rfl) ?_) | (refine q_region rfl rfl rfl fun Q' hQ => ?_; simp [*]; (refine hQ.out _ ?_; clear hQ; clear Q')) | (refine q_if rfl fun Q1 Q2 h1 h2 => ?_; simp [*, twoB_some, twoV_some, ltFI, leFI, ltFN, leFN, guardF, yieldF, getA, opE, rdV, scE, constE]; (try (repeat' (first | refine And.intro ?_ ?_ | intro _))); all_goals (first | (exfalso; omega) | (refine h1.out ?_; clear h1 h2; clear Q1 Q2) | (refine h2.out ?_; clear h1 h2; clear Q1 Q2))) | refine q_exit rfl ?_ | refine q_ret rfl ?_ | refine q_skip rfl ?_ | refine q_label rfl ?_ | refine q_drawW rfl rfl rfl rfl ?_ | (refine q_drawW_nil rfl fun Q' hQ => ?_; simp [*]; (refine hQ.out _ ?_; clear hQ; clear Q')) | (refine q_drawW_op rfl rfl fun Q' hQ => ?_; simp [*]; (refine hQ.out _ ?_; clear hQ; clear Q')) | (refine q_drawW_guard rfl rfl fun Q1 Q2 h1 h2 => ?_; simp [*, twoB_some, twoV_some, ltFI, leFI, ltFN, leFN, grdF, yieldF, getA, opE, rdV, scE, constE]; (try (repeat' (first | refine And.intro ?_ ?_ | intro _))); all_goals (first | (exfalso; omega) | ((first | (exfalso; omega) | (refine h1.out ?_; clear h1 h2; clear Q1 Q2) | (refine h2.out ?_; clear h1 h2; clear Q1 Q2)); intro Q' hQ; simp [*]; (refine hQ.out _ ?_; clear hQ; clear Q')))) | refine q_regionW rfl rfl rfl ?_ | (refine regP_nil (by decide) ?_) | (refine regP_op rfl rfl fun Q' hQ => ?_; simp [*]; (refine hQ.out _ ?_; clear hQ; clear Q')) | (refine regP_guard rfl rfl fun Q1 Q2 h1 h2 => ?_; simp [*, twoB_some, twoV_some, ltFI, leFI, ltFN, leFN, grdF, yieldF, getA, opE, rdV, scE, constE]; (try (repeat' (first | refine And.intro ?_ ?_ | intro _))); all_goals (first | (exfalso; omega) | ((first | (exfalso; omega) | (refine h1.out ?_; clear h1 h2; clear Q1 Q2) | (refine h2.out ?_; clear h1 h2; clear Q1 Q2)); intro Q' hQ; simp [*]; (refine hQ.out _ ?_; clear hQ; clear Q')))))
    all_goals simp [*]
  · have e : StepG c x l = ([], validE c) := by unfold StepG; rw [if_neg hv]
    rw [e]
    rw [if_neg hv] at h30
    clear e
    repeat' (first | refine thenC_n ?_ | refine thenC_x ?_ | refine thenC_r ?_ | refine blockC_n ?_ | refine blockC_hit2 rfl ?_ | refine blockC_miss rfl ?_ | refine blockC_r ?_ | refine loopC_x ?_ | refine loopC_r ?_ | refine rangeC_x ?_ | refine rangeC_r ?_ | refine q_seq rfl ?_ | refine q_block rfl ?_ | (refine q_frz rfl rfl (by simp [*]; rfl) ?_) | (refine q_region rfl rfl rfl fun Q' hQ => ?_; simp [*]; (refine hQ.out _ ?_; clear hQ; clear Q')) | (refine q_if rfl fun Q1 Q2 h1 h2 => ?_; simp [*, twoB_some, twoV_some, ltFI, leFI, ltFN, leFN, guardF, yieldF, getA, opE, rdV, scE, constE]; (try (repeat' (first | refine And.intro ?_ ?_ | intro _))); all_goals (first | (exfalso; omega) | (refine h1.out ?_; clear h1 h2; clear Q1 Q2) | (refine h2.out ?_; clear h1 h2; clear Q1 Q2))) | refine q_exit rfl ?_ | refine q_ret rfl ?_ | refine q_skip rfl ?_ | refine q_label rfl ?_ | refine q_drawW rfl rfl rfl rfl ?_ | (refine q_drawW_nil rfl fun Q' hQ => ?_; simp [*]; (refine hQ.out _ ?_; clear hQ; clear Q')) | (refine q_drawW_op rfl rfl fun Q' hQ => ?_; simp [*]; (refine hQ.out _ ?_; clear hQ; clear Q')) | (refine q_drawW_guard rfl rfl fun Q1 Q2 h1 h2 => ?_; simp [*, twoB_some, twoV_some, ltFI, leFI, ltFN, leFN, grdF, yieldF, getA, opE, rdV, scE, constE]; (try (repeat' (first | refine And.intro ?_ ?_ | intro _))); all_goals (first | (exfalso; omega) | ((first | (exfalso; omega) | (refine h1.out ?_; clear h1 h2; clear Q1 Q2) | (refine h2.out ?_; clear h1 h2; clear Q1 Q2)); intro Q' hQ; simp [*]; (refine hQ.out _ ?_; clear hQ; clear Q')))) | refine q_regionW rfl rfl rfl ?_ | (refine regP_nil (by decide) ?_) | (refine regP_op rfl rfl fun Q' hQ => ?_; simp [*]; (refine hQ.out _ ?_; clear hQ; clear Q')) | (refine regP_guard rfl rfl fun Q1 Q2 h1 h2 => ?_; simp [*, twoB_some, twoV_some, ltFI, leFI, ltFN, leFN, grdF, yieldF, getA, opE, rdV, scE, constE]; (try (repeat' (first | refine And.intro ?_ ?_ | intro _))); all_goals (first | (exfalso; omega) | ((first | (exfalso; omega) | (refine h1.out ?_; clear h1 h2; clear Q1 Q2) | (refine h2.out ?_; clear h1 h2; clear Q1 Q2)); intro Q' hQ; simp [*]; (refine hQ.out _ ?_; clear hQ; clear Q')))))
    all_goals simp [*]

/-- A run of letters. -/
def runG (c : Casc) : List Int → List Int → List Int × Int
  | x, [] => (x, 0)
  | x, l :: ls => if (stepG c x l).2 = 0 then runG c (stepG c x l).1 ls else ([], (stepG c x l).2)
/-- The tuple behind k letters, if there was no error. -/
def runK (c : Casc) (x : List Int) (ls : List Int) : Nat → List Int
  | 0 => x
  | k + 1 => (stepG c (runK c x ls k) (ls.getD k 0)).1
def errK (c : Casc) (x : List Int) (ls : List Int) (k : Nat) : Int := (stepG c (runK c x ls k) (ls.getD k 0)).2
theorem runG_drop (c : Casc) (x ls : List Int) : ∀ k, k ≤ ls.length → (∀ i, i < k → errK c x ls i = 0) → runG c x ls = runG c (runK c x ls k) (ls.drop k)
  | 0, _, _ => rfl
  | k + 1, hk, h => by
    rw [runG_drop c x ls k (by omega) (fun i hi => h i (by omega))]
    have h1 : ls.drop k = ls.getD k 0 :: ls.drop (k + 1) := by rw [List.drop_eq_getElem_cons (show k < ls.length by omega), getD_of_lt 0 (show k < ls.length by omega)]
    rw [h1]
    simp only [runG, runK]
    have h0 := h k (by omega)
    unfold errK at h0
    rw [if_pos h0]
theorem runG_err {c : Casc} {x ls : List Int} {k : Nat} (hk : k < ls.length) (h : ∀ i, i < k → errK c x ls i = 0) (he : errK c x ls k ≠ 0) : runG c x ls = ([], errK c x ls k) := by
  rw [runG_drop c x ls k (by omega) h]
  have h1 : ls.drop k = ls.getD k 0 :: ls.drop (k + 1) := by rw [List.drop_eq_getElem_cons hk, getD_of_lt 0 hk]
  rw [h1]
  unfold errK at he ⊢
  simp only [runG]
  rw [if_neg he]
theorem runG_ok {c : Casc} {x ls : List Int} (h : ∀ i, i < ls.length → errK c x ls i = 0) : runG c x ls = (runK c x ls ls.length, 0) := by
  rw [runG_drop c x ls ls.length (Nat.le_refl _) h]
  simp [runG]
theorem runK_len {c : Casc} {x ls : List Int} : ∀ k, (∀ i, i < k → errK c x ls i = 0) → (runK c x ls k).length = x.length
  | 0, _ => rfl
  | k + 1, h => by
    have h0 := h k (by omega)
    have ih := runK_len k (fun i hi => h i (by omega))
    unfold errK at h0
    simp only [runK]
    unfold stepG at h0 ⊢
    split at h0
    · rename_i h1
      rw [if_pos h1]
      split at h0
      · rename_i h2
        rw [if_pos h2]
        simp only [stV_length]
        exact ih
      · cases h0
    · cases h0
/-- The letters of a word as numbers. -/
def letsI (s : ByteArray) : List Int := s.data.toList.map fun b => (b.toNat : Int) - 97
theorem letsI_len (s : ByteArray) : (letsI s).length = s.size := by simp [letsI]
theorem letsI_get (s : ByteArray) (k : Nat) (h : k < s.size) : (letsI s).getD k 0 = (s[k].toNat : Int) - 97 := by
  rw [getD_of_lt 0 (by rw [letsI_len]; exact h)]
  simp [letsI, ByteArray.getElem_eq_getElem_data]
theorem wordB_97 {s : ByteArray} {n : Int} (h : wordB s n = true) (k : Nat) (hk : k < s.size) : 97 ≤ s[k].toNat := by
  unfold wordB at h
  rw [Bool.and_eq_true, List.all_eq_true] at h
  have := h.2 s[k] (by simp [ByteArray.getElem_eq_getElem_data])
  simp [letB] at this
  exact this.1
/-- What Run answers. -/
def RunG (c : Casc) (x : List Int) (s : ByteArray) : List Int × Int :=
  if validE c = 0 then (if tupB c.sizes x = true ∧ wordB s c.letters = true then runG c x (letsI s) else ([], 1)) else ([], validE c)

def H17 (c : Casc) (s : ByteArray) (y : List Int) (k : Nat) : Fr := ⟨55, [(2, rE (sT s)), (8, aE 8), (10, hE 10), (35, rE (iT s.size)), (36, rE (iT k))], [(8, .vr [iT c.letters, ints c.sizes, rowsT c.rows]), (10, ointsT y)]⟩
theorem c17 (c : Casc) (x : List Int) (s : ByteArray) (hc : CB c) (hx : x.length * 8 ≤ 140737488355328) (hs : s.size < 2^62) : L 17 [cascT c, ints x, sT s] = some (.tup [ointsT (RunG c x s).1, iT (RunG c x s).2], [.dead, .dead, .dead]) := by
  have h30 := c30 c hc
  have h31 := c31 c.sizes x (by omega) hc.sz
  have h32 := c32 s c.letters hs
  refine L_run cfn17 fn17 (runF_of bd17 ⟨of_decide_eq_true rfl, of_decide_eq_true rfl⟩ ?_)
  simp only [entryF, entryT, entryO, entryE, isIo]
  by_cases hv : validE c = 0
  case neg => as_aux_lemma =>
    have e : RunG c x s = ([], validE c) := by unfold RunG; rw [if_neg hv]
    rw [e]
    rw [if_neg hv] at h30
    clear e h31 h32
    repeat' (first | refine thenC_n ?_ | refine thenC_x ?_ | refine thenC_r ?_ | refine blockC_n ?_ | refine blockC_hit2 rfl ?_ | refine blockC_miss rfl ?_ | refine blockC_r ?_ | refine loopC_x ?_ | refine loopC_r ?_ | refine rangeC_x ?_ | refine rangeC_r ?_ | refine q_seq rfl ?_ | refine q_block rfl ?_ | (refine q_frz rfl rfl (by simp [*]; rfl) ?_) | (refine q_region rfl rfl rfl fun Q' hQ => ?_; simp [*]; (refine hQ.out _ ?_; clear hQ; clear Q')) | (refine q_if rfl fun Q1 Q2 h1 h2 => ?_; simp [*, twoB_some, twoV_some, ltFI, leFI, ltFN, leFN, guardF, yieldF, getA, opE, rdV, scE, constE]; (try (repeat' (first | refine And.intro ?_ ?_ | intro _))); all_goals (first | (exfalso; omega) | (refine h1.out ?_; clear h1 h2; clear Q1 Q2) | (refine h2.out ?_; clear h1 h2; clear Q1 Q2))) | refine q_exit rfl ?_ | refine q_ret rfl ?_ | refine q_skip rfl ?_ | refine q_label rfl ?_ | refine q_drawW rfl rfl rfl rfl ?_ | (refine q_drawW_nil rfl fun Q' hQ => ?_; simp [*]; (refine hQ.out _ ?_; clear hQ; clear Q')) | (refine q_drawW_op rfl rfl fun Q' hQ => ?_; simp [*]; (refine hQ.out _ ?_; clear hQ; clear Q')) | (refine q_drawW_guard rfl rfl fun Q1 Q2 h1 h2 => ?_; simp [*, twoB_some, twoV_some, ltFI, leFI, ltFN, leFN, grdF, yieldF, getA, opE, rdV, scE, constE]; (try (repeat' (first | refine And.intro ?_ ?_ | intro _))); all_goals (first | (exfalso; omega) | ((first | (exfalso; omega) | (refine h1.out ?_; clear h1 h2; clear Q1 Q2) | (refine h2.out ?_; clear h1 h2; clear Q1 Q2)); intro Q' hQ; simp [*]; (refine hQ.out _ ?_; clear hQ; clear Q')))) | refine q_regionW rfl rfl rfl ?_ | (refine regP_nil (by decide) ?_) | (refine regP_op rfl rfl fun Q' hQ => ?_; simp [*]; (refine hQ.out _ ?_; clear hQ; clear Q')) | (refine regP_guard rfl rfl fun Q1 Q2 h1 h2 => ?_; simp [*, twoB_some, twoV_some, ltFI, leFI, ltFN, leFN, grdF, yieldF, getA, opE, rdV, scE, constE]; (try (repeat' (first | refine And.intro ?_ ?_ | intro _))); all_goals (first | (exfalso; omega) | ((first | (exfalso; omega) | (refine h1.out ?_; clear h1 h2; clear Q1 Q2) | (refine h2.out ?_; clear h1 h2; clear Q1 Q2)); intro Q' hQ; simp [*]; (refine hQ.out _ ?_; clear hQ; clear Q')))))
    all_goals simp [*]
  rw [if_pos hv, hv] at h30
  by_cases h1 : tupB c.sizes x = true ∧ wordB s c.letters = true
  case neg => as_aux_lemma =>
    have e : RunG c x s = ([], 1) := by unfold RunG; rw [if_pos hv, if_neg h1]
    rw [e]
    clear e
    cases ht : tupB c.sizes x with
    | false =>
      rw [ht] at h31
      clear h1 h32
      repeat' (first | refine thenC_n ?_ | refine thenC_x ?_ | refine thenC_r ?_ | refine blockC_n ?_ | refine blockC_hit2 rfl ?_ | refine blockC_miss rfl ?_ | refine blockC_r ?_ | refine loopC_x ?_ | refine loopC_r ?_ | refine rangeC_x ?_ | refine rangeC_r ?_ | refine q_seq rfl ?_ | refine q_block rfl ?_ | (refine q_frz rfl rfl (by simp [*]; rfl) ?_) | (refine q_region rfl rfl rfl fun Q' hQ => ?_; simp [*]; (refine hQ.out _ ?_; clear hQ; clear Q')) | (refine q_if rfl fun Q1 Q2 h1 h2 => ?_; simp [*, twoB_some, twoV_some, ltFI, leFI, ltFN, leFN, guardF, yieldF, getA, opE, rdV, scE, constE]; (try (repeat' (first | refine And.intro ?_ ?_ | intro _))); all_goals (first | (exfalso; omega) | (refine h1.out ?_; clear h1 h2; clear Q1 Q2) | (refine h2.out ?_; clear h1 h2; clear Q1 Q2))) | refine q_exit rfl ?_ | refine q_ret rfl ?_ | refine q_skip rfl ?_ | refine q_label rfl ?_ | refine q_drawW rfl rfl rfl rfl ?_ | (refine q_drawW_nil rfl fun Q' hQ => ?_; simp [*]; (refine hQ.out _ ?_; clear hQ; clear Q')) | (refine q_drawW_op rfl rfl fun Q' hQ => ?_; simp [*]; (refine hQ.out _ ?_; clear hQ; clear Q')) | (refine q_drawW_guard rfl rfl fun Q1 Q2 h1 h2 => ?_; simp [*, twoB_some, twoV_some, ltFI, leFI, ltFN, leFN, grdF, yieldF, getA, opE, rdV, scE, constE]; (try (repeat' (first | refine And.intro ?_ ?_ | intro _))); all_goals (first | (exfalso; omega) | ((first | (exfalso; omega) | (refine h1.out ?_; clear h1 h2; clear Q1 Q2) | (refine h2.out ?_; clear h1 h2; clear Q1 Q2)); intro Q' hQ; simp [*]; (refine hQ.out _ ?_; clear hQ; clear Q')))) | refine q_regionW rfl rfl rfl ?_ | (refine regP_nil (by decide) ?_) | (refine regP_op rfl rfl fun Q' hQ => ?_; simp [*]; (refine hQ.out _ ?_; clear hQ; clear Q')) | (refine regP_guard rfl rfl fun Q1 Q2 h1 h2 => ?_; simp [*, twoB_some, twoV_some, ltFI, leFI, ltFN, leFN, grdF, yieldF, getA, opE, rdV, scE, constE]; (try (repeat' (first | refine And.intro ?_ ?_ | intro _))); all_goals (first | (exfalso; omega) | ((first | (exfalso; omega) | (refine h1.out ?_; clear h1 h2; clear Q1 Q2) | (refine h2.out ?_; clear h1 h2; clear Q1 Q2)); intro Q' hQ; simp [*]; (refine hQ.out _ ?_; clear hQ; clear Q')))))
      all_goals simp [*]
    | true =>
      have hw : wordB s c.letters = false := by
        rw [← Bool.not_eq_true]; exact fun h => h1 ⟨ht, h⟩
      rw [ht] at h31
      rw [hw] at h32
      clear h1
      repeat' (first | refine thenC_n ?_ | refine thenC_x ?_ | refine thenC_r ?_ | refine blockC_n ?_ | refine blockC_hit2 rfl ?_ | refine blockC_miss rfl ?_ | refine blockC_r ?_ | refine loopC_x ?_ | refine loopC_r ?_ | refine rangeC_x ?_ | refine rangeC_r ?_ | refine q_seq rfl ?_ | refine q_block rfl ?_ | (refine q_frz rfl rfl (by simp [*]; rfl) ?_) | (refine q_region rfl rfl rfl fun Q' hQ => ?_; simp [*]; (refine hQ.out _ ?_; clear hQ; clear Q')) | (refine q_if rfl fun Q1 Q2 h1 h2 => ?_; simp [*, twoB_some, twoV_some, ltFI, leFI, ltFN, leFN, guardF, yieldF, getA, opE, rdV, scE, constE]; (try (repeat' (first | refine And.intro ?_ ?_ | intro _))); all_goals (first | (exfalso; omega) | (refine h1.out ?_; clear h1 h2; clear Q1 Q2) | (refine h2.out ?_; clear h1 h2; clear Q1 Q2))) | refine q_exit rfl ?_ | refine q_ret rfl ?_ | refine q_skip rfl ?_ | refine q_label rfl ?_ | refine q_drawW rfl rfl rfl rfl ?_ | (refine q_drawW_nil rfl fun Q' hQ => ?_; simp [*]; (refine hQ.out _ ?_; clear hQ; clear Q')) | (refine q_drawW_op rfl rfl fun Q' hQ => ?_; simp [*]; (refine hQ.out _ ?_; clear hQ; clear Q')) | (refine q_drawW_guard rfl rfl fun Q1 Q2 h1 h2 => ?_; simp [*, twoB_some, twoV_some, ltFI, leFI, ltFN, leFN, grdF, yieldF, getA, opE, rdV, scE, constE]; (try (repeat' (first | refine And.intro ?_ ?_ | intro _))); all_goals (first | (exfalso; omega) | ((first | (exfalso; omega) | (refine h1.out ?_; clear h1 h2; clear Q1 Q2) | (refine h2.out ?_; clear h1 h2; clear Q1 Q2)); intro Q' hQ; simp [*]; (refine hQ.out _ ?_; clear hQ; clear Q')))) | refine q_regionW rfl rfl rfl ?_ | (refine regP_nil (by decide) ?_) | (refine regP_op rfl rfl fun Q' hQ => ?_; simp [*]; (refine hQ.out _ ?_; clear hQ; clear Q')) | (refine regP_guard rfl rfl fun Q1 Q2 h1 h2 => ?_; simp [*, twoB_some, twoV_some, ltFI, leFI, ltFN, leFN, grdF, yieldF, getA, opE, rdV, scE, constE]; (try (repeat' (first | refine And.intro ?_ ?_ | intro _))); all_goals (first | (exfalso; omega) | ((first | (exfalso; omega) | (refine h1.out ?_; clear h1 h2; clear Q1 Q2) | (refine h2.out ?_; clear h1 h2; clear Q1 Q2)); intro Q' hQ; simp [*]; (refine hQ.out _ ?_; clear hQ; clear Q')))))
      all_goals simp [*]
  have e : RunG c x s = runG c x (letsI s) := by unfold RunG; rw [if_pos hv, if_pos h1]
  rw [e]
  rw [h1.1] at h31
  rw [h1.2] at h32
  have HV := Hid.mk (valid_of c hv)
  have HW : Hid (∀ k, ∀ h : k < s.size, 97 ≤ s[k].toNat) := ⟨fun k h => wordB_97 h1.2 k h⟩
  clear e hv h1
  have h33 : L 33 [ints x] = some (ointsT x, [.dead]) := lim_ext rfl (xClone_ints x hx)
  have HX := Hid.mk hx
  clear hx
  repeat' (first | refine thenC_n ?_ | refine thenC_x ?_ | refine thenC_r ?_ | refine blockC_n ?_ | refine blockC_hit2 rfl ?_ | refine blockC_miss rfl ?_ | refine blockC_r ?_ | refine loopC_x ?_ | refine loopC_r ?_ | refine rangeC_x ?_ | refine rangeC_r ?_ | refine q_seq rfl ?_ | refine q_block rfl ?_ | (refine q_frz rfl rfl (by simp [*]; rfl) ?_) | (refine q_region rfl rfl rfl fun Q' hQ => ?_; simp [*]; (refine hQ.out _ ?_; clear hQ; clear Q')) | (refine q_if rfl fun Q1 Q2 h1 h2 => ?_; simp [*, twoB_some, twoV_some, ltFI, leFI, ltFN, leFN, guardF, yieldF, getA, opE, rdV, scE, constE]; (try (repeat' (first | refine And.intro ?_ ?_ | intro _))); all_goals (first | (exfalso; omega) | (refine h1.out ?_; clear h1 h2; clear Q1 Q2) | (refine h2.out ?_; clear h1 h2; clear Q1 Q2))) | refine q_exit rfl ?_ | refine q_ret rfl ?_ | refine q_skip rfl ?_ | refine q_label rfl ?_ | refine q_drawW rfl rfl rfl rfl ?_ | (refine q_drawW_nil rfl fun Q' hQ => ?_; simp [*]; (refine hQ.out _ ?_; clear hQ; clear Q')) | (refine q_drawW_op rfl rfl fun Q' hQ => ?_; simp [*]; (refine hQ.out _ ?_; clear hQ; clear Q')) | (refine q_drawW_guard rfl rfl fun Q1 Q2 h1 h2 => ?_; simp [*, twoB_some, twoV_some, ltFI, leFI, ltFN, leFN, grdF, yieldF, getA, opE, rdV, scE, constE]; (try (repeat' (first | refine And.intro ?_ ?_ | intro _))); all_goals (first | (exfalso; omega) | ((first | (exfalso; omega) | (refine h1.out ?_; clear h1 h2; clear Q1 Q2) | (refine h2.out ?_; clear h1 h2; clear Q1 Q2)); intro Q' hQ; simp [*]; (refine hQ.out _ ?_; clear hQ; clear Q')))) | refine q_regionW rfl rfl rfl ?_ | (refine regP_nil (by decide) ?_) | (refine regP_op rfl rfl fun Q' hQ => ?_; simp [*]; (refine hQ.out _ ?_; clear hQ; clear Q')) | (refine regP_guard rfl rfl fun Q1 Q2 h1 h2 => ?_; simp [*, twoB_some, twoV_some, ltFI, leFI, ltFN, leFN, grdF, yieldF, getA, opE, rdV, scE, constE]; (try (repeat' (first | refine And.intro ?_ ?_ | intro _))); all_goals (first | (exfalso; omega) | ((first | (exfalso; omega) | (refine h1.out ?_; clear h1 h2; clear Q1 Q2) | (refine h2.out ?_; clear h1 h2; clear Q1 Q2)); intro Q' hQ; simp [*]; (refine hQ.out _ ?_; clear hQ; clear Q')))))
  clear h30 h31 h32 h33
  have hlen := letsI_len s
  refine q_range rfl rfl (fun k => ∀ i, i < k → errK c x (letsI s) i = 0) (fun k => H17 c s (runK c x (letsI s) k) k) s.size (by simp only [LFm]; omega) (fun i hi => by omega) ?_ fun k hk hI => ?_
  · simp [*, H17, runK]
  · as_aux_lemma =>
    have hw : IntKind.i64.wrap ((k : Int) + 1) = k + 1 := wrap_in (by omega) (by omega)
    have hyl := runK_len k hI
    simp only [H17]
    by_cases hlt : k < s.size
    case neg =>
      have hkn : k = s.size := by omega
      have e : runG c x (letsI s) = (runK c x (letsI s) k, 0) := by
        rw [runG_ok (fun i hi => hI i (by omega)), hlen, hkn]
      rw [e]
      clear e hkn hI hyl
      repeat' (first | refine thenC_n ?_ | refine thenC_x ?_ | refine thenC_r ?_ | refine blockC_n ?_ | refine blockC_hit2 rfl ?_ | refine blockC_miss rfl ?_ | refine blockC_r ?_ | refine loopC_x ?_ | refine loopC_r ?_ | refine rangeC_x ?_ | refine rangeC_r ?_ | refine q_seq rfl ?_ | refine q_block rfl ?_ | (refine q_frz rfl rfl (by simp [*]; rfl) ?_) | (refine q_region rfl rfl rfl fun Q' hQ => ?_; simp [*]; (refine hQ.out _ ?_; clear hQ; clear Q')) | (refine q_if rfl fun Q1 Q2 h1 h2 => ?_; simp [*, twoB_some, twoV_some, ltFI, leFI, ltFN, leFN, guardF, yieldF, getA, opE, rdV, scE, constE]; (try (repeat' (first | refine And.intro ?_ ?_ | intro _))); all_goals (first | (exfalso; omega) | (refine h1.out ?_; clear h1 h2; clear Q1 Q2) | (refine h2.out ?_; clear h1 h2; clear Q1 Q2))) | refine q_exit rfl ?_ | refine q_ret rfl ?_ | refine q_skip rfl ?_ | refine q_label rfl ?_ | refine q_drawW rfl rfl rfl rfl ?_ | (refine q_drawW_nil rfl fun Q' hQ => ?_; simp [*]; (refine hQ.out _ ?_; clear hQ; clear Q')) | (refine q_drawW_op rfl rfl fun Q' hQ => ?_; simp [*]; (refine hQ.out _ ?_; clear hQ; clear Q')) | (refine q_drawW_guard rfl rfl fun Q1 Q2 h1 h2 => ?_; simp [*, twoB_some, twoV_some, ltFI, leFI, ltFN, leFN, grdF, yieldF, getA, opE, rdV, scE, constE]; (try (repeat' (first | refine And.intro ?_ ?_ | intro _))); all_goals (first | (exfalso; omega) | ((first | (exfalso; omega) | (refine h1.out ?_; clear h1 h2; clear Q1 Q2) | (refine h2.out ?_; clear h1 h2; clear Q1 Q2)); intro Q' hQ; simp [*]; (refine hQ.out _ ?_; clear hQ; clear Q')))) | refine q_regionW rfl rfl rfl ?_ | (refine regP_nil (by decide) ?_) | (refine regP_op rfl rfl fun Q' hQ => ?_; simp [*]; (refine hQ.out _ ?_; clear hQ; clear Q')) | (refine regP_guard rfl rfl fun Q1 Q2 h1 h2 => ?_; simp [*, twoB_some, twoV_some, ltFI, leFI, ltFN, leFN, grdF, yieldF, getA, opE, rdV, scE, constE]; (try (repeat' (first | refine And.intro ?_ ?_ | intro _))); all_goals (first | (exfalso; omega) | ((first | (exfalso; omega) | (refine h1.out ?_; clear h1 h2; clear Q1 Q2) | (refine h2.out ?_; clear h1 h2; clear Q1 Q2)); intro Q' hQ; simp [*]; (refine hQ.out _ ?_; clear hQ; clear Q')))))
      all_goals simp [*]
    have hb2 := s[k].toNat_lt
    have hch : 97 ≤ s[k].toNat := HW.out k hlt
    have hw1 : IntKind.u8.wrap ((s[k].toNat : Int) - 97) = (s[k].toNat : Int) - 97 := by rw [IntKind.wrap_u8]; omega
    have hw2 : IntKind.i64.wrap ((s[k].toNat : Int) - 97) = (s[k].toNat : Int) - 97 := wrap_in (by omega) (by omega)
    have hg := letsI_get s k hlt
    have h34 := c34 c (runK c x (letsI s) k) ((s[k].toNat : Int) - 97) hc HV.out (by rw [hyl]; have := HX.out; omega) ⟨by omega, by omega⟩
    have he : errK c x (letsI s) k = (stepG c (runK c x (letsI s) k) ((s[k].toNat : Int) - 97)).2 := by unfold errK; rw [hg]
    have hr : runK c x (letsI s) (k + 1) = (stepG c (runK c x (letsI s) k) ((s[k].toNat : Int) - 97)).1 := by simp only [runK]; rw [hg]
    rw [← he, ← hr] at h34
    clear hg he hr hyl
    by_cases h0 : errK c x (letsI s) k = 0
    · rw [h0] at h34
      have hI2 : ∀ i, i < k + 1 → errK c x (letsI s) i = 0 := fun i hi => by
        by_cases e : i = k
        · subst e; exact h0
        · exact hI i (by omega)
      clear hI h0
      repeat' (first | refine thenC_n ?_ | refine thenC_x ?_ | refine thenC_r ?_ | refine blockC_n ?_ | refine blockC_hit2 rfl ?_ | refine blockC_miss rfl ?_ | refine blockC_r ?_ | refine loopC_x ?_ | refine loopC_r ?_ | refine rangeC_x ?_ | refine rangeC_r ?_ | refine q_seq rfl ?_ | refine q_block rfl ?_ | (refine q_frz rfl rfl (by simp [*]; rfl) ?_) | (refine q_region rfl rfl rfl fun Q' hQ => ?_; simp [*]; (refine hQ.out _ ?_; clear hQ; clear Q')) | (refine q_if rfl fun Q1 Q2 h1 h2 => ?_; simp [*, twoB_some, twoV_some, ltFI, leFI, ltFN, leFN, guardF, yieldF, getA, opE, rdV, scE, constE]; (try (repeat' (first | refine And.intro ?_ ?_ | intro _))); all_goals (first | (exfalso; omega) | (refine h1.out ?_; clear h1 h2; clear Q1 Q2) | (refine h2.out ?_; clear h1 h2; clear Q1 Q2))) | refine q_exit rfl ?_ | refine q_ret rfl ?_ | refine q_skip rfl ?_ | refine q_label rfl ?_ | refine q_drawW rfl rfl rfl rfl ?_ | (refine q_drawW_nil rfl fun Q' hQ => ?_; simp [*]; (refine hQ.out _ ?_; clear hQ; clear Q')) | (refine q_drawW_op rfl rfl fun Q' hQ => ?_; simp [*]; (refine hQ.out _ ?_; clear hQ; clear Q')) | (refine q_drawW_guard rfl rfl fun Q1 Q2 h1 h2 => ?_; simp [*, twoB_some, twoV_some, ltFI, leFI, ltFN, leFN, grdF, yieldF, getA, opE, rdV, scE, constE]; (try (repeat' (first | refine And.intro ?_ ?_ | intro _))); all_goals (first | (exfalso; omega) | ((first | (exfalso; omega) | (refine h1.out ?_; clear h1 h2; clear Q1 Q2) | (refine h2.out ?_; clear h1 h2; clear Q1 Q2)); intro Q' hQ; simp [*]; (refine hQ.out _ ?_; clear hQ; clear Q')))) | refine q_regionW rfl rfl rfl ?_ | (refine regP_nil (by decide) ?_) | (refine regP_op rfl rfl fun Q' hQ => ?_; simp [*]; (refine hQ.out _ ?_; clear hQ; clear Q')) | (refine regP_guard rfl rfl fun Q1 Q2 h1 h2 => ?_; simp [*, twoB_some, twoV_some, ltFI, leFI, ltFN, leFN, grdF, yieldF, getA, opE, rdV, scE, constE]; (try (repeat' (first | refine And.intro ?_ ?_ | intro _))); all_goals (first | (exfalso; omega) | ((first | (exfalso; omega) | (refine h1.out ?_; clear h1 h2; clear Q1 Q2) | (refine h2.out ?_; clear h1 h2; clear Q1 Q2)); intro Q' hQ; simp [*]; (refine hQ.out _ ?_; clear hQ; clear Q')))))
      refine rangeC_n hlt hI2 ?_
      simp [*, H17]
    · rw [runG_err (by omega) hI h0]
      clear hI
      repeat' (first | refine thenC_n ?_ | refine thenC_x ?_ | refine thenC_r ?_ | refine blockC_n ?_ | refine blockC_hit2 rfl ?_ | refine blockC_miss rfl ?_ | refine blockC_r ?_ | refine loopC_x ?_ | refine loopC_r ?_ | refine rangeC_x ?_ | refine rangeC_r ?_ | refine q_seq rfl ?_ | refine q_block rfl ?_ | (refine q_frz rfl rfl (by simp [*]; rfl) ?_) | (refine q_region rfl rfl rfl fun Q' hQ => ?_; simp [*]; (refine hQ.out _ ?_; clear hQ; clear Q')) | (refine q_if rfl fun Q1 Q2 h1 h2 => ?_; simp [*, twoB_some, twoV_some, ltFI, leFI, ltFN, leFN, guardF, yieldF, getA, opE, rdV, scE, constE]; (try (repeat' (first | refine And.intro ?_ ?_ | intro _))); all_goals (first | (exfalso; omega) | (refine h1.out ?_; clear h1 h2; clear Q1 Q2) | (refine h2.out ?_; clear h1 h2; clear Q1 Q2))) | refine q_exit rfl ?_ | refine q_ret rfl ?_ | refine q_skip rfl ?_ | refine q_label rfl ?_ | refine q_drawW rfl rfl rfl rfl ?_ | (refine q_drawW_nil rfl fun Q' hQ => ?_; simp [*]; (refine hQ.out _ ?_; clear hQ; clear Q')) | (refine q_drawW_op rfl rfl fun Q' hQ => ?_; simp [*]; (refine hQ.out _ ?_; clear hQ; clear Q')) | (refine q_drawW_guard rfl rfl fun Q1 Q2 h1 h2 => ?_; simp [*, twoB_some, twoV_some, ltFI, leFI, ltFN, leFN, grdF, yieldF, getA, opE, rdV, scE, constE]; (try (repeat' (first | refine And.intro ?_ ?_ | intro _))); all_goals (first | (exfalso; omega) | ((first | (exfalso; omega) | (refine h1.out ?_; clear h1 h2; clear Q1 Q2) | (refine h2.out ?_; clear h1 h2; clear Q1 Q2)); intro Q' hQ; simp [*]; (refine hQ.out _ ?_; clear hQ; clear Q')))) | refine q_regionW rfl rfl rfl ?_ | (refine regP_nil (by decide) ?_) | (refine regP_op rfl rfl fun Q' hQ => ?_; simp [*]; (refine hQ.out _ ?_; clear hQ; clear Q')) | (refine regP_guard rfl rfl fun Q1 Q2 h1 h2 => ?_; simp [*, twoB_some, twoV_some, ltFI, leFI, ltFN, leFN, grdF, yieldF, getA, opE, rdV, scE, constE]; (try (repeat' (first | refine And.intro ?_ ?_ | intro _))); all_goals (first | (exfalso; omega) | ((first | (exfalso; omega) | (refine h1.out ?_; clear h1 h2; clear Q1 Q2) | (refine h2.out ?_; clear h1 h2; clear Q1 Q2)); intro Q' hQ; simp [*]; (refine hQ.out _ ?_; clear hQ; clear Q')))))
      all_goals simp [*]
end Go.Proofs.YthalofddjlhcjaaDoor
end
section
/- Plain facts on the prefixes and rows that law26.build makes. No program. -/
namespace Go.Proofs.YthalofddjlhcjaaDoor
set_option linter.unusedVariables false
set_option linter.unusedSimpArgs false

theorem cmpL_snoc : ∀ (p q : List Int) (s t : Int), p.length = q.length → cmpL p q < 0 → cmpL (p ++ [s]) (q ++ [t]) < 0
  | [], [], s, t, _, h => by simp [cmpL] at h
  | [], _ :: _, s, t, hl, h => by simp at hl
  | _ :: _, [], s, t, hl, h => by simp at hl
  | a :: x, b :: y, s, t, hl, h => by
    simp only [List.cons_append, cmpL] at h ⊢
    split at h
    · rename_i h1; rw [if_pos h1]; decide
    · rename_i h1
      rw [if_neg h1]
      split at h
      · omega
      · rename_i h2
        rw [if_neg h2]
        exact cmpL_snoc x y s t (by simpa using hl) h
theorem cmpL_last : ∀ (p : List Int) (s t : Int), s < t → cmpL (p ++ [s]) (p ++ [t]) < 0
  | [], s, t, h => by simp [cmpL, h]
  | a :: x, s, t, h => by
    simp only [List.cons_append, cmpL]
    rw [if_neg (by omega), if_neg (by omega)]
    exact cmpL_last x s t h

theorem cmpR_short {a b : List Int} (h : a.length < b.length) : cmpR a b < 0 := by simp [cmpR, h]
theorem cmpR_same {a b : List Int} (h : a.length = b.length) : cmpR a b = cmpL a b := by simp [cmpR, h]

/-- The prefixes with one state more. -/
def nextOf (size : Nat) (p : List Int) : List (List Int) := (List.range size).map fun s : Nat => p ++ [(s : Int)]
def nextP (size : Nat) (pfx : List (List Int)) : List (List Int) := pfx.flatMap (nextOf size)

theorem nextOf_mem {size : Nat} {p q : List Int} (h : q ∈ nextOf size p) : ∃ s : Nat, s < size ∧ q = p ++ [(s : Int)] := by
  simp only [nextOf, List.mem_map, List.mem_range] at h
  obtain ⟨s, hs, rfl⟩ := h
  exact ⟨s, hs, rfl⟩

/-- The list of the prefixes of a length. -/
structure PfxOk (sizes : List Int) (pfx : List (List Int)) : Prop where
  len : ∀ p ∈ pfx, p.length = sizes.length
  inn : ∀ p ∈ pfx, inB sizes p = true
  up : pfx.Pairwise fun a b => cmpL a b < 0
  cnt : pfx.length ≤ 3 ^ sizes.length

theorem pfxOk_start : PfxOk [] [[]] := ⟨by simp, by simp [inB], by simp, by simp⟩

theorem inB_snoc {sizes p : List Int} {n s : Int} (hl : p.length = sizes.length) (h : inB sizes p = true) (h0 : 0 ≤ s) (h1 : s < n) : inB (sizes ++ [n]) (p ++ [s]) = true := by
  unfold inB at h ⊢
  rw [List.zip_append hl, List.all_append, h]
  simp [h0, h1]
theorem inB_more {sizes p : List Int} {n : Int} (hl : p.length ≤ sizes.length) (h : inB sizes p = true) : inB (sizes ++ [n]) p = true := by
  rw [inB_iff _ _ (by simp; omega)]
  intro i hi
  have := (inB_iff _ _ hl).1 h i hi
  rw [show (sizes ++ [n]).getD i 0 = sizes.getD i 0 by rw [List.getD_eq_getElem?_getD, List.getD_eq_getElem?_getD, List.getElem?_append_left (by omega)]]
  exact this

theorem nextP_len (size : Nat) (pfx : List (List Int)) : (nextP size pfx).length = size * pfx.length := by
  induction pfx with
  | nil => simp [nextP]
  | cons p l ih =>
    simp only [nextP] at ih ⊢
    rw [List.flatMap_cons, List.length_append, ih]
    simp [nextOf, Nat.mul_add, Nat.add_comm]

theorem nextP_up (size : Nat) : ∀ (pfx : List (List Int)) (n : Nat), (∀ p ∈ pfx, p.length = n) → (pfx.Pairwise fun a b => cmpL a b < 0) → (nextP size pfx).Pairwise fun a b => cmpL a b < 0
  | [], _, _, _ => by simp [nextP]
  | p :: l, n, hl, hu => by
    obtain ⟨h1, h2⟩ := List.pairwise_cons.1 hu
    have ih := nextP_up size l n (fun q hq => hl q (by simp [hq])) h2
    rw [nextP, List.flatMap_cons, List.pairwise_append]
    refine ⟨?_, ih, ?_⟩
    · rw [nextOf, List.pairwise_map]
      exact List.Pairwise.imp (R := fun a b : Nat => a < b) (fun {a b} (h : a < b) => cmpL_last p (a : Int) (b : Int) (by omega)) List.pairwise_lt_range
    · intro a ha b hb
      obtain ⟨s, hs, rfl⟩ := nextOf_mem ha
      obtain ⟨q, hq, hb⟩ := List.mem_flatMap.1 hb
      obtain ⟨t, ht, rfl⟩ := nextOf_mem hb
      exact cmpL_snoc p q _ _ (by rw [hl p (by simp), hl q (by simp [hq])]) (h1 q hq)

theorem pfxOk_next {sizes : List Int} {pfx : List (List Int)} (h : PfxOk sizes pfx) (size : Nat) (h3 : size ≤ 3) : PfxOk (sizes ++ [(size : Int)]) (nextP size pfx) := by
  refine ⟨?_, ?_, nextP_up size pfx _ h.len h.up, ?_⟩
  · intro q hq
    obtain ⟨p, hp, hq⟩ := List.mem_flatMap.1 hq
    obtain ⟨s, hs, rfl⟩ := nextOf_mem hq
    simp [h.len p hp]
  · intro q hq
    obtain ⟨p, hp, hq⟩ := List.mem_flatMap.1 hq
    obtain ⟨s, hs, rfl⟩ := nextOf_mem hq
    exact inB_snoc (h.len p hp) (h.inn p hp) (by omega) (by omega)
  · rw [nextP_len]
    simp only [List.length_append, List.length_cons, List.length_nil, Nat.zero_add, Nat.pow_succ]
    have := Nat.mul_le_mul h3 h.cnt
    omega

/-- The rows so far. -/
structure RowsOk (letters : Int) (sizes : List Int) (rows : List CRow) : Prop where
  row : ∀ r ∈ rows, rowB ⟨letters, sizes, []⟩ r = true
  up : rows.Pairwise fun a b => cmpR a.pre b.pre < 0

theorem rowsOk_start (letters : Int) : RowsOk letters [] [] := ⟨by simp, by simp⟩

theorem rowsOk_size {letters : Int} {sizes : List Int} {rows : List CRow} (h : RowsOk letters sizes rows) (n : Int) : RowsOk letters (sizes ++ [n]) rows := by
  refine ⟨fun r hr => ?_, h.up⟩
  have hl : r.pre.length < sizes.length := by
    have := h.row r hr
    simp only [rowB, Bool.and_eq_true, decide_eq_true_eq] at this
    exact this.1.1.1
  have := h.row r hr
  simp only [rowB, Bool.and_eq_true, decide_eq_true_eq] at this ⊢
  refine ⟨⟨⟨by simp; omega, inB_more (by omega) this.1.1.2⟩, this.1.2⟩, ?_⟩
  rw [show (sizes ++ [n]).getD r.pre.length 0 = sizes.getD r.pre.length 0 by rw [List.getD_eq_getElem?_getD, List.getD_eq_getElem?_getD, List.getElem?_append_left hl]]
  exact this.2

theorem rowsOk_short {letters : Int} {sizes : List Int} {rows : List CRow} (h : RowsOk letters sizes rows) : ∀ r ∈ rows, r.pre.length < sizes.length := fun r hr => by
  have := h.row r hr
  simp only [rowB, Bool.and_eq_true, decide_eq_true_eq] at this
  exact this.1.1.1

/-- One row more. -/
theorem rowsOk_snoc {letters : Int} {sizes : List Int} {n : Int} {rows : List CRow} {p : List Int} {maps : List (List Int)} (h : RowsOk letters (sizes ++ [n]) rows) (hp : p.length = sizes.length) (hin : inB sizes p = true)
    (hm : (maps.length : Int) = letters) (hmm : ∀ m ∈ maps, mapB n m = true) (hlt : ∀ r ∈ rows, cmpR r.pre p < 0) : RowsOk letters (sizes ++ [n]) (rows ++ [⟨p, maps⟩]) := by
  refine ⟨fun r hr => ?_, ?_⟩
  · rcases List.mem_append.1 hr with hr | hr
    · exact h.row r hr
    · obtain rfl : r = ⟨p, maps⟩ := by simpa using hr
      simp only [rowB, Bool.and_eq_true, decide_eq_true_eq, List.all_eq_true]
      refine ⟨⟨⟨by simp; omega, inB_more (by omega) hin⟩, hm⟩, ?_⟩
      rw [hp, show (sizes ++ [n]).getD sizes.length 0 = n by rw [List.getD_eq_getElem?_getD, List.getElem?_append_right (by omega)]; simp]
      exact hmm
  · rw [List.pairwise_append]
    exact ⟨h.up, by simp, fun a ha b hb => by
      have e : b = ⟨p, maps⟩ := by simpa using hb
      subst e
      exact hlt a ha⟩

theorem valid_build {letters : Int} {sizes : List Int} {rows : List CRow} (h : RowsOk letters sizes rows) (hl : 1 ≤ letters ∧ letters ≤ 6) (hs : sizes.length ≤ 24) (hs2 : ∀ n ∈ sizes, 1 ≤ n ∧ n ≤ 32) (hr : rows.length ≤ 48000) : validE ⟨letters, sizes, rows⟩ = 0 := by
  unfold validE
  simp only []
  rw [if_neg (by omega), if_neg (by omega), if_pos]
  rw [Bool.and_eq_true]
  refine ⟨?_, ?_⟩
  · simp only [List.all_eq_true, Bool.and_eq_true, decide_eq_true_eq]; exact hs2
  · simp only [rowsUpB, List.all_eq_true, List.mem_range, Bool.and_eq_true, Bool.or_eq_true, decide_eq_true_eq]
    intro i hi
    rw [getD_of_lt _ hi]
    refine ⟨h.row _ (List.getElem_mem _), ?_⟩
    by_cases h0 : i = 0
    · exact .inl h0
    · right
      rw [getD_of_lt _ (by omega)]
      exact List.pairwise_iff_getElem.1 h.up (i - 1) i (by omega) hi (by omega)
end Go.Proofs.YthalofddjlhcjaaDoor
end
section
/- build: program. -/
namespace Go.Proofs.YthalofddjlhcjaaDoor
open Go
set_option maxRecDepth 100000
set_option maxHeartbeats 1000000
set_option linter.unusedVariables false
set_option linter.unusedSimpArgs false

/-- How a run ends whose answer is known by a property. -/
def exitX (P : Program) (fn : Func) (args : List T) (F : T → List T → Prop) : X → Fr → Prop
  | .n, fr => ∃ r outs, exitF P fn args fr = some (r, outs) ∧ F r outs
  | .r, fr => ∃ r outs, exitF P fn args fr = some (r, outs) ∧ F r outs
  | .x _, _ => False
theorem runF_ex {P : Program} {C : Contract} {cf : Cfg} {LF : Nat} {fn : Func} {c : Code} {args : List T} {F : T → List T → Prop} (hb : fn.body = some c) (ha : args.length ≤ fn.ntmps ∧ (args.filter isIo).length ≤ 1) (h : wpC P C cf LF c (entryF fn.ntmps args) (exitX P fn args F)) : ∃ r outs, runF P C cf LF fn args = some (r, outs) ∧ F r outs := by
  unfold wpC at h
  obtain ⟨x, fr', e, h⟩ := h
  have fin : ∀ x, (x = .n ∨ x = .r) → codeF P C cf LF c (entryF fn.ntmps args) = some (x, fr') → (∃ r outs, exitF P fn args fr' = some (r, outs) ∧ F r outs) → ∃ r outs, runF P C cf LF fn args = some (r, outs) ∧ F r outs := by
    rintro x hx e ⟨r, outs, h1, h2⟩
    refine ⟨r, outs, ?_, h2⟩
    unfold runF
    rw [if_pos ha, hb]
    rcases hx with rfl | rfl
    · simp only [e]; exact h1
    · simp only [e]; exact h1
  cases x with
  | n => exact fin _ (.inl rfl) e h
  | x i => exact absurd h id
  | r => exact fin _ (.inr rfl) e h
theorem L_ex {f : FuncId} {c : Cfg} {fn : Func} {b : Code} {args : List T} {F : T → List T → Prop} (hc : cfAll f = some c) (hfn : Tryd.prog.funcs[f]? = some fn) (hb : fn.body = some b) (ha : args.length ≤ fn.ntmps ∧ (args.filter isIo).length ≤ 1) (h : wpC Tryd.prog L c LFm b (entryF fn.ntmps args) (exitX Tryd.prog fn args F)) : ∃ r outs, L f args = some (r, outs) ∧ F r outs := by
  obtain ⟨r, outs, h1, h2⟩ := runF_ex hb ha h
  exact ⟨r, outs, L_run hc hfn h1, h2⟩

@[simp] theorem rowCells_append : ∀ rs rs' : List CRow, rowCells (rs ++ rs') = rowCells rs ++ rowCells rs'
  | [], _ => rfl
  | r :: rs, rs' => by simp [rowCells, rowCells_append rs]
abbrev osT (s : Nat) (xs : List Int) : T := .os s xs.length (xs.map fun x => .sc (.int .i64 x))
abbrev ossT (s : Nat) (xs : List (List Int)) : T := .os s xs.length (xs.map fun m => ointsT m)
def HA (xs : List Int) (i : Nat) (lt : Int) (s1 : Nat) (szs : List Int) (s2 : Nat) (rs : List CRow) (s4 : Nat) (ps : List (List Int)) (n : Int) : Fr :=
  ⟨117, [(0, aE 0), (2, aE 2), (3, aE 3), (4, hE 4), (5, rE (iT n)), (1117, aE 0)], [(0, tape xs i), (2, .vr [iT 0, .os 0 0 [], .os 0 0 []]), (3, .vr [iT lt, osT s1 szs, .os s2 rs.length (rowCells rs)]), (4, ossT s4 ps)]⟩
def HB (xs : List Int) (i : Nat) (lt : Int) (s1 : Nat) (szs : List Int) (s2 : Nat) (rs : List CRow) (n : Int) (sz : Nat) (s7 : Nat) (nx : List (List Int)) (ps : List (List Int)) (k : Nat) : Fr :=
  ⟨117, [(0, aE 0), (2, aE 2), (3, aE 3), (5, rE (iT n)), (6, rE (iT sz)), (7, hE 7), (38, rE (intss ps)), (39, rE (iT ps.length)), (40, rE (iT k)), (1117, aE 0)], [(0, tape xs i), (2, .vr [iT 0, .os 0 0 [], .os 0 0 []]), (3, .vr [iT lt, osT s1 szs, .os s2 rs.length (rowCells rs)]), (7, ossT s7 nx)]⟩
def HC (xs : List Int) (i : Nat) (lt : Int) (s1 : Nat) (szs : List Int) (s2 : Nat) (rs : List CRow) (n : Int) (sz : Nat) (s7 : Nat) (nx : List (List Int)) (p : List Int) (s10 : Nat) (ms : List (List Int)) (ps : List (List Int)) (k : Nat) : Fr :=
  ⟨117, [(0, aE 0), (2, aE 2), (3, aE 3), (5, rE (iT n)), (6, rE (iT sz)), (7, hE 7), (9, rE (ints p)), (10, aE 10), (11, rE (iT ms.length)), (38, rE (intss ps)), (39, rE (iT ps.length)), (40, rE (iT k)), (1117, aE 0)], [(0, tape xs i), (2, .vr [iT 0, .os 0 0 [], .os 0 0 []]), (3, .vr [iT lt, osT s1 szs, .os s2 rs.length (rowCells rs)]), (7, ossT s7 nx), (10, .vr [ints p, ossT s10 ms])]⟩
def HD (xs : List Int) (i : Nat) (lt : Int) (s1 : Nat) (szs : List Int) (s2 : Nat) (rs : List CRow) (n : Int) (sz : Nat) (s7 : Nat) (nx : List (List Int)) (p : List Int) (s10 : Nat) (ms : List (List Int)) (s12 : Nat) (m : List Int) (kd v : Int) (ps : List (List Int)) (k : Nat) : Fr :=
  ⟨117, [(0, aE 0), (2, aE 2), (3, aE 3), (5, rE (iT n)), (6, rE (iT sz)), (7, hE 7), (9, rE (ints p)), (10, aE 10), (11, rE (iT ms.length)), (12, hE 12), (13, rE (iT kd)), (14, rE (iT v)), (15, rE (iT m.length)), (38, rE (intss ps)), (39, rE (iT ps.length)), (40, rE (iT k)), (1117, aE 0)], [(0, tape xs i), (2, .vr [iT 0, .os 0 0 [], .os 0 0 []]), (3, .vr [iT lt, osT s1 szs, .os s2 rs.length (rowCells rs)]), (7, ossT s7 nx), (10, .vr [ints p, ossT s10 ms]), (12, osT s12 m)]⟩
def HE (xs : List Int) (i : Nat) (lt : Int) (s1 : Nat) (szs : List Int) (s2 : Nat) (rs : List CRow) (n : Int) (sz : Nat) (s7 : Nat) (nx : List (List Int)) (p : List Int) (s : Nat) (ps : List (List Int)) (k : Nat) : Fr :=
  ⟨117, [(0, aE 0), (2, aE 2), (3, aE 3), (5, rE (iT n)), (6, rE (iT sz)), (7, hE 7), (9, rE (ints p)), (16, rE (iT s)), (38, rE (intss ps)), (39, rE (iT ps.length)), (40, rE (iT k)), (1117, aE 0)], [(0, tape xs i), (2, .vr [iT 0, .os 0 0 [], .os 0 0 []]), (3, .vr [iT lt, osT s1 szs, .os s2 rs.length (rowCells rs)]), (7, ossT s7 nx)]⟩

/-- What is known of a built cascade. -/
structure Built (c : Casc) : Prop where
  l1 : 1 ≤ c.letters
  l2 : c.letters ≤ 2
  s1 : c.sizes.length ≤ 3
  sz : ∀ z ∈ c.sizes, 1 ≤ z ∧ z ≤ 3
  rl : c.rows.length ≤ 40 * c.sizes.length
  rok : RowsOk c.letters c.sizes c.rows
/-- The rows so far come before the prefixes from k on. -/
def Ahead (rs : List CRow) (ps : List (List Int)) (k : Nat) : Prop := ∀ r ∈ rs, ∀ j, (h : j < ps.length) → k ≤ j → cmpR r.pre ps[j] < 0
theorem ahead_next {rs : List CRow} {ps : List (List Int)} {k : Nat} (h : Ahead rs ps k) : Ahead rs ps (k + 1) := fun r hr j hj hk => h r hr j hj (by omega)
theorem ahead_snoc {szs : List Int} {rs : List CRow} {ps : List (List Int)} {k : Nat} {ms : List (List Int)} (hp : PfxOk szs ps) (hk : k < ps.length) (h : Ahead rs ps k) : Ahead (rs ++ [⟨ps[k], ms⟩]) ps (k + 1) := fun r hr j hj hkj => by
  rcases List.mem_append.1 hr with hr | hr
  · exact h r hr j hj (by omega)
  · obtain rfl : r = ⟨ps[k], ms⟩ := by simpa using hr
    rw [cmpR_same (by rw [hp.len _ (List.getElem_mem _), hp.len _ (List.getElem_mem _)])]
    exact List.pairwise_iff_getElem.1 hp.up k j hk hj (by omega)
theorem ahead_first {lt : Int} {szs : List Int} {rs : List CRow} {ps : List (List Int)} (hr : RowsOk lt szs rs) (hp : PfxOk szs ps) : Ahead rs ps 0 := fun r h j hj _ => cmpR_short (by rw [hp.len _ (List.getElem_mem _)]; exact rowsOk_short hr r h)
theorem pow3_le {n : Nat} (h : n ≤ 3) : 3 ^ n ≤ 27 := by
  match n, h with
  | 0, _ => decide
  | 1, _ => decide
  | 2, _ => decide
  | 3, _ => decide

theorem nw1 {s z : Nat} (h : s ≤ z) (hz : z ≤ 3) : IntKind.i64.wrap ((s : Int) + 1) = s + 1 := wrap_in (by omega) (by omega)
theorem nb1 {a s z : Nat} (h : a ≤ 100) (hs : s < z) (hz : z ≤ 3) : (a + s + 1) * 24 ≤ 140737488355328 := by omega
theorem nb2 {a s z : Nat} (h : a ≤ 100) (hs : s < z) (hz : z ≤ 3) : a + s + 1 ≤ 4611686018427387904 := by omega
theorem nb3 {a : Nat} (h : a ≤ 2) : (a + 1) * 8 ≤ 140737488355328 := by omega
theorem nb4 {a : Nat} (h : a ≤ 2) : a + 1 ≤ 4611686018427387904 := by omega
theorem nb5 {a : Nat} (h : a ≤ 2) : a * 8 ≤ 140737488355328 := by omega
theorem nb6 {a : Nat} (h : a ≤ 2) : a ≤ 4611686018427387904 := by omega
theorem nb7 {a b : Nat} (h : a < b) : b - (a + 1) < b - a := by omega

theorem c12 (xs : List Int) (i : Nat) (h2 : xs.length ≤ 80) (hi : i ≤ xs.length) : ∃ (c : Casc) (i' : Nat), i' ≤ xs.length ∧ Built c ∧ L 12 [tape xs i] = some (cascT c, [tape xs i']) := by
  suffices h : ∃ r outs, L 12 [tape xs i] = some (r, outs) ∧ ∃ (c : Casc) (i' : Nat), i' ≤ xs.length ∧ Built c ∧ r = cascT c ∧ outs = [tape xs i'] by
    obtain ⟨r, outs, h1, c, i', h3, h4, rfl, rfl⟩ := h
    exact ⟨c, i', h3, h4, h1⟩
  have hn1 := c16 xs i 2 (by omega) (by omega) ⟨by omega, by omega⟩
  have hr1 := nxV_range xs i 2 (by omega)
  have hl1 := nxI_le xs i hi
  have hn2 := c16 xs (nxI xs i) 4 (by omega) (by omega) ⟨by omega, by omega⟩
  have hr2 := nxV_range xs (nxI xs i) 4 (by omega)
  have hl2 := nxI_le xs (nxI xs i) hl1
  have hw0 : IntKind.i64.wrap (1 + nxV xs i 2) = 1 + nxV xs i 2 := wrap_in (by omega) (by omega)
  refine L_ex cfn12 fn12 bd12 ⟨of_decide_eq_true rfl, of_decide_eq_true rfl⟩ ?_
  simp only [entryF, entryT, entryO, entryE, isIo]
  repeat' (first | refine thenC_n ?_ | refine thenC_x ?_ | refine thenC_r ?_ | refine blockC_n ?_ | refine blockC_hit2 rfl ?_ | refine blockC_miss rfl ?_ | refine blockC_r ?_ | refine loopC_x ?_ | refine loopC_r ?_ | refine rangeC_x ?_ | refine rangeC_r ?_ | refine q_seq rfl ?_ | refine q_block rfl ?_ | (refine q_frz rfl rfl (by simp [*]; rfl) ?_) | (refine q_region rfl rfl rfl fun Q' hQ => ?_; simp [*]; (refine hQ.out _ ?_; clear hQ; clear Q')) | (refine q_if rfl fun Q1 Q2 h1 h2 => ?_; simp [*, twoB_some, twoV_some, ltFI, leFI, ltFN, leFN, guardF, yieldF, getA, opE, rdV, scE, constE]; (try (repeat' (first | refine And.intro ?_ ?_ | intro _))); all_goals (first | (exfalso; omega) | (refine h1.out ?_; clear h1 h2; clear Q1 Q2) | (refine h2.out ?_; clear h1 h2; clear Q1 Q2))) | refine q_exit rfl ?_ | refine q_ret rfl ?_ | refine q_skip rfl ?_ | refine q_label rfl ?_ | refine q_drawW rfl rfl rfl rfl ?_ | (refine q_drawW_nil rfl fun Q' hQ => ?_; simp [*]; (refine hQ.out _ ?_; clear hQ; clear Q')) | (refine q_drawW_op rfl rfl fun Q' hQ => ?_; simp [*]; (refine hQ.out _ ?_; clear hQ; clear Q')) | (refine q_drawW_guard rfl rfl fun Q1 Q2 h1 h2 => ?_; simp [*, twoB_some, twoV_some, ltFI, leFI, ltFN, leFN, grdF, yieldF, getA, opE, rdV, scE, constE]; (try (repeat' (first | refine And.intro ?_ ?_ | intro _))); all_goals (first | (exfalso; omega) | ((first | (exfalso; omega) | (refine h1.out ?_; clear h1 h2; clear Q1 Q2) | (refine h2.out ?_; clear h1 h2; clear Q1 Q2)); intro Q' hQ; simp [*]; (refine hQ.out _ ?_; clear hQ; clear Q')))) | refine q_regionW rfl rfl rfl ?_ | (refine regP_nil (by decide) ?_) | (refine regP_op rfl rfl fun Q' hQ => ?_; simp [*]; (refine hQ.out _ ?_; clear hQ; clear Q')) | (refine regP_guard rfl rfl fun Q1 Q2 h1 h2 => ?_; simp [*, twoB_some, twoV_some, ltFI, leFI, ltFN, leFN, grdF, yieldF, getA, opE, rdV, scE, constE]; (try (repeat' (first | refine And.intro ?_ ?_ | intro _))); all_goals (first | (exfalso; omega) | ((first | (exfalso; omega) | (refine h1.out ?_; clear h1 h2; clear Q1 Q2) | (refine h2.out ?_; clear h1 h2; clear Q1 Q2)); intro Q' hQ; simp [*]; (refine hQ.out _ ?_; clear hQ; clear Q')))))
  generalize hN : nxV xs (nxI xs i) 4 = N at *
  generalize hI : nxI xs (nxI xs i) = I at *
  generalize hL : 1 + nxV xs i 2 = lt at *
  have hlt1 : 1 ≤ lt ∧ lt ≤ 2 := by omega
  clear hn1 hn2 hr1 hl1 hw0 hL hN hI
  refine q_loop rfl rfl (n := N.toNat) (fun q fr => ∃ (I : Nat) (s1 : Nat) (szs : List Int) (s2 : Nat) (rs : List CRow) (s4 : Nat) (ps : List (List Int)), (s1 = 0 ∨ s1 = 1) ∧ (s2 = 0 ∨ s2 = 2) ∧ I ≤ xs.length ∧ (q : Int) + szs.length = N ∧ Hid ((∀ z ∈ szs, 1 ≤ z ∧ z ≤ 3) ∧ RowsOk lt szs rs ∧ PfxOk szs ps ∧ rs.length ≤ 40 * szs.length) ∧ fr = HA xs I lt s1 szs s2 rs s4 ps q) (by simp only [LFm]; omega) ?_ ?_
  · refine ⟨I, 0, [], 0, [], 1, [[]], .inl rfl, .inl rfl, hl2, by simp; omega, ⟨by simp, rowsOk_start lt, pfxOk_start, by simp⟩, ?_⟩
    have e : ((N.toNat : Nat) : Int) = N := by omega
    simp [*, HA, rowCells]
  as_aux_lemma =>
  rintro q fr ⟨i, s1, szs, s2, rs, s4, ps, hs1, hs2, hi, hq, HI, rfl⟩
  have hn1 := c16 xs i 3 (by omega) (by omega) ⟨by omega, by omega⟩
  have hr1 := nxV_range xs i 3 (by omega)
  have hl1 := nxI_le xs i hi
  by_cases hq0 : q = 0
  · subst hq0
    simp only [HA]
    repeat' (first | refine thenC_n ?_ | refine thenC_x ?_ | refine thenC_r ?_ | refine blockC_n ?_ | refine blockC_hit2 rfl ?_ | refine blockC_miss rfl ?_ | refine blockC_r ?_ | refine loopC_x ?_ | refine loopC_r ?_ | refine rangeC_x ?_ | refine rangeC_r ?_ | refine q_seq rfl ?_ | refine q_block rfl ?_ | (refine q_frz rfl rfl (by simp [*]; rfl) ?_) | (refine q_region rfl rfl rfl fun Q' hQ => ?_; simp [*]; (refine hQ.out _ ?_; clear hQ; clear Q')) | (refine q_if rfl fun Q1 Q2 h1 h2 => ?_; simp [*, twoB_some, twoV_some, ltFI, leFI, ltFN, leFN, guardF, yieldF, getA, opE, rdV, scE, constE]; (try (repeat' (first | refine And.intro ?_ ?_ | intro _))); all_goals (first | (exfalso; omega) | (refine h1.out ?_; clear h1 h2; clear Q1 Q2) | (refine h2.out ?_; clear h1 h2; clear Q1 Q2))) | refine q_exit rfl ?_ | refine q_ret rfl ?_ | refine q_skip rfl ?_ | refine q_label rfl ?_ | refine q_drawW rfl rfl rfl rfl ?_ | (refine q_drawW_nil rfl fun Q' hQ => ?_; simp [*]; (refine hQ.out _ ?_; clear hQ; clear Q')) | (refine q_drawW_op rfl rfl fun Q' hQ => ?_; simp [*]; (refine hQ.out _ ?_; clear hQ; clear Q')) | (refine q_drawW_guard rfl rfl fun Q1 Q2 h1 h2 => ?_; simp [*, twoB_some, twoV_some, ltFI, leFI, ltFN, leFN, grdF, yieldF, getA, opE, rdV, scE, constE]; (try (repeat' (first | refine And.intro ?_ ?_ | intro _))); all_goals (first | (exfalso; omega) | ((first | (exfalso; omega) | (refine h1.out ?_; clear h1 h2; clear Q1 Q2) | (refine h2.out ?_; clear h1 h2; clear Q1 Q2)); intro Q' hQ; simp [*]; (refine hQ.out _ ?_; clear hQ; clear Q')))) | refine q_regionW rfl rfl rfl ?_ | (refine regP_nil (by decide) ?_) | (refine regP_op rfl rfl fun Q' hQ => ?_; simp [*]; (refine hQ.out _ ?_; clear hQ; clear Q')) | (refine regP_guard rfl rfl fun Q1 Q2 h1 h2 => ?_; simp [*, twoB_some, twoV_some, ltFI, leFI, ltFN, leFN, grdF, yieldF, getA, opE, rdV, scE, constE]; (try (repeat' (first | refine And.intro ?_ ?_ | intro _))); all_goals (first | (exfalso; omega) | ((first | (exfalso; omega) | (refine h1.out ?_; clear h1 h2; clear Q1 Q2) | (refine h2.out ?_; clear h1 h2; clear Q1 Q2)); intro Q' hQ; simp [*]; (refine hQ.out _ ?_; clear hQ; clear Q')))))
    refine ⟨cascT ⟨lt, szs, rs⟩, [tape xs i], ?_, ⟨lt, szs, rs⟩, i, hi, ⟨hlt1.1, hlt1.2, by simp only; omega, HI.out.1, HI.out.2.2.2, HI.out.2.1⟩, rfl, rfl⟩
    simp [*]
  obtain ⟨sz, hsz⟩ : ∃ sz : Nat, (sz : Int) = 1 + nxV xs i 3 := ⟨(1 + nxV xs i 3).toNat, by omega⟩
  have hw0 : IntKind.i64.wrap (1 + nxV xs i 3) = sz := by rw [← hsz]; exact wrap_in (by omega) (by omega)
  have hs3 : 1 ≤ sz ∧ sz ≤ 3 := by omega
  clear hsz hr1
  have hq1 : (0 : Int) < q := by omega
  have hsl : szs.length ≤ 2 := by omega
  have hwq : IntKind.i64.wrap ((q : Int) - 1) = q - 1 := wrap_in (by omega) (by omega)
  have hb1 : (szs.length + 1) * 8 ≤ 140737488355328 := by omega
  have hb2 : szs.length + 1 ≤ 4611686018427387904 := by omega
  simp only [HA]
  repeat' (first | refine thenC_n ?_ | refine thenC_x ?_ | refine thenC_r ?_ | refine blockC_n ?_ | refine blockC_hit2 rfl ?_ | refine blockC_miss rfl ?_ | refine blockC_r ?_ | refine loopC_x ?_ | refine loopC_r ?_ | refine rangeC_x ?_ | refine rangeC_r ?_ | refine q_seq rfl ?_ | refine q_block rfl ?_ | (refine q_frz rfl rfl (by simp [*]; rfl) ?_) | (refine q_region rfl rfl rfl fun Q' hQ => ?_; simp [*]; (refine hQ.out _ ?_; clear hQ; clear Q')) | (refine q_if rfl fun Q1 Q2 h1 h2 => ?_; simp [*, twoB_some, twoV_some, ltFI, leFI, ltFN, leFN, guardF, yieldF, getA, opE, rdV, scE, constE]; (try (repeat' (first | refine And.intro ?_ ?_ | intro _))); all_goals (first | (exfalso; omega) | (refine h1.out ?_; clear h1 h2; clear Q1 Q2) | (refine h2.out ?_; clear h1 h2; clear Q1 Q2))) | refine q_exit rfl ?_ | refine q_ret rfl ?_ | refine q_skip rfl ?_ | refine q_label rfl ?_ | refine q_drawW rfl rfl rfl rfl ?_ | (refine q_drawW_nil rfl fun Q' hQ => ?_; simp [*]; (refine hQ.out _ ?_; clear hQ; clear Q')) | (refine q_drawW_op rfl rfl fun Q' hQ => ?_; simp [*]; (refine hQ.out _ ?_; clear hQ; clear Q')) | (refine q_drawW_guard rfl rfl fun Q1 Q2 h1 h2 => ?_; simp [*, twoB_some, twoV_some, ltFI, leFI, ltFN, leFN, grdF, yieldF, getA, opE, rdV, scE, constE]; (try (repeat' (first | refine And.intro ?_ ?_ | intro _))); all_goals (first | (exfalso; omega) | ((first | (exfalso; omega) | (refine h1.out ?_; clear h1 h2; clear Q1 Q2) | (refine h2.out ?_; clear h1 h2; clear Q1 Q2)); intro Q' hQ; simp [*]; (refine hQ.out _ ?_; clear hQ; clear Q')))) | refine q_regionW rfl rfl rfl ?_ | (refine regP_nil (by decide) ?_) | (refine regP_op rfl rfl fun Q' hQ => ?_; simp [*]; (refine hQ.out _ ?_; clear hQ; clear Q')) | (refine regP_guard rfl rfl fun Q1 Q2 h1 h2 => ?_; simp [*, twoB_some, twoV_some, ltFI, leFI, ltFN, leFN, grdF, yieldF, getA, opE, rdV, scE, constE]; (try (repeat' (first | refine And.intro ?_ ?_ | intro _))); all_goals (first | (exfalso; omega) | ((first | (exfalso; omega) | (refine h1.out ?_; clear h1 h2; clear Q1 Q2) | (refine h2.out ?_; clear h1 h2; clear Q1 Q2)); intro Q' hQ; simp [*]; (refine hQ.out _ ?_; clear hQ; clear Q')))))
  generalize hI : nxI xs i = I at *
  clear hn1 hw0 hI hi
  have HPC : ps.length ≤ 27 := Nat.le_trans HI.out.2.2.1.cnt (pow3_le (by omega))
  have HI2 : Hid (RowsOk lt (szs ++ [(sz : Int)]) rs) := ⟨rowsOk_size HI.out.2.1 _⟩
  -- B
  refine q_loop rfl rfl (n := ps.length) (fun q2 fr => ∃ (k i : Nat) (rs' : List CRow) (s2 s7 : Nat), (s2 = 0 ∨ s2 = 2) ∧ (s7 = 0 ∨ s7 = 1) ∧ k ≤ ps.length ∧ q2 = ps.length - k ∧ i ≤ xs.length ∧ Hid (RowsOk lt (szs ++ [(sz : Int)]) rs') ∧ rs'.length ≤ 40 * szs.length + k ∧ Hid (Ahead rs' ps k) ∧ fr = HB xs i lt 1 (szs ++ [(sz : Int)]) s2 rs' q sz s7 (nextP sz (ps.take k)) ps k) (by simp only [LFm]; omega) ?_ ?_
  · refine ⟨0, I, rs, s2, 1, hs2, .inr rfl, by omega, by omega, hl1, HI2, by have := HI.out.2.2.2; omega, ⟨ahead_first HI.out.2.1 HI.out.2.2.1⟩, ?_⟩
    simp [*, HB, nextP]
  as_aux_lemma =>
  clear hl1 hs1 hs2
  rintro q2 fr ⟨k, i, rs', s2, s7, hs2, hs7, hk, rfl, hi, HR, hrl, HAh, rfl⟩
  have hwk : IntKind.i64.wrap ((k : Int) + 1) = k + 1 := wrap_in (by omega) (by omega)
  simp only [HB]
  by_cases hkn : k < ps.length
  case neg =>
    have e : ps.take k = ps := List.take_of_length_le (by omega)
    rw [e]
    clear e
    repeat' (first | refine thenC_n ?_ | refine thenC_x ?_ | refine thenC_r ?_ | refine blockC_n ?_ | refine blockC_hit2 rfl ?_ | refine blockC_miss rfl ?_ | refine blockC_r ?_ | refine loopC_x ?_ | refine loopC_r ?_ | refine rangeC_x ?_ | refine rangeC_r ?_ | refine q_seq rfl ?_ | refine q_block rfl ?_ | (refine q_frz rfl rfl (by simp [*]; rfl) ?_) | (refine q_region rfl rfl rfl fun Q' hQ => ?_; simp [*]; (refine hQ.out _ ?_; clear hQ; clear Q')) | (refine q_if rfl fun Q1 Q2 h1 h2 => ?_; simp [*, twoB_some, twoV_some, ltFI, leFI, ltFN, leFN, guardF, yieldF, getA, opE, rdV, scE, constE]; (try (repeat' (first | refine And.intro ?_ ?_ | intro _))); all_goals (first | (exfalso; omega) | (refine h1.out ?_; clear h1 h2; clear Q1 Q2) | (refine h2.out ?_; clear h1 h2; clear Q1 Q2))) | refine q_exit rfl ?_ | refine q_ret rfl ?_ | refine q_skip rfl ?_ | refine q_label rfl ?_ | refine q_drawW rfl rfl rfl rfl ?_ | (refine q_drawW_nil rfl fun Q' hQ => ?_; simp [*]; (refine hQ.out _ ?_; clear hQ; clear Q')) | (refine q_drawW_op rfl rfl fun Q' hQ => ?_; simp [*]; (refine hQ.out _ ?_; clear hQ; clear Q')) | (refine q_drawW_guard rfl rfl fun Q1 Q2 h1 h2 => ?_; simp [*, twoB_some, twoV_some, ltFI, leFI, ltFN, leFN, grdF, yieldF, getA, opE, rdV, scE, constE]; (try (repeat' (first | refine And.intro ?_ ?_ | intro _))); all_goals (first | (exfalso; omega) | ((first | (exfalso; omega) | (refine h1.out ?_; clear h1 h2; clear Q1 Q2) | (refine h2.out ?_; clear h1 h2; clear Q1 Q2)); intro Q' hQ; simp [*]; (refine hQ.out _ ?_; clear hQ; clear Q')))) | refine q_regionW rfl rfl rfl ?_ | (refine regP_nil (by decide) ?_) | (refine regP_op rfl rfl fun Q' hQ => ?_; simp [*]; (refine hQ.out _ ?_; clear hQ; clear Q')) | (refine regP_guard rfl rfl fun Q1 Q2 h1 h2 => ?_; simp [*, twoB_some, twoV_some, ltFI, leFI, ltFN, leFN, grdF, yieldF, getA, opE, rdV, scE, constE]; (try (repeat' (first | refine And.intro ?_ ?_ | intro _))); all_goals (first | (exfalso; omega) | ((first | (exfalso; omega) | (refine h1.out ?_; clear h1 h2; clear Q1 Q2) | (refine h2.out ?_; clear h1 h2; clear Q1 Q2)); intro Q' hQ; simp [*]; (refine hQ.out _ ?_; clear hQ; clear Q')))))
    refine loopC_n (q - 1) (by omega) ⟨i, 1, szs ++ [(sz : Int)], s2, rs', s7, nextP sz ps, .inr rfl, hs2, hi, by simp; omega, ⟨?_, HR.out, pfxOk_next HI.out.2.2.1 sz hs3.2, by simp; omega⟩, ?_⟩
    · intro z hz
      rcases List.mem_append.1 hz with hz | hz
      · exact HI.out.1 z hz
      · have : z = sz := by simpa using hz
        omega
    · have e2 : ((q - 1 : Nat) : Int) = q - 1 := by omega
      simp [*, HA]
  have hn1 := c16 xs i 12 (by omega) (by omega) ⟨by omega, by omega⟩
  have hl1 := nxI_le xs i hi
  obtain ⟨p, hp⟩ : ∃ p, ps[k] = p := ⟨_, rfl⟩
  have HPL : Hid (p.length = szs.length) := ⟨by rw [← hp]; exact HI.out.2.2.1.len _ (List.getElem_mem _)⟩
  have hp2 : p.length ≤ 2 := by have := HPL.out; omega
  have HKN := Hid.mk hp

  have hpk : ps.take (k + 1) = ps.take k ++ [p] := by rw [List.take_add_one, List.getElem?_eq_getElem hkn, HKN.out]; rfl
  have hnx2 : (nextP sz (ps.take k)).length ≤ 100 := by
    rw [nextP_len]
    have h1 : (ps.take k).length ≤ 27 := by simp; omega
    have := Nat.mul_le_mul hs3.2 h1
    omega
  by_cases hmiss : nxV xs i 12 = 11
  case pos =>
    as_aux_lemma =>
    repeat' (first | refine thenC_n ?_ | refine thenC_x ?_ | refine thenC_r ?_ | refine blockC_n ?_ | refine blockC_hit2 rfl ?_ | refine blockC_miss rfl ?_ | refine blockC_r ?_ | refine loopC_x ?_ | refine loopC_r ?_ | refine rangeC_x ?_ | refine rangeC_r ?_ | refine q_seq rfl ?_ | refine q_block rfl ?_ | (refine q_frz rfl rfl (by simp [*]; rfl) ?_) | (refine q_region rfl rfl rfl fun Q' hQ => ?_; simp [*]; (refine hQ.out _ ?_; clear hQ; clear Q')) | (refine q_if rfl fun Q1 Q2 h1 h2 => ?_; simp [*, twoB_some, twoV_some, ltFI, leFI, ltFN, leFN, guardF, yieldF, getA, opE, rdV, scE, constE]; (try (repeat' (first | refine And.intro ?_ ?_ | intro _))); all_goals (first | (exfalso; omega) | (refine h1.out ?_; clear h1 h2; clear Q1 Q2) | (refine h2.out ?_; clear h1 h2; clear Q1 Q2))) | refine q_exit rfl ?_ | refine q_ret rfl ?_ | refine q_skip rfl ?_ | refine q_label rfl ?_ | refine q_drawW rfl rfl rfl rfl ?_ | (refine q_drawW_nil rfl fun Q' hQ => ?_; simp [*]; (refine hQ.out _ ?_; clear hQ; clear Q')) | (refine q_drawW_op rfl rfl fun Q' hQ => ?_; simp [*]; (refine hQ.out _ ?_; clear hQ; clear Q')) | (refine q_drawW_guard rfl rfl fun Q1 Q2 h1 h2 => ?_; simp [*, twoB_some, twoV_some, ltFI, leFI, ltFN, leFN, grdF, yieldF, getA, opE, rdV, scE, constE]; (try (repeat' (first | refine And.intro ?_ ?_ | intro _))); all_goals (first | (exfalso; omega) | ((first | (exfalso; omega) | (refine h1.out ?_; clear h1 h2; clear Q1 Q2) | (refine h2.out ?_; clear h1 h2; clear Q1 Q2)); intro Q' hQ; simp [*]; (refine hQ.out _ ?_; clear hQ; clear Q')))) | refine q_regionW rfl rfl rfl ?_ | (refine regP_nil (by decide) ?_) | (refine regP_op rfl rfl fun Q' hQ => ?_; simp [*]; (refine hQ.out _ ?_; clear hQ; clear Q')) | (refine regP_guard rfl rfl fun Q1 Q2 h1 h2 => ?_; simp [*, twoB_some, twoV_some, ltFI, leFI, ltFN, leFN, grdF, yieldF, getA, opE, rdV, scE, constE]; (try (repeat' (first | refine And.intro ?_ ?_ | intro _))); all_goals (first | (exfalso; omega) | ((first | (exfalso; omega) | (refine h1.out ?_; clear h1 h2; clear Q1 Q2) | (refine h2.out ?_; clear h1 h2; clear Q1 Q2)); intro Q' hQ; simp [*]; (refine hQ.out _ ?_; clear hQ; clear Q')))))

    -- the next prefixes: E
    refine q_loop rfl rfl (n := sz) (fun qe fr => ∃ (s s7 : Nat), (s7 = 0 ∨ s7 = 1) ∧ s ≤ sz ∧ qe = sz - s ∧ fr = HE xs (nxI xs i) lt 1 (szs ++ [(sz : Int)]) s2 rs' q sz s7 (nextP sz (ps.take k) ++ nextOf s p) p s ps k) (by simp only [LFm]; omega) ?_ ?_
    · refine ⟨0, s7, hs7, Nat.zero_le _, rfl, ?_⟩
      have e0 : nextP sz (ps.take k) ++ nextOf 0 p = nextP sz (ps.take k) := by simp [nextOf]
      rw [e0]
      clear e0
      simp [*, HE, rowCells]
    · as_aux_lemma =>
      clear hs7
      rintro qe fr ⟨s, s7, hs7, hs, rfl, rfl⟩
      have hw1 : IntKind.i64.wrap ((s : Int) + 1) = s + 1 := nw1 hs hs3.2
      have HC := Hid.mk hnx2
      by_cases hlt : s < sz
      · have e1 : nextOf (s + 1) p = nextOf s p ++ [p ++ [(s : Int)]] := by simp [nextOf, List.range_succ]
        have hcl : (nextOf s p).length = s := by simp [nextOf]
        have hb1 : ((nextP sz (ps.take k)).length + s + 1) * 24 ≤ 140737488355328 := nb1 HC.out hlt hs3.2
        have hb2 : (nextP sz (ps.take k)).length + s + 1 ≤ 4611686018427387904 := nb2 HC.out hlt hs3.2
        have hb3 : (p.length + 1) * 8 ≤ 140737488355328 := nb3 hp2
        have hb4 : p.length + 1 ≤ 4611686018427387904 := nb4 hp2
        have hb5 : p.length * 8 ≤ 140737488355328 := nb5 hp2
        have hb6 : p.length ≤ 4611686018427387904 := nb6 hp2
        simp only [HE]
        repeat' (first | refine thenC_n ?_ | refine thenC_x ?_ | refine thenC_r ?_ | refine blockC_n ?_ | refine blockC_hit2 rfl ?_ | refine blockC_miss rfl ?_ | refine blockC_r ?_ | refine loopC_x ?_ | refine loopC_r ?_ | refine rangeC_x ?_ | refine rangeC_r ?_ | refine q_seq rfl ?_ | refine q_block rfl ?_ | (refine q_frz rfl rfl (by simp [*]; rfl) ?_) | (refine q_region rfl rfl rfl fun Q' hQ => ?_; simp [*]; (refine hQ.out _ ?_; clear hQ; clear Q')) | (refine q_if rfl fun Q1 Q2 h1 h2 => ?_; simp [*, twoB_some, twoV_some, ltFI, leFI, ltFN, leFN, guardF, yieldF, getA, opE, rdV, scE, constE]; (try (repeat' (first | refine And.intro ?_ ?_ | intro _))); all_goals (first | (exfalso; omega) | (refine h1.out ?_; clear h1 h2; clear Q1 Q2) | (refine h2.out ?_; clear h1 h2; clear Q1 Q2))) | refine q_exit rfl ?_ | refine q_ret rfl ?_ | refine q_skip rfl ?_ | refine q_label rfl ?_ | refine q_drawW rfl rfl rfl rfl ?_ | (refine q_drawW_nil rfl fun Q' hQ => ?_; simp [*]; (refine hQ.out _ ?_; clear hQ; clear Q')) | (refine q_drawW_op rfl rfl fun Q' hQ => ?_; simp [*]; (refine hQ.out _ ?_; clear hQ; clear Q')) | (refine q_drawW_guard rfl rfl fun Q1 Q2 h1 h2 => ?_; simp [*, twoB_some, twoV_some, ltFI, leFI, ltFN, leFN, grdF, yieldF, getA, opE, rdV, scE, constE]; (try (repeat' (first | refine And.intro ?_ ?_ | intro _))); all_goals (first | (exfalso; omega) | ((first | (exfalso; omega) | (refine h1.out ?_; clear h1 h2; clear Q1 Q2) | (refine h2.out ?_; clear h1 h2; clear Q1 Q2)); intro Q' hQ; simp [*]; (refine hQ.out _ ?_; clear hQ; clear Q')))) | refine q_regionW rfl rfl rfl ?_ | (refine regP_nil (by decide) ?_) | (refine regP_op rfl rfl fun Q' hQ => ?_; simp [*]; (refine hQ.out _ ?_; clear hQ; clear Q')) | (refine regP_guard rfl rfl fun Q1 Q2 h1 h2 => ?_; simp [*, twoB_some, twoV_some, ltFI, leFI, ltFN, leFN, grdF, yieldF, getA, opE, rdV, scE, constE]; (try (repeat' (first | refine And.intro ?_ ?_ | intro _))); all_goals (first | (exfalso; omega) | ((first | (exfalso; omega) | (refine h1.out ?_; clear h1 h2; clear Q1 Q2) | (refine h2.out ?_; clear h1 h2; clear Q1 Q2)); intro Q' hQ; simp [*]; (refine hQ.out _ ?_; clear hQ; clear Q')))))
        refine loopC_n (sz - (s + 1)) (nb7 hlt) ⟨s + 1, 1, .inr rfl, hlt, rfl, ?_⟩
        rw [e1, ← List.append_assoc]
        simp [*, HE, rowCells]
        all_goals exact Nat.add_assoc _ _ _
      · have e : s = sz := Nat.le_antisymm hs (Nat.le_of_not_lt hlt)
        subst e
        have e1 : nextP s (ps.take (k + 1)) = nextP s (ps.take k) ++ nextOf s p := by rw [hpk, nextP, List.flatMap_append]; simp [nextP]
        rw [← e1]
        clear e1
        simp only [HE]
        repeat' (first | refine thenC_n ?_ | refine thenC_x ?_ | refine thenC_r ?_ | refine blockC_n ?_ | refine blockC_hit2 rfl ?_ | refine blockC_miss rfl ?_ | refine blockC_r ?_ | refine loopC_x ?_ | refine loopC_r ?_ | refine rangeC_x ?_ | refine rangeC_r ?_ | refine q_seq rfl ?_ | refine q_block rfl ?_ | (refine q_frz rfl rfl (by simp [*]; rfl) ?_) | (refine q_region rfl rfl rfl fun Q' hQ => ?_; simp [*]; (refine hQ.out _ ?_; clear hQ; clear Q')) | (refine q_if rfl fun Q1 Q2 h1 h2 => ?_; simp [*, twoB_some, twoV_some, ltFI, leFI, ltFN, leFN, guardF, yieldF, getA, opE, rdV, scE, constE]; (try (repeat' (first | refine And.intro ?_ ?_ | intro _))); all_goals (first | (exfalso; omega) | (refine h1.out ?_; clear h1 h2; clear Q1 Q2) | (refine h2.out ?_; clear h1 h2; clear Q1 Q2))) | refine q_exit rfl ?_ | refine q_ret rfl ?_ | refine q_skip rfl ?_ | refine q_label rfl ?_ | refine q_drawW rfl rfl rfl rfl ?_ | (refine q_drawW_nil rfl fun Q' hQ => ?_; simp [*]; (refine hQ.out _ ?_; clear hQ; clear Q')) | (refine q_drawW_op rfl rfl fun Q' hQ => ?_; simp [*]; (refine hQ.out _ ?_; clear hQ; clear Q')) | (refine q_drawW_guard rfl rfl fun Q1 Q2 h1 h2 => ?_; simp [*, twoB_some, twoV_some, ltFI, leFI, ltFN, leFN, grdF, yieldF, getA, opE, rdV, scE, constE]; (try (repeat' (first | refine And.intro ?_ ?_ | intro _))); all_goals (first | (exfalso; omega) | ((first | (exfalso; omega) | (refine h1.out ?_; clear h1 h2; clear Q1 Q2) | (refine h2.out ?_; clear h1 h2; clear Q1 Q2)); intro Q' hQ; simp [*]; (refine hQ.out _ ?_; clear hQ; clear Q')))) | refine q_regionW rfl rfl rfl ?_ | (refine regP_nil (by decide) ?_) | (refine regP_op rfl rfl fun Q' hQ => ?_; simp [*]; (refine hQ.out _ ?_; clear hQ; clear Q')) | (refine regP_guard rfl rfl fun Q1 Q2 h1 h2 => ?_; simp [*, twoB_some, twoV_some, ltFI, leFI, ltFN, leFN, grdF, yieldF, getA, opE, rdV, scE, constE]; (try (repeat' (first | refine And.intro ?_ ?_ | intro _))); all_goals (first | (exfalso; omega) | ((first | (exfalso; omega) | (refine h1.out ?_; clear h1 h2; clear Q1 Q2) | (refine h2.out ?_; clear h1 h2; clear Q1 Q2)); intro Q' hQ; simp [*]; (refine hQ.out _ ?_; clear hQ; clear Q')))))
        refine loopC_n (ps.length - (k + 1)) (nb7 hkn) ⟨k + 1, (nxI xs i), rs', s2, s7, hs2, hs7, hkn, rfl, hl1, HR, Nat.le_succ_of_le hrl, ⟨ahead_next HAh.out⟩, ?_⟩
        simp [*, HB]

  -- a row
  as_aux_lemma =>
  repeat' (first | refine thenC_n ?_ | refine thenC_x ?_ | refine thenC_r ?_ | refine blockC_n ?_ | refine blockC_hit2 rfl ?_ | refine blockC_miss rfl ?_ | refine blockC_r ?_ | refine loopC_x ?_ | refine loopC_r ?_ | refine rangeC_x ?_ | refine rangeC_r ?_ | refine q_seq rfl ?_ | refine q_block rfl ?_ | (refine q_frz rfl rfl (by simp [*]; rfl) ?_) | (refine q_region rfl rfl rfl fun Q' hQ => ?_; simp [*]; (refine hQ.out _ ?_; clear hQ; clear Q')) | (refine q_if rfl fun Q1 Q2 h1 h2 => ?_; simp [*, twoB_some, twoV_some, ltFI, leFI, ltFN, leFN, guardF, yieldF, getA, opE, rdV, scE, constE]; (try (repeat' (first | refine And.intro ?_ ?_ | intro _))); all_goals (first | (exfalso; omega) | (refine h1.out ?_; clear h1 h2; clear Q1 Q2) | (refine h2.out ?_; clear h1 h2; clear Q1 Q2))) | refine q_exit rfl ?_ | refine q_ret rfl ?_ | refine q_skip rfl ?_ | refine q_label rfl ?_ | refine q_drawW rfl rfl rfl rfl ?_ | (refine q_drawW_nil rfl fun Q' hQ => ?_; simp [*]; (refine hQ.out _ ?_; clear hQ; clear Q')) | (refine q_drawW_op rfl rfl fun Q' hQ => ?_; simp [*]; (refine hQ.out _ ?_; clear hQ; clear Q')) | (refine q_drawW_guard rfl rfl fun Q1 Q2 h1 h2 => ?_; simp [*, twoB_some, twoV_some, ltFI, leFI, ltFN, leFN, grdF, yieldF, getA, opE, rdV, scE, constE]; (try (repeat' (first | refine And.intro ?_ ?_ | intro _))); all_goals (first | (exfalso; omega) | ((first | (exfalso; omega) | (refine h1.out ?_; clear h1 h2; clear Q1 Q2) | (refine h2.out ?_; clear h1 h2; clear Q1 Q2)); intro Q' hQ; simp [*]; (refine hQ.out _ ?_; clear hQ; clear Q')))) | refine q_regionW rfl rfl rfl ?_ | (refine regP_nil (by decide) ?_) | (refine regP_op rfl rfl fun Q' hQ => ?_; simp [*]; (refine hQ.out _ ?_; clear hQ; clear Q')) | (refine regP_guard rfl rfl fun Q1 Q2 h1 h2 => ?_; simp [*, twoB_some, twoV_some, ltFI, leFI, ltFN, leFN, grdF, yieldF, getA, opE, rdV, scE, constE]; (try (repeat' (first | refine And.intro ?_ ?_ | intro _))); all_goals (first | (exfalso; omega) | ((first | (exfalso; omega) | (refine h1.out ?_; clear h1 h2; clear Q1 Q2) | (refine h2.out ?_; clear h1 h2; clear Q1 Q2)); intro Q' hQ; simp [*]; (refine hQ.out _ ?_; clear hQ; clear Q')))))
  generalize hI : nxI xs i = I at *
  clear hn1 hmiss hI hi
  obtain ⟨ltn, hltn⟩ : ∃ l : Nat, (l : Int) = lt := ⟨lt.toNat, by omega⟩
  -- C
  refine q_loop rfl rfl (n := ltn) (fun q3 fr => ∃ (i : Nat) (ms : List (List Int)) (s10 : Nat), (s10 = 0 ∨ s10 = 1) ∧ ms.length ≤ ltn ∧ q3 = ltn - ms.length ∧ i ≤ xs.length ∧ Hid (∀ m ∈ ms, mapB sz m = true) ∧ fr = HC xs i lt 1 (szs ++ [(sz : Int)]) s2 rs' q sz s7 (nextP sz (ps.take k)) p s10 ms ps k) (by simp only [LFm]; omega) ?_ ?_
  · refine ⟨I, [], 0, .inl rfl, by simp, by simp, hl1, ⟨by simp⟩, ?_⟩
    simp [*, HC]
  as_aux_lemma =>
  clear hl1
  rintro q3 fr ⟨i, ms, s10, hs10, hml, rfl, hi, HM, rfl⟩
  have hwm : IntKind.i64.wrap ((ms.length : Int) + 1) = ms.length + 1 := wrap_in (by omega) (by omega)
  have hb3 : (ms.length + 1) * 24 ≤ 140737488355328 := by omega
  have hb4 : ms.length + 1 ≤ 4611686018427387904 := by omega
  have hb5 : (rs'.length + 1) * 48 ≤ 140737488355328 := by omega
  have hb6 : rs'.length + 1 ≤ 4611686018427387904 := by omega
  simp only [HC]
  by_cases hmlt : ms.length < ltn
  case neg =>
    have hge : ¬ (ms.length : Int) < lt := by omega
    have hrow2 : Hid (RowsOk lt (szs ++ [(sz : Int)]) (rs' ++ [⟨p, ms⟩])) := ⟨rowsOk_snoc HR.out HPL.out (by rw [← HKN.out]; exact HI.out.2.2.1.inn _ (List.getElem_mem _)) (by omega) HM.out (fun r hr => by rw [← HKN.out]; exact HAh.out r hr k hkn (Nat.le_refl _))⟩
    as_aux_lemma =>
    repeat' (first | refine thenC_n ?_ | refine thenC_x ?_ | refine thenC_r ?_ | refine blockC_n ?_ | refine blockC_hit2 rfl ?_ | refine blockC_miss rfl ?_ | refine blockC_r ?_ | refine loopC_x ?_ | refine loopC_r ?_ | refine rangeC_x ?_ | refine rangeC_r ?_ | refine q_seq rfl ?_ | refine q_block rfl ?_ | (refine q_frz rfl rfl (by simp [*]; rfl) ?_) | (refine q_region rfl rfl rfl fun Q' hQ => ?_; simp [*]; (refine hQ.out _ ?_; clear hQ; clear Q')) | (refine q_if rfl fun Q1 Q2 h1 h2 => ?_; simp [*, twoB_some, twoV_some, ltFI, leFI, ltFN, leFN, guardF, yieldF, getA, opE, rdV, scE, constE]; (try (repeat' (first | refine And.intro ?_ ?_ | intro _))); all_goals (first | (exfalso; omega) | (refine h1.out ?_; clear h1 h2; clear Q1 Q2) | (refine h2.out ?_; clear h1 h2; clear Q1 Q2))) | refine q_exit rfl ?_ | refine q_ret rfl ?_ | refine q_skip rfl ?_ | refine q_label rfl ?_ | refine q_drawW rfl rfl rfl rfl ?_ | (refine q_drawW_nil rfl fun Q' hQ => ?_; simp [*]; (refine hQ.out _ ?_; clear hQ; clear Q')) | (refine q_drawW_op rfl rfl fun Q' hQ => ?_; simp [*]; (refine hQ.out _ ?_; clear hQ; clear Q')) | (refine q_drawW_guard rfl rfl fun Q1 Q2 h1 h2 => ?_; simp [*, twoB_some, twoV_some, ltFI, leFI, ltFN, leFN, grdF, yieldF, getA, opE, rdV, scE, constE]; (try (repeat' (first | refine And.intro ?_ ?_ | intro _))); all_goals (first | (exfalso; omega) | ((first | (exfalso; omega) | (refine h1.out ?_; clear h1 h2; clear Q1 Q2) | (refine h2.out ?_; clear h1 h2; clear Q1 Q2)); intro Q' hQ; simp [*]; (refine hQ.out _ ?_; clear hQ; clear Q')))) | refine q_regionW rfl rfl rfl ?_ | (refine regP_nil (by decide) ?_) | (refine regP_op rfl rfl fun Q' hQ => ?_; simp [*]; (refine hQ.out _ ?_; clear hQ; clear Q')) | (refine regP_guard rfl rfl fun Q1 Q2 h1 h2 => ?_; simp [*, twoB_some, twoV_some, ltFI, leFI, ltFN, leFN, grdF, yieldF, getA, opE, rdV, scE, constE]; (try (repeat' (first | refine And.intro ?_ ?_ | intro _))); all_goals (first | (exfalso; omega) | ((first | (exfalso; omega) | (refine h1.out ?_; clear h1 h2; clear Q1 Q2) | (refine h2.out ?_; clear h1 h2; clear Q1 Q2)); intro Q' hQ; simp [*]; (refine hQ.out _ ?_; clear hQ; clear Q')))))

    -- the next prefixes: E
    refine q_loop rfl rfl (n := sz) (fun qe fr => ∃ (s s7 : Nat), (s7 = 0 ∨ s7 = 1) ∧ s ≤ sz ∧ qe = sz - s ∧ fr = HE xs i lt 1 (szs ++ [(sz : Int)]) 2 (rs' ++ [⟨p, ms⟩]) q sz s7 (nextP sz (ps.take k) ++ nextOf s p) p s ps k) (by simp only [LFm]; omega) ?_ ?_
    · refine ⟨0, s7, hs7, Nat.zero_le _, rfl, ?_⟩
      have e0 : nextP sz (ps.take k) ++ nextOf 0 p = nextP sz (ps.take k) := by simp [nextOf]
      rw [e0]
      clear e0
      simp [*, HE, rowCells]
    · as_aux_lemma =>
      clear hs7
      rintro qe fr ⟨s, s7, hs7, hs, rfl, rfl⟩
      have hw1 : IntKind.i64.wrap ((s : Int) + 1) = s + 1 := nw1 hs hs3.2
      have HC := Hid.mk hnx2
      by_cases hlt : s < sz
      · have e1 : nextOf (s + 1) p = nextOf s p ++ [p ++ [(s : Int)]] := by simp [nextOf, List.range_succ]
        have hcl : (nextOf s p).length = s := by simp [nextOf]
        have hb1 : ((nextP sz (ps.take k)).length + s + 1) * 24 ≤ 140737488355328 := nb1 HC.out hlt hs3.2
        have hb2 : (nextP sz (ps.take k)).length + s + 1 ≤ 4611686018427387904 := nb2 HC.out hlt hs3.2
        have hb3 : (p.length + 1) * 8 ≤ 140737488355328 := nb3 hp2
        have hb4 : p.length + 1 ≤ 4611686018427387904 := nb4 hp2
        have hb5 : p.length * 8 ≤ 140737488355328 := nb5 hp2
        have hb6 : p.length ≤ 4611686018427387904 := nb6 hp2
        simp only [HE]
        repeat' (first | refine thenC_n ?_ | refine thenC_x ?_ | refine thenC_r ?_ | refine blockC_n ?_ | refine blockC_hit2 rfl ?_ | refine blockC_miss rfl ?_ | refine blockC_r ?_ | refine loopC_x ?_ | refine loopC_r ?_ | refine rangeC_x ?_ | refine rangeC_r ?_ | refine q_seq rfl ?_ | refine q_block rfl ?_ | (refine q_frz rfl rfl (by simp [*]; rfl) ?_) | (refine q_region rfl rfl rfl fun Q' hQ => ?_; simp [*]; (refine hQ.out _ ?_; clear hQ; clear Q')) | (refine q_if rfl fun Q1 Q2 h1 h2 => ?_; simp [*, twoB_some, twoV_some, ltFI, leFI, ltFN, leFN, guardF, yieldF, getA, opE, rdV, scE, constE]; (try (repeat' (first | refine And.intro ?_ ?_ | intro _))); all_goals (first | (exfalso; omega) | (refine h1.out ?_; clear h1 h2; clear Q1 Q2) | (refine h2.out ?_; clear h1 h2; clear Q1 Q2))) | refine q_exit rfl ?_ | refine q_ret rfl ?_ | refine q_skip rfl ?_ | refine q_label rfl ?_ | refine q_drawW rfl rfl rfl rfl ?_ | (refine q_drawW_nil rfl fun Q' hQ => ?_; simp [*]; (refine hQ.out _ ?_; clear hQ; clear Q')) | (refine q_drawW_op rfl rfl fun Q' hQ => ?_; simp [*]; (refine hQ.out _ ?_; clear hQ; clear Q')) | (refine q_drawW_guard rfl rfl fun Q1 Q2 h1 h2 => ?_; simp [*, twoB_some, twoV_some, ltFI, leFI, ltFN, leFN, grdF, yieldF, getA, opE, rdV, scE, constE]; (try (repeat' (first | refine And.intro ?_ ?_ | intro _))); all_goals (first | (exfalso; omega) | ((first | (exfalso; omega) | (refine h1.out ?_; clear h1 h2; clear Q1 Q2) | (refine h2.out ?_; clear h1 h2; clear Q1 Q2)); intro Q' hQ; simp [*]; (refine hQ.out _ ?_; clear hQ; clear Q')))) | refine q_regionW rfl rfl rfl ?_ | (refine regP_nil (by decide) ?_) | (refine regP_op rfl rfl fun Q' hQ => ?_; simp [*]; (refine hQ.out _ ?_; clear hQ; clear Q')) | (refine regP_guard rfl rfl fun Q1 Q2 h1 h2 => ?_; simp [*, twoB_some, twoV_some, ltFI, leFI, ltFN, leFN, grdF, yieldF, getA, opE, rdV, scE, constE]; (try (repeat' (first | refine And.intro ?_ ?_ | intro _))); all_goals (first | (exfalso; omega) | ((first | (exfalso; omega) | (refine h1.out ?_; clear h1 h2; clear Q1 Q2) | (refine h2.out ?_; clear h1 h2; clear Q1 Q2)); intro Q' hQ; simp [*]; (refine hQ.out _ ?_; clear hQ; clear Q')))))
        refine loopC_n (sz - (s + 1)) (nb7 hlt) ⟨s + 1, 1, .inr rfl, hlt, rfl, ?_⟩
        rw [e1, ← List.append_assoc]
        simp [*, HE, rowCells]
        all_goals exact Nat.add_assoc _ _ _
      · have e : s = sz := Nat.le_antisymm hs (Nat.le_of_not_lt hlt)
        subst e
        have e1 : nextP s (ps.take (k + 1)) = nextP s (ps.take k) ++ nextOf s p := by rw [hpk, nextP, List.flatMap_append]; simp [nextP]
        rw [← e1]
        clear e1
        simp only [HE]
        repeat' (first | refine thenC_n ?_ | refine thenC_x ?_ | refine thenC_r ?_ | refine blockC_n ?_ | refine blockC_hit2 rfl ?_ | refine blockC_miss rfl ?_ | refine blockC_r ?_ | refine loopC_x ?_ | refine loopC_r ?_ | refine rangeC_x ?_ | refine rangeC_r ?_ | refine q_seq rfl ?_ | refine q_block rfl ?_ | (refine q_frz rfl rfl (by simp [*]; rfl) ?_) | (refine q_region rfl rfl rfl fun Q' hQ => ?_; simp [*]; (refine hQ.out _ ?_; clear hQ; clear Q')) | (refine q_if rfl fun Q1 Q2 h1 h2 => ?_; simp [*, twoB_some, twoV_some, ltFI, leFI, ltFN, leFN, guardF, yieldF, getA, opE, rdV, scE, constE]; (try (repeat' (first | refine And.intro ?_ ?_ | intro _))); all_goals (first | (exfalso; omega) | (refine h1.out ?_; clear h1 h2; clear Q1 Q2) | (refine h2.out ?_; clear h1 h2; clear Q1 Q2))) | refine q_exit rfl ?_ | refine q_ret rfl ?_ | refine q_skip rfl ?_ | refine q_label rfl ?_ | refine q_drawW rfl rfl rfl rfl ?_ | (refine q_drawW_nil rfl fun Q' hQ => ?_; simp [*]; (refine hQ.out _ ?_; clear hQ; clear Q')) | (refine q_drawW_op rfl rfl fun Q' hQ => ?_; simp [*]; (refine hQ.out _ ?_; clear hQ; clear Q')) | (refine q_drawW_guard rfl rfl fun Q1 Q2 h1 h2 => ?_; simp [*, twoB_some, twoV_some, ltFI, leFI, ltFN, leFN, grdF, yieldF, getA, opE, rdV, scE, constE]; (try (repeat' (first | refine And.intro ?_ ?_ | intro _))); all_goals (first | (exfalso; omega) | ((first | (exfalso; omega) | (refine h1.out ?_; clear h1 h2; clear Q1 Q2) | (refine h2.out ?_; clear h1 h2; clear Q1 Q2)); intro Q' hQ; simp [*]; (refine hQ.out _ ?_; clear hQ; clear Q')))) | refine q_regionW rfl rfl rfl ?_ | (refine regP_nil (by decide) ?_) | (refine regP_op rfl rfl fun Q' hQ => ?_; simp [*]; (refine hQ.out _ ?_; clear hQ; clear Q')) | (refine regP_guard rfl rfl fun Q1 Q2 h1 h2 => ?_; simp [*, twoB_some, twoV_some, ltFI, leFI, ltFN, leFN, grdF, yieldF, getA, opE, rdV, scE, constE]; (try (repeat' (first | refine And.intro ?_ ?_ | intro _))); all_goals (first | (exfalso; omega) | ((first | (exfalso; omega) | (refine h1.out ?_; clear h1 h2; clear Q1 Q2) | (refine h2.out ?_; clear h1 h2; clear Q1 Q2)); intro Q' hQ; simp [*]; (refine hQ.out _ ?_; clear hQ; clear Q')))))
        refine loopC_n (ps.length - (k + 1)) (nb7 hkn) ⟨k + 1, i, (rs' ++ [⟨p, ms⟩]), 2, s7, .inr rfl, hs7, hkn, rfl, hi, hrow2, by rw [List.length_append]; exact Nat.succ_le_succ hrl, ⟨by have := ahead_snoc (ms := ms) HI.out.2.2.1 hkn HAh.out; rw [HKN.out] at this; exact this⟩, ?_⟩
        simp [*, HB]

  have hge : (ms.length : Int) < lt := by omega
  have hn3 := c16 xs i 3 (by omega) (by omega) ⟨by omega, by omega⟩
  have hr3 := nxV_range xs i 3 (by omega)
  have hl3 := nxI_le xs i hi
  have hn4 := c16 xs (nxI xs i) sz (by omega) (by omega) ⟨by omega, by omega⟩
  have hr4 := nxV_range xs (nxI xs i) sz (by omega)
  have hl4 := nxI_le xs (nxI xs i) hl3
  repeat' (first | refine thenC_n ?_ | refine thenC_x ?_ | refine thenC_r ?_ | refine blockC_n ?_ | refine blockC_hit2 rfl ?_ | refine blockC_miss rfl ?_ | refine blockC_r ?_ | refine loopC_x ?_ | refine loopC_r ?_ | refine rangeC_x ?_ | refine rangeC_r ?_ | refine q_seq rfl ?_ | refine q_block rfl ?_ | (refine q_frz rfl rfl (by simp [*]; rfl) ?_) | (refine q_region rfl rfl rfl fun Q' hQ => ?_; simp [*]; (refine hQ.out _ ?_; clear hQ; clear Q')) | (refine q_if rfl fun Q1 Q2 h1 h2 => ?_; simp [*, twoB_some, twoV_some, ltFI, leFI, ltFN, leFN, guardF, yieldF, getA, opE, rdV, scE, constE]; (try (repeat' (first | refine And.intro ?_ ?_ | intro _))); all_goals (first | (exfalso; omega) | (refine h1.out ?_; clear h1 h2; clear Q1 Q2) | (refine h2.out ?_; clear h1 h2; clear Q1 Q2))) | refine q_exit rfl ?_ | refine q_ret rfl ?_ | refine q_skip rfl ?_ | refine q_label rfl ?_ | refine q_drawW rfl rfl rfl rfl ?_ | (refine q_drawW_nil rfl fun Q' hQ => ?_; simp [*]; (refine hQ.out _ ?_; clear hQ; clear Q')) | (refine q_drawW_op rfl rfl fun Q' hQ => ?_; simp [*]; (refine hQ.out _ ?_; clear hQ; clear Q')) | (refine q_drawW_guard rfl rfl fun Q1 Q2 h1 h2 => ?_; simp [*, twoB_some, twoV_some, ltFI, leFI, ltFN, leFN, grdF, yieldF, getA, opE, rdV, scE, constE]; (try (repeat' (first | refine And.intro ?_ ?_ | intro _))); all_goals (first | (exfalso; omega) | ((first | (exfalso; omega) | (refine h1.out ?_; clear h1 h2; clear Q1 Q2) | (refine h2.out ?_; clear h1 h2; clear Q1 Q2)); intro Q' hQ; simp [*]; (refine hQ.out _ ?_; clear hQ; clear Q')))) | refine q_regionW rfl rfl rfl ?_ | (refine regP_nil (by decide) ?_) | (refine regP_op rfl rfl fun Q' hQ => ?_; simp [*]; (refine hQ.out _ ?_; clear hQ; clear Q')) | (refine regP_guard rfl rfl fun Q1 Q2 h1 h2 => ?_; simp [*, twoB_some, twoV_some, ltFI, leFI, ltFN, leFN, grdF, yieldF, getA, opE, rdV, scE, constE]; (try (repeat' (first | refine And.intro ?_ ?_ | intro _))); all_goals (first | (exfalso; omega) | ((first | (exfalso; omega) | (refine h1.out ?_; clear h1 h2; clear Q1 Q2) | (refine h2.out ?_; clear h1 h2; clear Q1 Q2)); intro Q' hQ; simp [*]; (refine hQ.out _ ?_; clear hQ; clear Q')))))
  generalize hI : nxI xs (nxI xs i) = I at *
  generalize hKD : nxV xs i 3 = kd at *
  generalize hKV : nxV xs (nxI xs i) sz = kv at *
  clear hn3 hn4 hl3 hI hi hKD hKV
  -- D
  refine q_loop rfl rfl (n := sz) (fun q4 fr => ∃ (i : Nat) (m : List Int) (s12 : Nat), s12 = 1 ∧ m.length ≤ sz ∧ q4 = sz - m.length ∧ i ≤ xs.length ∧ Hid (∀ e ∈ m, 0 ≤ e ∧ e < sz) ∧ fr = HD xs i lt 1 (szs ++ [(sz : Int)]) s2 rs' q sz s7 (nextP sz (ps.take k)) p s10 ms s12 m kd kv ps k) (by simp only [LFm]; omega) ?_ ?_
  · refine ⟨I, [], 1, rfl, by simp, by simp, hl4, ⟨by simp⟩, ?_⟩
    simp [*, HD]
  as_aux_lemma =>
  clear hl4
  rintro q4 fr ⟨i, m, s12, rfl, hmm, rfl, hi, HMM, rfl⟩
  have hwa : IntKind.i64.wrap ((m.length : Int) + 1) = m.length + 1 := wrap_in (by omega) (by omega)
  have hb7 : (m.length + 1) * 8 ≤ 140737488355328 := by omega
  have hb8 : m.length + 1 ≤ 4611686018427387904 := by omega
  simp only [HD]
  by_cases hdl : m.length < sz
  case neg =>
    repeat' (first | refine thenC_n ?_ | refine thenC_x ?_ | refine thenC_r ?_ | refine blockC_n ?_ | refine blockC_hit2 rfl ?_ | refine blockC_miss rfl ?_ | refine blockC_r ?_ | refine loopC_x ?_ | refine loopC_r ?_ | refine rangeC_x ?_ | refine rangeC_r ?_ | refine q_seq rfl ?_ | refine q_block rfl ?_ | (refine q_frz rfl rfl (by simp [*]; rfl) ?_) | (refine q_region rfl rfl rfl fun Q' hQ => ?_; simp [*]; (refine hQ.out _ ?_; clear hQ; clear Q')) | (refine q_if rfl fun Q1 Q2 h1 h2 => ?_; simp [*, twoB_some, twoV_some, ltFI, leFI, ltFN, leFN, guardF, yieldF, getA, opE, rdV, scE, constE]; (try (repeat' (first | refine And.intro ?_ ?_ | intro _))); all_goals (first | (exfalso; omega) | (refine h1.out ?_; clear h1 h2; clear Q1 Q2) | (refine h2.out ?_; clear h1 h2; clear Q1 Q2))) | refine q_exit rfl ?_ | refine q_ret rfl ?_ | refine q_skip rfl ?_ | refine q_label rfl ?_ | refine q_drawW rfl rfl rfl rfl ?_ | (refine q_drawW_nil rfl fun Q' hQ => ?_; simp [*]; (refine hQ.out _ ?_; clear hQ; clear Q')) | (refine q_drawW_op rfl rfl fun Q' hQ => ?_; simp [*]; (refine hQ.out _ ?_; clear hQ; clear Q')) | (refine q_drawW_guard rfl rfl fun Q1 Q2 h1 h2 => ?_; simp [*, twoB_some, twoV_some, ltFI, leFI, ltFN, leFN, grdF, yieldF, getA, opE, rdV, scE, constE]; (try (repeat' (first | refine And.intro ?_ ?_ | intro _))); all_goals (first | (exfalso; omega) | ((first | (exfalso; omega) | (refine h1.out ?_; clear h1 h2; clear Q1 Q2) | (refine h2.out ?_; clear h1 h2; clear Q1 Q2)); intro Q' hQ; simp [*]; (refine hQ.out _ ?_; clear hQ; clear Q')))) | refine q_regionW rfl rfl rfl ?_ | (refine regP_nil (by decide) ?_) | (refine regP_op rfl rfl fun Q' hQ => ?_; simp [*]; (refine hQ.out _ ?_; clear hQ; clear Q')) | (refine regP_guard rfl rfl fun Q1 Q2 h1 h2 => ?_; simp [*, twoB_some, twoV_some, ltFI, leFI, ltFN, leFN, grdF, yieldF, getA, opE, rdV, scE, constE]; (try (repeat' (first | refine And.intro ?_ ?_ | intro _))); all_goals (first | (exfalso; omega) | ((first | (exfalso; omega) | (refine h1.out ?_; clear h1 h2; clear Q1 Q2) | (refine h2.out ?_; clear h1 h2; clear Q1 Q2)); intro Q' hQ; simp [*]; (refine hQ.out _ ?_; clear hQ; clear Q')))))
    refine loopC_n (ltn - (ms.length + 1)) (by omega) ⟨i, ms ++ [m], 1, .inr rfl, by simp; omega, by simp, hi, ⟨?_⟩, ?_⟩
    · intro e he
      rcases List.mem_append.1 he with he | he
      · exact HM.out e he
      · obtain rfl : e = m := by simpa using he
        simp only [mapB, Bool.and_eq_true, decide_eq_true_eq, List.all_eq_true]
        exact ⟨by omega, HMM.out⟩
    · simp [*, HC]
  have snoc : ∀ v : Int, 0 ≤ v → v < sz → Hid (∀ e ∈ m ++ [v], 0 ≤ e ∧ e < (sz : Int)) := fun v v1 v2 => ⟨fun e he => by
    rcases List.mem_append.1 he with he | he
    · exact HMM.out e he
    · obtain rfl : e = v := by simpa using he
      exact ⟨v1, v2⟩⟩
  have hwk2 : IntKind.i64.wrap ((m.length : Int) + kv) = m.length + kv := wrap_in (by omega) (by omega)
  by_cases hk0 : kd = 0
  · have hz0 : ¬ sz = 0 := by omega
    have ht1 : 0 ≤ ((m.length : Int) + kv).tmod sz := Int.tmod_nonneg _ (by omega)
    have ht2 : ((m.length : Int) + kv).tmod sz < sz := Int.tmod_lt_of_pos _ (by omega)
    have hwt : IntKind.i64.wrap (((m.length : Int) + kv).tmod sz) = ((m.length : Int) + kv).tmod sz := wrap_in (by omega) (by omega)
    have SN := Hid.mk (snoc _ ht1 ht2)
    clear snoc
    repeat' (first | refine thenC_n ?_ | refine thenC_x ?_ | refine thenC_r ?_ | refine blockC_n ?_ | refine blockC_hit2 rfl ?_ | refine blockC_miss rfl ?_ | refine blockC_r ?_ | refine loopC_x ?_ | refine loopC_r ?_ | refine rangeC_x ?_ | refine rangeC_r ?_ | refine q_seq rfl ?_ | refine q_block rfl ?_ | (refine q_frz rfl rfl (by simp [*]; rfl) ?_) | (refine q_region rfl rfl rfl fun Q' hQ => ?_; simp [*]; (refine hQ.out _ ?_; clear hQ; clear Q')) | (refine q_if rfl fun Q1 Q2 h1 h2 => ?_; simp [*, twoB_some, twoV_some, ltFI, leFI, ltFN, leFN, guardF, yieldF, getA, opE, rdV, scE, constE]; (try (repeat' (first | refine And.intro ?_ ?_ | intro _))); all_goals (first | (exfalso; omega) | (refine h1.out ?_; clear h1 h2; clear Q1 Q2) | (refine h2.out ?_; clear h1 h2; clear Q1 Q2))) | refine q_exit rfl ?_ | refine q_ret rfl ?_ | refine q_skip rfl ?_ | refine q_label rfl ?_ | refine q_drawW rfl rfl rfl rfl ?_ | (refine q_drawW_nil rfl fun Q' hQ => ?_; simp [*]; (refine hQ.out _ ?_; clear hQ; clear Q')) | (refine q_drawW_op rfl rfl fun Q' hQ => ?_; simp [*]; (refine hQ.out _ ?_; clear hQ; clear Q')) | (refine q_drawW_guard rfl rfl fun Q1 Q2 h1 h2 => ?_; simp [*, twoB_some, twoV_some, ltFI, leFI, ltFN, leFN, grdF, yieldF, getA, opE, rdV, scE, constE]; (try (repeat' (first | refine And.intro ?_ ?_ | intro _))); all_goals (first | (exfalso; omega) | ((first | (exfalso; omega) | (refine h1.out ?_; clear h1 h2; clear Q1 Q2) | (refine h2.out ?_; clear h1 h2; clear Q1 Q2)); intro Q' hQ; simp [*]; (refine hQ.out _ ?_; clear hQ; clear Q')))) | refine q_regionW rfl rfl rfl ?_ | (refine regP_nil (by decide) ?_) | (refine regP_op rfl rfl fun Q' hQ => ?_; simp [*]; (refine hQ.out _ ?_; clear hQ; clear Q')) | (refine regP_guard rfl rfl fun Q1 Q2 h1 h2 => ?_; simp [*, twoB_some, twoV_some, ltFI, leFI, ltFN, leFN, grdF, yieldF, getA, opE, rdV, scE, constE]; (try (repeat' (first | refine And.intro ?_ ?_ | intro _))); all_goals (first | (exfalso; omega) | ((first | (exfalso; omega) | (refine h1.out ?_; clear h1 h2; clear Q1 Q2) | (refine h2.out ?_; clear h1 h2; clear Q1 Q2)); intro Q' hQ; simp [*]; (refine hQ.out _ ?_; clear hQ; clear Q')))))
    refine loopC_n (sz - (m.length + 1)) (by omega) ⟨i, m ++ [((m.length : Int) + kv).tmod sz], 1, rfl, by simp; omega, by simp, hi, SN.out, ?_⟩
    simp [*, HD]
  by_cases hk1 : kd = 1
  · have SN := Hid.mk (snoc kv hr4.1 hr4.2)
    clear snoc
    repeat' (first | refine thenC_n ?_ | refine thenC_x ?_ | refine thenC_r ?_ | refine blockC_n ?_ | refine blockC_hit2 rfl ?_ | refine blockC_miss rfl ?_ | refine blockC_r ?_ | refine loopC_x ?_ | refine loopC_r ?_ | refine rangeC_x ?_ | refine rangeC_r ?_ | refine q_seq rfl ?_ | refine q_block rfl ?_ | (refine q_frz rfl rfl (by simp [*]; rfl) ?_) | (refine q_region rfl rfl rfl fun Q' hQ => ?_; simp [*]; (refine hQ.out _ ?_; clear hQ; clear Q')) | (refine q_if rfl fun Q1 Q2 h1 h2 => ?_; simp [*, twoB_some, twoV_some, ltFI, leFI, ltFN, leFN, guardF, yieldF, getA, opE, rdV, scE, constE]; (try (repeat' (first | refine And.intro ?_ ?_ | intro _))); all_goals (first | (exfalso; omega) | (refine h1.out ?_; clear h1 h2; clear Q1 Q2) | (refine h2.out ?_; clear h1 h2; clear Q1 Q2))) | refine q_exit rfl ?_ | refine q_ret rfl ?_ | refine q_skip rfl ?_ | refine q_label rfl ?_ | refine q_drawW rfl rfl rfl rfl ?_ | (refine q_drawW_nil rfl fun Q' hQ => ?_; simp [*]; (refine hQ.out _ ?_; clear hQ; clear Q')) | (refine q_drawW_op rfl rfl fun Q' hQ => ?_; simp [*]; (refine hQ.out _ ?_; clear hQ; clear Q')) | (refine q_drawW_guard rfl rfl fun Q1 Q2 h1 h2 => ?_; simp [*, twoB_some, twoV_some, ltFI, leFI, ltFN, leFN, grdF, yieldF, getA, opE, rdV, scE, constE]; (try (repeat' (first | refine And.intro ?_ ?_ | intro _))); all_goals (first | (exfalso; omega) | ((first | (exfalso; omega) | (refine h1.out ?_; clear h1 h2; clear Q1 Q2) | (refine h2.out ?_; clear h1 h2; clear Q1 Q2)); intro Q' hQ; simp [*]; (refine hQ.out _ ?_; clear hQ; clear Q')))) | refine q_regionW rfl rfl rfl ?_ | (refine regP_nil (by decide) ?_) | (refine regP_op rfl rfl fun Q' hQ => ?_; simp [*]; (refine hQ.out _ ?_; clear hQ; clear Q')) | (refine regP_guard rfl rfl fun Q1 Q2 h1 h2 => ?_; simp [*, twoB_some, twoV_some, ltFI, leFI, ltFN, leFN, grdF, yieldF, getA, opE, rdV, scE, constE]; (try (repeat' (first | refine And.intro ?_ ?_ | intro _))); all_goals (first | (exfalso; omega) | ((first | (exfalso; omega) | (refine h1.out ?_; clear h1 h2; clear Q1 Q2) | (refine h2.out ?_; clear h1 h2; clear Q1 Q2)); intro Q' hQ; simp [*]; (refine hQ.out _ ?_; clear hQ; clear Q')))))
    refine loopC_n (sz - (m.length + 1)) (by omega) ⟨i, m ++ [kv], 1, rfl, by simp; omega, by simp, hi, SN.out, ?_⟩
    simp [*, HD]
  have hn5 := c16 xs i sz (by omega) (by omega) ⟨by omega, by omega⟩
  have hr5 := nxV_range xs i sz (by omega)
  have hl5 := nxI_le xs i hi
  have SN := Hid.mk (snoc _ hr5.1 hr5.2)
  clear snoc
  repeat' (first | refine thenC_n ?_ | refine thenC_x ?_ | refine thenC_r ?_ | refine blockC_n ?_ | refine blockC_hit2 rfl ?_ | refine blockC_miss rfl ?_ | refine blockC_r ?_ | refine loopC_x ?_ | refine loopC_r ?_ | refine rangeC_x ?_ | refine rangeC_r ?_ | refine q_seq rfl ?_ | refine q_block rfl ?_ | (refine q_frz rfl rfl (by simp [*]; rfl) ?_) | (refine q_region rfl rfl rfl fun Q' hQ => ?_; simp [*]; (refine hQ.out _ ?_; clear hQ; clear Q')) | (refine q_if rfl fun Q1 Q2 h1 h2 => ?_; simp [*, twoB_some, twoV_some, ltFI, leFI, ltFN, leFN, guardF, yieldF, getA, opE, rdV, scE, constE]; (try (repeat' (first | refine And.intro ?_ ?_ | intro _))); all_goals (first | (exfalso; omega) | (refine h1.out ?_; clear h1 h2; clear Q1 Q2) | (refine h2.out ?_; clear h1 h2; clear Q1 Q2))) | refine q_exit rfl ?_ | refine q_ret rfl ?_ | refine q_skip rfl ?_ | refine q_label rfl ?_ | refine q_drawW rfl rfl rfl rfl ?_ | (refine q_drawW_nil rfl fun Q' hQ => ?_; simp [*]; (refine hQ.out _ ?_; clear hQ; clear Q')) | (refine q_drawW_op rfl rfl fun Q' hQ => ?_; simp [*]; (refine hQ.out _ ?_; clear hQ; clear Q')) | (refine q_drawW_guard rfl rfl fun Q1 Q2 h1 h2 => ?_; simp [*, twoB_some, twoV_some, ltFI, leFI, ltFN, leFN, grdF, yieldF, getA, opE, rdV, scE, constE]; (try (repeat' (first | refine And.intro ?_ ?_ | intro _))); all_goals (first | (exfalso; omega) | ((first | (exfalso; omega) | (refine h1.out ?_; clear h1 h2; clear Q1 Q2) | (refine h2.out ?_; clear h1 h2; clear Q1 Q2)); intro Q' hQ; simp [*]; (refine hQ.out _ ?_; clear hQ; clear Q')))) | refine q_regionW rfl rfl rfl ?_ | (refine regP_nil (by decide) ?_) | (refine regP_op rfl rfl fun Q' hQ => ?_; simp [*]; (refine hQ.out _ ?_; clear hQ; clear Q')) | (refine regP_guard rfl rfl fun Q1 Q2 h1 h2 => ?_; simp [*, twoB_some, twoV_some, ltFI, leFI, ltFN, leFN, grdF, yieldF, getA, opE, rdV, scE, constE]; (try (repeat' (first | refine And.intro ?_ ?_ | intro _))); all_goals (first | (exfalso; omega) | ((first | (exfalso; omega) | (refine h1.out ?_; clear h1 h2; clear Q1 Q2) | (refine h2.out ?_; clear h1 h2; clear Q1 Q2)); intro Q' hQ; simp [*]; (refine hQ.out _ ?_; clear hQ; clear Q')))))
  refine loopC_n (sz - (m.length + 1)) (by omega) ⟨nxI xs i, m ++ [nxV xs i sz], 1, rfl, by simp; omega, by simp, hl5, SN.out, ?_⟩
  simp [*, HD]
end Go.Proofs.YthalofddjlhcjaaDoor
end
section
/- Plain laws on runs of a valid cascade. No program is walked. -/
namespace Go.Proofs.YthalofddjlhcjaaDoor
open Go
set_option linter.unusedVariables false
set_option linter.unusedSimpArgs false

theorem built_valid {c : Casc} (h : Built c) : validE c = 0 := valid_build h.rok ⟨h.l1, by have := h.l2; omega⟩ (by have := h.s1; omega) (fun n hn => by have := h.sz n hn; omega) (by have := h.rl; have := h.s1; omega)
theorem built_cb {c : Casc} (h : Built c) : CB c := by
  have hv := valid_of c (built_valid h)
  have h1 := h.s1
  have h2 := h.rl
  have h3 := h.l2
  refine ⟨by omega, by omega, fun r hr => ?_⟩
  obtain ⟨i, hi, rfl⟩ := List.getElem_of_mem hr
  obtain ⟨f1, f2, f3, f4⟩ := rowB_facts (hv.row i hi)
  refine ⟨by omega, by omega, fun m hm => ?_⟩
  obtain ⟨j, hj, rfl⟩ := List.getElem_of_mem hm
  obtain ⟨g1, -⟩ := f4 j hj
  rw [getD_of_lt _ hj] at g1
  have := h.sz _ (List.getElem_mem f1)
  rw [getD_of_lt _ f1] at g1
  omega

theorem runG_append (c : Casc) : ∀ (ls ms x : List Int), runG c x (ls ++ ms) = if (runG c x ls).2 = 0 then runG c (runG c x ls).1 ms else ([], (runG c x ls).2)
  | [], ms, x => by simp [runG]
  | l :: ls, ms, x => by
    simp only [List.cons_append, runG]
    by_cases h : (stepG c x l).2 = 0
    · simp only [if_pos h]; exact runG_append c ls ms _
    · simp only [if_neg h]

theorem stepG_ok {c : Casc} {x : List Int} {l : Int} (h : (stepG c x l).2 = 0) : tupB c.sizes x = true ∧ 0 ≤ l ∧ l < c.letters ∧ stOk c x = true ∧ stepG c x l = (stV c x l.toNat, 0) := by
  unfold stepG at h ⊢
  split at h
  · rename_i h1
    split at h
    · rename_i h2
      exact ⟨h1.1, h1.2.1, h1.2.2, h2, by rw [if_pos h1, if_pos h2]⟩
    · cases h
  · cases h
theorem stepG_tup {c : Casc} (hv : Valid c) {x : List Int} {l : Int} (h : (stepG c x l).2 = 0) : tupB c.sizes (stepG c x l).1 = true := by
  obtain ⟨h1, h2, h3, h4, e⟩ := stepG_ok h
  rw [e]
  have hlen : x.length = c.sizes.length ∧ inB c.sizes x = true := by simpa [tupB] using h1
  simp only [tupB, Bool.and_eq_true, decide_eq_true_eq]
  refine ⟨by rw [stV_length]; exact hlen.1, ?_⟩
  rw [inB_iff _ _ (by rw [stV_length]; omega)]
  intro i hi
  rw [stV_length] at hi
  have hh : hasB c.rows (x.take i) = true := by
    unfold stOk at h4
    exact List.all_eq_true.1 h4 i (List.mem_range.2 hi)
  obtain ⟨low, s, k1, k2, k3, e1, e2, e3⟩ := step_cell hv h1 (l := l.toNat) (by omega) hi hh
  obtain ⟨_, e1'⟩ := low_row hv.up hh
  obtain ⟨f1, f2, f3, f4⟩ := rowB_facts (hv.row low k1)
  obtain ⟨g1, g2⟩ := f4 l.toNat k2
  rw [getD_of_lt _ k2] at g1 g2
  have hg := g2 s k3
  rw [getD_of_lt _ k3] at hg
  have hpl : c.rows[low].pre.length = i := by
    have : c.rows[low].pre = x.take i := by
      have e5 : ∀ (a b : Nat) (ha : a < c.rows.length) (hb : b < c.rows.length), a = b → c.rows[a].pre = c.rows[b].pre := fun a b ha hb h => by subst h; rfl
      rw [← e1', ← e5 (lowB c.rows (x.take i)) low (by omega) k1 e1]
    rw [this]
    simp; omega
  rw [hpl] at hg
  rw [getD_of_lt 0 (by rw [stV_length]; exact hi)]
  have := stV_get c x l.toNat i hi
  rw [List.getElem?_eq_getElem (by rw [stV_length]; exact hi)] at this
  rw [Option.some.inj this, e3]
  exact hg
theorem runG_ok2 {c : Casc} (hv : Valid c) : ∀ (ls x : List Int), tupB c.sizes x = true → (runG c x ls).2 = 0 → tupB c.sizes (runG c x ls).1 = true ∧ (runG c x ls).1.length = x.length
  | [], x, h, _ => ⟨h, rfl⟩
  | l :: ls, x, h, hr => by
    simp only [runG] at hr ⊢
    split at hr
    · rename_i h0
      rw [if_pos h0]
      have a := runG_ok2 hv ls _ (stepG_tup hv h0) hr
      refine ⟨a.1, a.2.trans ?_⟩
      rw [(stepG_ok h0).2.2.2.2]
      exact stV_length _ _ _
    · rename_i h0
      exact absurd hr h0
/-- Only a missing row stops a run. -/
theorem runG_errs {c : Casc} (hv : Valid c) : ∀ (ls x : List Int), tupB c.sizes x = true → (∀ l ∈ ls, 0 ≤ l ∧ l < c.letters) → (runG c x ls).2 = 0 ∨ (runG c x ls).2 = 23
  | [], x, _, _ => .inl rfl
  | l :: ls, x, h, hl => by
    simp only [runG]
    split
    · rename_i h0
      exact runG_errs hv ls _ (stepG_tup hv h0) (fun m hm => hl m (by simp [hm]))
    · rename_i h0
      obtain ⟨a, b⟩ := hl l (by simp)
      right
      unfold stepG at h0 ⊢
      rw [if_pos ⟨h, a, b⟩] at h0 ⊢
      split
      · rename_i h1; rw [if_pos h1] at h0; exact absurd rfl h0
      · rfl
theorem stV_take {c : Casc} {x y : List Int} {l k : Nat} (hl : x.length = y.length) (h : x.take k = y.take k) : (stV c x l).take k = (stV c y l).take k := by
  apply List.ext_getElem
  · simp [stV_length, hl]
  · intro i h1 h2
    simp only [List.length_take, stV_length] at h1 h2
    simp only [List.getElem_take, stV, List.getElem_map, List.getElem_range]
    have e1 : x.take i = y.take i := by
      have := congrArg (List.take i) h
      simpa [List.take_take, Nat.min_eq_left (show i ≤ k by omega)] using this
    have e2 : x.getD i 0 = y.getD i 0 := by
      have := congrArg (fun z => z.getD i 0) h
      simp only [List.getD_eq_getElem?_getD, List.getElem?_take_of_lt (show i < k by omega)] at this
      simpa [List.getD_eq_getElem?_getD] using this
    simp only [stVal, e1, e2]
theorem runG_take {c : Casc} (k : Nat) : ∀ (ls x y : List Int), x.length = y.length → x.take k = y.take k → (runG c x ls).2 = 0 → (runG c y ls).2 = 0 → (runG c x ls).1.take k = (runG c y ls).1.take k
  | [], x, y, _, h, _, _ => h
  | l :: ls, x, y, hl, h, h1, h2 => by
    simp only [runG] at h1 h2 ⊢
    split at h1
    · rename_i h3
      split at h2
      · rename_i h4
        rw [if_pos h3, if_pos h4]
        have a := (stepG_ok h3).2.2.2.2
        have b := (stepG_ok h4).2.2.2.2
        exact runG_take k ls _ _ (by rw [a, b]; simp [stV_length, hl]) (by rw [a, b]; exact stV_take hl h) h1 h2
      · rename_i h4; exact absurd h2 h4
    · rename_i h3; exact absurd h1 h3

theorem runG_err_nil {c : Casc} : ∀ {ls x : List Int}, (runG c x ls).2 ≠ 0 → (runG c x ls).1 = []
  | [], x, h => absurd rfl h
  | l :: ls, x, h => by
    simp only [runG] at h ⊢
    split
    · rename_i h0
      rw [if_pos h0] at h
      exact runG_err_nil h
    · rfl

/-- The tape's tuple and words. -/
theorem tuS_in {xs : List Int} {i0 : Nat} {sz : List Int} (hz : ∀ z ∈ sz, 1 ≤ z) : ∀ k, k ≤ sz.length → ∀ j, j < k → 0 ≤ (tuS xs i0 sz k).1.getD j 0 ∧ (tuS xs i0 sz k).1.getD j 0 < sz.getD j 0
  | 0, _, j, hj => by omega
  | k + 1, hk, j, hj => by
    simp only [tuS]
    have hlen := tuS_len xs i0 sz k
    by_cases e : j = k
    · subst e
      rw [List.getD_eq_getElem?_getD, List.getElem?_append_right (by omega), hlen]
      simp only [Nat.sub_self, List.getElem?_cons_zero, Option.getD_some]
      exact nxV_range _ _ _ (by rw [getD_of_lt 0 (by omega)]; exact hz _ (List.getElem_mem _))
    · rw [List.getD_eq_getElem?_getD, List.getElem?_append_left (by omega), ← List.getD_eq_getElem?_getD]
      exact tuS_in hz k (by omega) j (by omega)
theorem tuV_tup {xs : List Int} {i : Nat} {sz : List Int} (hz : ∀ z ∈ sz, 1 ≤ z) : tupB sz (tuV xs i sz) = true := by
  have hlen := tuS_len xs i sz sz.length
  unfold tupB tuV
  rw [Bool.and_eq_true]
  refine ⟨decide_eq_true hlen, ?_⟩
  rw [inB_iff _ _ (by omega)]
  intro j hj
  exact tuS_in hz sz.length (Nat.le_refl _) j (by omega)
theorem tuV_len (xs : List Int) (i : Nat) (sz : List Int) : (tuV xs i sz).length = sz.length := tuS_len xs i sz sz.length
theorem wdS_letB {xs : List Int} {i : Nat} {m : Int} (hm : 1 ≤ m ∧ m ≤ 26) : ∀ k, (wdS xs i m k).1.all (letB m) = true
  | 0 => rfl
  | k + 1 => by
    simp only [wdS, List.all_append, wdS_letB hm k, Bool.true_and, List.all_cons, List.all_nil, Bool.and_true]
    have hr := nxV_range xs (wdS xs i m k).2 m (by omega)
    have hc := chr_nat (nxV xs (wdS xs i m k).2 m) (by omega) (by omega)
    simp only [letB, Bool.and_eq_true, decide_eq_true_eq]
    omega
theorem wdV_all {xs : List Int} {i : Nat} {m most : Int} (hm : 1 ≤ m ∧ m ≤ 26) : (wdV xs i m most).all (letB m) = true := wdS_letB hm _
theorem wdV_len {xs : List Int} {i : Nat} {m most : Int} (h : 0 ≤ most) : (wdV xs i m most).length ≤ most := by
  simp only [wdV, wdS_len]
  have := nxV_range xs i (most + 1) (by omega)
  omega
theorem wdI_le {xs : List Int} {i : Nat} {m most : Int} (h : i ≤ xs.length) : wdI xs i m most ≤ xs.length := wdS_at _ _ _ (nxI_le _ _ h) _
theorem tuI_le {xs : List Int} {i : Nat} {sz : List Int} (h : i ≤ xs.length) : tuI xs i sz ≤ xs.length := tuS_at _ _ _ h _
theorem wordB_of {l : List UInt8} {n : Int} (h1 : 1 ≤ n ∧ n ≤ 6) (h2 : l.length ≤ 2048) (h : l.all (letB n) = true) : wordB ⟨l.toArray⟩ n = true := by
  simp only [wordB, Bool.and_eq_true, decide_eq_true_eq]
  exact ⟨⟨h1.1, h1.2, by simpa [ByteArray.size] using h2⟩, by simpa using h⟩
def lettersOf (l : List UInt8) : List Int := l.map fun b => (b.toNat : Int) - 97
theorem letsI_of (l : List UInt8) : letsI ⟨l.toArray⟩ = lettersOf l := by simp [letsI, lettersOf]
theorem lettersOf_in {l : List UInt8} {n : Int} (h : l.all (letB n) = true) : ∀ x ∈ lettersOf l, 0 ≤ x ∧ x < n := by
  intro x hx
  obtain ⟨b, hb, rfl⟩ := List.mem_map.1 hx
  have := List.all_eq_true.1 h b hb
  simp only [letB, Bool.and_eq_true, decide_eq_true_eq] at this
  omega
theorem RunG_of {c : Casc} (hv : validE c = 0) {x : List Int} (hx : tupB c.sizes x = true) {l : List UInt8} (hl : 1 ≤ c.letters ∧ c.letters ≤ 6) (h2 : l.length ≤ 2048) (h : l.all (letB c.letters) = true) : RunG c x ⟨l.toArray⟩ = runG c x (lettersOf l) := by
  unfold RunG
  rw [if_pos hv, if_pos ⟨hx, wordB_of hl h2 h⟩, letsI_of]
end Go.Proofs.YthalofddjlhcjaaDoor
end
section
/- What a level answers, all higher ones do. Over any program. -/
namespace Go.Proofs.YthalofddjlhcjaaDoor
set_option linter.unusedVariables false
set_option linter.unusedSimpArgs false

/-- The second knows all that the first does. -/
def Mo (C0 C1 : Contract) : Prop := ∀ f a o, C0 f a = some o → C1 f a = some o
section
variable {P : Program} {C0 C1 : Contract}

theorem callF_mo (hMo : Mo C0 C1) {wio : FuncId → Nat → Bool} {fr fr' : Fr} {f : FuncId} {args : List E} {dst : Option Nat} (h : callF C0 wio fr f args dst = some fr') : Ev fun m => callF C1 wio fr f args dst = some fr' := by
  unfold callF at h ⊢
  split at h
  · cases h
  · rename_i ts deps io ha
    split at h
    · cases h
    · rename_i r outs hc
      refine ⟨0, fun m _ => ?_⟩
      show (match C1 f ts with | none => none | some (r, outs) => _) = _
      rw [hMo _ _ _ hc]
      exact h

theorem opF_mo (hMo : Mo C0 C1) {wio : FuncId → Nat → Bool} {fr fr' : Fr} {o : Oper} (h : opF P C0 wio fr o = some fr') : Ev fun m => opF P C1 wio fr o = some fr' := by
  unfold opF at h ⊢
  split at h
  · exact .pure fun _ => h
  · split at h
    · exact callF_mo hMo h
    · cases h
  · exact .pure fun _ => h
theorem calmF_mo (hMo : Mo C0 C1) {wio : FuncId → Nat → Bool} {fr fr' : Fr} {o : Oper} (h : calmF P C0 wio fr o = some fr') : Ev fun m => calmF P C1 wio fr o = some fr' := by
  unfold calmF at h ⊢
  split at h
  · split at h
    · split at h
      · exact callF_mo hMo h
      · cases h
    · cases h
  · exact .pure fun _ => h
theorem wrF_mo (hMo : Mo C0 C1) {wio : FuncId → Nat → Bool} {M : Nat → Bool} {fr fr' : Fr} {o : Oper} (h : wrF C0 wio M fr o = some fr') : Ev fun m => wrF C1 wio M fr o = some fr' := by
  unfold wrF at h ⊢
  split at h
  · split at h
    · cases h
    · split at h
      · exact callF_mo hMo h
      · split at h
        · rename_i hM
          simp only [hM, if_true]
          exact callF_mo hMo h
        · cases h
      · cases h
  · cases h

theorem regF_mo (hMo : Mo C0 C1) {wio : FuncId → Nat → Bool} {ops : Array Oper} : ∀ {l : List Oper} {fr fr' : Fr}, regF P C0 wio ops l fr = some fr' → Ev fun m => regF P C1 wio ops l fr = some fr'
  | [], fr, fr', h => .pure fun _ => h
  | o :: rest, fr, fr', h => by
    simp only [regF] at h ⊢
    split at h
    · cases h
    · split at h
      · rename_i fr1 h1
        exact (opF_mo hMo h1).both (regF_mo hMo h) fun m a1 a2 => by rw [a1]; exact a2
      · cases h
    · split at h
      · rename_i fr1 h1
        exact (regF_mo hMo h)
      · cases h
theorem drawZ_mo (hMo : Mo C0 C1) {wio : FuncId → Nat → Bool} {same : Bool} {M : Nat → Bool} {ops : Array Oper} : ∀ {l : List (Nat × Oper × Nat)} {fr fr' : Fr}, drawZ P C0 wio same M ops l fr = some fr' → Ev fun m => drawZ P C1 wio same M ops l fr = some fr'
  | [], fr, fr', h => .pure fun _ => h
  | (k, o, mk) :: rest, fr, fr', h => by
    simp only [drawZ] at h ⊢
    split at h
    · cases h
    · split at h
      · exact drawZ_mo hMo h
      · cases h
    · split at h
      · rename_i hm
        simp only [if_pos hm]
        split at h
        · split at h
          · exact drawZ_mo hMo h
          · cases h
        · cases h
      · rename_i hm
        simp only [if_neg hm]
        split at h
        · rename_i fr1 h1
          have h2 : Ev fun m => (if mk = 2 then opF P C1 wio fr o else if same = true then calmF P C1 wio fr o else wrF C1 wio M fr o) = some fr1 := by
            by_cases e : mk = 2
            · simp only [if_pos e] at h1 ⊢; exact opF_mo hMo h1
            · simp only [if_neg e] at h1 ⊢
              by_cases e2 : same = true
              · simp only [if_pos e2] at h1 ⊢; exact calmF_mo hMo h1
              · simp only [if_neg e2] at h1 ⊢; exact wrF_mo hMo h1
          exact h2.both (drawZ_mo hMo h) fun m a1 a2 => by rw [a1]; exact a2
        · cases h

theorem iterF_mo (hMo : Mo C0 C1) {B : Contract → Fr → Option (X × Fr)} {cn : Fr → Fr} (hB : ∀ fr o, B C0 fr = some o → Ev fun m => B C1 fr = some o) : ∀ {n : Nat} {fr : Fr} {o : X × Fr}, iterF (B C0) cn n fr = some o → Ev fun m => iterF (B C1) cn n fr = some o
  | 0, fr, o, h => by cases h
  | n + 1, fr, o, h => by
    simp only [iterF] at h ⊢
    split at h
    · rename_i fr1 h1
      exact (hB _ _ h1).both (iterF_mo hMo hB h) fun m a1 a2 => by rw [a1]; exact a2
    · rename_i x fr1 hne h1
      refine (hB _ _ h1).imp fun m a1 => ?_
      rw [a1]
      cases x with
      | n => exact absurd rfl hne
      | x i => exact h
      | r => exact h
    · cases h

theorem codeF_mo (hMo : Mo C0 C1) {c : Cfg} {LF : Nat} : ∀ (b : Code) {fr : Fr} {o : X × Fr}, codeF P C0 c LF b fr = some o → Ev fun m => codeF P C1 c LF b fr = some o := by
  intro b
  induction b with
  | skip => intro fr o h; exact .pure fun _ => h
  | label l => intro fr o h; exact .pure fun _ => h
  | exit id => intro fr o h; exact .pure fun _ => h
  | ret => intro fr o h; exact .pure fun _ => h
  | goto l => intro fr o h; cases h
  | scope c ih => intro fr o h; cases h
  | refuse s => intro fr o h; cases h
  | rangeFunc => intro fr o h; cases h
  | region id ops draw =>
    intro fr o h
    simp only [codeF] at h ⊢
    split at h
    · rename_i hd
      simp only [hd, if_true]
      split at h
      · rename_i sch hs
        split at h
        · rename_i fr1 h1
          exact (drawZ_mo hMo h1).imp fun m a1 => by rw [a1]; exact h
        · cases h
      · cases h
    · rename_i hd
      simp only [hd, Bool.false_eq_true, if_false]
      split at h
      · rename_i fr1 h1
        exact (regF_mo hMo h1).imp fun m a1 => by rw [a1]; exact h
      · cases h
  | seq a b ih1 ih2 =>
    intro fr o h
    simp only [codeF] at h ⊢
    split at h
    · rename_i fr1 h1
      exact (ih1 h1).both (ih2 h) fun m a1 a2 => by rw [a1]; exact a2
    · rename_i hne
      refine (ih1 h).imp fun m a1 => ?_
      rw [a1]
      obtain ⟨x, fr1⟩ := o
      cases x with
      | n => exact absurd h (hne _)
      | x i => rfl
      | r => rfl
  | cond c x y ih1 ih2 =>
    intro fr o h
    simp only [codeF] at h ⊢
    split at h
    · exact ih1 h
    · exact ih2 h
    · cases h
  | block id c ih =>
    intro fr o h
    simp only [codeF] at h ⊢
    split at h
    · rename_i i fr1 h1
      exact (ih h1).imp fun m a1 => by rw [a1]; exact h
    · rename_i hne
      refine (ih h).imp fun m a1 => ?_
      rw [a1]
      obtain ⟨x, fr1⟩ := o
      cases x with
      | n => rfl
      | x i => exact absurd h (hne _ _)
      | r => rfl
  | loop b ih =>
    intro fr o h
    simp only [codeF] at h ⊢
    exact iterF_mo hMo (B := fun C fr => codeF P C c LF b fr) (fun fr o h => ih h) h

theorem runF_mo (hMo : Mo C0 C1) {c : Cfg} {LF : Nat} {fn : Func} {args : List T} {o : T × List T} (h : runF P C0 c LF fn args = some o) : Ev fun m => runF P C1 c LF fn args = some o := by
  unfold runF at h ⊢
  split at h
  · rename_i hc
    simp only [if_pos hc]
    split at h
    · cases h
    · rename_i b hb
      split at h
      · rename_i fr h1
        exact (codeF_mo hMo _ h1).imp fun m a1 => by rw [a1]; exact h
      · rename_i fr h1
        exact (codeF_mo hMo _ h1).imp fun m a1 => by rw [a1]; exact h
      · cases h
  · cases h

end
theorem level_le {P : Program} {X : Contract} {cf : FuncId → Option Cfg} : ∀ n, Mo (level P X cf n) (level P X cf (n + 1))
  | 0 => fun f a o h => by
    simp only [level] at h ⊢
    split at h
    · cases h
    · rename_i hc
      first
        | exact h
        | (rw [hc]; exact h)
  | n + 1 => fun f a o h => by
    simp only [level] at h
    split at h
    · rename_i c hc
      split at h
      · rename_i fn hfn
        obtain ⟨k, hk⟩ := runF_mo (level_le n) h
        exact level_run hc hfn (hk k (Nat.le_refl _))
      · cases h
    · rename_i hc
      simp only [level, hc]
      exact h
/-- One level's answer. -/
theorem lim_at {P : Program} {X : Contract} {cf : FuncId → Option Cfg} (n : Nat) {f : FuncId} {a : List T} {o : T × List T} (h : level P X cf n f a = some o) : Lim P X cf f a = some o := by
  refine lim_of (d := n) fun m hm => ?_
  obtain ⟨k, rfl⟩ := Nat.exists_eq_add_of_le hm
  clear hm
  induction k with
  | zero => exact h
  | succ k ih => exact level_le (n + k) f a o ih
end Go.Proofs.YthalofddjlhcjaaDoor
end
section
/- The chapter's example: program, by the kernel. -/
namespace Go.Proofs.YthalofddjlhcjaaDoor
open Go
set_option maxRecDepth 100000
set_option linter.unusedVariables false

theorem c18l : level Tryd.prog xt cfAll 12 18 [] = some (.sc (.bool true), []) := by kernel_rfl
theorem c18 : L 18 [] = some (bT true, []) := lim_at 12 c18l
end Go.Proofs.YthalofddjlhcjaaDoor
end
section
/- CascadeOrder: program. -/
namespace Go.Proofs.YthalofddjlhcjaaDoor
open Go
set_option maxRecDepth 100000
set_option maxHeartbeats 1000000
set_option linter.unusedVariables false
set_option linter.unusedSimpArgs false

def H3 (xs : List Int) (i : Nat) (c : Casc) (t : List Int) (w : ByteArray) (cut : Nat) (y : List Int) (k : Nat) : Fr := ⟨112, [(1, rE (iT cut)), (5, aE 16), (6, aE 6), (7, hE 7), (8, rE (sT w)), (9, hE 9), (10, rE (iT k))], [(16, tape xs i), (6, .vr [iT c.letters, ints c.sizes, rowsT c.rows]), (7, ointsT t), (9, ointsT y)]⟩
theorem c3 (xs : List Int) (ct : Int) : ∃ outs, L 3 [ints xs, iT ct] = some (bT true, outs) := by
  refine ⟨[.dead, .dead], ?_⟩
  have h11 := c11 xs
  have hyl : (xs.take 80).length ≤ 80 := by simp; omega
  generalize xs.take 80 = ys at *
  obtain ⟨c, i1, hi1, HB, h12⟩ := c12 ys 0 hyl (by omega)
  have h12 : L 12 [T.vr [ints ys, iT 0]] = some (cascT c, [tape ys i1]) := h12
  have hv := built_valid HB
  have hV := valid_of c hv
  have hcb := built_cb HB
  have hsz := HB.s1
  have hl1 := HB.l1
  have hl2 := HB.l2
  have h13 := c13 ys i1 c hyl hi1 (by omega) (fun x hx => by have := HB.sz x hx; exact ⟨by omega, by omega⟩)
  have hi2 := tuI_le (sz := c.sizes) hi1
  have ht := tuV_tup (xs := ys) (i := i1) (sz := c.sizes) (fun z hz => (HB.sz z hz).1)
  have htl := tuV_len ys i1 c.sizes
  generalize tuI ys i1 c.sizes = i2 at *
  generalize tuV ys i1 c.sizes = t at *
  have h14 := c14 ys i2 c.letters 6 hyl hi2 ⟨hl1, by omega⟩ ⟨by omega, by omega⟩
  have hi3 := wdI_le (m := c.letters) (most := 6) hi2
  have hva := wdV_all (xs := ys) (i := i2) (m := c.letters) (most := 6) ⟨hl1, by omega⟩
  have hvl := wdV_len (xs := ys) (i := i2) (m := c.letters) (most := 6) (by omega)
  generalize wdI ys i2 c.letters 6 = i3 at *
  generalize wdV ys i2 c.letters 6 = v at *
  have hw1 : IntKind.i64.wrap ((t.length : Int) + 1) = (t.length : Int) + 1 := wrap_in (by omega) (by omega)
  have h15 := c15 ct (t.length + 1) ⟨by omega, by omega⟩
  have hcut := modI_range ct (t.length + 1) (by omega)
  obtain ⟨cut, hce⟩ : ∃ cut : Nat, (cut : Int) = modI ct (t.length + 1) := ⟨(modI ct (t.length + 1)).toNat, by omega⟩
  rw [← hce] at h15 hcut
  have hcl : cut ≤ t.length := by omega
  have h17a := c17 c t ⟨v.toArray⟩ hcb (by omega) (by simp [ByteArray.size]; omega)
  rw [RunG_of hv ht ⟨hl1, by omega⟩ (by omega) hva] at h17a
  have h18 := c18
  have HT := Hid.mk ht
  have HVA := Hid.mk hva
  have hb1 : t.length * 8 ≤ 140737488355328 := by omega
  have hb2 : t.length ≤ 4611686018427387904 := by omega
  have HTL := Hid.mk htl
  have HZ : Hid (∀ z ∈ c.sizes, 1 ≤ z ∧ z ≤ 3) := ⟨HB.sz⟩
  clear hce hcut ht hva hi1 hi2 htl
  refine L_run cfn3 fn3 (runF_of bd3 ⟨of_decide_eq_true rfl, of_decide_eq_true rfl⟩ ?_)
  simp only [entryF, entryT, entryO, entryE, isIo]
  repeat' (first | refine thenC_n ?_ | refine thenC_x ?_ | refine thenC_r ?_ | refine blockC_n ?_ | refine blockC_hit2 rfl ?_ | refine blockC_miss rfl ?_ | refine blockC_r ?_ | refine loopC_x ?_ | refine loopC_r ?_ | refine rangeC_x ?_ | refine rangeC_r ?_ | refine q_seq rfl ?_ | refine q_block rfl ?_ | (refine q_frz rfl rfl (by simp [*]; rfl) ?_) | (refine q_region rfl rfl rfl fun Q' hQ => ?_; simp [*]; (refine hQ.out _ ?_; clear hQ; clear Q')) | (refine q_if rfl fun Q1 Q2 h1 h2 => ?_; simp [*, twoB_some, twoV_some, ltFI, leFI, ltFN, leFN, guardF, yieldF, getA, opE, rdV, scE, constE]; (try (repeat' (first | refine And.intro ?_ ?_ | intro _))); all_goals (first | (exfalso; omega) | (refine h1.out ?_; clear h1 h2; clear Q1 Q2) | (refine h2.out ?_; clear h1 h2; clear Q1 Q2))) | refine q_exit rfl ?_ | refine q_ret rfl ?_ | refine q_skip rfl ?_ | refine q_label rfl ?_ | refine q_drawW rfl rfl rfl rfl ?_ | (refine q_drawW_nil rfl fun Q' hQ => ?_; simp [*]; (refine hQ.out _ ?_; clear hQ; clear Q')) | (refine q_drawW_op rfl rfl fun Q' hQ => ?_; simp [*]; (refine hQ.out _ ?_; clear hQ; clear Q')) | (refine q_drawW_guard rfl rfl fun Q1 Q2 h1 h2 => ?_; simp [*, twoB_some, twoV_some, ltFI, leFI, ltFN, leFN, grdF, yieldF, getA, opE, rdV, scE, constE]; (try (repeat' (first | refine And.intro ?_ ?_ | intro _))); all_goals (first | (exfalso; omega) | ((first | (exfalso; omega) | (refine h1.out ?_; clear h1 h2; clear Q1 Q2) | (refine h2.out ?_; clear h1 h2; clear Q1 Q2)); intro Q' hQ; simp [*]; (refine hQ.out _ ?_; clear hQ; clear Q')))) | refine q_regionW rfl rfl rfl ?_ | (refine regP_nil (by decide) ?_) | (refine regP_op rfl rfl fun Q' hQ => ?_; simp [*]; (refine hQ.out _ ?_; clear hQ; clear Q')) | (refine regP_guard rfl rfl fun Q1 Q2 h1 h2 => ?_; simp [*, twoB_some, twoV_some, ltFI, leFI, ltFN, leFN, grdF, yieldF, getA, opE, rdV, scE, constE]; (try (repeat' (first | refine And.intro ?_ ?_ | intro _))); all_goals (first | (exfalso; omega) | ((first | (exfalso; omega) | (refine h1.out ?_; clear h1 h2; clear Q1 Q2) | (refine h2.out ?_; clear h1 h2; clear Q1 Q2)); intro Q' hQ; simp [*]; (refine hQ.out _ ?_; clear hQ; clear Q')))))
  refine q_loop rfl rfl (n := t.length - cut) (fun q fr => ∃ (k i : Nat) (y : List Int), cut ≤ k ∧ k ≤ t.length ∧ q = t.length - k ∧ i ≤ ys.length ∧ Hid (y.length = t.length) ∧ Hid (tupB c.sizes y = true ∧ y.take cut = t.take cut) ∧ fr = H3 ys i c t ⟨v.toArray⟩ cut y k) (by simp only [LFm]; omega) ?_ ?_
  · refine ⟨cut, i3, t, Nat.le_refl _, hcl, rfl, hi3, ⟨rfl⟩, ⟨HT.out, rfl⟩, ?_⟩
    simp [*, H3, cf3]
  as_aux_lemma =>
  rintro q fr ⟨k, i, y, hk1, hk2, rfl, hi, hY, HY, rfl⟩
  have hw : IntKind.i64.wrap ((k : Int) + 1) = k + 1 := wrap_in (by have := HTL.out; omega) (by have := HTL.out; omega)
  have hsl : c.sizes.length < 2 ^ 40 := by omega
  simp only [H3]
  by_cases hlt : k < t.length
  case pos =>
    have hky : k < y.length := by have := hY.out; omega
    have hk3 : k + 1 ≤ y.length := hky
    have hks : k < c.sizes.length := by have := HTL.out; omega
    have hz := HZ.out _ (List.getElem_mem hks)
    have h16 := c16 ys i c.sizes[k] (by omega) (by omega) ⟨by omega, by omega⟩
    have hn := nxV_range ys i c.sizes[k] (by omega)
    have hnl := nxI_le ys i hi
    repeat' (first | refine thenC_n ?_ | refine thenC_x ?_ | refine thenC_r ?_ | refine blockC_n ?_ | refine blockC_hit2 rfl ?_ | refine blockC_miss rfl ?_ | refine blockC_r ?_ | refine loopC_x ?_ | refine loopC_r ?_ | refine rangeC_x ?_ | refine rangeC_r ?_ | refine q_seq rfl ?_ | refine q_block rfl ?_ | (refine q_frz rfl rfl (by simp [*]; rfl) ?_) | (refine q_region rfl rfl rfl fun Q' hQ => ?_; simp [*]; (refine hQ.out _ ?_; clear hQ; clear Q')) | (refine q_if rfl fun Q1 Q2 h1 h2 => ?_; simp [*, twoB_some, twoV_some, ltFI, leFI, ltFN, leFN, guardF, yieldF, getA, opE, rdV, scE, constE]; (try (repeat' (first | refine And.intro ?_ ?_ | intro _))); all_goals (first | (exfalso; omega) | (refine h1.out ?_; clear h1 h2; clear Q1 Q2) | (refine h2.out ?_; clear h1 h2; clear Q1 Q2))) | refine q_exit rfl ?_ | refine q_ret rfl ?_ | refine q_skip rfl ?_ | refine q_label rfl ?_ | refine q_drawW rfl rfl rfl rfl ?_ | (refine q_drawW_nil rfl fun Q' hQ => ?_; simp [*]; (refine hQ.out _ ?_; clear hQ; clear Q')) | (refine q_drawW_op rfl rfl fun Q' hQ => ?_; simp [*]; (refine hQ.out _ ?_; clear hQ; clear Q')) | (refine q_drawW_guard rfl rfl fun Q1 Q2 h1 h2 => ?_; simp [*, twoB_some, twoV_some, ltFI, leFI, ltFN, leFN, grdF, yieldF, getA, opE, rdV, scE, constE]; (try (repeat' (first | refine And.intro ?_ ?_ | intro _))); all_goals (first | (exfalso; omega) | ((first | (exfalso; omega) | (refine h1.out ?_; clear h1 h2; clear Q1 Q2) | (refine h2.out ?_; clear h1 h2; clear Q1 Q2)); intro Q' hQ; simp [*]; (refine hQ.out _ ?_; clear hQ; clear Q')))) | refine q_regionW rfl rfl rfl ?_ | (refine regP_nil (by decide) ?_) | (refine regP_op rfl rfl fun Q' hQ => ?_; simp [*]; (refine hQ.out _ ?_; clear hQ; clear Q')) | (refine regP_guard rfl rfl fun Q1 Q2 h1 h2 => ?_; simp [*, twoB_some, twoV_some, ltFI, leFI, ltFN, leFN, grdF, yieldF, getA, opE, rdV, scE, constE]; (try (repeat' (first | refine And.intro ?_ ?_ | intro _))); all_goals (first | (exfalso; omega) | ((first | (exfalso; omega) | (refine h1.out ?_; clear h1 h2; clear Q1 Q2) | (refine h2.out ?_; clear h1 h2; clear Q1 Q2)); intro Q' hQ; simp [*]; (refine hQ.out _ ?_; clear hQ; clear Q')))))
    refine loopC_n (t.length - (k + 1)) (by omega) ⟨k + 1, nxI ys i, y.set k (nxV ys i c.sizes[k]), by omega, by omega, rfl, hnl, ⟨by simp [hY.out]⟩, ⟨?_, ?_⟩, ?_⟩
    · have h1 := HY.out.1
      simp only [tupB, Bool.and_eq_true, decide_eq_true_eq] at h1 ⊢
      have hy := hY.out
      refine ⟨by simp [h1.1], ?_⟩
      rw [inB_iff _ _ (by simp; omega)]
      intro j hj
      have hj' : j < y.length := by simpa using hj
      have h2 := (inB_iff c.sizes y (by omega)).1 h1.2 j hj'
      rw [getD_of_lt 0 hj']  at h2
      rw [getD_of_lt 0 (by simpa using hj'), List.getElem_set]
      split
      · rename_i e
        subst e
        rw [getD_of_lt 0 hks]
        exact hn
      · exact h2
    · rw [← HY.out.2]
      apply List.take_set_of_le
      omega
    · simp [*, H3, cf3]
  have hky : ¬ k < y.length := by have := hY.out; omega
  have h17b := c17 c y ⟨v.toArray⟩ hcb (by have := hY.out; omega) (by simp [ByteArray.size]; omega)
  rw [RunG_of hv HY.out.1 ⟨hl1, by omega⟩ (by omega) HVA.out] at h17b
  have e1 := runG_errs hV (lettersOf v) t HT.out (lettersOf_in HVA.out)
  have e2 := runG_errs hV (lettersOf v) y HY.out.1 (lettersOf_in HVA.out)
  by_cases ha : (runG c t (lettersOf v)).2 = 0
  case neg =>
    have ha' := e1.resolve_left ha
    rw [ha'] at h17a
    clear ha e1
    rcases e2 with e2 | e2
    · rw [e2] at h17b
      clear e2
      repeat' (first | refine thenC_n ?_ | refine thenC_x ?_ | refine thenC_r ?_ | refine blockC_n ?_ | refine blockC_hit2 rfl ?_ | refine blockC_miss rfl ?_ | refine blockC_r ?_ | refine loopC_x ?_ | refine loopC_r ?_ | refine rangeC_x ?_ | refine rangeC_r ?_ | refine q_seq rfl ?_ | refine q_block rfl ?_ | (refine q_frz rfl rfl (by simp [*]; rfl) ?_) | (refine q_region rfl rfl rfl fun Q' hQ => ?_; simp [*]; (refine hQ.out _ ?_; clear hQ; clear Q')) | (refine q_if rfl fun Q1 Q2 h1 h2 => ?_; simp [*, twoB_some, twoV_some, ltFI, leFI, ltFN, leFN, guardF, yieldF, getA, opE, rdV, scE, constE]; (try (repeat' (first | refine And.intro ?_ ?_ | intro _))); all_goals (first | (exfalso; omega) | (refine h1.out ?_; clear h1 h2; clear Q1 Q2) | (refine h2.out ?_; clear h1 h2; clear Q1 Q2))) | refine q_exit rfl ?_ | refine q_ret rfl ?_ | refine q_skip rfl ?_ | refine q_label rfl ?_ | refine q_drawW rfl rfl rfl rfl ?_ | (refine q_drawW_nil rfl fun Q' hQ => ?_; simp [*]; (refine hQ.out _ ?_; clear hQ; clear Q')) | (refine q_drawW_op rfl rfl fun Q' hQ => ?_; simp [*]; (refine hQ.out _ ?_; clear hQ; clear Q')) | (refine q_drawW_guard rfl rfl fun Q1 Q2 h1 h2 => ?_; simp [*, twoB_some, twoV_some, ltFI, leFI, ltFN, leFN, grdF, yieldF, getA, opE, rdV, scE, constE]; (try (repeat' (first | refine And.intro ?_ ?_ | intro _))); all_goals (first | (exfalso; omega) | ((first | (exfalso; omega) | (refine h1.out ?_; clear h1 h2; clear Q1 Q2) | (refine h2.out ?_; clear h1 h2; clear Q1 Q2)); intro Q' hQ; simp [*]; (refine hQ.out _ ?_; clear hQ; clear Q')))) | refine q_regionW rfl rfl rfl ?_ | (refine regP_nil (by decide) ?_) | (refine regP_op rfl rfl fun Q' hQ => ?_; simp [*]; (refine hQ.out _ ?_; clear hQ; clear Q')) | (refine regP_guard rfl rfl fun Q1 Q2 h1 h2 => ?_; simp [*, twoB_some, twoV_some, ltFI, leFI, ltFN, leFN, grdF, yieldF, getA, opE, rdV, scE, constE]; (try (repeat' (first | refine And.intro ?_ ?_ | intro _))); all_goals (first | (exfalso; omega) | ((first | (exfalso; omega) | (refine h1.out ?_; clear h1 h2; clear Q1 Q2) | (refine h2.out ?_; clear h1 h2; clear Q1 Q2)); intro Q' hQ; simp [*]; (refine hQ.out _ ?_; clear hQ; clear Q')))))
      all_goals simp [*]
    · rw [e2] at h17b
      clear e2
      repeat' (first | refine thenC_n ?_ | refine thenC_x ?_ | refine thenC_r ?_ | refine blockC_n ?_ | refine blockC_hit2 rfl ?_ | refine blockC_miss rfl ?_ | refine blockC_r ?_ | refine loopC_x ?_ | refine loopC_r ?_ | refine rangeC_x ?_ | refine rangeC_r ?_ | refine q_seq rfl ?_ | refine q_block rfl ?_ | (refine q_frz rfl rfl (by simp [*]; rfl) ?_) | (refine q_region rfl rfl rfl fun Q' hQ => ?_; simp [*]; (refine hQ.out _ ?_; clear hQ; clear Q')) | (refine q_if rfl fun Q1 Q2 h1 h2 => ?_; simp [*, twoB_some, twoV_some, ltFI, leFI, ltFN, leFN, guardF, yieldF, getA, opE, rdV, scE, constE]; (try (repeat' (first | refine And.intro ?_ ?_ | intro _))); all_goals (first | (exfalso; omega) | (refine h1.out ?_; clear h1 h2; clear Q1 Q2) | (refine h2.out ?_; clear h1 h2; clear Q1 Q2))) | refine q_exit rfl ?_ | refine q_ret rfl ?_ | refine q_skip rfl ?_ | refine q_label rfl ?_ | refine q_drawW rfl rfl rfl rfl ?_ | (refine q_drawW_nil rfl fun Q' hQ => ?_; simp [*]; (refine hQ.out _ ?_; clear hQ; clear Q')) | (refine q_drawW_op rfl rfl fun Q' hQ => ?_; simp [*]; (refine hQ.out _ ?_; clear hQ; clear Q')) | (refine q_drawW_guard rfl rfl fun Q1 Q2 h1 h2 => ?_; simp [*, twoB_some, twoV_some, ltFI, leFI, ltFN, leFN, grdF, yieldF, getA, opE, rdV, scE, constE]; (try (repeat' (first | refine And.intro ?_ ?_ | intro _))); all_goals (first | (exfalso; omega) | ((first | (exfalso; omega) | (refine h1.out ?_; clear h1 h2; clear Q1 Q2) | (refine h2.out ?_; clear h1 h2; clear Q1 Q2)); intro Q' hQ; simp [*]; (refine hQ.out _ ?_; clear hQ; clear Q')))) | refine q_regionW rfl rfl rfl ?_ | (refine regP_nil (by decide) ?_) | (refine regP_op rfl rfl fun Q' hQ => ?_; simp [*]; (refine hQ.out _ ?_; clear hQ; clear Q')) | (refine regP_guard rfl rfl fun Q1 Q2 h1 h2 => ?_; simp [*, twoB_some, twoV_some, ltFI, leFI, ltFN, leFN, grdF, yieldF, getA, opE, rdV, scE, constE]; (try (repeat' (first | refine And.intro ?_ ?_ | intro _))); all_goals (first | (exfalso; omega) | ((first | (exfalso; omega) | (refine h1.out ?_; clear h1 h2; clear Q1 Q2) | (refine h2.out ?_; clear h1 h2; clear Q1 Q2)); intro Q' hQ; simp [*]; (refine hQ.out _ ?_; clear hQ; clear Q')))))
      all_goals simp [*]
  by_cases hb : (runG c y (lettersOf v)).2 = 0
  case neg =>
    have hb' := e2.resolve_left hb
    rw [hb'] at h17b
    rw [ha] at h17a
    clear hb e2 e1 ha
    repeat' (first | refine thenC_n ?_ | refine thenC_x ?_ | refine thenC_r ?_ | refine blockC_n ?_ | refine blockC_hit2 rfl ?_ | refine blockC_miss rfl ?_ | refine blockC_r ?_ | refine loopC_x ?_ | refine loopC_r ?_ | refine rangeC_x ?_ | refine rangeC_r ?_ | refine q_seq rfl ?_ | refine q_block rfl ?_ | (refine q_frz rfl rfl (by simp [*]; rfl) ?_) | (refine q_region rfl rfl rfl fun Q' hQ => ?_; simp [*]; (refine hQ.out _ ?_; clear hQ; clear Q')) | (refine q_if rfl fun Q1 Q2 h1 h2 => ?_; simp [*, twoB_some, twoV_some, ltFI, leFI, ltFN, leFN, guardF, yieldF, getA, opE, rdV, scE, constE]; (try (repeat' (first | refine And.intro ?_ ?_ | intro _))); all_goals (first | (exfalso; omega) | (refine h1.out ?_; clear h1 h2; clear Q1 Q2) | (refine h2.out ?_; clear h1 h2; clear Q1 Q2))) | refine q_exit rfl ?_ | refine q_ret rfl ?_ | refine q_skip rfl ?_ | refine q_label rfl ?_ | refine q_drawW rfl rfl rfl rfl ?_ | (refine q_drawW_nil rfl fun Q' hQ => ?_; simp [*]; (refine hQ.out _ ?_; clear hQ; clear Q')) | (refine q_drawW_op rfl rfl fun Q' hQ => ?_; simp [*]; (refine hQ.out _ ?_; clear hQ; clear Q')) | (refine q_drawW_guard rfl rfl fun Q1 Q2 h1 h2 => ?_; simp [*, twoB_some, twoV_some, ltFI, leFI, ltFN, leFN, grdF, yieldF, getA, opE, rdV, scE, constE]; (try (repeat' (first | refine And.intro ?_ ?_ | intro _))); all_goals (first | (exfalso; omega) | ((first | (exfalso; omega) | (refine h1.out ?_; clear h1 h2; clear Q1 Q2) | (refine h2.out ?_; clear h1 h2; clear Q1 Q2)); intro Q' hQ; simp [*]; (refine hQ.out _ ?_; clear hQ; clear Q')))) | refine q_regionW rfl rfl rfl ?_ | (refine regP_nil (by decide) ?_) | (refine regP_op rfl rfl fun Q' hQ => ?_; simp [*]; (refine hQ.out _ ?_; clear hQ; clear Q')) | (refine regP_guard rfl rfl fun Q1 Q2 h1 h2 => ?_; simp [*, twoB_some, twoV_some, ltFI, leFI, ltFN, leFN, grdF, yieldF, getA, opE, rdV, scE, constE]; (try (repeat' (first | refine And.intro ?_ ?_ | intro _))); all_goals (first | (exfalso; omega) | ((first | (exfalso; omega) | (refine h1.out ?_; clear h1 h2; clear Q1 Q2) | (refine h2.out ?_; clear h1 h2; clear Q1 Q2)); intro Q' hQ; simp [*]; (refine hQ.out _ ?_; clear hQ; clear Q')))))
    all_goals simp [*]
  have hla := (runG_ok2 hV (lettersOf v) t HT.out ha).2
  have hlb := (runG_ok2 hV (lettersOf v) y HY.out.1 hb).2
  have htk := runG_take (c := c) cut (lettersOf v) t y hY.out.symm HY.out.2.symm ha hb
  rw [ha] at h17a
  rw [hb] at h17b
  have h19 := c19 ((runG c t (lettersOf v)).1.take cut) ((runG c y (lettersOf v)).1.take cut) (by simp; omega) (by simp; omega)
  rw [decide_eq_true htk] at h19
  have hla2 : cut ≤ (runG c t (lettersOf v)).1.length := by omega
  have hlb2 : cut ≤ (runG c y (lettersOf v)).1.length := by have := hY.out; omega
  have hla3 : (runG c t (lettersOf v)).1.length = t.length := hla
  have hlb3 : (runG c y (lettersOf v)).1.length = t.length := by have := hY.out; omega
  generalize (runG c t (lettersOf v)).1 = a at *
  generalize (runG c y (lettersOf v)).1 = b at *
  simp only [ints, List.length_take, Nat.min_eq_left hla2, Nat.min_eq_left hlb2, List.map_take] at h19
  rw [show ointsT a = .os 1 t.length (a.map fun x => .sc (.int .i64 x)) by rw [← hla3]] at h17a
  rw [show ointsT b = .os 1 t.length (b.map fun x => .sc (.int .i64 x)) by rw [← hlb3]] at h17b
  clear ha hb e1 e2 hla hlb hla2 hlb2 htk
  have hct : (cut : Int) ≤ t.length := by omega
  repeat' (first | refine thenC_n ?_ | refine thenC_x ?_ | refine thenC_r ?_ | refine blockC_n ?_ | refine blockC_hit2 rfl ?_ | refine blockC_miss rfl ?_ | refine blockC_r ?_ | refine loopC_x ?_ | refine loopC_r ?_ | refine rangeC_x ?_ | refine rangeC_r ?_ | refine q_seq rfl ?_ | refine q_block rfl ?_ | (refine q_frz rfl rfl (by simp [*]; rfl) ?_) | (refine q_region rfl rfl rfl fun Q' hQ => ?_; simp [*]; (refine hQ.out _ ?_; clear hQ; clear Q')) | (refine q_if rfl fun Q1 Q2 h1 h2 => ?_; simp [*, twoB_some, twoV_some, ltFI, leFI, ltFN, leFN, guardF, yieldF, getA, opE, rdV, scE, constE]; (try (repeat' (first | refine And.intro ?_ ?_ | intro _))); all_goals (first | (exfalso; omega) | (refine h1.out ?_; clear h1 h2; clear Q1 Q2) | (refine h2.out ?_; clear h1 h2; clear Q1 Q2))) | refine q_exit rfl ?_ | refine q_ret rfl ?_ | refine q_skip rfl ?_ | refine q_label rfl ?_ | refine q_drawW rfl rfl rfl rfl ?_ | (refine q_drawW_nil rfl fun Q' hQ => ?_; simp [*]; (refine hQ.out _ ?_; clear hQ; clear Q')) | (refine q_drawW_op rfl rfl fun Q' hQ => ?_; simp [*]; (refine hQ.out _ ?_; clear hQ; clear Q')) | (refine q_drawW_guard rfl rfl fun Q1 Q2 h1 h2 => ?_; simp [*, twoB_some, twoV_some, ltFI, leFI, ltFN, leFN, grdF, yieldF, getA, opE, rdV, scE, constE]; (try (repeat' (first | refine And.intro ?_ ?_ | intro _))); all_goals (first | (exfalso; omega) | ((first | (exfalso; omega) | (refine h1.out ?_; clear h1 h2; clear Q1 Q2) | (refine h2.out ?_; clear h1 h2; clear Q1 Q2)); intro Q' hQ; simp [*]; (refine hQ.out _ ?_; clear hQ; clear Q')))) | refine q_regionW rfl rfl rfl ?_ | (refine regP_nil (by decide) ?_) | (refine regP_op rfl rfl fun Q' hQ => ?_; simp [*]; (refine hQ.out _ ?_; clear hQ; clear Q')) | (refine regP_guard rfl rfl fun Q1 Q2 h1 h2 => ?_; simp [*, twoB_some, twoV_some, ltFI, leFI, ltFN, leFN, grdF, yieldF, getA, opE, rdV, scE, constE]; (try (repeat' (first | refine And.intro ?_ ?_ | intro _))); all_goals (first | (exfalso; omega) | ((first | (exfalso; omega) | (refine h1.out ?_; clear h1 h2; clear Q1 Q2) | (refine h2.out ?_; clear h1 h2; clear Q1 Q2)); intro Q' hQ; simp [*]; (refine hQ.out _ ?_; clear hQ; clear Q')))))
  all_goals simp [*]
theorem law3 (xs : List Int) (_ : xs.length ≤ maxLen) (_ : ∀ x ∈ xs, (Lit.int .i64 x).wf = true) (ct : Int) (_ : (Lit.int .i64 ct).wf = true) : ∃ outs, L 3 [ints xs, iT ct] = some (bT true, outs) := c3 xs ct
end Go.Proofs.YthalofddjlhcjaaDoor
end
section
/-
  DERIVED: THE SHELF's CONTRACTS AT THIS DUMP, IN PLAIN WORDS (tools/lay-plain.mjs out of 'TrydShelf.lean', which tools/lay-shelf.mjs wrote): THE SAME DECLARATIONS UNDER THE SAME NAMES: 'import', 'namespace', 'open', 'def', 'theorem' AND NOTHING ELSE: no command of the shelf's: FOR A HAND-IN. Each laying: the table of numbers ('.._ren') and one theorem, a field a fact of the dump's own or the kernel's comparison; each contract: ONE APPLICATION.
-/
namespace Go.Proofs
open Go.Shelf
def Tryd.lays215_ren : Go.Shelf.Ren := ⟨fun | 215 => 81 | n => n, fun | 3 => 3 | 4 => 4 | n => n, fun | n => n⟩
theorem Tryd.lays215 : Go.Proofs.Lays.n215 Tryd.prog Tryd.lays215_ren := {
  mixed := by kernel_rfl
  f215 := Tryd.func81.trans (congrArg some (by kernel_rfl))
  t3 := Tryd.underlying3
  a3 := Tryd.isAgg3
  z3 := Tryd.sizeOf3
  v3 := Tryd.zeroValue3
  t4 := Tryd.underlying4
  a4 := Tryd.isAgg4
  z4 := Tryd.sizeOf4
  v4 := Tryd.zeroValue4 }
open Go.RowKit in
/-- cmp.isNaN at int: 'x != x': false. (LAID: no walk: one application.) -/
theorem Tryd.cmp_isNaN_int (x : Int) (w : World) :
    Calls Tryd.prog 81 #[.int .i64 x] w fun e w' => e = .returned (.bool false) ∧ w' = w := Any.cmp_isNaN_int Tryd.lays215 x w
def Tryd.lays122_ren : Go.Shelf.Ren := ⟨fun | 122 => 72 | 215 => 81 | n => n, fun | 3 => 3 | 4 => 4 | n => n, fun | n => n⟩
theorem Tryd.lays122 : Go.Proofs.Lays.n122 Tryd.prog Tryd.lays122_ren := {
  mixed := by kernel_rfl
  f122 := Tryd.func72.trans (congrArg some (by kernel_rfl))
  f215 := Tryd.func81.trans (congrArg some (by kernel_rfl))
  t3 := Tryd.underlying3
  a3 := Tryd.isAgg3
  z3 := Tryd.sizeOf3
  v3 := Tryd.zeroValue3
  t4 := Tryd.underlying4
  a4 := Tryd.isAgg4
  z4 := Tryd.sizeOf4
  v4 := Tryd.zeroValue4 }
open Go.RowKit in
/-- cmp.Compare at int: "Compare returns -1 if x is less than y, 0 if x equals y, +1 if x is greater than y.": IT RETURNS 'Lib.compareInt x y'; the world is as it was. (LAID: no walk: one application.) -/
theorem Tryd.cmp_Compare_int (x y : Int) (w : World) :
    Calls Tryd.prog 72 #[.int .i64 x, .int .i64 y] w fun e w' => e = .returned (.int .i64 (Lib.compareInt x y)) ∧ w' = w := Any.cmp_Compare_int Tryd.lays122 x y w
def Tryd.lays195_ren : Go.Shelf.Ren := ⟨fun | 195 => 86 | n => n, fun | 9 => 9 | 3 => 3 | 0 => 0 | 4 => 4 | n => n, fun | n => n⟩
theorem Tryd.lays195 : Go.Proofs.Lays.n195 Tryd.prog Tryd.lays195_ren := {
  mixed := by kernel_rfl
  f195 := Tryd.func86.trans (congrArg some (by kernel_rfl))
  t0 := Tryd.underlying0
  a0 := Tryd.isAgg0
  z0 := Tryd.sizeOf0
  v0 := Tryd.zeroValue0
  t3 := Tryd.underlying3
  a3 := Tryd.isAgg3
  z3 := Tryd.sizeOf3
  v3 := Tryd.zeroValue3
  t4 := Tryd.underlying4
  a4 := Tryd.isAgg4
  z4 := Tryd.sizeOf4
  v4 := Tryd.zeroValue4
  t9 := Tryd.underlying9
  a9 := Tryd.isAgg9
  z9 := Tryd.sizeOf9
  v9 := Tryd.zeroValue9 }
open Go.RowKit in
/-- unicode/utf8.RuneCountInString: "RuneCountInString is like RuneCount but its input is a string." ("RuneCount returns the number of runes in p. Erroneous and short encodings are treated as single runes of width 1 byte."): EVERY STRING, valid UTF-8 or not: 'Lib.runeCount s' (plain Lean over the model's own 'Utf8.decode'; 'Lib.runeCount_le': at most len(s); 'Lib.runeCount_ascii': on ASCII: len(s)). THE ONE CONDITION: len(s) below 2^63 - 1 (the counter does not wrap): the form's reach pays it. THE WORLD BEHIND THE CALL: ONE BLOCK MORE: the model's iterator over s, at its end: all else as it was. (LAID: no walk: one application.) -/
theorem Tryd.utf8_RuneCountInString (s : ByteArray) (w : World) (hs : s.size < 9223372036854775807) :
    Calls Tryd.prog 86 #[.string s] w fun e w' => e = .returned (.int .i64 (Lib.runeCount s)) ∧ ∃ pos, w' = w.iter s pos := Any.utf8_RuneCountInString Tryd.lays195 s w hs
def Tryd.lays129_ren : Go.Shelf.Ren := ⟨fun | 129 => 98 | n => n, fun | 53 => 112 | 3 => 3 | 4 => 4 | 46 => 102 | 5 => 5 | 9 => 9 | n => n, fun | n => n⟩
theorem Tryd.lays129 : Go.Proofs.Lays.n129 Tryd.prog Tryd.lays129_ren := {
  mixed := by kernel_rfl
  f129 := Tryd.func98.trans (congrArg some (by kernel_rfl))
  t3 := Tryd.underlying3
  a3 := Tryd.isAgg3
  z3 := Tryd.sizeOf3
  v3 := Tryd.zeroValue3
  t4 := Tryd.underlying4
  a4 := Tryd.isAgg4
  z4 := Tryd.sizeOf4
  v4 := Tryd.zeroValue4
  t5 := Tryd.underlying5
  a5 := Tryd.isAgg5
  z5 := Tryd.sizeOf5
  v5 := Tryd.zeroValue5
  t9 := Tryd.underlying9
  a9 := Tryd.isAgg9
  z9 := Tryd.sizeOf9
  v9 := Tryd.zeroValue9
  t46 := Tryd.underlying102
  a46 := Tryd.isAgg102
  z46 := Tryd.sizeOf102
  v46 := Tryd.zeroValue102
  t53 := Tryd.underlying112
  a53 := Tryd.isAgg112
  z53 := Tryd.sizeOf112
  v53 := Tryd.zeroValue112 }
/-- bits.Len64: "Len64 returns the minimum number of bits required to represent x; the result is 0 for x == 0.": IT RETURNS 'Lib.bitLen x'; the world is as it was. ('h0', 'h1': x is a uint64.) (LAID: no walk: one application.) -/
theorem Tryd.bits_Len64 (x : Int) (w : World) (h0 : 0 ≤ x) (h1 : x ≤ 18446744073709551615) :
    Calls Tryd.prog 98 #[.int .u64 x] w fun e w' => e = .returned (.int .i64 (Lib.bitLen x.toNat)) ∧ w' = w := Any.bits_Len64 Tryd.lays129 x w h0 h1
def Tryd.lays317_ren : Go.Shelf.Ren := ⟨fun | 317 => 97 | n => n, fun | 3 => 3 | 46 => 102 | n => n, fun | n => n⟩
theorem Tryd.lays317 : Go.Proofs.Lays.n317 Tryd.prog Tryd.lays317_ren := {
  mixed := by kernel_rfl
  f317 := Tryd.func97.trans (congrArg some (by kernel_rfl))
  t3 := Tryd.underlying3
  a3 := Tryd.isAgg3
  z3 := Tryd.sizeOf3
  v3 := Tryd.zeroValue3
  t46 := Tryd.underlying102
  a46 := Tryd.isAgg102
  z46 := Tryd.sizeOf102
  v46 := Tryd.zeroValue102 }
open Go.Lib in
/-- internal/strconv.log10Pow2: "log10Pow2(x) returns ⌊log₁₀ 2**x⌋ = ⌊x * log₁₀ 2⌋.": '(x * 78913) >> 18', at an x up to 64 (a length in bits). The world is as it was. (LAID: no walk: one application.) -/
theorem Tryd.internal_strconv_log10Pow2 (x : Nat) (h : x ≤ 64) (w : World) :
    Calls Tryd.prog 97 #[.int .i64 x] w fun e w' => e = .returned (.int .i64 (Lib.l10 x)) ∧ w' = w := Any.internal_strconv_log10Pow2 Tryd.lays317 x h w
def Tryd.lays318_ren : Go.Shelf.Ren := ⟨fun | 318 => 99 | n => n, fun | 3 => 3 | 4 => 4 | n => n, fun | n => n⟩
theorem Tryd.lays318 : Go.Proofs.Lays.n318 Tryd.prog Tryd.lays318_ren := {
  mixed := by kernel_rfl
  f318 := Tryd.func99.trans (congrArg some (by kernel_rfl))
  t3 := Tryd.underlying3
  a3 := Tryd.isAgg3
  z3 := Tryd.sizeOf3
  v3 := Tryd.zeroValue3
  t4 := Tryd.underlying4
  a4 := Tryd.isAgg4
  z4 := Tryd.sizeOf4
  v4 := Tryd.zeroValue4 }
open Go.Lib in
/-- internal/strconv.bool2: "bool2 converts b to an integer: 1 for true, 0 for false." The world is as it was. (LAID: no walk: one application.) -/
theorem Tryd.internal_strconv_bool2_int (b : Bool) (w : World) :
    Calls Tryd.prog 99 #[.bool b] w fun e w' => e = .returned (.int .i64 (if b then 1 else 0)) ∧ w' = w := Any.internal_strconv_bool2_int Tryd.lays318 b w
def Tryd.lays283_ren : Go.Shelf.Ren := ⟨fun | 283 => 93 | n => n, fun | 3 => 3 | 9 => 9 | 4 => 4 | n => n, fun | n => n⟩
theorem Tryd.lays283 : Go.Proofs.Lays.n283 Tryd.prog Tryd.lays283_ren := {
  mixed := by kernel_rfl
  f283 := Tryd.func93.trans (congrArg some (by kernel_rfl))
  t3 := Tryd.underlying3
  a3 := Tryd.isAgg3
  z3 := Tryd.sizeOf3
  v3 := Tryd.zeroValue3
  t4 := Tryd.underlying4
  a4 := Tryd.isAgg4
  z4 := Tryd.sizeOf4
  v4 := Tryd.zeroValue4
  t9 := Tryd.underlying9
  a9 := Tryd.isAgg9
  z9 := Tryd.sizeOf9
  v9 := Tryd.zeroValue9 }
open Go.Lib in
/-- internal/strconv.small: "small returns the string for an i with 0 <= i < nSmalls.": i's decimal numeral. The world is as it was. (LAID: no walk: one application.) -/
theorem Tryd.internal_strconv_small (i : Nat) (h : i < 100) (w : World) :
    Calls Tryd.prog 93 #[.int .i64 i] w fun e w' => e = .returned (.string ⟨(Lib.decDigits i).toArray⟩) ∧ w' = w := Any.internal_strconv_small Tryd.lays283 i h w
def Tryd.laysM284_ren : Go.Shelf.Ren := ⟨fun | 284 => 94 | 129 => 98 | 317 => 97 | 318 => 99 | n => n, fun | 53 => 112 | 3 => 3 | 212 => 127 | 0 => 0 | 4 => 4 | 46 => 102 | 5 => 5 | 9 => 9 | n => n, fun | 17 => 3 | n => n⟩
theorem Tryd.laysM284 : Go.Proofs.LaysM.n284 Tryd.prog Tryd.laysM284_ren := {
  mixed := by kernel_rfl
  f129 := Tryd.func98.trans (congrArg some (by kernel_rfl))
  f284 := Tryd.func94.trans (congrArg some (by kernel_rfl))
  f317 := Tryd.func97.trans (congrArg some (by kernel_rfl))
  f318 := Tryd.func99.trans (congrArg some (by kernel_rfl))
  t0 := Tryd.underlying0
  a0 := Tryd.isAgg0
  z0 := Tryd.sizeOf0
  v0 := Tryd.zeroValue0
  t3 := Tryd.underlying3
  a3 := Tryd.isAgg3
  z3 := Tryd.sizeOf3
  v3 := Tryd.zeroValue3
  t4 := Tryd.underlying4
  a4 := Tryd.isAgg4
  z4 := Tryd.sizeOf4
  v4 := Tryd.zeroValue4
  t5 := Tryd.underlying5
  a5 := Tryd.isAgg5
  z5 := Tryd.sizeOf5
  v5 := Tryd.zeroValue5
  t9 := Tryd.underlying9
  a9 := Tryd.isAgg9
  z9 := Tryd.sizeOf9
  v9 := Tryd.zeroValue9
  t46 := Tryd.underlying102
  a46 := Tryd.isAgg102
  z46 := Tryd.sizeOf102
  v46 := Tryd.zeroValue102
  t53 := Tryd.underlying112
  a53 := Tryd.isAgg112
  z53 := Tryd.sizeOf112
  v53 := Tryd.zeroValue112
  t212 := Tryd.underlying127
  a212 := Tryd.isAgg127
  z212 := Tryd.sizeOf127
  v212 := Tryd.zeroValue127
  g17 := by kernel_rfl
  i0 := by kernel_rfl
  i3 := by kernel_rfl
  i4 := by kernel_rfl
  i5 := by kernel_rfl
  i9 := by kernel_rfl
  i46 := by kernel_rfl
  i53 := by kernel_rfl
  i212 := by kernel_rfl
  m17 := by kernel_rfl }
open Go.Lib in
/-- internal/strconv.numDigits, at a d that is not 0: THE NUMBER OF d's DECIMAL DIGITS. The world is as it was. (LAID: no walk: one application.) -/
theorem Tryd.internal_strconv_numDigits (u : Nat) (h1 : 1 ≤ u) (h2 : u < 18446744073709551616) (w : World) (htab : Lib.TabIs Tryd.prog w "internal/strconv.uint64pow10" .u64 Lib.pow10Tab) :
    Calls Tryd.prog 94 #[.int .u64 u] w fun e w' => e = .returned (.int .i64 (Lib.nDigits u)) ∧ w' = w := Any.internal_strconv_numDigits Tryd.laysM284 u h1 h2 w htab
def Tryd.lays285_ren : Go.Shelf.Ren := ⟨fun | 285 => 95 | n => n, fun | 37 => 54 | 53 => 112 | 3 => 3 | 4 => 4 | 51 => 114 | 9 => 9 | 5 => 5 | 0 => 0 | n => n, fun | n => n⟩
theorem Tryd.lays285 : Go.Proofs.Lays.n285 Tryd.prog Tryd.lays285_ren := {
  mixed := by kernel_rfl
  f285 := Tryd.func95.trans (congrArg some (by kernel_rfl))
  t0 := Tryd.underlying0
  a0 := Tryd.isAgg0
  z0 := Tryd.sizeOf0
  v0 := Tryd.zeroValue0
  t3 := Tryd.underlying3
  a3 := Tryd.isAgg3
  z3 := Tryd.sizeOf3
  v3 := Tryd.zeroValue3
  t4 := Tryd.underlying4
  a4 := Tryd.isAgg4
  z4 := Tryd.sizeOf4
  v4 := Tryd.zeroValue4
  t5 := Tryd.underlying5
  a5 := Tryd.isAgg5
  z5 := Tryd.sizeOf5
  v5 := Tryd.zeroValue5
  t9 := Tryd.underlying9
  a9 := Tryd.isAgg9
  z9 := Tryd.sizeOf9
  v9 := Tryd.zeroValue9
  t37 := Tryd.underlying54
  a37 := Tryd.isAgg54
  z37 := Tryd.sizeOf54
  v37 := Tryd.zeroValue54
  t51 := Tryd.underlying114
  a51 := Tryd.isAgg114
  z51 := Tryd.sizeOf114
  v51 := Tryd.zeroValue114
  t53 := Tryd.underlying112
  a53 := Tryd.isAgg112
  z53 := Tryd.sizeOf112
  v53 := Tryd.zeroValue112 }
open Go.RowKit Go.Sort Go.Lib in
/-- internal/strconv.formatBase10: "formatBase10 formats the decimal representation of u into a. The caller is responsible for ensuring that a is big enough to hold u. If a is too big, leading zeros will be filled in as needed.": THE ROW HOLDS u's DIGITS ('FmtInv .. 0 ..': every place t holds 'dg u (len - 1 - t)'); all else is as it was but for the count of draws. (LAID: no walk: one application.) -/
theorem Tryd.internal_strconv_formatBase10 (blk off cap : Nat) (u : Nat) (d : Array UInt8) (w : World) (hH : Holds (fun (b : UInt8) => Value.int .u8 (b.toNat : Int)) w blk off d) (hu : u < 10 ^ d.size) (hu64 : u < 18446744073709551616) (hsz : d.size < 4611686018427387904) :
    Calls Tryd.prog 95 #[.slice (some ⟨blk, off, none⟩) d.size cap, .int .u64 u] w fun e w' =>
      e = .returned (.tuple #[]) ∧ ∃ (n v' : Nat) (dk : Array UInt8), w' = (putRow (fun (b : UInt8) => Value.int .u8 (b.toNat : Int)) w blk off dk).drewN n ∧ FmtInv d.size u 0 v' dk := Any.internal_strconv_formatBase10 Tryd.lays285 blk off cap u d w hH hu hu64 hsz
def Tryd.lays217_ren : Go.Shelf.Ren := ⟨fun | 217 => 82 | 266 => 90 | n => n, fun | 9 => 9 | 5 => 5 | 3 => 3 | n => n, fun | n => n⟩
theorem Tryd.lays217 : Go.Proofs.Lays.n217 Tryd.prog Tryd.lays217_ren := {
  mixed := by kernel_rfl
  f217 := Tryd.func82.trans (congrArg some (by kernel_rfl))
  f266 := Tryd.func90.trans (congrArg some (by kernel_rfl))
  t3 := Tryd.underlying3
  a3 := Tryd.isAgg3
  z3 := Tryd.sizeOf3
  v3 := Tryd.zeroValue3
  t5 := Tryd.underlying5
  a5 := Tryd.isAgg5
  z5 := Tryd.sizeOf5
  v5 := Tryd.zeroValue5
  t9 := Tryd.underlying9
  a9 := Tryd.isAgg9
  z9 := Tryd.sizeOf9
  v9 := Tryd.zeroValue9 }
open Go.RowKit Go.Lib in
/-- internal/stringslite.IndexByte (what strings.IndexByte calls): IT RETURNS 'Lib.indexByte s c'; the world is as it was. (LAID: no walk: one application.) -/
theorem Tryd.stringslite_IndexByte (s : ByteArray) (c : Int) (w : World) :
    Calls Tryd.prog 82 #[.string s, .int .u8 c] w fun e w' => e = .returned (.int .i64 (Lib.indexByte s.data.toList c.toNat.toUInt8)) ∧ w' = w := Any.stringslite_IndexByte Tryd.lays217 s c w
def Tryd.lays224_ren : Go.Shelf.Ren := ⟨fun | 224 => 84 | n => n, fun | 3 => 3 | n => n, fun | n => n⟩
theorem Tryd.lays224 : Go.Proofs.Lays.n224 Tryd.prog Tryd.lays224_ren := {
  mixed := by kernel_rfl
  f224 := Tryd.func84.trans (congrArg some (by kernel_rfl))
  t3 := Tryd.underlying3
  a3 := Tryd.isAgg3
  z3 := Tryd.sizeOf3
  v3 := Tryd.zeroValue3 }
open Go.RowKit Go.Lib in
/-- internal/bytealg.Cutover: "Cutover reports the number of failures of IndexByte we should tolerate before switching over to Index. n is the number of bytes processed so far.": on amd64: (n + 16) / 8. (LAID: no walk: one application.) -/
theorem Tryd.bytealg_Cutover (n : Int) (h0 : 0 ≤ n) (h1 : n < 4611686018427387904) (w : World) :
    Calls Tryd.prog 84 #[.int .i64 n] w fun e w' => e = .returned (.int .i64 ((n + 16) / 8)) ∧ w' = w := Any.bytealg_Cutover Tryd.lays224 n h0 h1 w
def Tryd.lays314_ren : Go.Shelf.Ren := ⟨fun | 314 => 91 | n => n, fun | 9 => 9 | 51 => 114 | 3 => 3 | 4 => 4 | 5 => 5 | 46 => 102 | n => n, fun | n => n⟩
theorem Tryd.lays314 : Go.Proofs.Lays.n314 Tryd.prog Tryd.lays314_ren := {
  mixed := by kernel_rfl
  f314 := Tryd.func91.trans (congrArg some (by kernel_rfl))
  t3 := Tryd.underlying3
  a3 := Tryd.isAgg3
  z3 := Tryd.sizeOf3
  v3 := Tryd.zeroValue3
  t4 := Tryd.underlying4
  a4 := Tryd.isAgg4
  z4 := Tryd.sizeOf4
  v4 := Tryd.zeroValue4
  t5 := Tryd.underlying5
  a5 := Tryd.isAgg5
  z5 := Tryd.sizeOf5
  v5 := Tryd.zeroValue5
  t9 := Tryd.underlying9
  a9 := Tryd.isAgg9
  z9 := Tryd.sizeOf9
  v9 := Tryd.zeroValue9
  t46 := Tryd.underlying102
  a46 := Tryd.isAgg102
  z46 := Tryd.sizeOf102
  v46 := Tryd.zeroValue102
  t51 := Tryd.underlying114
  a51 := Tryd.isAgg114
  z51 := Tryd.sizeOf114
  v51 := Tryd.zeroValue114 }
open Go.RowKit Go.Lib in
/-- hashStr: "returns the hash and the appropriate multiplicative factor for use in Rabin-Karp algorithm": THE HASH OF ALL OF sep, AND 16777619 ^ len(sep), both in uint32. (LAID: no walk: one application.) -/
theorem Tryd.bytealg_hashStr (sep : ByteArray) (hs : sep.size < 4294967281) (w : World) :
    Calls Tryd.prog 91 #[.string sep] w fun e w' => e = .returned (.tuple #[.int .u32 (RK.H sep.data.toList % 4294967296), .int .u32 (16777619 ^ sep.size % 4294967296)]) ∧ w' = w := Any.bytealg_hashStr Tryd.lays314 sep hs w
def Tryd.lays267_ren : Go.Shelf.Ren := ⟨fun | 267 => 85 | 314 => 91 | n => n, fun | 9 => 9 | 3 => 3 | 146 => 115 | 51 => 114 | 4 => 4 | 5 => 5 | 46 => 102 | n => n, fun | n => n⟩
theorem Tryd.lays267 : Go.Proofs.Lays.n267 Tryd.prog Tryd.lays267_ren := {
  mixed := by kernel_rfl
  f267 := Tryd.func85.trans (congrArg some (by kernel_rfl))
  f314 := Tryd.func91.trans (congrArg some (by kernel_rfl))
  t3 := Tryd.underlying3
  a3 := Tryd.isAgg3
  z3 := Tryd.sizeOf3
  v3 := Tryd.zeroValue3
  t4 := Tryd.underlying4
  a4 := Tryd.isAgg4
  z4 := Tryd.sizeOf4
  v4 := Tryd.zeroValue4
  t5 := Tryd.underlying5
  a5 := Tryd.isAgg5
  z5 := Tryd.sizeOf5
  v5 := Tryd.zeroValue5
  t9 := Tryd.underlying9
  a9 := Tryd.isAgg9
  z9 := Tryd.sizeOf9
  v9 := Tryd.zeroValue9
  t46 := Tryd.underlying102
  a46 := Tryd.isAgg102
  z46 := Tryd.sizeOf102
  v46 := Tryd.zeroValue102
  t51 := Tryd.underlying114
  a51 := Tryd.isAgg114
  z51 := Tryd.sizeOf114
  v51 := Tryd.zeroValue114
  t146 := Tryd.underlying115
  a146 := Tryd.isAgg115
  z146 := Tryd.sizeOf115
  v146 := Tryd.zeroValue115 }
open Go.RowKit Go.Lib in
theorem Tryd.bytealg_IndexRabinKarp (s sep : ByteArray) (h1 : 1 ≤ sep.size) (h2 : sep.size ≤ s.size) (hs : s.size < 4294967281) (w : World) :
    Calls Tryd.prog 85 #[.string s, .string sep] w fun e w' => e = .returned (.int .i64 (Lib.index s.data.toList sep.data.toList)) ∧ w' = w := Any.bytealg_IndexRabinKarp Tryd.lays267 s sep h1 h2 hs w
def Tryd.lays219_ren : Go.Shelf.Ren := ⟨fun | 219 => 76 | 217 => 82 | 225 => 83 | 224 => 84 | 267 => 85 | 266 => 90 | 314 => 91 | n => n, fun | 9 => 9 | 3 => 3 | 4 => 4 | 5 => 5 | 46 => 102 | 146 => 115 | 51 => 114 | n => n, fun | 1 => 0 | n => n⟩
theorem Tryd.lays219 : Go.Proofs.Lays.n219 Tryd.prog Tryd.lays219_ren := {
  mixed := by kernel_rfl
  f217 := Tryd.func82.trans (congrArg some (by kernel_rfl))
  f219 := Tryd.func76.trans (congrArg some (by kernel_rfl))
  f224 := Tryd.func84.trans (congrArg some (by kernel_rfl))
  f225 := Tryd.func83.trans (congrArg some (by kernel_rfl))
  f266 := Tryd.func90.trans (congrArg some (by kernel_rfl))
  f267 := Tryd.func85.trans (congrArg some (by kernel_rfl))
  f314 := Tryd.func91.trans (congrArg some (by kernel_rfl))
  t3 := Tryd.underlying3
  a3 := Tryd.isAgg3
  z3 := Tryd.sizeOf3
  v3 := Tryd.zeroValue3
  t4 := Tryd.underlying4
  a4 := Tryd.isAgg4
  z4 := Tryd.sizeOf4
  v4 := Tryd.zeroValue4
  t5 := Tryd.underlying5
  a5 := Tryd.isAgg5
  z5 := Tryd.sizeOf5
  v5 := Tryd.zeroValue5
  t9 := Tryd.underlying9
  a9 := Tryd.isAgg9
  z9 := Tryd.sizeOf9
  v9 := Tryd.zeroValue9
  t46 := Tryd.underlying102
  a46 := Tryd.isAgg102
  z46 := Tryd.sizeOf102
  v46 := Tryd.zeroValue102
  t51 := Tryd.underlying114
  a51 := Tryd.isAgg114
  z51 := Tryd.sizeOf114
  v51 := Tryd.zeroValue114
  t146 := Tryd.underlying115
  a146 := Tryd.isAgg115
  z146 := Tryd.sizeOf115
  v146 := Tryd.zeroValue115
  g1 := by kernel_rfl }
open Go.RowKit Go.Lib in
/-- internal/stringslite.Index (what strings.Index calls) AT A substr OF ONE BYTE c: IT RETURNS 'Lib.indexByte s c'; the world is as it was. (LAID: no walk: one application.) -/
theorem Tryd.stringslite_Index_one (s : ByteArray) (c : UInt8) (w : World) :
    Calls Tryd.prog 76 #[.string s, .string ⟨#[c]⟩] w fun e w' => e = .returned (.int .i64 (Lib.indexByte s.data.toList c)) ∧ w' = w := Any.stringslite_Index_one Tryd.lays219 s c w
open Go.RowKit Go.Lib in
/-- internal/stringslite.Index (what strings.Index calls) AT A substr OF WHATEVER LENGTH: IT RETURNS 'Lib.index s substr'; the world is as it was. 'm': what internal/bytealg.MaxLen holds: whatever. (LAID: no walk: one application.) -/
theorem Tryd.stringslite_Index (s sub : ByteArray) (m : Int) (w : World) (hs : s.size < 4294967281) (hm : w.cell? ⟨0, 0, none⟩ = some (.int .i64 m)) :
    Calls Tryd.prog 76 #[.string s, .string sub] w fun e w' => e = .returned (.int .i64 (Lib.index s.data.toList sub.data.toList)) ∧ w' = w := Any.stringslite_Index Tryd.lays219 s sub m w hs hm
def Tryd.lays143_ren : Go.Shelf.Ren := ⟨fun | 143 => 79 | 219 => 76 | 217 => 82 | 225 => 83 | 224 => 84 | 267 => 85 | 266 => 90 | 314 => 91 | n => n, fun | 9 => 9 | 3 => 3 | 4 => 4 | 5 => 5 | 46 => 102 | 146 => 115 | 51 => 114 | n => n, fun | 1 => 0 | n => n⟩
theorem Tryd.lays143 : Go.Proofs.Lays.n143 Tryd.prog Tryd.lays143_ren := {
  mixed := by kernel_rfl
  f143 := Tryd.func79.trans (congrArg some (by kernel_rfl))
  f217 := Tryd.func82.trans (congrArg some (by kernel_rfl))
  f219 := Tryd.func76.trans (congrArg some (by kernel_rfl))
  f224 := Tryd.func84.trans (congrArg some (by kernel_rfl))
  f225 := Tryd.func83.trans (congrArg some (by kernel_rfl))
  f266 := Tryd.func90.trans (congrArg some (by kernel_rfl))
  f267 := Tryd.func85.trans (congrArg some (by kernel_rfl))
  f314 := Tryd.func91.trans (congrArg some (by kernel_rfl))
  t3 := Tryd.underlying3
  a3 := Tryd.isAgg3
  z3 := Tryd.sizeOf3
  v3 := Tryd.zeroValue3
  t4 := Tryd.underlying4
  a4 := Tryd.isAgg4
  z4 := Tryd.sizeOf4
  v4 := Tryd.zeroValue4
  t5 := Tryd.underlying5
  a5 := Tryd.isAgg5
  z5 := Tryd.sizeOf5
  v5 := Tryd.zeroValue5
  t9 := Tryd.underlying9
  a9 := Tryd.isAgg9
  z9 := Tryd.sizeOf9
  v9 := Tryd.zeroValue9
  t46 := Tryd.underlying102
  a46 := Tryd.isAgg102
  z46 := Tryd.sizeOf102
  v46 := Tryd.zeroValue102
  t51 := Tryd.underlying114
  a51 := Tryd.isAgg114
  z51 := Tryd.sizeOf114
  v51 := Tryd.zeroValue114
  t146 := Tryd.underlying115
  a146 := Tryd.isAgg115
  z146 := Tryd.sizeOf115
  v146 := Tryd.zeroValue115
  g1 := by kernel_rfl }
open Go.RowKit Go.Lib in
/-- strings.Index: "Index returns the index of the first instance of substr in s, or -1 if substr is not present in s.": AT A substr OF ONE BYTE c: IT RETURNS 'Lib.indexByte s c'; the world is as it was. (LAID: no walk: one application.) -/
theorem Tryd.strings_Index_one (s : ByteArray) (c : UInt8) (w : World) :
    Calls Tryd.prog 79 #[.string s, .string ⟨#[c]⟩] w fun e w' => e = .returned (.int .i64 (Lib.indexByte s.data.toList c)) ∧ w' = w := Any.strings_Index_one Tryd.lays143 s c w
open Go.RowKit Go.Lib in
/-- strings.Index: "Index returns the index of the first instance of substr in s, or -1 if substr is not present in s.": IT RETURNS 'Lib.index s substr'; the world is as it was. (LAID: no walk: one application.) -/
theorem Tryd.strings_Index (s sub : ByteArray) (m : Int) (w : World) (hs : s.size < 4294967281) (hm : w.cell? ⟨0, 0, none⟩ = some (.int .i64 m)) :
    Calls Tryd.prog 79 #[.string s, .string sub] w fun e w' => e = .returned (.int .i64 (Lib.index s.data.toList sub.data.toList)) ∧ w' = w := Any.strings_Index Tryd.lays143 s sub m w hs hm
def Tryd.lays220_ren : Go.Shelf.Ren := ⟨fun | 220 => 67 | 219 => 76 | 217 => 82 | 225 => 83 | 224 => 84 | 267 => 85 | 266 => 90 | 314 => 91 | n => n, fun | 9 => 9 | 4 => 4 | 3 => 3 | 5 => 5 | 46 => 102 | 146 => 115 | 51 => 114 | n => n, fun | 1 => 0 | n => n⟩
theorem Tryd.lays220 : Go.Proofs.Lays.n220 Tryd.prog Tryd.lays220_ren := {
  mixed := by kernel_rfl
  f217 := Tryd.func82.trans (congrArg some (by kernel_rfl))
  f219 := Tryd.func76.trans (congrArg some (by kernel_rfl))
  f220 := Tryd.func67.trans (congrArg some (by kernel_rfl))
  f224 := Tryd.func84.trans (congrArg some (by kernel_rfl))
  f225 := Tryd.func83.trans (congrArg some (by kernel_rfl))
  f266 := Tryd.func90.trans (congrArg some (by kernel_rfl))
  f267 := Tryd.func85.trans (congrArg some (by kernel_rfl))
  f314 := Tryd.func91.trans (congrArg some (by kernel_rfl))
  t3 := Tryd.underlying3
  a3 := Tryd.isAgg3
  z3 := Tryd.sizeOf3
  v3 := Tryd.zeroValue3
  t4 := Tryd.underlying4
  a4 := Tryd.isAgg4
  z4 := Tryd.sizeOf4
  v4 := Tryd.zeroValue4
  t5 := Tryd.underlying5
  a5 := Tryd.isAgg5
  z5 := Tryd.sizeOf5
  v5 := Tryd.zeroValue5
  t9 := Tryd.underlying9
  a9 := Tryd.isAgg9
  z9 := Tryd.sizeOf9
  v9 := Tryd.zeroValue9
  t46 := Tryd.underlying102
  a46 := Tryd.isAgg102
  z46 := Tryd.sizeOf102
  v46 := Tryd.zeroValue102
  t51 := Tryd.underlying114
  a51 := Tryd.isAgg114
  z51 := Tryd.sizeOf114
  v51 := Tryd.zeroValue114
  t146 := Tryd.underlying115
  a146 := Tryd.isAgg115
  z146 := Tryd.sizeOf115
  v146 := Tryd.zeroValue115
  g1 := by kernel_rfl }
open Go.RowKit Go.Lib in
/-- internal/stringslite.Cut (what strings.Cut calls): IT RETURNS 'Lib.cut s sep'; the world is as it was but for the count of draws. (LAID: no walk: one application.) -/
theorem Tryd.stringslite_Cut (s sep : ByteArray) (m : Int) (w : World) (hs : s.size < 4294967281) (hm : w.cell? ⟨0, 0, none⟩ = some (.int .i64 m)) :
    Calls Tryd.prog 67 #[.string s, .string sep] w fun e w' => e = .returned (.tuple #[.string ⟨(Lib.cut s.data.toList sep.data.toList).1.toArray⟩, .string ⟨(Lib.cut s.data.toList sep.data.toList).2.1.toArray⟩, .bool (Lib.cut s.data.toList sep.data.toList).2.2]) ∧ ∃ n, w' = w.drewN n := Any.stringslite_Cut Tryd.lays220 s sep m w hs hm
def Tryd.lays145_ren : Go.Shelf.Ren := ⟨fun | 145 => 48 | 220 => 67 | 219 => 76 | 217 => 82 | 225 => 83 | 224 => 84 | 267 => 85 | 266 => 90 | 314 => 91 | n => n, fun | 9 => 9 | 4 => 4 | 59 => 75 | 3 => 3 | 5 => 5 | 46 => 102 | 146 => 115 | 51 => 114 | n => n, fun | 1 => 0 | n => n⟩
theorem Tryd.lays145 : Go.Proofs.Lays.n145 Tryd.prog Tryd.lays145_ren := {
  mixed := by kernel_rfl
  f145 := Tryd.func48.trans (congrArg some (by kernel_rfl))
  f217 := Tryd.func82.trans (congrArg some (by kernel_rfl))
  f219 := Tryd.func76.trans (congrArg some (by kernel_rfl))
  f220 := Tryd.func67.trans (congrArg some (by kernel_rfl))
  f224 := Tryd.func84.trans (congrArg some (by kernel_rfl))
  f225 := Tryd.func83.trans (congrArg some (by kernel_rfl))
  f266 := Tryd.func90.trans (congrArg some (by kernel_rfl))
  f267 := Tryd.func85.trans (congrArg some (by kernel_rfl))
  f314 := Tryd.func91.trans (congrArg some (by kernel_rfl))
  t3 := Tryd.underlying3
  a3 := Tryd.isAgg3
  z3 := Tryd.sizeOf3
  v3 := Tryd.zeroValue3
  t4 := Tryd.underlying4
  a4 := Tryd.isAgg4
  z4 := Tryd.sizeOf4
  v4 := Tryd.zeroValue4
  t5 := Tryd.underlying5
  a5 := Tryd.isAgg5
  z5 := Tryd.sizeOf5
  v5 := Tryd.zeroValue5
  t9 := Tryd.underlying9
  a9 := Tryd.isAgg9
  z9 := Tryd.sizeOf9
  v9 := Tryd.zeroValue9
  t46 := Tryd.underlying102
  a46 := Tryd.isAgg102
  z46 := Tryd.sizeOf102
  v46 := Tryd.zeroValue102
  t51 := Tryd.underlying114
  a51 := Tryd.isAgg114
  z51 := Tryd.sizeOf114
  v51 := Tryd.zeroValue114
  t59 := Tryd.underlying75
  a59 := Tryd.isAgg75
  z59 := Tryd.sizeOf75
  v59 := Tryd.zeroValue75
  t146 := Tryd.underlying115
  a146 := Tryd.isAgg115
  z146 := Tryd.sizeOf115
  v146 := Tryd.zeroValue115
  g1 := by kernel_rfl }
open Go.RowKit Go.Lib in
/-- strings.Cut: "Cut slices s around the first instance of sep, returning the text before and after sep. The found result reports whether sep appears in s. If sep does not appear in s, cut returns s, "", false.": IT RETURNS 'Lib.cut s sep'; the world is as it was but for the count of draws. (LAID: no walk: one application.) -/
theorem Tryd.strings_Cut (s sep : ByteArray) (m : Int) (w : World) (hs : s.size < 4294967281) (hm : w.cell? ⟨0, 0, none⟩ = some (.int .i64 m)) :
    Calls Tryd.prog 48 #[.string s, .string sep] w fun e w' => e = .returned (.tuple #[.string ⟨(Lib.cut s.data.toList sep.data.toList).1.toArray⟩, .string ⟨(Lib.cut s.data.toList sep.data.toList).2.1.toArray⟩, .bool (Lib.cut s.data.toList sep.data.toList).2.2]) ∧ ∃ n, w' = w.drewN n := Any.strings_Cut Tryd.lays145 s sep m w hs hm
def Tryd.lays138_ren : Go.Shelf.Ren := ⟨fun | 138 => 78 | 195 => 86 | 218 => 88 | 143 => 79 | 219 => 76 | 217 => 82 | 225 => 83 | 224 => 84 | 267 => 85 | 266 => 90 | 314 => 91 | n => n, fun | 9 => 9 | 3 => 3 | 4 => 4 | 5 => 5 | 0 => 0 | 46 => 102 | 146 => 115 | 51 => 114 | n => n, fun | 1 => 0 | n => n⟩
theorem Tryd.lays138 : Go.Proofs.Lays.n138 Tryd.prog Tryd.lays138_ren := {
  mixed := by kernel_rfl
  f138 := Tryd.func78.trans (congrArg some (by kernel_rfl))
  f143 := Tryd.func79.trans (congrArg some (by kernel_rfl))
  f195 := Tryd.func86.trans (congrArg some (by kernel_rfl))
  f217 := Tryd.func82.trans (congrArg some (by kernel_rfl))
  f218 := Tryd.func88.trans (congrArg some (by kernel_rfl))
  f219 := Tryd.func76.trans (congrArg some (by kernel_rfl))
  f224 := Tryd.func84.trans (congrArg some (by kernel_rfl))
  f225 := Tryd.func83.trans (congrArg some (by kernel_rfl))
  f266 := Tryd.func90.trans (congrArg some (by kernel_rfl))
  f267 := Tryd.func85.trans (congrArg some (by kernel_rfl))
  f314 := Tryd.func91.trans (congrArg some (by kernel_rfl))
  t0 := Tryd.underlying0
  a0 := Tryd.isAgg0
  z0 := Tryd.sizeOf0
  v0 := Tryd.zeroValue0
  t3 := Tryd.underlying3
  a3 := Tryd.isAgg3
  z3 := Tryd.sizeOf3
  v3 := Tryd.zeroValue3
  t4 := Tryd.underlying4
  a4 := Tryd.isAgg4
  z4 := Tryd.sizeOf4
  v4 := Tryd.zeroValue4
  t5 := Tryd.underlying5
  a5 := Tryd.isAgg5
  z5 := Tryd.sizeOf5
  v5 := Tryd.zeroValue5
  t9 := Tryd.underlying9
  a9 := Tryd.isAgg9
  z9 := Tryd.sizeOf9
  v9 := Tryd.zeroValue9
  t46 := Tryd.underlying102
  a46 := Tryd.isAgg102
  z46 := Tryd.sizeOf102
  v46 := Tryd.zeroValue102
  t51 := Tryd.underlying114
  a51 := Tryd.isAgg114
  z51 := Tryd.sizeOf114
  v51 := Tryd.zeroValue114
  t146 := Tryd.underlying115
  a146 := Tryd.isAgg115
  z146 := Tryd.sizeOf115
  v146 := Tryd.zeroValue115
  g1 := by kernel_rfl }
open Go.RowKit Go.Lib in
/-- strings.Count AT A substr OF ONE BYTE ('hp'): "Count counts the number of non-overlapping instances of substr in s.": IT RETURNS 'Lib.countByte s (that byte)'; the world is as it was. ✋ NO CONTRACT HERE YET at an empty substr (utf8.RuneCountInString) or at a longer one (a loop over strings.Index). (LAID: no walk: one application.) -/
theorem Tryd.strings_Count_one (s : ByteArray) (c : UInt8) (w : World) :
    Calls Tryd.prog 78 #[.string s, .string ⟨#[c]⟩] w fun e w' => e = .returned (.int .i64 (Lib.countByte s.data.toList c)) ∧ w' = w := Any.strings_Count_one Tryd.lays138 s c w
open Go.RowKit Go.Lib in
/-- strings.Count AT A substr OF TWO BYTES OR MORE: "Count counts the number of non-overlapping instances of substr in s.": IT RETURNS 'Lib.count s substr'; the world is as it was. (LAID: no walk: one application.) -/
theorem Tryd.strings_Count (s sub : ByteArray) (m : Int) (w : World) (hs : s.size < 4294967281) (hm : w.cell? ⟨0, 0, none⟩ = some (.int .i64 m)) (h2 : 2 ≤ sub.size) :
    Calls Tryd.prog 78 #[.string s, .string sub] w fun e w' => e = .returned (.int .i64 (Lib.countB s sub)) ∧ w' = w := Any.strings_Count Tryd.lays138 s sub m w hs hm h2
def Tryd.laysM219_ren : Go.Shelf.Ren := ⟨fun | 219 => 76 | 217 => 82 | 225 => 83 | 224 => 84 | 267 => 85 | 266 => 90 | 314 => 91 | n => n, fun | 9 => 9 | 3 => 3 | 4 => 4 | 5 => 5 | 46 => 102 | 146 => 115 | 51 => 114 | n => n, fun | 1 => 0 | n => n⟩
theorem Tryd.laysM219 : Go.Proofs.LaysM.n219 Tryd.prog Tryd.laysM219_ren := {
  mixed := by kernel_rfl
  f217 := Tryd.func82.trans (congrArg some (by kernel_rfl))
  f219 := Tryd.func76.trans (congrArg some (by kernel_rfl))
  f224 := Tryd.func84.trans (congrArg some (by kernel_rfl))
  f225 := Tryd.func83.trans (congrArg some (by kernel_rfl))
  f266 := Tryd.func90.trans (congrArg some (by kernel_rfl))
  f267 := Tryd.func85.trans (congrArg some (by kernel_rfl))
  f314 := Tryd.func91.trans (congrArg some (by kernel_rfl))
  t3 := Tryd.underlying3
  a3 := Tryd.isAgg3
  z3 := Tryd.sizeOf3
  v3 := Tryd.zeroValue3
  t4 := Tryd.underlying4
  a4 := Tryd.isAgg4
  z4 := Tryd.sizeOf4
  v4 := Tryd.zeroValue4
  t5 := Tryd.underlying5
  a5 := Tryd.isAgg5
  z5 := Tryd.sizeOf5
  v5 := Tryd.zeroValue5
  t9 := Tryd.underlying9
  a9 := Tryd.isAgg9
  z9 := Tryd.sizeOf9
  v9 := Tryd.zeroValue9
  t46 := Tryd.underlying102
  a46 := Tryd.isAgg102
  z46 := Tryd.sizeOf102
  v46 := Tryd.zeroValue102
  t51 := Tryd.underlying114
  a51 := Tryd.isAgg114
  z51 := Tryd.sizeOf114
  v51 := Tryd.zeroValue114
  t146 := Tryd.underlying115
  a146 := Tryd.isAgg115
  z146 := Tryd.sizeOf115
  v146 := Tryd.zeroValue115
  g1 := by kernel_rfl
  i3 := by kernel_rfl
  i4 := by kernel_rfl
  i5 := by kernel_rfl
  i9 := by kernel_rfl
  i46 := by kernel_rfl
  i51 := by kernel_rfl
  i146 := by kernel_rfl
  m1 := by kernel_rfl
  s1_3 := fun w h => Go.Proofs.cell_of_shapedOpen_int (zero := #[.int .i64 0]) (t := 3) h (of_decide_eq_true (by kernel_rfl)) (by kernel_rfl) rfl (by kernel_rfl) (by kernel_rfl) Tryd.underlying3 }
open Go.RowKit Go.Lib in
theorem Tryd.stringslite_Index_shaped (s sub : ByteArray) (w : World) (h : w.ShapedOpen Tryd.prog) (hs : s.size < 4294967281) :
    Calls Tryd.prog 76 #[.string s, .string sub] w fun e w' => e = .returned (.int .i64 (Lib.index s.data.toList sub.data.toList)) ∧ w' = w := Any.stringslite_Index_shaped Tryd.laysM219 s sub w h hs
def Tryd.laysM143_ren : Go.Shelf.Ren := ⟨fun | 143 => 79 | 219 => 76 | 217 => 82 | 225 => 83 | 224 => 84 | 267 => 85 | 266 => 90 | 314 => 91 | n => n, fun | 9 => 9 | 3 => 3 | 4 => 4 | 5 => 5 | 46 => 102 | 146 => 115 | 51 => 114 | n => n, fun | 1 => 0 | n => n⟩
theorem Tryd.laysM143 : Go.Proofs.LaysM.n143 Tryd.prog Tryd.laysM143_ren := {
  mixed := by kernel_rfl
  f143 := Tryd.func79.trans (congrArg some (by kernel_rfl))
  f217 := Tryd.func82.trans (congrArg some (by kernel_rfl))
  f219 := Tryd.func76.trans (congrArg some (by kernel_rfl))
  f224 := Tryd.func84.trans (congrArg some (by kernel_rfl))
  f225 := Tryd.func83.trans (congrArg some (by kernel_rfl))
  f266 := Tryd.func90.trans (congrArg some (by kernel_rfl))
  f267 := Tryd.func85.trans (congrArg some (by kernel_rfl))
  f314 := Tryd.func91.trans (congrArg some (by kernel_rfl))
  t3 := Tryd.underlying3
  a3 := Tryd.isAgg3
  z3 := Tryd.sizeOf3
  v3 := Tryd.zeroValue3
  t4 := Tryd.underlying4
  a4 := Tryd.isAgg4
  z4 := Tryd.sizeOf4
  v4 := Tryd.zeroValue4
  t5 := Tryd.underlying5
  a5 := Tryd.isAgg5
  z5 := Tryd.sizeOf5
  v5 := Tryd.zeroValue5
  t9 := Tryd.underlying9
  a9 := Tryd.isAgg9
  z9 := Tryd.sizeOf9
  v9 := Tryd.zeroValue9
  t46 := Tryd.underlying102
  a46 := Tryd.isAgg102
  z46 := Tryd.sizeOf102
  v46 := Tryd.zeroValue102
  t51 := Tryd.underlying114
  a51 := Tryd.isAgg114
  z51 := Tryd.sizeOf114
  v51 := Tryd.zeroValue114
  t146 := Tryd.underlying115
  a146 := Tryd.isAgg115
  z146 := Tryd.sizeOf115
  v146 := Tryd.zeroValue115
  g1 := by kernel_rfl
  i3 := by kernel_rfl
  i4 := by kernel_rfl
  i5 := by kernel_rfl
  i9 := by kernel_rfl
  i46 := by kernel_rfl
  i51 := by kernel_rfl
  i146 := by kernel_rfl
  m1 := by kernel_rfl
  s1_3 := fun w h => Go.Proofs.cell_of_shapedOpen_int (zero := #[.int .i64 0]) (t := 3) h (of_decide_eq_true (by kernel_rfl)) (by kernel_rfl) rfl (by kernel_rfl) (by kernel_rfl) Tryd.underlying3 }
open Go.RowKit Go.Lib in
theorem Tryd.strings_Index_shaped (s sub : ByteArray) (w : World) (h : w.ShapedOpen Tryd.prog) (hs : s.size < 4294967281) :
    Calls Tryd.prog 79 #[.string s, .string sub] w fun e w' => e = .returned (.int .i64 (Lib.index s.data.toList sub.data.toList)) ∧ w' = w := Any.strings_Index_shaped Tryd.laysM143 s sub w h hs
def Tryd.laysM220_ren : Go.Shelf.Ren := ⟨fun | 220 => 67 | 219 => 76 | 217 => 82 | 225 => 83 | 224 => 84 | 267 => 85 | 266 => 90 | 314 => 91 | n => n, fun | 9 => 9 | 4 => 4 | 3 => 3 | 5 => 5 | 46 => 102 | 146 => 115 | 51 => 114 | n => n, fun | 1 => 0 | n => n⟩
theorem Tryd.laysM220 : Go.Proofs.LaysM.n220 Tryd.prog Tryd.laysM220_ren := {
  mixed := by kernel_rfl
  f217 := Tryd.func82.trans (congrArg some (by kernel_rfl))
  f219 := Tryd.func76.trans (congrArg some (by kernel_rfl))
  f220 := Tryd.func67.trans (congrArg some (by kernel_rfl))
  f224 := Tryd.func84.trans (congrArg some (by kernel_rfl))
  f225 := Tryd.func83.trans (congrArg some (by kernel_rfl))
  f266 := Tryd.func90.trans (congrArg some (by kernel_rfl))
  f267 := Tryd.func85.trans (congrArg some (by kernel_rfl))
  f314 := Tryd.func91.trans (congrArg some (by kernel_rfl))
  t3 := Tryd.underlying3
  a3 := Tryd.isAgg3
  z3 := Tryd.sizeOf3
  v3 := Tryd.zeroValue3
  t4 := Tryd.underlying4
  a4 := Tryd.isAgg4
  z4 := Tryd.sizeOf4
  v4 := Tryd.zeroValue4
  t5 := Tryd.underlying5
  a5 := Tryd.isAgg5
  z5 := Tryd.sizeOf5
  v5 := Tryd.zeroValue5
  t9 := Tryd.underlying9
  a9 := Tryd.isAgg9
  z9 := Tryd.sizeOf9
  v9 := Tryd.zeroValue9
  t46 := Tryd.underlying102
  a46 := Tryd.isAgg102
  z46 := Tryd.sizeOf102
  v46 := Tryd.zeroValue102
  t51 := Tryd.underlying114
  a51 := Tryd.isAgg114
  z51 := Tryd.sizeOf114
  v51 := Tryd.zeroValue114
  t146 := Tryd.underlying115
  a146 := Tryd.isAgg115
  z146 := Tryd.sizeOf115
  v146 := Tryd.zeroValue115
  g1 := by kernel_rfl
  i3 := by kernel_rfl
  i4 := by kernel_rfl
  i5 := by kernel_rfl
  i9 := by kernel_rfl
  i46 := by kernel_rfl
  i51 := by kernel_rfl
  i146 := by kernel_rfl
  m1 := by kernel_rfl
  s1_3 := fun w h => Go.Proofs.cell_of_shapedOpen_int (zero := #[.int .i64 0]) (t := 3) h (of_decide_eq_true (by kernel_rfl)) (by kernel_rfl) rfl (by kernel_rfl) (by kernel_rfl) Tryd.underlying3 }
open Go.RowKit Go.Lib in
theorem Tryd.stringslite_Cut_shaped (s sep : ByteArray) (w : World) (h : w.ShapedOpen Tryd.prog) (hs : s.size < 4294967281) :
    Calls Tryd.prog 67 #[.string s, .string sep] w fun e w' => e = .returned (.tuple #[.string ⟨(Lib.cut s.data.toList sep.data.toList).1.toArray⟩, .string ⟨(Lib.cut s.data.toList sep.data.toList).2.1.toArray⟩, .bool (Lib.cut s.data.toList sep.data.toList).2.2]) ∧ ∃ n, w' = w.drewN n := Any.stringslite_Cut_shaped Tryd.laysM220 s sep w h hs
def Tryd.laysM145_ren : Go.Shelf.Ren := ⟨fun | 145 => 48 | 220 => 67 | 219 => 76 | 217 => 82 | 225 => 83 | 224 => 84 | 267 => 85 | 266 => 90 | 314 => 91 | n => n, fun | 9 => 9 | 4 => 4 | 59 => 75 | 3 => 3 | 5 => 5 | 46 => 102 | 146 => 115 | 51 => 114 | n => n, fun | 1 => 0 | n => n⟩
theorem Tryd.laysM145 : Go.Proofs.LaysM.n145 Tryd.prog Tryd.laysM145_ren := {
  mixed := by kernel_rfl
  f145 := Tryd.func48.trans (congrArg some (by kernel_rfl))
  f217 := Tryd.func82.trans (congrArg some (by kernel_rfl))
  f219 := Tryd.func76.trans (congrArg some (by kernel_rfl))
  f220 := Tryd.func67.trans (congrArg some (by kernel_rfl))
  f224 := Tryd.func84.trans (congrArg some (by kernel_rfl))
  f225 := Tryd.func83.trans (congrArg some (by kernel_rfl))
  f266 := Tryd.func90.trans (congrArg some (by kernel_rfl))
  f267 := Tryd.func85.trans (congrArg some (by kernel_rfl))
  f314 := Tryd.func91.trans (congrArg some (by kernel_rfl))
  t3 := Tryd.underlying3
  a3 := Tryd.isAgg3
  z3 := Tryd.sizeOf3
  v3 := Tryd.zeroValue3
  t4 := Tryd.underlying4
  a4 := Tryd.isAgg4
  z4 := Tryd.sizeOf4
  v4 := Tryd.zeroValue4
  t5 := Tryd.underlying5
  a5 := Tryd.isAgg5
  z5 := Tryd.sizeOf5
  v5 := Tryd.zeroValue5
  t9 := Tryd.underlying9
  a9 := Tryd.isAgg9
  z9 := Tryd.sizeOf9
  v9 := Tryd.zeroValue9
  t46 := Tryd.underlying102
  a46 := Tryd.isAgg102
  z46 := Tryd.sizeOf102
  v46 := Tryd.zeroValue102
  t51 := Tryd.underlying114
  a51 := Tryd.isAgg114
  z51 := Tryd.sizeOf114
  v51 := Tryd.zeroValue114
  t59 := Tryd.underlying75
  a59 := Tryd.isAgg75
  z59 := Tryd.sizeOf75
  v59 := Tryd.zeroValue75
  t146 := Tryd.underlying115
  a146 := Tryd.isAgg115
  z146 := Tryd.sizeOf115
  v146 := Tryd.zeroValue115
  g1 := by kernel_rfl
  i3 := by kernel_rfl
  i4 := by kernel_rfl
  i5 := by kernel_rfl
  i9 := by kernel_rfl
  i46 := by kernel_rfl
  i51 := by kernel_rfl
  i59 := by kernel_rfl
  i146 := by kernel_rfl
  m1 := by kernel_rfl
  s1_3 := fun w h => Go.Proofs.cell_of_shapedOpen_int (zero := #[.int .i64 0]) (t := 3) h (of_decide_eq_true (by kernel_rfl)) (by kernel_rfl) rfl (by kernel_rfl) (by kernel_rfl) Tryd.underlying3 }
open Go.RowKit Go.Lib in
theorem Tryd.strings_Cut_shaped (s sep : ByteArray) (w : World) (h : w.ShapedOpen Tryd.prog) (hs : s.size < 4294967281) :
    Calls Tryd.prog 48 #[.string s, .string sep] w fun e w' => e = .returned (.tuple #[.string ⟨(Lib.cut s.data.toList sep.data.toList).1.toArray⟩, .string ⟨(Lib.cut s.data.toList sep.data.toList).2.1.toArray⟩, .bool (Lib.cut s.data.toList sep.data.toList).2.2]) ∧ ∃ n, w' = w.drewN n := Any.strings_Cut_shaped Tryd.laysM145 s sep w h hs
def Tryd.laysM138_ren : Go.Shelf.Ren := ⟨fun | 138 => 78 | 195 => 86 | 218 => 88 | 143 => 79 | 219 => 76 | 217 => 82 | 225 => 83 | 224 => 84 | 267 => 85 | 266 => 90 | 314 => 91 | n => n, fun | 9 => 9 | 3 => 3 | 4 => 4 | 5 => 5 | 0 => 0 | 46 => 102 | 146 => 115 | 51 => 114 | n => n, fun | 1 => 0 | n => n⟩
theorem Tryd.laysM138 : Go.Proofs.LaysM.n138 Tryd.prog Tryd.laysM138_ren := {
  mixed := by kernel_rfl
  f138 := Tryd.func78.trans (congrArg some (by kernel_rfl))
  f143 := Tryd.func79.trans (congrArg some (by kernel_rfl))
  f195 := Tryd.func86.trans (congrArg some (by kernel_rfl))
  f217 := Tryd.func82.trans (congrArg some (by kernel_rfl))
  f218 := Tryd.func88.trans (congrArg some (by kernel_rfl))
  f219 := Tryd.func76.trans (congrArg some (by kernel_rfl))
  f224 := Tryd.func84.trans (congrArg some (by kernel_rfl))
  f225 := Tryd.func83.trans (congrArg some (by kernel_rfl))
  f266 := Tryd.func90.trans (congrArg some (by kernel_rfl))
  f267 := Tryd.func85.trans (congrArg some (by kernel_rfl))
  f314 := Tryd.func91.trans (congrArg some (by kernel_rfl))
  t0 := Tryd.underlying0
  a0 := Tryd.isAgg0
  z0 := Tryd.sizeOf0
  v0 := Tryd.zeroValue0
  t3 := Tryd.underlying3
  a3 := Tryd.isAgg3
  z3 := Tryd.sizeOf3
  v3 := Tryd.zeroValue3
  t4 := Tryd.underlying4
  a4 := Tryd.isAgg4
  z4 := Tryd.sizeOf4
  v4 := Tryd.zeroValue4
  t5 := Tryd.underlying5
  a5 := Tryd.isAgg5
  z5 := Tryd.sizeOf5
  v5 := Tryd.zeroValue5
  t9 := Tryd.underlying9
  a9 := Tryd.isAgg9
  z9 := Tryd.sizeOf9
  v9 := Tryd.zeroValue9
  t46 := Tryd.underlying102
  a46 := Tryd.isAgg102
  z46 := Tryd.sizeOf102
  v46 := Tryd.zeroValue102
  t51 := Tryd.underlying114
  a51 := Tryd.isAgg114
  z51 := Tryd.sizeOf114
  v51 := Tryd.zeroValue114
  t146 := Tryd.underlying115
  a146 := Tryd.isAgg115
  z146 := Tryd.sizeOf115
  v146 := Tryd.zeroValue115
  g1 := by kernel_rfl
  i0 := by kernel_rfl
  i3 := by kernel_rfl
  i4 := by kernel_rfl
  i5 := by kernel_rfl
  i9 := by kernel_rfl
  i46 := by kernel_rfl
  i51 := by kernel_rfl
  i146 := by kernel_rfl
  m1 := by kernel_rfl
  s1_3 := fun w h => Go.Proofs.cell_of_shapedOpen_int (zero := #[.int .i64 0]) (t := 3) h (of_decide_eq_true (by kernel_rfl)) (by kernel_rfl) rfl (by kernel_rfl) (by kernel_rfl) Tryd.underlying3 }
open Go.RowKit Go.Lib in
theorem Tryd.strings_Count_shaped (s sub : ByteArray) (w : World) (h : w.ShapedOpen Tryd.prog) (hs : s.size < 4294967281) (h2 : 2 ≤ sub.size) :
    Calls Tryd.prog 78 #[.string s, .string sub] w fun e w' => e = .returned (.int .i64 (Lib.countB s sub)) ∧ w' = w := Any.strings_Count_shaped Tryd.laysM138 s sub w h hs h2
def Tryd.laysM288_ren : Go.Shelf.Ren := ⟨fun | 288 => 89 | 283 => 93 | 284 => 94 | 285 => 95 | 286 => 96 | 129 => 98 | 317 => 97 | 318 => 99 | 319 => 100 | 320 => 101 | 337 => 102 | 338 => 103 | n => n, fun | 37 => 54 | 53 => 112 | 3 => 3 | 4 => 4 | 9 => 9 | 171 => 117 | 0 => 0 | 173 => 120 | 212 => 127 | 51 => 114 | 5 => 5 | 20 => 20 | 213 => 128 | 46 => 102 | 232 => 131 | 233 => 132 | n => n, fun | 17 => 3 | 18 => 4 | 19 => 5 | n => n⟩
theorem Tryd.laysM288 : Go.Proofs.LaysM.n288 Tryd.prog Tryd.laysM288_ren := {
  mixed := by kernel_rfl
  f129 := Tryd.func98.trans (congrArg some (by kernel_rfl))
  f283 := Tryd.func93.trans (congrArg some (by kernel_rfl))
  f284 := Tryd.func94.trans (congrArg some (by kernel_rfl))
  f285 := Tryd.func95.trans (congrArg some (by kernel_rfl))
  f286 := Tryd.func96.trans (congrArg some (by kernel_rfl))
  f288 := Tryd.func89.trans (congrArg some (by kernel_rfl))
  f317 := Tryd.func97.trans (congrArg some (by kernel_rfl))
  f318 := Tryd.func99.trans (congrArg some (by kernel_rfl))
  f319 := Tryd.func100.trans (congrArg some (by kernel_rfl))
  f320 := Tryd.func101.trans (congrArg some (by kernel_rfl))
  f337 := Tryd.func102.trans (congrArg some (by kernel_rfl))
  f338 := Tryd.func103.trans (congrArg some (by kernel_rfl))
  t0 := Tryd.underlying0
  a0 := Tryd.isAgg0
  z0 := Tryd.sizeOf0
  v0 := Tryd.zeroValue0
  t3 := Tryd.underlying3
  a3 := Tryd.isAgg3
  z3 := Tryd.sizeOf3
  v3 := Tryd.zeroValue3
  t4 := Tryd.underlying4
  a4 := Tryd.isAgg4
  z4 := Tryd.sizeOf4
  v4 := Tryd.zeroValue4
  t5 := Tryd.underlying5
  a5 := Tryd.isAgg5
  z5 := Tryd.sizeOf5
  v5 := Tryd.zeroValue5
  t9 := Tryd.underlying9
  a9 := Tryd.isAgg9
  z9 := Tryd.sizeOf9
  v9 := Tryd.zeroValue9
  t20 := Tryd.underlying20
  a20 := Tryd.isAgg20
  z20 := Tryd.sizeOf20
  v20 := Tryd.zeroValue20
  t37 := Tryd.underlying54
  a37 := Tryd.isAgg54
  z37 := Tryd.sizeOf54
  v37 := Tryd.zeroValue54
  t46 := Tryd.underlying102
  a46 := Tryd.isAgg102
  z46 := Tryd.sizeOf102
  v46 := Tryd.zeroValue102
  t51 := Tryd.underlying114
  a51 := Tryd.isAgg114
  z51 := Tryd.sizeOf114
  v51 := Tryd.zeroValue114
  t53 := Tryd.underlying112
  a53 := Tryd.isAgg112
  z53 := Tryd.sizeOf112
  v53 := Tryd.zeroValue112
  t171 := Tryd.underlying117
  a171 := Tryd.isAgg117
  z171 := Tryd.sizeOf117
  v171 := Tryd.zeroValue117
  t173 := Tryd.underlying120
  a173 := Tryd.isAgg120
  z173 := Tryd.sizeOf120
  v173 := Tryd.zeroValue120
  t212 := Tryd.underlying127
  a212 := Tryd.isAgg127
  z212 := Tryd.sizeOf127
  v212 := Tryd.zeroValue127
  t213 := Tryd.underlying128
  a213 := Tryd.isAgg128
  z213 := Tryd.sizeOf128
  t232 := Tryd.underlying131
  a232 := Tryd.isAgg131
  z232 := Tryd.sizeOf131
  v232 := Tryd.zeroValue131
  t233 := Tryd.underlying132
  a233 := Tryd.isAgg132
  z233 := Tryd.sizeOf132
  v233 := Tryd.zeroValue132
  g17 := by kernel_rfl
  g18 := by kernel_rfl
  g19 := by kernel_rfl
  i0 := by kernel_rfl
  i3 := by kernel_rfl
  i4 := by kernel_rfl
  i5 := by kernel_rfl
  i9 := by kernel_rfl
  i20 := by kernel_rfl
  i37 := by kernel_rfl
  i46 := by kernel_rfl
  i51 := by kernel_rfl
  i53 := by kernel_rfl
  i171 := by kernel_rfl
  i173 := by kernel_rfl
  i212 := by kernel_rfl
  i232 := by kernel_rfl
  i233 := by kernel_rfl
  m17 := by kernel_rfl
  m18 := by kernel_rfl
  m19 := by kernel_rfl }
open Go.RowKit Go.Sort Go.Lib in
/-- internal/strconv.AppendUint(dst, i, 10), i BELOW 100: WHAT COMES BACK OWNS dst's CELLS AND, BEHIND THEM, i's DECIMAL NUMERAL. No table is read. Below the call's own blocks nothing has turned. (LAID: no walk: one application.) -/
theorem Tryd.internal_strconv_AppendUint_10_small (B n u : Nat) (hu : u < 100) (sv : Value) (xs : List Value) (w : World) (hown : w.ownsRow B 5 1 sv n xs) (hBw : B ≤ w.heap.size) (hlim : n + 20 ≤ 140737488355328) :
    Calls Tryd.prog 89 #[sv, .int .u64 u, .int .i64 10] w fun e w' => ∃ v', e = .returned v' ∧ w'.ownsRow B 5 1 v' (n + (Lib.decDigits u).length) (xs ++ Lib.byteCells (Lib.decDigits u)) ∧ Below B w w' ∧ Lib.OthersKept 5 none w w' := Any.internal_strconv_AppendUint_10_small Tryd.laysM288 B n u hu sv xs w hown hBw hlim
open Go.RowKit Go.Sort Go.Lib in
/-- internal/strconv.AppendUint(dst, i, 10), i FROM 100 ON: likewise; the digits are laid in an array of the call's own and appended. (LAID: no walk: one application.) -/
theorem Tryd.internal_strconv_AppendUint_10_big (B n u : Nat) (hu : 100 ≤ u) (hu64 : u < 18446744073709551616) (sv : Value) (xs : List Value) (w : World) (hown : w.ownsRow B 5 1 sv n xs) (hBw : B ≤ w.heap.size) (hlim : n + 20 ≤ 140737488355328) (htab : Lib.TabIs Tryd.prog w "internal/strconv.uint64pow10" .u64 Lib.pow10Tab) :
    Calls Tryd.prog 89 #[sv, .int .u64 u, .int .i64 10] w fun e w' => ∃ v', e = .returned v' ∧ w'.ownsRow B 5 1 v' (n + (Lib.decDigits u).length) (xs ++ Lib.byteCells (Lib.decDigits u)) ∧ Below B w w' ∧ Lib.OthersKept 5 none w w' := Any.internal_strconv_AppendUint_10_big Tryd.laysM288 B n u hu hu64 sv xs w hown hBw hlim htab
open Go.RowKit Go.Sort Go.Lib in
/-- internal/strconv.AppendUint(dst, i, 10): the two contracts as one. NO WALK. (LAID: no walk: one application.) -/
theorem Tryd.internal_strconv_AppendUint_10 (B n u : Nat) (hu64 : u < 18446744073709551616) (sv : Value) (xs : List Value) (w : World) (hown : w.ownsRow B 5 1 sv n xs) (hBw : B ≤ w.heap.size) (hlim : n + 20 ≤ 140737488355328) (htab : Lib.TabIs Tryd.prog w "internal/strconv.uint64pow10" .u64 Lib.pow10Tab) :
    Calls Tryd.prog 89 #[sv, .int .u64 u, .int .i64 10] w fun e w' => ∃ v', e = .returned v' ∧ w'.ownsRow B 5 1 v' (n + (Lib.decDigits u).length) (xs ++ Lib.byteCells (Lib.decDigits u)) ∧ Below B w w' ∧ Lib.OthersKept 5 none w w' := Any.internal_strconv_AppendUint_10 Tryd.laysM288 B n u hu64 sv xs w hown hBw hlim htab
def Tryd.laysM249_ren : Go.Shelf.Ren := ⟨fun | 249 => 80 | 288 => 89 | 283 => 93 | 284 => 94 | 285 => 95 | 286 => 96 | 129 => 98 | 317 => 97 | 318 => 99 | 319 => 100 | 320 => 101 | 337 => 102 | 338 => 103 | n => n, fun | 37 => 54 | 2 => 2 | 3 => 3 | 53 => 112 | 4 => 4 | 9 => 9 | 171 => 117 | 0 => 0 | 173 => 120 | 212 => 127 | 51 => 114 | 5 => 5 | 20 => 20 | 213 => 128 | 46 => 102 | 232 => 131 | 233 => 132 | n => n, fun | 17 => 3 | 18 => 4 | 19 => 5 | n => n⟩
theorem Tryd.laysM249 : Go.Proofs.LaysM.n249 Tryd.prog Tryd.laysM249_ren := {
  mixed := by kernel_rfl
  f129 := Tryd.func98.trans (congrArg some (by kernel_rfl))
  f249 := Tryd.func80.trans (congrArg some (by kernel_rfl))
  f283 := Tryd.func93.trans (congrArg some (by kernel_rfl))
  f284 := Tryd.func94.trans (congrArg some (by kernel_rfl))
  f285 := Tryd.func95.trans (congrArg some (by kernel_rfl))
  f286 := Tryd.func96.trans (congrArg some (by kernel_rfl))
  f288 := Tryd.func89.trans (congrArg some (by kernel_rfl))
  f317 := Tryd.func97.trans (congrArg some (by kernel_rfl))
  f318 := Tryd.func99.trans (congrArg some (by kernel_rfl))
  f319 := Tryd.func100.trans (congrArg some (by kernel_rfl))
  f320 := Tryd.func101.trans (congrArg some (by kernel_rfl))
  f337 := Tryd.func102.trans (congrArg some (by kernel_rfl))
  f338 := Tryd.func103.trans (congrArg some (by kernel_rfl))
  t0 := Tryd.underlying0
  a0 := Tryd.isAgg0
  z0 := Tryd.sizeOf0
  v0 := Tryd.zeroValue0
  t2 := Tryd.underlying2
  a2 := Tryd.isAgg2
  z2 := Tryd.sizeOf2
  v2 := Tryd.zeroValue2
  t3 := Tryd.underlying3
  a3 := Tryd.isAgg3
  z3 := Tryd.sizeOf3
  v3 := Tryd.zeroValue3
  t4 := Tryd.underlying4
  a4 := Tryd.isAgg4
  z4 := Tryd.sizeOf4
  v4 := Tryd.zeroValue4
  t5 := Tryd.underlying5
  a5 := Tryd.isAgg5
  z5 := Tryd.sizeOf5
  v5 := Tryd.zeroValue5
  t9 := Tryd.underlying9
  a9 := Tryd.isAgg9
  z9 := Tryd.sizeOf9
  v9 := Tryd.zeroValue9
  t20 := Tryd.underlying20
  a20 := Tryd.isAgg20
  z20 := Tryd.sizeOf20
  v20 := Tryd.zeroValue20
  t37 := Tryd.underlying54
  a37 := Tryd.isAgg54
  z37 := Tryd.sizeOf54
  v37 := Tryd.zeroValue54
  t46 := Tryd.underlying102
  a46 := Tryd.isAgg102
  z46 := Tryd.sizeOf102
  v46 := Tryd.zeroValue102
  t51 := Tryd.underlying114
  a51 := Tryd.isAgg114
  z51 := Tryd.sizeOf114
  v51 := Tryd.zeroValue114
  t53 := Tryd.underlying112
  a53 := Tryd.isAgg112
  z53 := Tryd.sizeOf112
  v53 := Tryd.zeroValue112
  t171 := Tryd.underlying117
  a171 := Tryd.isAgg117
  z171 := Tryd.sizeOf117
  v171 := Tryd.zeroValue117
  t173 := Tryd.underlying120
  a173 := Tryd.isAgg120
  z173 := Tryd.sizeOf120
  v173 := Tryd.zeroValue120
  t212 := Tryd.underlying127
  a212 := Tryd.isAgg127
  z212 := Tryd.sizeOf127
  v212 := Tryd.zeroValue127
  t213 := Tryd.underlying128
  a213 := Tryd.isAgg128
  z213 := Tryd.sizeOf128
  t232 := Tryd.underlying131
  a232 := Tryd.isAgg131
  z232 := Tryd.sizeOf131
  v232 := Tryd.zeroValue131
  t233 := Tryd.underlying132
  a233 := Tryd.isAgg132
  z233 := Tryd.sizeOf132
  v233 := Tryd.zeroValue132
  g17 := by kernel_rfl
  g18 := by kernel_rfl
  g19 := by kernel_rfl
  i0 := by kernel_rfl
  i2 := by kernel_rfl
  i3 := by kernel_rfl
  i4 := by kernel_rfl
  i5 := by kernel_rfl
  i9 := by kernel_rfl
  i20 := by kernel_rfl
  i37 := by kernel_rfl
  i46 := by kernel_rfl
  i51 := by kernel_rfl
  i53 := by kernel_rfl
  i171 := by kernel_rfl
  i173 := by kernel_rfl
  i212 := by kernel_rfl
  i232 := by kernel_rfl
  i233 := by kernel_rfl
  m17 := by kernel_rfl
  m18 := by kernel_rfl
  m19 := by kernel_rfl }
open Go.RowKit Go.Sort Go.Lib in
/-- internal/strconv.AppendInt: "AppendInt appends the string form of the integer i, as generated by FormatInt, to dst and returns the extended buffer.": AT BASE 10: WHAT COMES BACK OWNS dst's CELLS AND, BEHIND THEM, i's DECIMAL NUMERAL ('Lib.itoa i': at most 20 bytes), for every int64. Below the call's own blocks nothing has turned. (LAID: no walk: one application.) -/
theorem Tryd.internal_strconv_AppendInt_10 (B n : Nat) (i : Int) (h0 : -9223372036854775808 ≤ i) (h1 : i ≤ 9223372036854775807) (sv : Value) (xs : List Value) (w : World) (hown : w.ownsRow B 5 1 sv n xs) (hBw : B ≤ w.heap.size) (hlim : n + 21 ≤ 140737488355328) (htab : Lib.TabBelow Tryd.prog B w "internal/strconv.uint64pow10" .u64 Lib.pow10Tab) :
    Calls Tryd.prog 80 #[sv, .int .i64 i, .int .i64 10] w fun e w' => ∃ v', e = .returned v' ∧ w'.ownsRow B 5 1 v' (n + (Lib.itoa i).length) (xs ++ Lib.byteCells (Lib.itoa i)) ∧ Below B w w' ∧ Lib.OthersKept 5 none w w' := Any.internal_strconv_AppendInt_10 Tryd.laysM249 B n i h0 h1 sv xs w hown hBw hlim htab
def Tryd.laysM176_ren : Go.Shelf.Ren := ⟨fun | 176 => 70 | 249 => 80 | 288 => 89 | 283 => 93 | 284 => 94 | 285 => 95 | 286 => 96 | 129 => 98 | 317 => 97 | 318 => 99 | 319 => 100 | 320 => 101 | 337 => 102 | 338 => 103 | n => n, fun | 37 => 54 | 2 => 2 | 3 => 3 | 53 => 112 | 4 => 4 | 9 => 9 | 171 => 117 | 0 => 0 | 173 => 120 | 212 => 127 | 51 => 114 | 5 => 5 | 20 => 20 | 213 => 128 | 46 => 102 | 232 => 131 | 233 => 132 | n => n, fun | 17 => 3 | 18 => 4 | 19 => 5 | n => n⟩
theorem Tryd.laysM176 : Go.Proofs.LaysM.n176 Tryd.prog Tryd.laysM176_ren := {
  mixed := by kernel_rfl
  f129 := Tryd.func98.trans (congrArg some (by kernel_rfl))
  f176 := Tryd.func70.trans (congrArg some (by kernel_rfl))
  f249 := Tryd.func80.trans (congrArg some (by kernel_rfl))
  f283 := Tryd.func93.trans (congrArg some (by kernel_rfl))
  f284 := Tryd.func94.trans (congrArg some (by kernel_rfl))
  f285 := Tryd.func95.trans (congrArg some (by kernel_rfl))
  f286 := Tryd.func96.trans (congrArg some (by kernel_rfl))
  f288 := Tryd.func89.trans (congrArg some (by kernel_rfl))
  f317 := Tryd.func97.trans (congrArg some (by kernel_rfl))
  f318 := Tryd.func99.trans (congrArg some (by kernel_rfl))
  f319 := Tryd.func100.trans (congrArg some (by kernel_rfl))
  f320 := Tryd.func101.trans (congrArg some (by kernel_rfl))
  f337 := Tryd.func102.trans (congrArg some (by kernel_rfl))
  f338 := Tryd.func103.trans (congrArg some (by kernel_rfl))
  t0 := Tryd.underlying0
  a0 := Tryd.isAgg0
  z0 := Tryd.sizeOf0
  v0 := Tryd.zeroValue0
  t2 := Tryd.underlying2
  a2 := Tryd.isAgg2
  z2 := Tryd.sizeOf2
  v2 := Tryd.zeroValue2
  t3 := Tryd.underlying3
  a3 := Tryd.isAgg3
  z3 := Tryd.sizeOf3
  v3 := Tryd.zeroValue3
  t4 := Tryd.underlying4
  a4 := Tryd.isAgg4
  z4 := Tryd.sizeOf4
  v4 := Tryd.zeroValue4
  t5 := Tryd.underlying5
  a5 := Tryd.isAgg5
  z5 := Tryd.sizeOf5
  v5 := Tryd.zeroValue5
  t9 := Tryd.underlying9
  a9 := Tryd.isAgg9
  z9 := Tryd.sizeOf9
  v9 := Tryd.zeroValue9
  t20 := Tryd.underlying20
  a20 := Tryd.isAgg20
  z20 := Tryd.sizeOf20
  v20 := Tryd.zeroValue20
  t37 := Tryd.underlying54
  a37 := Tryd.isAgg54
  z37 := Tryd.sizeOf54
  v37 := Tryd.zeroValue54
  t46 := Tryd.underlying102
  a46 := Tryd.isAgg102
  z46 := Tryd.sizeOf102
  v46 := Tryd.zeroValue102
  t51 := Tryd.underlying114
  a51 := Tryd.isAgg114
  z51 := Tryd.sizeOf114
  v51 := Tryd.zeroValue114
  t53 := Tryd.underlying112
  a53 := Tryd.isAgg112
  z53 := Tryd.sizeOf112
  v53 := Tryd.zeroValue112
  t171 := Tryd.underlying117
  a171 := Tryd.isAgg117
  z171 := Tryd.sizeOf117
  v171 := Tryd.zeroValue117
  t173 := Tryd.underlying120
  a173 := Tryd.isAgg120
  z173 := Tryd.sizeOf120
  v173 := Tryd.zeroValue120
  t212 := Tryd.underlying127
  a212 := Tryd.isAgg127
  z212 := Tryd.sizeOf127
  v212 := Tryd.zeroValue127
  t213 := Tryd.underlying128
  a213 := Tryd.isAgg128
  z213 := Tryd.sizeOf128
  t232 := Tryd.underlying131
  a232 := Tryd.isAgg131
  z232 := Tryd.sizeOf131
  v232 := Tryd.zeroValue131
  t233 := Tryd.underlying132
  a233 := Tryd.isAgg132
  z233 := Tryd.sizeOf132
  v233 := Tryd.zeroValue132
  g17 := by kernel_rfl
  g18 := by kernel_rfl
  g19 := by kernel_rfl
  i0 := by kernel_rfl
  i2 := by kernel_rfl
  i3 := by kernel_rfl
  i4 := by kernel_rfl
  i5 := by kernel_rfl
  i9 := by kernel_rfl
  i20 := by kernel_rfl
  i37 := by kernel_rfl
  i46 := by kernel_rfl
  i51 := by kernel_rfl
  i53 := by kernel_rfl
  i171 := by kernel_rfl
  i173 := by kernel_rfl
  i212 := by kernel_rfl
  i232 := by kernel_rfl
  i233 := by kernel_rfl
  m17 := by kernel_rfl
  m18 := by kernel_rfl
  m19 := by kernel_rfl }
open Go.RowKit Go.Sort Go.Lib in
/-- strconv.AppendInt: "AppendInt appends the string form of the integer i, as generated by FormatInt, to dst and returns the extended buffer.": AT BASE 10: WHAT COMES BACK OWNS dst's CELLS AND, BEHIND THEM, i's DECIMAL NUMERAL ('Lib.itoa i': at most 20 bytes), for every int64. Below the call's own blocks nothing has turned. (LAID: no walk: one application.) -/
theorem Tryd.strconv_AppendInt_10 (B n : Nat) (i : Int) (h0 : -9223372036854775808 ≤ i) (h1 : i ≤ 9223372036854775807) (sv : Value) (xs : List Value) (w : World) (hown : w.ownsRow B 5 1 sv n xs) (hBw : B ≤ w.heap.size) (hlim : n + 21 ≤ 140737488355328) (htab : Lib.TabBelow Tryd.prog B w "internal/strconv.uint64pow10" .u64 Lib.pow10Tab) :
    Calls Tryd.prog 70 #[sv, .int .i64 i, .int .i64 10] w fun e w' => ∃ v', e = .returned v' ∧ w'.ownsRow B 5 1 v' (n + (Lib.itoa i).length) (xs ++ Lib.byteCells (Lib.itoa i)) ∧ Below B w w' ∧ Lib.OthersKept 5 none w w' := Any.strconv_AppendInt_10 Tryd.laysM176 B n i h0 h1 sv xs w hown hBw hlim htab
open Go.RowKit Go.Lib in
/-- strings.Count at whatever sep that is not empty: the two roads under one statement. (LAID: no walk: one application.) -/
theorem Tryd.strings_Count_any (s sep : ByteArray) (m : Int) (w : World) (hs : s.size < 4294967281) (hm : w.cell? ⟨0, 0, none⟩ = some (.int .i64 m)) (h1 : 1 ≤ sep.size) :
    Calls Tryd.prog 78 #[.string s, .string sep] w fun e w' => e = .returned (.int .i64 (Lib.countB s sep)) ∧ w' = w := Any.strings_Count_any Tryd.lays138 s sep m w hs hm h1
def Tryd.lays221_ren : Go.Shelf.Ren := ⟨fun | 221 => 68 | 268 => 77 | 138 => 78 | 143 => 79 | 195 => 86 | 197 => 87 | 218 => 88 | 219 => 76 | 260 => 92 | 217 => 82 | 225 => 83 | 224 => 84 | 267 => 85 | 266 => 90 | 314 => 91 | n => n, fun | 9 => 9 | 3 => 3 | 31 => 77 | 4 => 4 | 0 => 0 | 105 => 110 | 21 => 21 | 5 => 5 | 46 => 102 | 119 => 122 | 139 => 125 | 138 => 124 | 146 => 115 | 51 => 114 | n => n, fun | 1 => 0 | 3 => 1 | 4 => 2 | n => n⟩
theorem Tryd.lays221 : Go.Proofs.Lays.n221 Tryd.prog Tryd.lays221_ren := {
  mixed := by kernel_rfl
  f138 := Tryd.func78.trans (congrArg some (by kernel_rfl))
  f143 := Tryd.func79.trans (congrArg some (by kernel_rfl))
  f195 := Tryd.func86.trans (congrArg some (by kernel_rfl))
  f197 := Tryd.func87.trans (congrArg some (by kernel_rfl))
  f217 := Tryd.func82.trans (congrArg some (by kernel_rfl))
  f218 := Tryd.func88.trans (congrArg some (by kernel_rfl))
  f219 := Tryd.func76.trans (congrArg some (by kernel_rfl))
  f221 := Tryd.func68.trans (congrArg some (by kernel_rfl))
  f224 := Tryd.func84.trans (congrArg some (by kernel_rfl))
  f225 := Tryd.func83.trans (congrArg some (by kernel_rfl))
  f260 := Tryd.func92.trans (congrArg some (by kernel_rfl))
  f266 := Tryd.func90.trans (congrArg some (by kernel_rfl))
  f267 := Tryd.func85.trans (congrArg some (by kernel_rfl))
  f268 := Tryd.func77.trans (congrArg some (by kernel_rfl))
  f314 := Tryd.func91.trans (congrArg some (by kernel_rfl))
  t0 := Tryd.underlying0
  a0 := Tryd.isAgg0
  z0 := Tryd.sizeOf0
  v0 := Tryd.zeroValue0
  t3 := Tryd.underlying3
  a3 := Tryd.isAgg3
  z3 := Tryd.sizeOf3
  v3 := Tryd.zeroValue3
  t4 := Tryd.underlying4
  a4 := Tryd.isAgg4
  z4 := Tryd.sizeOf4
  v4 := Tryd.zeroValue4
  t5 := Tryd.underlying5
  a5 := Tryd.isAgg5
  z5 := Tryd.sizeOf5
  v5 := Tryd.zeroValue5
  t9 := Tryd.underlying9
  a9 := Tryd.isAgg9
  z9 := Tryd.sizeOf9
  v9 := Tryd.zeroValue9
  t21 := Tryd.underlying21
  a21 := Tryd.isAgg21
  z21 := Tryd.sizeOf21
  v21 := Tryd.zeroValue21
  t31 := Tryd.underlying77
  a31 := Tryd.isAgg77
  z31 := Tryd.sizeOf77
  v31 := Tryd.zeroValue77
  t46 := Tryd.underlying102
  a46 := Tryd.isAgg102
  z46 := Tryd.sizeOf102
  v46 := Tryd.zeroValue102
  t51 := Tryd.underlying114
  a51 := Tryd.isAgg114
  z51 := Tryd.sizeOf114
  v51 := Tryd.zeroValue114
  t105 := Tryd.underlying110
  a105 := Tryd.isAgg110
  z105 := Tryd.sizeOf110
  v105 := Tryd.zeroValue110
  t119 := Tryd.underlying122
  a119 := Tryd.isAgg122
  z119 := Tryd.sizeOf122
  t138 := Tryd.underlying124
  a138 := Tryd.isAgg124
  z138 := Tryd.sizeOf124
  v138 := Tryd.zeroValue124
  t139 := Tryd.underlying125
  a139 := Tryd.isAgg125
  z139 := Tryd.sizeOf125
  v139 := Tryd.zeroValue125
  t146 := Tryd.underlying115
  a146 := Tryd.isAgg115
  z146 := Tryd.sizeOf115
  v146 := Tryd.zeroValue115
  g1 := by kernel_rfl
  g3 := by kernel_rfl
  g4 := by kernel_rfl }
open Go.RowKit Go.Lib in
theorem Tryd.strings_genSplit (s sep : ByteArray) (sv : Nat) (n : Int) (N : Nat) (m : Int) (w : World) (hs : s.size < 4294967281) (hm : w.cell? ⟨0, 0, none⟩ = some (.int .i64 m)) (h1 : 1 ≤ sep.size) (hsv : sv ≤ sep.size) (hn0 : n ≠ 0) (hn63 : n ≤ 9223372036854775807) (hN : (N : Int) = min (if n < 0 then (Lib.countB s sep : Int) + 1 else n) ((s.size : Int) + 1)) :
    Calls Tryd.prog 68 #[.string s, .string sep, .int .i64 sv, .int .i64 n] w fun e w' =>
      e = .returned (.slice (some ⟨w.heap.size, 0, none⟩) (Lib.splitB sep sv (N - 1) s).length N) ∧ w' = w.alloc (.cells (Lib.cellsOf (Lib.splitB sep sv (N - 1) s) N) 9) := Any.strings_genSplit Tryd.lays221 (by kernel_rfl) s sep sv n N m w hs hm h1 hsv hn0 hn63 hN
def Tryd.lays146_ren : Go.Shelf.Ren := ⟨fun | 146 => 49 | 221 => 68 | 268 => 77 | 138 => 78 | 143 => 79 | 195 => 86 | 197 => 87 | 218 => 88 | 219 => 76 | 260 => 92 | 217 => 82 | 225 => 83 | 224 => 84 | 267 => 85 | 266 => 90 | 314 => 91 | n => n, fun | 9 => 9 | 31 => 77 | 3 => 3 | 4 => 4 | 0 => 0 | 105 => 110 | 21 => 21 | 5 => 5 | 46 => 102 | 119 => 122 | 139 => 125 | 138 => 124 | 146 => 115 | 51 => 114 | n => n, fun | 1 => 0 | 3 => 1 | 4 => 2 | n => n⟩
theorem Tryd.lays146 : Go.Proofs.Lays.n146 Tryd.prog Tryd.lays146_ren := {
  mixed := by kernel_rfl
  f138 := Tryd.func78.trans (congrArg some (by kernel_rfl))
  f143 := Tryd.func79.trans (congrArg some (by kernel_rfl))
  f146 := Tryd.func49.trans (congrArg some (by kernel_rfl))
  f195 := Tryd.func86.trans (congrArg some (by kernel_rfl))
  f197 := Tryd.func87.trans (congrArg some (by kernel_rfl))
  f217 := Tryd.func82.trans (congrArg some (by kernel_rfl))
  f218 := Tryd.func88.trans (congrArg some (by kernel_rfl))
  f219 := Tryd.func76.trans (congrArg some (by kernel_rfl))
  f221 := Tryd.func68.trans (congrArg some (by kernel_rfl))
  f224 := Tryd.func84.trans (congrArg some (by kernel_rfl))
  f225 := Tryd.func83.trans (congrArg some (by kernel_rfl))
  f260 := Tryd.func92.trans (congrArg some (by kernel_rfl))
  f266 := Tryd.func90.trans (congrArg some (by kernel_rfl))
  f267 := Tryd.func85.trans (congrArg some (by kernel_rfl))
  f268 := Tryd.func77.trans (congrArg some (by kernel_rfl))
  f314 := Tryd.func91.trans (congrArg some (by kernel_rfl))
  t0 := Tryd.underlying0
  a0 := Tryd.isAgg0
  z0 := Tryd.sizeOf0
  v0 := Tryd.zeroValue0
  t3 := Tryd.underlying3
  a3 := Tryd.isAgg3
  z3 := Tryd.sizeOf3
  v3 := Tryd.zeroValue3
  t4 := Tryd.underlying4
  a4 := Tryd.isAgg4
  z4 := Tryd.sizeOf4
  v4 := Tryd.zeroValue4
  t5 := Tryd.underlying5
  a5 := Tryd.isAgg5
  z5 := Tryd.sizeOf5
  v5 := Tryd.zeroValue5
  t9 := Tryd.underlying9
  a9 := Tryd.isAgg9
  z9 := Tryd.sizeOf9
  v9 := Tryd.zeroValue9
  t21 := Tryd.underlying21
  a21 := Tryd.isAgg21
  z21 := Tryd.sizeOf21
  v21 := Tryd.zeroValue21
  t31 := Tryd.underlying77
  a31 := Tryd.isAgg77
  z31 := Tryd.sizeOf77
  v31 := Tryd.zeroValue77
  t46 := Tryd.underlying102
  a46 := Tryd.isAgg102
  z46 := Tryd.sizeOf102
  v46 := Tryd.zeroValue102
  t51 := Tryd.underlying114
  a51 := Tryd.isAgg114
  z51 := Tryd.sizeOf114
  v51 := Tryd.zeroValue114
  t105 := Tryd.underlying110
  a105 := Tryd.isAgg110
  z105 := Tryd.sizeOf110
  v105 := Tryd.zeroValue110
  t119 := Tryd.underlying122
  a119 := Tryd.isAgg122
  z119 := Tryd.sizeOf122
  t138 := Tryd.underlying124
  a138 := Tryd.isAgg124
  z138 := Tryd.sizeOf124
  v138 := Tryd.zeroValue124
  t139 := Tryd.underlying125
  a139 := Tryd.isAgg125
  z139 := Tryd.sizeOf125
  v139 := Tryd.zeroValue125
  t146 := Tryd.underlying115
  a146 := Tryd.isAgg115
  z146 := Tryd.sizeOf115
  v146 := Tryd.zeroValue115
  g1 := by kernel_rfl
  g3 := by kernel_rfl
  g4 := by kernel_rfl }
open Go.RowKit Go.Lib in
/-- strings.Split. (LAID: no walk: one application.) -/
theorem Tryd.strings_Split (s sep : ByteArray) (m : Int) (w : World) (hs : s.size < 4294967281) (hm : w.cell? ⟨0, 0, none⟩ = some (.int .i64 m)) (h1 : 1 ≤ sep.size) :
    Calls Tryd.prog 49 #[.string s, .string sep] w fun e w' =>
      e = .returned (.slice (some ⟨w.heap.size, 0, none⟩) (Lib.countB s sep + 1) (Lib.countB s sep + 1)) ∧ w' = w.alloc (.cells ((Lib.splitB sep 0 (Lib.countB s sep) s).map Value.string).toArray 9) := Any.strings_Split Tryd.lays146 (by kernel_rfl) s sep m w hs hm h1
def Tryd.laysM146_ren : Go.Shelf.Ren := ⟨fun | 146 => 49 | 221 => 68 | 268 => 77 | 138 => 78 | 143 => 79 | 195 => 86 | 197 => 87 | 218 => 88 | 219 => 76 | 260 => 92 | 217 => 82 | 225 => 83 | 224 => 84 | 267 => 85 | 266 => 90 | 314 => 91 | n => n, fun | 9 => 9 | 31 => 77 | 3 => 3 | 4 => 4 | 0 => 0 | 105 => 110 | 21 => 21 | 5 => 5 | 46 => 102 | 119 => 122 | 139 => 125 | 138 => 124 | 146 => 115 | 51 => 114 | n => n, fun | 1 => 0 | 3 => 1 | 4 => 2 | n => n⟩
theorem Tryd.laysM146 : Go.Proofs.LaysM.n146 Tryd.prog Tryd.laysM146_ren := {
  mixed := by kernel_rfl
  f138 := Tryd.func78.trans (congrArg some (by kernel_rfl))
  f143 := Tryd.func79.trans (congrArg some (by kernel_rfl))
  f146 := Tryd.func49.trans (congrArg some (by kernel_rfl))
  f195 := Tryd.func86.trans (congrArg some (by kernel_rfl))
  f197 := Tryd.func87.trans (congrArg some (by kernel_rfl))
  f217 := Tryd.func82.trans (congrArg some (by kernel_rfl))
  f218 := Tryd.func88.trans (congrArg some (by kernel_rfl))
  f219 := Tryd.func76.trans (congrArg some (by kernel_rfl))
  f221 := Tryd.func68.trans (congrArg some (by kernel_rfl))
  f224 := Tryd.func84.trans (congrArg some (by kernel_rfl))
  f225 := Tryd.func83.trans (congrArg some (by kernel_rfl))
  f260 := Tryd.func92.trans (congrArg some (by kernel_rfl))
  f266 := Tryd.func90.trans (congrArg some (by kernel_rfl))
  f267 := Tryd.func85.trans (congrArg some (by kernel_rfl))
  f268 := Tryd.func77.trans (congrArg some (by kernel_rfl))
  f314 := Tryd.func91.trans (congrArg some (by kernel_rfl))
  t0 := Tryd.underlying0
  a0 := Tryd.isAgg0
  z0 := Tryd.sizeOf0
  v0 := Tryd.zeroValue0
  t3 := Tryd.underlying3
  a3 := Tryd.isAgg3
  z3 := Tryd.sizeOf3
  v3 := Tryd.zeroValue3
  t4 := Tryd.underlying4
  a4 := Tryd.isAgg4
  z4 := Tryd.sizeOf4
  v4 := Tryd.zeroValue4
  t5 := Tryd.underlying5
  a5 := Tryd.isAgg5
  z5 := Tryd.sizeOf5
  v5 := Tryd.zeroValue5
  t9 := Tryd.underlying9
  a9 := Tryd.isAgg9
  z9 := Tryd.sizeOf9
  v9 := Tryd.zeroValue9
  t21 := Tryd.underlying21
  a21 := Tryd.isAgg21
  z21 := Tryd.sizeOf21
  v21 := Tryd.zeroValue21
  t31 := Tryd.underlying77
  a31 := Tryd.isAgg77
  z31 := Tryd.sizeOf77
  v31 := Tryd.zeroValue77
  t46 := Tryd.underlying102
  a46 := Tryd.isAgg102
  z46 := Tryd.sizeOf102
  v46 := Tryd.zeroValue102
  t51 := Tryd.underlying114
  a51 := Tryd.isAgg114
  z51 := Tryd.sizeOf114
  v51 := Tryd.zeroValue114
  t105 := Tryd.underlying110
  a105 := Tryd.isAgg110
  z105 := Tryd.sizeOf110
  v105 := Tryd.zeroValue110
  t119 := Tryd.underlying122
  a119 := Tryd.isAgg122
  z119 := Tryd.sizeOf122
  t138 := Tryd.underlying124
  a138 := Tryd.isAgg124
  z138 := Tryd.sizeOf124
  v138 := Tryd.zeroValue124
  t139 := Tryd.underlying125
  a139 := Tryd.isAgg125
  z139 := Tryd.sizeOf125
  v139 := Tryd.zeroValue125
  t146 := Tryd.underlying115
  a146 := Tryd.isAgg115
  z146 := Tryd.sizeOf115
  v146 := Tryd.zeroValue115
  g1 := by kernel_rfl
  g3 := by kernel_rfl
  g4 := by kernel_rfl
  i0 := by kernel_rfl
  i3 := by kernel_rfl
  i4 := by kernel_rfl
  i5 := by kernel_rfl
  i9 := by kernel_rfl
  i21 := by kernel_rfl
  i31 := by kernel_rfl
  i46 := by kernel_rfl
  i51 := by kernel_rfl
  i105 := by kernel_rfl
  i138 := by kernel_rfl
  i139 := by kernel_rfl
  i146 := by kernel_rfl
  m1 := by kernel_rfl
  s1_3 := fun w h => Go.Proofs.cell_of_shapedOpen_int (zero := #[.int .i64 0]) (t := 3) h (of_decide_eq_true (by kernel_rfl)) (by kernel_rfl) rfl (by kernel_rfl) (by kernel_rfl) Tryd.underlying3
  m3 := by kernel_rfl
  m4 := by kernel_rfl }
open Go.RowKit Go.Lib in
/-- strings.Split, sep not empty. (LAID: no walk: one application.) -/
theorem Tryd.strings_Split_shaped (s sep : ByteArray) (w : World) (h : w.ShapedOpen Tryd.prog) (hs : s.size < 4294967281) (h1 : 1 ≤ sep.size) :
    Calls Tryd.prog 49 #[.string s, .string sep] w fun e w' =>
      e = .returned (.slice (some ⟨w.heap.size, 0, none⟩) (Lib.countB s sep + 1) (Lib.countB s sep + 1)) ∧ w' = w.alloc (.cells ((Lib.splitB sep 0 (Lib.countB s sep) s).map Value.string).toArray 9) := Any.strings_Split_shaped Tryd.laysM146 s sep w h hs h1
def Tryd.lays197_ren : Go.Shelf.Ren := ⟨fun | 197 => 87 | 260 => 92 | n => n, fun | 9 => 9 | 21 => 21 | 3 => 3 | 4 => 4 | 5 => 5 | 105 => 110 | 119 => 122 | 0 => 0 | 46 => 102 | 139 => 125 | 138 => 124 | n => n, fun | 3 => 1 | 4 => 2 | n => n⟩
theorem Tryd.lays197 : Go.Proofs.Lays.n197 Tryd.prog Tryd.lays197_ren := {
  mixed := by kernel_rfl
  f197 := Tryd.func87.trans (congrArg some (by kernel_rfl))
  f260 := Tryd.func92.trans (congrArg some (by kernel_rfl))
  t0 := Tryd.underlying0
  a0 := Tryd.isAgg0
  z0 := Tryd.sizeOf0
  v0 := Tryd.zeroValue0
  t3 := Tryd.underlying3
  a3 := Tryd.isAgg3
  z3 := Tryd.sizeOf3
  v3 := Tryd.zeroValue3
  t4 := Tryd.underlying4
  a4 := Tryd.isAgg4
  z4 := Tryd.sizeOf4
  v4 := Tryd.zeroValue4
  t5 := Tryd.underlying5
  a5 := Tryd.isAgg5
  z5 := Tryd.sizeOf5
  v5 := Tryd.zeroValue5
  t9 := Tryd.underlying9
  a9 := Tryd.isAgg9
  z9 := Tryd.sizeOf9
  v9 := Tryd.zeroValue9
  t21 := Tryd.underlying21
  a21 := Tryd.isAgg21
  z21 := Tryd.sizeOf21
  v21 := Tryd.zeroValue21
  t46 := Tryd.underlying102
  a46 := Tryd.isAgg102
  z46 := Tryd.sizeOf102
  v46 := Tryd.zeroValue102
  t105 := Tryd.underlying110
  a105 := Tryd.isAgg110
  z105 := Tryd.sizeOf110
  v105 := Tryd.zeroValue110
  t119 := Tryd.underlying122
  a119 := Tryd.isAgg122
  z119 := Tryd.sizeOf122
  t138 := Tryd.underlying124
  a138 := Tryd.isAgg124
  z138 := Tryd.sizeOf124
  v138 := Tryd.zeroValue124
  t139 := Tryd.underlying125
  a139 := Tryd.isAgg125
  z139 := Tryd.sizeOf125
  v139 := Tryd.zeroValue125
  g3 := by kernel_rfl
  g4 := by kernel_rfl }
open Go.RowKit Go.Lib in
/-- unicode/utf8.DecodeRuneInString: "DecodeRuneInString is like DecodeRune but its input is a string.": ("DecodeRune unpacks the first UTF-8 encoding in p and returns the rune and its width in bytes."): WHERE s BEGINS WITH AN ASCII BYTE x: (x, 1). (LAID: no walk: one application.) -/
theorem Tryd.utf8_DecodeRuneInString_ascii (s : ByteArray) (x : UInt8) (w : World) (h0 : s.data.toList[0]? = some x) (hx : x.toNat < 128) :
    Calls Tryd.prog 87 #[.string s] w fun e w' => e = .returned (.tuple #[.int .i32 x.toNat, .int .i64 1]) ∧ w' = w := Any.utf8_DecodeRuneInString_ascii Tryd.lays197 s x w h0 hx
open Go.RowKit Go.Lib in
theorem Tryd.utf8_RuneCountInString_ascii (s : ByteArray) (w : World) (hs : s.size < 4294967281) (hascii : ∀ (j : Nat) b, s.data.toList[j]? = some b → b.toNat < 128) :
    Calls Tryd.prog 86 #[.string s] w fun e w' => e = .returned (.int .i64 s.size) ∧ w' = w.iter s s.size := Any.utf8_RuneCountInString_ascii Tryd.lays195 s w hs hascii
def Tryd.lays268_ren : Go.Shelf.Ren := ⟨fun | 268 => 77 | 195 => 86 | 197 => 87 | 260 => 92 | n => n, fun | 9 => 9 | 3 => 3 | 31 => 77 | 4 => 4 | 105 => 110 | 21 => 21 | 0 => 0 | 5 => 5 | 119 => 122 | 46 => 102 | 139 => 125 | 138 => 124 | n => n, fun | 3 => 1 | 4 => 2 | n => n⟩
theorem Tryd.lays268 : Go.Proofs.Lays.n268 Tryd.prog Tryd.lays268_ren := {
  mixed := by kernel_rfl
  f195 := Tryd.func86.trans (congrArg some (by kernel_rfl))
  f197 := Tryd.func87.trans (congrArg some (by kernel_rfl))
  f260 := Tryd.func92.trans (congrArg some (by kernel_rfl))
  f268 := Tryd.func77.trans (congrArg some (by kernel_rfl))
  t0 := Tryd.underlying0
  a0 := Tryd.isAgg0
  z0 := Tryd.sizeOf0
  v0 := Tryd.zeroValue0
  t3 := Tryd.underlying3
  a3 := Tryd.isAgg3
  z3 := Tryd.sizeOf3
  v3 := Tryd.zeroValue3
  t4 := Tryd.underlying4
  a4 := Tryd.isAgg4
  z4 := Tryd.sizeOf4
  v4 := Tryd.zeroValue4
  t5 := Tryd.underlying5
  a5 := Tryd.isAgg5
  z5 := Tryd.sizeOf5
  v5 := Tryd.zeroValue5
  t9 := Tryd.underlying9
  a9 := Tryd.isAgg9
  z9 := Tryd.sizeOf9
  v9 := Tryd.zeroValue9
  t21 := Tryd.underlying21
  a21 := Tryd.isAgg21
  z21 := Tryd.sizeOf21
  v21 := Tryd.zeroValue21
  t31 := Tryd.underlying77
  a31 := Tryd.isAgg77
  z31 := Tryd.sizeOf77
  v31 := Tryd.zeroValue77
  t46 := Tryd.underlying102
  a46 := Tryd.isAgg102
  z46 := Tryd.sizeOf102
  v46 := Tryd.zeroValue102
  t105 := Tryd.underlying110
  a105 := Tryd.isAgg110
  z105 := Tryd.sizeOf110
  v105 := Tryd.zeroValue110
  t119 := Tryd.underlying122
  a119 := Tryd.isAgg122
  z119 := Tryd.sizeOf122
  t138 := Tryd.underlying124
  a138 := Tryd.isAgg124
  z138 := Tryd.sizeOf124
  v138 := Tryd.zeroValue124
  t139 := Tryd.underlying125
  a139 := Tryd.isAgg125
  z139 := Tryd.sizeOf125
  v139 := Tryd.zeroValue125
  g3 := by kernel_rfl
  g4 := by kernel_rfl }
open Go.RowKit Go.Lib in
theorem Tryd.strings_explode_all (s : ByteArray) (n : Int) (w : World) (hn : n < 0) (hs : s.size < 4294967281) (hascii : ∀ (j : Nat) b, s.data.toList[j]? = some b → b.toNat < 128) :
    Calls Tryd.prog 77 #[.string s, .int .i64 n] w fun e w' =>
      e = .returned (.slice (some ⟨(w.iter s s.size).heap.size, 0, none⟩) s.size s.size) ∧ w' = (w.iter s s.size).alloc (.cells ((Lib.charsB s).map Value.string).toArray 9) := Any.strings_explode_all Tryd.lays268 (by kernel_rfl) s n w hn hs hascii
open Go.RowKit Go.Lib in
/-- strings.genSplit at sep == "", n < 0: 'return explode(s, n)'. (LAID: no walk: one application.) -/
theorem Tryd.strings_genSplit_chars (s sep : ByteArray) (sv n : Int) (w : World) (h0 : sep.size = 0) (hn : n < 0) (hs : s.size < 4294967281) (hascii : ∀ (j : Nat) b, s.data.toList[j]? = some b → b.toNat < 128) :
    Calls Tryd.prog 68 #[.string s, .string sep, .int .i64 sv, .int .i64 n] w fun e w' =>
      e = .returned (.slice (some ⟨(w.iter s s.size).heap.size, 0, none⟩) s.size s.size) ∧ w' = (w.iter s s.size).alloc (.cells ((Lib.charsB s).map Value.string).toArray 9) := Any.strings_genSplit_chars Tryd.lays221 (by kernel_rfl) s sep sv n w h0 hn hs hascii
open Go.RowKit Go.Lib in
/-- strings.Split(s, ""), s ASCII: a piece a byte. (LAID: no walk: one application.) -/
theorem Tryd.strings_Split_chars (s sep : ByteArray) (w : World) (h0 : sep.size = 0) (hs : s.size < 4294967281) (hascii : ∀ (j : Nat) b, s.data.toList[j]? = some b → b.toNat < 128) :
    Calls Tryd.prog 49 #[.string s, .string sep] w fun e w' =>
      e = .returned (.slice (some ⟨(w.iter s s.size).heap.size, 0, none⟩) s.size s.size) ∧ w' = (w.iter s s.size).alloc (.cells ((Lib.charsB s).map Value.string).toArray 9) := Any.strings_Split_chars Tryd.lays146 (by kernel_rfl) s sep w h0 hs hascii
def Tryd.lays260_ren : Go.Shelf.Ren := ⟨fun | 260 => 92 | n => n, fun | 9 => 9 | 21 => 21 | 3 => 3 | 4 => 4 | 5 => 5 | 119 => 122 | 0 => 0 | 46 => 102 | 139 => 125 | 138 => 124 | n => n, fun | 3 => 1 | 4 => 2 | n => n⟩
theorem Tryd.lays260 : Go.Proofs.Lays.n260 Tryd.prog Tryd.lays260_ren := {
  mixed := by kernel_rfl
  f260 := Tryd.func92.trans (congrArg some (by kernel_rfl))
  t0 := Tryd.underlying0
  a0 := Tryd.isAgg0
  z0 := Tryd.sizeOf0
  v0 := Tryd.zeroValue0
  t3 := Tryd.underlying3
  a3 := Tryd.isAgg3
  z3 := Tryd.sizeOf3
  v3 := Tryd.zeroValue3
  t4 := Tryd.underlying4
  a4 := Tryd.isAgg4
  z4 := Tryd.sizeOf4
  v4 := Tryd.zeroValue4
  t5 := Tryd.underlying5
  a5 := Tryd.isAgg5
  z5 := Tryd.sizeOf5
  v5 := Tryd.zeroValue5
  t9 := Tryd.underlying9
  a9 := Tryd.isAgg9
  z9 := Tryd.sizeOf9
  v9 := Tryd.zeroValue9
  t21 := Tryd.underlying21
  a21 := Tryd.isAgg21
  z21 := Tryd.sizeOf21
  v21 := Tryd.zeroValue21
  t46 := Tryd.underlying102
  a46 := Tryd.isAgg102
  z46 := Tryd.sizeOf102
  v46 := Tryd.zeroValue102
  t119 := Tryd.underlying122
  a119 := Tryd.isAgg122
  z119 := Tryd.sizeOf122
  t138 := Tryd.underlying124
  a138 := Tryd.isAgg124
  z138 := Tryd.sizeOf124
  v138 := Tryd.zeroValue124
  t139 := Tryd.underlying125
  a139 := Tryd.isAgg125
  z139 := Tryd.sizeOf125
  v139 := Tryd.zeroValue125
  g3 := by kernel_rfl
  g4 := by kernel_rfl }
open Go.RowKit Go.Lib in
theorem Tryd.utf8_decodeRuneInStringSlow (s : ByteArray) (w : World) (hT : Lib.Utf8Tabs 1 2 w) :
    Calls Tryd.prog 92 #[.string s] w fun e w' => e = .returned (.tuple #[.int .i32 (Lib.decodeGo s).1, .int .i64 (Lib.decodeGo s).2]) ∧ Below w.heap.size w w' := Any.utf8_decodeRuneInStringSlow Tryd.lays260 s w hT
open Go.RowKit Go.Lib in
/-- **unicode/utf8.DecodeRuneInString AT EVERY STRING.** (LAID: no walk: one application.) -/
theorem Tryd.utf8_DecodeRuneInString (s : ByteArray) (w : World) (hT : Lib.Utf8Tabs 1 2 w) :
    Calls Tryd.prog 87 #[.string s] w fun e w' => e = .returned (.tuple #[.int .i32 (Lib.decodeGo s).1, .int .i64 (Lib.decodeGo s).2]) ∧ Below w.heap.size w w' := Any.utf8_DecodeRuneInString Tryd.lays197 s w hT
def Tryd.laysNm215_ren : Go.Shelf.Ren := ⟨fun | 15 => 33 | n => n, fun | 22 => 22 | 3 => 3 | 4 => 4 | n => n, fun | n => n⟩
theorem Tryd.laysNm215 : Go.Proofs.Lays2.n15 Tryd.prog Tryd.laysNm215_ren := {
  mixed := by kernel_rfl
  f15 := Tryd.func33.trans (congrArg some (by kernel_rfl))
  t3 := Tryd.underlying3
  a3 := Tryd.isAgg3
  z3 := Tryd.sizeOf3
  v3 := Tryd.zeroValue3
  t4 := Tryd.underlying4
  a4 := Tryd.isAgg4
  z4 := Tryd.sizeOf4
  v4 := Tryd.zeroValue4
  t22 := Tryd.underlying22
  a22 := Tryd.isAgg22
  z22 := Tryd.sizeOf22
  v22 := Tryd.zeroValue22
  i3 := by kernel_rfl }
open Go.RowKit Go.Lib in
/-- slices.Clone at []int: "Clone returns a copy of the slice. The elements are copied using assignment, so this is a shallow clone. The result may have additional unused capacity. The result preserves the nilness of s.": OF A SLICE THAT IS NOT nil IT RETURNS A SLICE THAT IS NOT nil, OF THE SAME ELEMENTS, IN MEMORY OF THE CALL's OWN: in the how-to's words (6f): 'w'.ownsRow B e 1 v' n cells': v' begins at the head of a row among the blocks from B on (B: the heap's size at the call), not frozen, whose first cells are the elements · 'Below B w w'': below B all is as it was. The capacity is whatever the run-time gives. 'zs': what the cells behind the slice's address hold; 'zs.take n': its elements. (LAID: no walk: one application.) -/
theorem Tryd.slices_Clone_int (b off n c : Nat) (zs : List Int) (w : World) (hz : n ≤ zs.length) (hbig : n * 8 ≤ 140737488355328) (hc : ∀ j, j < zs.length → w.cell? ⟨b, off + j, none⟩ = some (.int .i64 (zs.getD j 0))) :
    Calls Tryd.prog 33 #[.slice (some ⟨b, off, none⟩) n c] w fun e w' => ∃ v', e = .returned v' ∧ w'.ownsRow w.heap.size 3 1 v' n ((zs.take n).map (Value.int .i64)) ∧ v' ≠ .slice none 0 0 ∧ Below w.heap.size w w' := Any.slices_Clone_int Tryd.laysNm215 b off n c zs w hz hbig hc
open Go.RowKit Go.Lib in
/-- The same at nil: nil comes back; the world is as it was. (LAID: no walk: one application.) -/
theorem Tryd.slices_Clone_int_nil (n c : Nat) (w : World) :
    Calls Tryd.prog 33 #[.slice none n c] w fun e w' => e = .returned (.slice none 0 0) ∧ w' = w := Any.slices_Clone_int_nil Tryd.laysNm215 n c w
open Go.RowKit Go.Lib in
/-- The same at a slice of length 0 that is not nil, WHATEVER ITS ADDRESS (no cell is asked for): a slice that is not nil and owns nothing comes back. (LAID: no walk: one application.) -/
theorem Tryd.slices_Clone_int_zero (a : Addr) (c : Nat) (w : World) :
    Calls Tryd.prog 33 #[.slice (some a) 0 c] w fun e w' => ∃ v', e = .returned v' ∧ w'.ownsRow w.heap.size 3 1 v' 0 [] ∧ v' ≠ .slice none 0 0 ∧ Below w.heap.size w w' := Any.slices_Clone_int_zero Tryd.laysNm215 a c w
def Tryd.laysNm237_ren : Go.Shelf.Ren := ⟨fun | 37 => 81 | n => n, fun | 3 => 3 | 4 => 4 | n => n, fun | n => n⟩
theorem Tryd.laysNm237 : Go.Proofs.Lays2.n37 Tryd.prog Tryd.laysNm237_ren := {
  mixed := by kernel_rfl
  f37 := Tryd.func81.trans (congrArg some (by kernel_rfl))
  t3 := Tryd.underlying3
  a3 := Tryd.isAgg3
  z3 := Tryd.sizeOf3
  v3 := Tryd.zeroValue3
  t4 := Tryd.underlying4
  a4 := Tryd.isAgg4
  z4 := Tryd.sizeOf4
  v4 := Tryd.zeroValue4 }
open Go.RowKit Go.Lib in
/-- cmp.isNaN[int]: 'x != x': false. (LAID: no walk: one application.) -/
theorem Tryd.cmp_isNaN_int2 (x : Int) (w : World) :
    Calls Tryd.prog 81 #[.int .i64 x] w fun e w' => e = .returned (.bool false) ∧ w' = w := Any.cmp_isNaN_int2 Tryd.laysNm237 x w
end Go.Proofs
end
section
/- slices.Clone of numbers keeps its promise. -/
namespace Go.Proofs.YthalofddjlhcjaaDoor
open Go Go.RowKit
set_option maxRecDepth 100000
set_option maxHeartbeats 4000000
set_option linter.unusedVariables false
set_option linter.unusedSimpArgs false

theorem intsI_inv : ∀ {cs : List T} {xs : List Int}, intsI cs = some xs → cs = xs.map fun x => .sc (.int .i64 x)
  | [], xs, h => by simp [intsI] at h; subst h; rfl
  | c :: cs, xs, h => by
    unfold intsI at h
    split at h
    · rename_i he; cases he
    · rename_i x l he
      cases he
      simp only [Option.map_eq_some_iff] at h
      obtain ⟨ys, hy, rfl⟩ := h
      simp [← intsI_inv hy]
    · cases h

/-- New blocks are the result's. -/
def newK (B : Nat) (K : Nat → Color) (b : Nat) : Color := if B ≤ b then [0] else K b
theorem below_step {w w' : World} {K : Nat → Color} (h : Below w.heap.size w w') : Step w K w' (newK w.heap.size K) :=
  ⟨h.os, h.tape, h.output, h.size, fun b hb _ => ⟨by unfold newK; rw [if_neg (by omega)], h.block b hb⟩⟩
theorem own_row {w : World} {K : Nat → Color} {B : Nat} {e : TypeId} {v : Value} {n : Nat} {xs : List Int} (hn : xs.length = n) (h : w.ownsRow B e 1 v n (xs.map (Value.int .i64))) : TRep w (newK B K) [0] v (ointsT xs) := by
  obtain ⟨h1, h2⟩ := h
  subst hn
  rcases h2 with ⟨rfl, h0⟩ | ⟨g, cap, cur, rfl, hb, hg, hc1, hc2, hs, ht⟩
  · have : xs = [] := List.eq_nil_of_length_eq_zero h0
    subst this
    exact .nil _ _
  · refine .own [0] g xs.length cap 1 _ cur e (0, 0) (fun j => .int .i64 (xs.getD j 0)) (fun i _ => by simp) (by simp) (by unfold newK; rw [if_pos hb]) hg hs (by simp) (by omega) hc1 hc2 (fun j hj => ?_) (fun j t ht => ?_)
    · have hj' : j < xs.length := by simpa using hj
      have h3 : (cur.toList.take (xs.length * 1))[j]? = (xs.map (Value.int .i64))[j]? := by rw [ht]
      rw [List.getElem?_take_of_lt (by omega), List.getElem?_map, List.getElem?_eq_getElem hj'] at h3
      simp only [Option.map_some, Array.getElem?_toList] at h3
      rw [h3, List.getD, List.getElem?_eq_getElem hj']
      rfl
    · simp only [List.getElem?_map, Option.map_eq_some_iff] at ht
      obtain ⟨x, hx, rfl⟩ := ht
      simp only [List.getD, hx]
      exact .sc _ _ rfl

theorem xtC_sound {I : World → (Nat → Color) → Prop} : Sound Tryd.prog I xtC := by
  intro f args r outs h
  unfold xtC at h
  split at h
  case isFalse => cases h
  rename_i hf
  subst hf
  unfold xClone at h
  split at h
  case h_2 => cases h
  rename_i n cs
  split at h
  case h_2 => cases h
  rename_i xs hxs
  split at h
  case isFalse => cases h
  rename_i hc
  obtain ⟨hl, hb⟩ := hc
  obtain ⟨rfl, rfl⟩ : ointsT xs = r ∧ [T.dead] = outs := by simpa using h
  have hcs := intsI_inv hxs
  subst hcs
  clear hxs h
  subst hl
  refine ⟨fun vals w => ?_, fun w K vals hs ha hI => ?_⟩
  · have hb : ∃ c, Tryd.f33.body = some c := ⟨_, rfl⟩
    obtain ⟨c, hb⟩ := hb
    have hname : Tryd.f33.name ≠ "runtime.NumGoroutine" := by decide
    simp [callFunc, program, Sem.run, Tryd.func33, hname, hb]
  · obtain ⟨v, rfl⟩ : ∃ v, vals = #[v] := by
      obtain ⟨l⟩ := vals
      match l, hs with
      | [v], _ => exact ⟨v, rfl⟩
    have hv := ha 0 _ rfl
    have hv : TRep w K [] v (ints xs) := hv
    have fin : ∀ e w', (∃ v', e = Ending.returned v' ∧ w'.ownsRow w.heap.size 3 1 v' xs.length (xs.map (Value.int .i64)) ∧ Below w.heap.size w w') → ∃ v' K', e = Ending.returned v' ∧ TRep w' K' [0] v' (ointsT xs) ∧ (∀ i t, [ints xs][i]? = some t → isIo t = true → ∃ t', [T.dead][i]? = some t' ∧ TRep w' K' (col i) (#[v].getD i undef) t') ∧ Step w K w' K' := by
      rintro e w' ⟨v', he, ho, hbl⟩
      refine ⟨v', newK w.heap.size K, he, own_row rfl ho, fun i t hi hio => ?_, below_step hbl⟩
      match i, hi with
      | 0, hi => cases hi; cases hio
    generalize hT : ints xs = t at hv
    cases hv with
    | emp c a cap hcap =>
      have : xs = [] := by
        have : xs.length = 0 := by injection hT
        exact List.eq_nil_of_length_eq_zero this
      subst this
      cases a with
      | none => exact (Tryd.slices_Clone_int_nil 0 cap w).mono fun e w' ⟨he, hw⟩ => fin e w' ⟨_, he, ⟨by simp, .inl ⟨rfl, rfl⟩⟩, hw ▸ Below.refl _ _⟩
      | some a => exact (Tryd.slices_Clone_int_zero a cap w).mono fun e w' ⟨v', he, ho, _, hb⟩ => fin e w' ⟨v', he, ho, hb⟩
    | fro c g o n cap cs F hK hg hn hcap hF hh =>
      injection hT with e1 e2
      subst e1
      subst e2
      refine (Tryd.slices_Clone_int g o xs.length cap xs w (Nat.le_refl _) hb (fun j hj => ?_)).mono fun e w' ⟨v', he, ho, _, hbl⟩ => fin e w' ⟨v', he, ?_, hbl⟩
      · have h1 := hF j (by simpa using hj)
        rw [h1]
        have h2 := hh j (.sc (.int .i64 (xs.getD j 0))) (by simp [List.getD, hj])
        rw [h2.sc_eq]
      · rw [List.take_of_length_le (Nat.le_refl _)] at ho
        exact ho
    | _ => cases hT
end Go.Proofs.YthalofddjlhcjaaDoor
end
section
/- The schedules are orders. -/
namespace Go.Proofs.YthalofddjlhcjaaDoor
open Go
set_option maxRecDepth 100000

theorem cok3 : okFn Tryd.prog 3 cf3 = true := by kernel_rfl
theorem cok4 : okFn Tryd.prog 4 cf4 = true := by kernel_rfl
theorem cok5 : okFn Tryd.prog 5 cf5 = true := by kernel_rfl
theorem cok6 : okFn Tryd.prog 6 cf6 = true := by kernel_rfl
theorem cok7 : okFn Tryd.prog 7 cf7 = true := by kernel_rfl
theorem cok9 : okFn Tryd.prog 9 cf9 = true := by kernel_rfl
theorem cok10 : okFn Tryd.prog 10 cf10 = true := by kernel_rfl
theorem cok11 : okFn Tryd.prog 11 cf11 = true := by kernel_rfl
theorem cok12 : okFn Tryd.prog 12 cf12 = true := by kernel_rfl
theorem cok13 : okFn Tryd.prog 13 cf13 = true := by kernel_rfl
theorem cok14 : okFn Tryd.prog 14 cf14 = true := by kernel_rfl
theorem cok15 : okFn Tryd.prog 15 cf15 = true := by kernel_rfl
theorem cok16 : okFn Tryd.prog 16 cf16 = true := by kernel_rfl
theorem cok17 : okFn Tryd.prog 17 cf17 = true := by kernel_rfl
theorem cok18 : okFn Tryd.prog 18 cf18 = true := by kernel_rfl
theorem cok19 : okFn Tryd.prog 19 cf19 = true := by kernel_rfl
theorem cok20 : okFn Tryd.prog 20 cf20 = true := by kernel_rfl
theorem cok21 : okFn Tryd.prog 21 cf21 = true := by kernel_rfl
theorem cok22 : okFn Tryd.prog 22 cf22 = true := by kernel_rfl
theorem cok23 : okFn Tryd.prog 23 cf23 = true := by kernel_rfl
theorem cok24 : okFn Tryd.prog 24 cf24 = true := by kernel_rfl
theorem cok25 : okFn Tryd.prog 25 cf25 = true := by kernel_rfl
theorem cok26 : okFn Tryd.prog 26 cf26 = true := by kernel_rfl
theorem cok27 : okFn Tryd.prog 27 cf27 = true := by kernel_rfl
theorem cok28 : okFn Tryd.prog 28 cf28 = true := by kernel_rfl
theorem cok29 : okFn Tryd.prog 29 cf29 = true := by kernel_rfl
theorem cok30 : okFn Tryd.prog 30 cf30 = true := by kernel_rfl
theorem cok31 : okFn Tryd.prog 31 cf31 = true := by kernel_rfl
theorem cok32 : okFn Tryd.prog 32 cf32 = true := by kernel_rfl
theorem cok34 : okFn Tryd.prog 34 cf34 = true := by kernel_rfl
theorem cok35 : okFn Tryd.prog 35 cf35 = true := by kernel_rfl
theorem cok36 : okFn Tryd.prog 36 cf36 = true := by kernel_rfl
theorem cok37 : okFn Tryd.prog 37 cf37 = true := by kernel_rfl
theorem cok38 : okFn Tryd.prog 38 cf38 = true := by kernel_rfl
theorem cok39 : okFn Tryd.prog 39 cf39 = true := by kernel_rfl
theorem cok40 : okFn Tryd.prog 40 cf40 = true := by kernel_rfl
theorem cok41 : okFn Tryd.prog 41 cf41 = true := by kernel_rfl
theorem cok42 : okFn Tryd.prog 42 cf42 = true := by kernel_rfl
theorem cok43 : okFn Tryd.prog 43 cf43 = true := by kernel_rfl
theorem cok44 : okFn Tryd.prog 44 cf44 = true := by kernel_rfl
theorem cok45 : okFn Tryd.prog 45 cf45 = true := by kernel_rfl
theorem cok46 : okFn Tryd.prog 46 cf46 = true := by kernel_rfl
theorem cok47 : okFn Tryd.prog 47 cf47 = true := by kernel_rfl
theorem cok50 : okFn Tryd.prog 50 cf50 = true := by kernel_rfl
theorem cok51 : okFn Tryd.prog 51 cf51 = true := by kernel_rfl
theorem cok52 : okFn Tryd.prog 52 cf52 = true := by kernel_rfl
theorem cok53 : okFn Tryd.prog 53 cf53 = true := by kernel_rfl
theorem cok55 : okFn Tryd.prog 55 cf55 = true := by kernel_rfl
theorem cok56 : okFn Tryd.prog 56 cf56 = true := by kernel_rfl
theorem cok57 : okFn Tryd.prog 57 cf57 = true := by kernel_rfl
theorem cok58 : okFn Tryd.prog 58 cf58 = true := by kernel_rfl
theorem cok59 : okFn Tryd.prog 59 cf59 = true := by kernel_rfl
theorem cok60 : okFn Tryd.prog 60 cf60 = true := by kernel_rfl
theorem cok61 : okFn Tryd.prog 61 cf61 = true := by kernel_rfl
theorem cok62 : okFn Tryd.prog 62 cf62 = true := by kernel_rfl
theorem cok63 : okFn Tryd.prog 63 cf63 = true := by kernel_rfl
theorem cok64 : okFn Tryd.prog 64 cf64 = true := by kernel_rfl
theorem cok65 : okFn Tryd.prog 65 cf65 = true := by kernel_rfl
theorem cok66 : okFn Tryd.prog 66 cf66 = true := by kernel_rfl
theorem cok69 : okFn Tryd.prog 69 cf69 = true := by kernel_rfl
theorem cok70 : okFn Tryd.prog 70 cf70 = true := by kernel_rfl
theorem cok71 : okFn Tryd.prog 71 cf71 = true := by kernel_rfl
theorem cok72 : okFn Tryd.prog 72 cf72 = true := by kernel_rfl
theorem cok73 : okFn Tryd.prog 73 cf73 = true := by kernel_rfl
theorem cok74 : okFn Tryd.prog 74 cf74 = true := by kernel_rfl
theorem cok75 : okFn Tryd.prog 75 cf75 = true := by kernel_rfl
theorem cok80 : okFn Tryd.prog 80 cf80 = true := by kernel_rfl
theorem cok81 : okFn Tryd.prog 81 cf81 = true := by kernel_rfl
theorem cok89 : okFn Tryd.prog 89 cf89 = true := by kernel_rfl
theorem cok93 : okFn Tryd.prog 93 cf93 = true := by kernel_rfl
theorem cfOk : ∀ f c, cfAll f = some c → okFn Tryd.prog f c = true := by
  intro f c h
  unfold cfAll at h
  by_cases e3 : f = 3
  · rw [if_pos e3] at h; cases h; rw [e3]; exact cok3
  rw [if_neg e3] at h
  by_cases e4 : f = 4
  · rw [if_pos e4] at h; cases h; rw [e4]; exact cok4
  rw [if_neg e4] at h
  by_cases e5 : f = 5
  · rw [if_pos e5] at h; cases h; rw [e5]; exact cok5
  rw [if_neg e5] at h
  by_cases e6 : f = 6
  · rw [if_pos e6] at h; cases h; rw [e6]; exact cok6
  rw [if_neg e6] at h
  by_cases e7 : f = 7
  · rw [if_pos e7] at h; cases h; rw [e7]; exact cok7
  rw [if_neg e7] at h
  by_cases e9 : f = 9
  · rw [if_pos e9] at h; cases h; rw [e9]; exact cok9
  rw [if_neg e9] at h
  by_cases e10 : f = 10
  · rw [if_pos e10] at h; cases h; rw [e10]; exact cok10
  rw [if_neg e10] at h
  by_cases e11 : f = 11
  · rw [if_pos e11] at h; cases h; rw [e11]; exact cok11
  rw [if_neg e11] at h
  by_cases e12 : f = 12
  · rw [if_pos e12] at h; cases h; rw [e12]; exact cok12
  rw [if_neg e12] at h
  by_cases e13 : f = 13
  · rw [if_pos e13] at h; cases h; rw [e13]; exact cok13
  rw [if_neg e13] at h
  by_cases e14 : f = 14
  · rw [if_pos e14] at h; cases h; rw [e14]; exact cok14
  rw [if_neg e14] at h
  by_cases e15 : f = 15
  · rw [if_pos e15] at h; cases h; rw [e15]; exact cok15
  rw [if_neg e15] at h
  by_cases e16 : f = 16
  · rw [if_pos e16] at h; cases h; rw [e16]; exact cok16
  rw [if_neg e16] at h
  by_cases e17 : f = 17
  · rw [if_pos e17] at h; cases h; rw [e17]; exact cok17
  rw [if_neg e17] at h
  by_cases e18 : f = 18
  · rw [if_pos e18] at h; cases h; rw [e18]; exact cok18
  rw [if_neg e18] at h
  by_cases e19 : f = 19
  · rw [if_pos e19] at h; cases h; rw [e19]; exact cok19
  rw [if_neg e19] at h
  by_cases e20 : f = 20
  · rw [if_pos e20] at h; cases h; rw [e20]; exact cok20
  rw [if_neg e20] at h
  by_cases e21 : f = 21
  · rw [if_pos e21] at h; cases h; rw [e21]; exact cok21
  rw [if_neg e21] at h
  by_cases e22 : f = 22
  · rw [if_pos e22] at h; cases h; rw [e22]; exact cok22
  rw [if_neg e22] at h
  by_cases e23 : f = 23
  · rw [if_pos e23] at h; cases h; rw [e23]; exact cok23
  rw [if_neg e23] at h
  by_cases e24 : f = 24
  · rw [if_pos e24] at h; cases h; rw [e24]; exact cok24
  rw [if_neg e24] at h
  by_cases e25 : f = 25
  · rw [if_pos e25] at h; cases h; rw [e25]; exact cok25
  rw [if_neg e25] at h
  by_cases e26 : f = 26
  · rw [if_pos e26] at h; cases h; rw [e26]; exact cok26
  rw [if_neg e26] at h
  by_cases e27 : f = 27
  · rw [if_pos e27] at h; cases h; rw [e27]; exact cok27
  rw [if_neg e27] at h
  by_cases e28 : f = 28
  · rw [if_pos e28] at h; cases h; rw [e28]; exact cok28
  rw [if_neg e28] at h
  by_cases e29 : f = 29
  · rw [if_pos e29] at h; cases h; rw [e29]; exact cok29
  rw [if_neg e29] at h
  by_cases e30 : f = 30
  · rw [if_pos e30] at h; cases h; rw [e30]; exact cok30
  rw [if_neg e30] at h
  by_cases e31 : f = 31
  · rw [if_pos e31] at h; cases h; rw [e31]; exact cok31
  rw [if_neg e31] at h
  by_cases e32 : f = 32
  · rw [if_pos e32] at h; cases h; rw [e32]; exact cok32
  rw [if_neg e32] at h
  by_cases e34 : f = 34
  · rw [if_pos e34] at h; cases h; rw [e34]; exact cok34
  rw [if_neg e34] at h
  by_cases e35 : f = 35
  · rw [if_pos e35] at h; cases h; rw [e35]; exact cok35
  rw [if_neg e35] at h
  by_cases e36 : f = 36
  · rw [if_pos e36] at h; cases h; rw [e36]; exact cok36
  rw [if_neg e36] at h
  by_cases e37 : f = 37
  · rw [if_pos e37] at h; cases h; rw [e37]; exact cok37
  rw [if_neg e37] at h
  by_cases e38 : f = 38
  · rw [if_pos e38] at h; cases h; rw [e38]; exact cok38
  rw [if_neg e38] at h
  by_cases e39 : f = 39
  · rw [if_pos e39] at h; cases h; rw [e39]; exact cok39
  rw [if_neg e39] at h
  by_cases e40 : f = 40
  · rw [if_pos e40] at h; cases h; rw [e40]; exact cok40
  rw [if_neg e40] at h
  by_cases e41 : f = 41
  · rw [if_pos e41] at h; cases h; rw [e41]; exact cok41
  rw [if_neg e41] at h
  by_cases e42 : f = 42
  · rw [if_pos e42] at h; cases h; rw [e42]; exact cok42
  rw [if_neg e42] at h
  by_cases e43 : f = 43
  · rw [if_pos e43] at h; cases h; rw [e43]; exact cok43
  rw [if_neg e43] at h
  by_cases e44 : f = 44
  · rw [if_pos e44] at h; cases h; rw [e44]; exact cok44
  rw [if_neg e44] at h
  by_cases e45 : f = 45
  · rw [if_pos e45] at h; cases h; rw [e45]; exact cok45
  rw [if_neg e45] at h
  by_cases e46 : f = 46
  · rw [if_pos e46] at h; cases h; rw [e46]; exact cok46
  rw [if_neg e46] at h
  by_cases e47 : f = 47
  · rw [if_pos e47] at h; cases h; rw [e47]; exact cok47
  rw [if_neg e47] at h
  by_cases e50 : f = 50
  · rw [if_pos e50] at h; cases h; rw [e50]; exact cok50
  rw [if_neg e50] at h
  by_cases e51 : f = 51
  · rw [if_pos e51] at h; cases h; rw [e51]; exact cok51
  rw [if_neg e51] at h
  by_cases e52 : f = 52
  · rw [if_pos e52] at h; cases h; rw [e52]; exact cok52
  rw [if_neg e52] at h
  by_cases e53 : f = 53
  · rw [if_pos e53] at h; cases h; rw [e53]; exact cok53
  rw [if_neg e53] at h
  by_cases e55 : f = 55
  · rw [if_pos e55] at h; cases h; rw [e55]; exact cok55
  rw [if_neg e55] at h
  by_cases e56 : f = 56
  · rw [if_pos e56] at h; cases h; rw [e56]; exact cok56
  rw [if_neg e56] at h
  by_cases e57 : f = 57
  · rw [if_pos e57] at h; cases h; rw [e57]; exact cok57
  rw [if_neg e57] at h
  by_cases e58 : f = 58
  · rw [if_pos e58] at h; cases h; rw [e58]; exact cok58
  rw [if_neg e58] at h
  by_cases e59 : f = 59
  · rw [if_pos e59] at h; cases h; rw [e59]; exact cok59
  rw [if_neg e59] at h
  by_cases e60 : f = 60
  · rw [if_pos e60] at h; cases h; rw [e60]; exact cok60
  rw [if_neg e60] at h
  by_cases e61 : f = 61
  · rw [if_pos e61] at h; cases h; rw [e61]; exact cok61
  rw [if_neg e61] at h
  by_cases e62 : f = 62
  · rw [if_pos e62] at h; cases h; rw [e62]; exact cok62
  rw [if_neg e62] at h
  by_cases e63 : f = 63
  · rw [if_pos e63] at h; cases h; rw [e63]; exact cok63
  rw [if_neg e63] at h
  by_cases e64 : f = 64
  · rw [if_pos e64] at h; cases h; rw [e64]; exact cok64
  rw [if_neg e64] at h
  by_cases e65 : f = 65
  · rw [if_pos e65] at h; cases h; rw [e65]; exact cok65
  rw [if_neg e65] at h
  by_cases e66 : f = 66
  · rw [if_pos e66] at h; cases h; rw [e66]; exact cok66
  rw [if_neg e66] at h
  by_cases e69 : f = 69
  · rw [if_pos e69] at h; cases h; rw [e69]; exact cok69
  rw [if_neg e69] at h
  by_cases e70 : f = 70
  · rw [if_pos e70] at h; cases h; rw [e70]; exact cok70
  rw [if_neg e70] at h
  by_cases e71 : f = 71
  · rw [if_pos e71] at h; cases h; rw [e71]; exact cok71
  rw [if_neg e71] at h
  by_cases e72 : f = 72
  · rw [if_pos e72] at h; cases h; rw [e72]; exact cok72
  rw [if_neg e72] at h
  by_cases e73 : f = 73
  · rw [if_pos e73] at h; cases h; rw [e73]; exact cok73
  rw [if_neg e73] at h
  by_cases e74 : f = 74
  · rw [if_pos e74] at h; cases h; rw [e74]; exact cok74
  rw [if_neg e74] at h
  by_cases e75 : f = 75
  · rw [if_pos e75] at h; cases h; rw [e75]; exact cok75
  rw [if_neg e75] at h
  by_cases e80 : f = 80
  · rw [if_pos e80] at h; cases h; rw [e80]; exact cok80
  rw [if_neg e80] at h
  by_cases e81 : f = 81
  · rw [if_pos e81] at h; cases h; rw [e81]; exact cok81
  rw [if_neg e81] at h
  by_cases e89 : f = 89
  · rw [if_pos e89] at h; cases h; rw [e89]; exact cok89
  rw [if_neg e89] at h
  by_cases e93 : f = 93
  · rw [if_pos e93] at h; cases h; rw [e93]; exact cok93
  rw [if_neg e93] at h
  cases h
end Go.Proofs.YthalofddjlhcjaaDoor
end
section
/- What was read before a call that keeps all old blocks is read behind it. Over any program. -/
namespace Go.Proofs.YthalofddjlhcjaaDoor
set_option linter.unusedVariables false
set_option linter.unusedSimpArgs false
open Go.RowKit

/-- A type none of whose parts is a slice of elements without cells. -/
def flatT (P : Program) : Nat → TypeId → Bool
  | 0, _ => false
  | m + 1, t =>
    match P.underlying t with
    | some (.slice e) => P.cellsOf e != 0 && flatT P m e
    | some (.pointer e) => flatT P m e
    | some (.struct fs) => fs.toList.all fun f => flatT P m f.type
    | some (.array _ e) => flatT P m e
    | some (.map _ e) => flatT P m e
    | _ => true

section
variable {H : Type} {enc : TypeId × Value → H} {P : Program} {w : World} {base : Nat}

theorem trodStep_spare {m : Nat} {r r' : TypeId → List Value → Option (DataW H × List MemPlace)}
    (hr : ∀ t cs x, flatT P m t = true → r t cs = some x → r' t cs = some x) {t : TypeId} {cs : List Value} {x : DataW H × List MemPlace} (hf : flatT P (m + 1) t = true)
    (h : DataW.trodStep enc P w base (fun _ => true) true r t cs = some x) : DataW.trodStep enc P w base (fun b => decide (b < w.heap.size)) true r' t cs = some x := by
  unfold DataW.trodStep at h ⊢
  unfold flatT at hf
  split at h
  case h_1 => exact h
  case h_2 => exact h
  case h_3 => exact h
  case h_4 => exact h
  case h_5 => exact h
  case h_6 e a hu =>
    rw [hu] at hf
    simp only [Option.map_eq_some_iff, Option.bind_eq_some_iff] at h ⊢
    obtain ⟨y, ⟨cs', hc, hy⟩, rfl⟩ := h
    exact ⟨y, ⟨cs', hc, hr _ _ _ hf hy⟩, rfl⟩
  case h_7 => exact h
  case h_8 e a len cap hu =>
    rw [hu] at hf
    simp only [Bool.and_eq_true, bne_iff_ne, ne_eq] at hf
    obtain ⟨hcell, hfe⟩ := hf
    simp only at h ⊢
    split at h
    · rename_i hc
      rw [if_pos hc]
      simp only [Option.map_eq_some_iff, Option.bind_eq_some_iff, if_true] at h ⊢
      obtain ⟨elems, he, rest, hrest, rfl⟩ := h
      have one : ∀ (i : Nat) (y : DataW H × List MemPlace), (w.cells? base (a.add (i * P.cellsOf e)) (P.cellsOf e)).bind (r e) = some y → (w.cells? base (a.add (i * P.cellsOf e)) (P.cellsOf e)).bind (r' e) = some y := by
        intro i y hv
        simp only [Option.bind_eq_some_iff] at hv ⊢
        obtain ⟨cs', hc', hy'⟩ := hv
        exact ⟨cs', hc', hr _ _ _ hfe hy'⟩
      refine ⟨elems, mapM_carry he (fun i y _ _ hy => one i y hy), rest, ?_, rfl⟩
      by_cases hb : a.block < w.heap.size
      · rw [if_pos (by simpa using hb)]
        exact mapM_carry hrest (fun j y _ _ hy => one (len + j) y hy)
      · rw [if_neg (by simpa using hb)]
        have hz : cap - len = 0 := by
          rcases Nat.eq_zero_or_pos (cap - len) with h0 | h0
          · exact h0
          · exfalso
            have hl : rest.length = cap - len := by simpa using mapM_some_length hrest
            have h1 := mapM_some_get hrest 0 0 (by simp [h0])
            obtain ⟨y, hy⟩ : ∃ y, rest[0]? = some y := ⟨rest[0], List.getElem?_eq_getElem (by omega)⟩
            rw [hy] at h1
            simp only [Option.bind_eq_some_iff] at h1
            obtain ⟨cs', hc', _⟩ := h1
            have h2 := World.cells?_block hc' (by omega)
            have h3 : (a.add ((len + 0) * P.cellsOf e)).block = a.block := by unfold Addr.add; split <;> rfl
            omega
        rw [hz] at hrest
        simpa using hrest
    · cases h
  case h_9 fs _ hu =>
    rw [hu] at hf
    split at h
    · rename_i hc
      rw [if_pos hc]
      simp only [Option.map_eq_some_iff] at h ⊢
      obtain ⟨xs, hx, rfl⟩ := h
      exact ⟨xs, mapM_carry hx (fun f y hin _ hv => hr _ _ _ (List.all_eq_true.1 hf f hin) hv), rfl⟩
    · cases h
  case h_10 n e _ hu =>
    rw [hu] at hf
    split at h
    · rename_i hc
      rw [if_pos hc]
      simp only [Option.map_eq_some_iff] at h ⊢
      obtain ⟨xs, hx, rfl⟩ := h
      exact ⟨xs, mapM_carry hx (fun f y _ _ hv => hr _ _ _ hf hv), rfl⟩
    · cases h
  case h_11 => exact h
  case h_12 => exact h
  case h_13 => exact h
  case h_14 k e b hu =>
    rw [hu] at hf
    split at h
    · rename_i es clock hb
      split at h
      · rename_i hc
        simp only [Option.bind_eq_some_iff] at h
        obtain ⟨entries, he, hd⟩ := h
        split at hd
        · rename_i hris
          have hx := Option.some.inj hd
          subst hx
          simp only [if_pos hc, Option.bind_eq_some_iff]
          refine ⟨entries, mapM_carry he (fun x y _ hy hv => ?_), by simp [hris]⟩
          simp only [Option.bind_eq_some_iff] at hv ⊢
          obtain ⟨key, hk, hz⟩ := hv
          refine ⟨key, hk, ?_⟩
          split at hz
          · rename_i hfm
            rw [if_pos hfm]
            simp only [Option.map_eq_some_iff] at hz ⊢
            obtain ⟨q, hq, rfl⟩ := hz
            exact ⟨q, hr _ _ _ hf hq, rfl⟩
          · cases hz
        · cases hd
      · cases h
    · cases h
  case h_15 => exact h
  case h_16 => exact h
  case h_17 => exact h
  case h_18 => exact h
  case h_19 => exact h
  case h_20 => exact h
  case h_21 => cases h

theorem trod_spare : ∀ (n m : Nat) (t : TypeId) (cs : List Value) (x : DataW H × List MemPlace), flatT P m t = true →
    DataW.trod enc P w base (fun _ => true) true n t cs = some x → DataW.trod enc P w base (fun b => decide (b < w.heap.size)) true n t cs = some x := by
  intro n
  induction n with
  | zero => intro m t cs x _ h; simp [DataW.trod] at h
  | succ n ih =>
    intro m t cs x hf h
    cases m with
    | zero => simp [flatT] at hf
    | succ m =>
      rw [DataW.trod_step] at h ⊢
      exact trodStep_spare (m := m) (fun t cs x hf hx => ih m t cs x hf hx) hf h

theorem sameAt_below {w' : World} (hb : Below w.heap.size w w') {p : MemPlace} (hp : p.block < w.heap.size) : w.sameAt w' p := by
  cases p with
  | cell b off => exact hb.cell (p := ⟨b, off, none⟩) hp
  | map b => exact hb.block b hp

theorem trodAll_below {w' : World} (m : Nat) (hb : Below w.heap.size w w') : ∀ {ts : List TypeId} {vs : List Value} {ds : List (DataW H)} {ps : List MemPlace}, (ts.all (flatT P m)) = true →
    DataW.TrodAll enc P w 0 (fun _ => true) true ts vs ds ps → DataW.TrodAll enc P w' 0 (fun b => decide (b < w.heap.size)) true ts vs ds ps
  | [], [], [], ps, _, h => h
  | t :: ts, v :: vs, d :: ds, ps, hf, ⟨p, q, ⟨n, h1⟩, h2, e⟩ => by
    simp only [List.all_cons, Bool.and_eq_true] at hf
    have h3 := trod_spare n m t _ _ hf.1 h1
    exact ⟨p, q, ⟨n, DataW.trod_carry n _ _ _ h3 (fun z hz => sameAt_below hb (DataW.trod_lt n _ _ _ h3 z hz))⟩, trodAll_below m hb hf.2 h2, e⟩
  | [], _ :: _, _, _, _, h => by cases h
  | [], [], _ :: _, _, _, h => by cases h
  | _ :: _, [], _, _, _, h => by cases h
  | _ :: _, _ :: _, [], _, _, h => by cases h
end

section
variable {H : Type} {enc : TypeId × Value → H} {P : Program} {w : World} {r : Reach} {b0 : Nat}
open Go.ChangeShapes Go.WideShapes
open Go.Deep (open_bools)

/-- What the first n cells of a slice hold. -/
def CellsAt (w : World) (n : Nat) (ga : Option Addr) (F : Nat → Value) : Prop := ∀ j, j < n → ∃ a, ga = some a ∧ w.cell? (a.add j) = some (F j) ∧ a.block < w.heap.size

theorem add_block (a : Addr) (j : Nat) : (a.add j).block = a.block := by unfold Addr.add; split <;> rfl

theorem open_boolS {t e : TypeId} {v : Value} {d : DataW H} {ps : List MemPlace} (ht : P.underlying t = some (.slice e)) (he : P.underlying e = some .bool) (hc : P.cellsOf e = 1)
    (hval : Value.okWide P w r b0 t v) (hd : DataW.Trod enc P w 0 (fun _ => true) true t v d ps) :
    ∃ ga n cap, ∃ B : Nat → Bool, v = .slice ga n cap ∧ n ≤ maxLen ∧ CellsAt w n ga (fun j => .bool (B j)) := by
  obtain ⟨ga, n, cap, rfl⟩ := okWide_slice ht hval
  obtain ⟨fuel, hf⟩ := hd
  rcases open_bools ht he hc hf with ⟨hcs, _⟩ | ⟨a, len', cap', B, hcs, _, hl, hm, _, hcell⟩
  · simp [Value.cells] at hcs
    obtain ⟨rfl, rfl, rfl⟩ := hcs
    exact ⟨_, _, _, fun _ => false, rfl, by decide, fun j hj => by omega⟩
  · simp [Value.cells] at hcs
    obtain ⟨rfl, rfl, rfl⟩ := hcs
    exact ⟨_, _, _, B, rfl, by omega, fun j hj => ⟨a, rfl, hcell j (by omega), by have := World.block_lt_of_cell? w _ (hcell j (by omega)); rwa [add_block] at this⟩⟩

theorem open_intS {t e : TypeId} {v : Value} {d : DataW H} {ps : List MemPlace} (ht : P.underlying t = some (.slice e)) (he : P.underlying e = some (.int .i64)) (hc : P.cellsOf e = 1)
    (hval : Value.okWide P w r b0 t v) (hd : DataW.Trod enc P w 0 (fun _ => true) true t v d ps) :
    ∃ ga n cap, ∃ B : List Int, v = .slice ga n cap ∧ n ≤ maxLen ∧ (B.length = n ∧ CellsAt w n ga (fun j => .int .i64 (B.getD j 0)) ∧ ∀ x ∈ B, (Lit.int .i64 x).wf = true) := by
  obtain ⟨ga, n, cap, rfl⟩ := okWide_slice ht hval
  obtain ⟨fuel, hf⟩ := hd
  rcases open_ints ht he hc hf with ⟨hcs, _⟩ | ⟨a, len', cap', zs, hcs, _, hl, hm, hz, _, hcell, hwz⟩
  · simp [Value.cells] at hcs
    obtain ⟨rfl, rfl, rfl⟩ := hcs
    exact ⟨_, _, _, [], rfl, by decide, rfl, fun j hj => by omega, fun x hx => by cases hx⟩
  · simp [Value.cells] at hcs
    obtain ⟨rfl, rfl, rfl⟩ := hcs
    simp only [if_true] at hz
    refine ⟨_, _, _, zs.take n, rfl, by omega, by simp; omega, fun j hj => ⟨a, rfl, ?_, by have := World.block_lt_of_cell? w _ (hcell j (by omega)); rwa [add_block] at this⟩, fun x hx => hwz x (List.mem_of_mem_take hx)⟩
    rw [hcell j (by omega)]
    simp [List.getD, List.getElem?_take_of_lt hj]
end
end Go.Proofs.YthalofddjlhcjaaDoor
end
section
/- From a law's run on trees to its call: every block of before is laid for good. Over any program. -/
namespace Go.Proofs.YthalofddjlhcjaaDoor
open Go.ChangeShapes Go.WideShapes Go.RowKit
set_option linter.unusedVariables false
set_option linter.unusedSimpArgs false

/-- Nothing of what was there before is the call's. -/
def KZ : Nat → Color := fun _ => []

theorem lift_true {P : Program} {Xc : Contract} {cf : FuncId → Option Cfg} {f : FuncId} {args : List T} {outs : List T} (hX : Sound P (fun _ _ => True) Xc) (hm : P.follows .mixedOrders = true) (hf : ∀ f c, cf f = some c → okFn P f c = true)
    (h : Lim P Xc cf f args = some (.sc (.bool true), outs)) (hio : args.all (fun t => !isIo t) = true) (W : World) (vals : Array Value) (hs : vals.size = args.length)
    (ha : ∀ i t, args[i]? = some t → TRep W KZ [] (vals.getD i undef) t) : Calls P f vals W fun e W' => e = .returned (.bool true) ∧ Below W.heap.size W W' := by
  have hc := lim_ok (I := fun _ _ => True) EnvS.none hX hm hf h
  refine (hc.calls W KZ vals hs (fun i t hi => ?_) trivial).mono fun e W' ⟨v, K', he, hv, _, hst⟩ => ?_
  · have h1 := List.all_eq_true.1 hio t (List.mem_of_getElem? hi)
    unfold ArgRep
    rw [if_neg (by simpa using h1)]
    exact ha i t hi
  · generalize hT : T.sc (.bool true) = t at hv
    cases hv with
    | sc c v hb => cases hT; exact ⟨he, hst.os, hst.tape, hst.output, hst.size, fun b hb => (hst.old b hb (.inl rfl)).2⟩
    | _ => cases hT

section
variable {H : Type} {enc : TypeId × Value → H} {P : Program} {w : World} {r : Reach} {b0 : Nat}
/-- A slice of integers reads as a tree. -/
theorem open_intT {t e : TypeId} {v : Value} {d : DataW H} {ps : List MemPlace} (ht : P.underlying t = some (.slice e)) (he : P.underlying e = some (.int .i64)) (hc : P.cellsOf e = 1)
    (hval : Value.okWide P w r b0 t v) (hd : DataW.Trod enc P w 0 (fun _ => true) true t v d ps) :
    ∃ xs : List Int, TRep w KZ [] v (.sl xs.length (xs.map fun x => .sc (.int .i64 x))) ∧ xs.length ≤ maxLen ∧ ∀ x ∈ xs, (Lit.int .i64 x).wf = true := by
  obtain ⟨ga, n, cap, rfl⟩ := okWide_slice ht hval
  obtain ⟨fuel, hf⟩ := hd
  rcases open_ints ht he hc hf with ⟨hcs, _⟩ | ⟨a, len', cap', zs, hcs, _, hl, hm, hz, _, hcell, hwz⟩
  · simp [Value.cells] at hcs
    obtain ⟨rfl, rfl, rfl⟩ := hcs
    exact ⟨[], .emp _ _ _ (by decide), by decide, fun x hx => by cases hx⟩
  · simp [Value.cells] at hcs
    obtain ⟨rfl, rfl, rfl⟩ := hcs
    simp only [if_true] at hz
    refine ⟨zs.take n, ?_, by simp; omega, fun x hx => hwz x (List.mem_of_mem_take hx)⟩
    have hln : (zs.take n).length = n := by simp; omega
    rw [hln]
    by_cases h0 : n = 0
    · subst h0
      simp only [List.take_zero, List.map_nil]
      exact .emp _ _ _ hm
    · have hc0 := hcell 0 (by omega)
      have hb := World.block_lt_of_cell? w _ hc0
      rw [add_block] at hb
      have hsp : a.spot = none := by
        have : a.add 0 = a := by simp [Addr.add]
        rw [this] at hc0
        unfold World.cell? at hc0
        split at hc0
        · split at hc0
          · cases hc0
          · rename_i hh
            simpa using hh
        · cases hc0
      obtain ⟨g, o, sp⟩ := a
      simp only at hsp
      subst hsp
      refine .fro [] g o n cap _ (fun j => .int .i64 (zs.getD j 0)) rfl hb hl hm (fun j hj => ?_) (fun j t hj => ?_)
      · have h1 := hcell j (by simp at hj; omega)
        have e : (⟨g, o, none⟩ : Addr).add j = ⟨g, o + j, none⟩ := by
          unfold Addr.add
          split
          · rename_i h; subst h; rfl
          · rfl
        rw [e] at h1
        exact h1
      · simp only [List.getElem?_map, Option.map_eq_some_iff] at hj
        obtain ⟨x, hx, rfl⟩ := hj
        have hjn : j < n := by
          have := (List.getElem?_eq_some_iff.1 hx).1
          simp at this; omega
        rw [List.getElem?_take_of_lt hjn] at hx
        simp only [List.getD, hx]
        exact .sc _ _ rfl
end
end Go.Proofs.YthalofddjlhcjaaDoor
end
section
/- Proved here: the law CascadeOrder returns true for every input, and its arguments read afterwards as before; the row's listed tables are tied to the program's text by the given tie. No other condition. -/
namespace Go.Proofs.YthalofddjlhcjaaDoor.cascadeOrder
open Go.ChangeShapes Go.WideShapes Go.ChangeAt Go.RowKit
open Go.ChangeMaps (open_string shut_string)
set_option linter.unusedVariables false
set_option linter.unusedSimpArgs false

theorem own : ownKnob Tryd.prog.godebug = none := by kernel_rfl
set_option maxRecDepth 100000 in
/-- What the call gives, for every argument. -/
theorem contract (H : Type) (enc : TypeId × Value → H) (W : World) (base : Nat) (args : Array Value) (ds gs : List (DataW H)) (before : List MemPlace)
    (hval0 : ∀ (j : Nat) t v, Tryd.f3.params[j]? = some t → args[j]? = some v → Value.okWide Tryd.prog W .any base t v)
    (hW : DataW.Whole enc Tryd.prog Tryd.f3.params.toList Rows.cascadeOrderSpec.vars false W args.toList ds gs before) :
    Calls Tryd.prog 3 args W fun e W' => ∃ v, e = .returned v ∧ Rows.cascadeOrderSpec.post enc Tryd.prog Tryd.f3 false true false false W args v W' := by
  have hW' := hW
  obtain ⟨p, q, hA0, hV, rfl, hfz, hnd⟩ := hW
  have hval := hval0
  have hA : DataW.TrodAll enc Tryd.prog W 0 (fun _ => true) true Tryd.f3.params.toList args.toList ds p := hA0
  rw [Tryd.params3] at hA hval
  obtain ⟨v0, vs0, d0, ds0, p0, q0, hargs, rfl, rfl, h0, r0⟩ := trodAll_cons hA
  obtain ⟨v1, vs1, d1, ds1, p1, q1, rfl, rfl, rfl, h1, r1⟩ := trodAll_cons r0
  obtain ⟨rfl, rfl, rfl⟩ := trodAll_nil r1
  obtain rfl : args = #[v0, v1] := by cases args; simp_all
  obtain ⟨rfl, rfl⟩ := trodVars_none hV
  obtain ⟨a0, t0, w0, z0⟩ := open_intT Tryd.underlying22 Tryd.underlying3 (by kernel_rfl) (hval 0 22 v0 rfl rfl) h0
  obtain ⟨a1, rfl, rfl, rfl, w1⟩ := open_int Tryd.underlying3 (hval 1 3 v1 rfl rfl) h1
  obtain ⟨outs, hlaw⟩ := law3 a0 w0 z0 a1 w1
  refine (lift_true xtC_sound (by kernel_rfl) cfOk hlaw rfl W _ rfl (fun i t hi => ?_)).mono fun e W' ⟨he, bel⟩ => ?_
  · match i, hi with
    | 0, hi => cases hi; exact t0
    | 1, hi => cases hi; exact .sc _ _ rfl
  · subst he
    exact ⟨_, rfl, _, _, _, [], _, [], hW', trodAll_mk1 (shut_bool Tryd.underlying4 _), trodAll_below 12 bel (by kernel_rfl) hA0, rfl, bel.frame _, fun h => by cases h⟩

/-- A world for the witness: the settled one, the listed tables laid. -/
noncomputable def laidWorld (os : Os) : World :=
  { World.holding Tryd.prog os ⟨#[], #[], []⟩ with heap := ((((World.holding Tryd.prog os ⟨#[], #[], []⟩).heap.modify 4 fun | .cells _ t frozen => .cells #[.int .u8 0, .int .u8 1, .int .u8 28, .int .u8 2, .int .u8 29, .int .u8 14, .int .u8 24, .int .u8 3, .int .u8 30, .int .u8 22, .int .u8 20, .int .u8 15, .int .u8 25, .int .u8 17, .int .u8 4, .int .u8 8, .int .u8 31, .int .u8 27, .int .u8 13, .int .u8 23, .int .u8 21, .int .u8 19, .int .u8 16, .int .u8 7, .int .u8 26, .int .u8 12, .int .u8 18, .int .u8 6, .int .u8 11, .int .u8 5, .int .u8 10, .int .u8 9] t frozen | o => o).modify 5 fun | .cells _ t frozen => .cells #[.int .u8 0, .int .u8 1, .int .u8 56, .int .u8 2, .int .u8 57, .int .u8 49, .int .u8 28, .int .u8 3, .int .u8 61, .int .u8 58, .int .u8 42, .int .u8 50, .int .u8 38, .int .u8 29, .int .u8 17, .int .u8 4, .int .u8 62, .int .u8 47, .int .u8 59, .int .u8 36, .int .u8 45, .int .u8 43, .int .u8 51, .int .u8 22, .int .u8 53, .int .u8 39, .int .u8 33, .int .u8 30, .int .u8 24, .int .u8 18, .int .u8 12, .int .u8 5, .int .u8 63, .int .u8 55, .int .u8 48, .int .u8 27, .int .u8 60, .int .u8 41, .int .u8 37, .int .u8 16, .int .u8 46, .int .u8 35, .int .u8 44, .int .u8 21, .int .u8 52, .int .u8 32, .int .u8 23, .int .u8 11, .int .u8 54, .int .u8 26, .int .u8 40, .int .u8 15, .int .u8 34, .int .u8 20, .int .u8 31, .int .u8 10, .int .u8 25, .int .u8 14, .int .u8 19, .int .u8 9, .int .u8 13, .int .u8 8, .int .u8 7, .int .u8 6] t frozen | o => o).modify 3 fun | .cells _ t frozen => .cells #[.int .u64 1, .int .u64 10, .int .u64 100, .int .u64 1000, .int .u64 10000, .int .u64 100000, .int .u64 1000000, .int .u64 10000000, .int .u64 100000000, .int .u64 1000000000, .int .u64 10000000000, .int .u64 100000000000, .int .u64 1000000000000, .int .u64 10000000000000, .int .u64 100000000000000, .int .u64 1000000000000000, .int .u64 10000000000000000, .int .u64 100000000000000000, .int .u64 1000000000000000000, .int .u64 10000000000000000000] t frozen | o => o) }
theorem laid_met (os : Os) : laidMet Tryd.prog Rows.cascadeOrderRow.laid ((laidWorld os).forCall (fun _ _ => 0) ⟨#[], #[.slice none 0 0, .int .i64 0], []⟩).memory :=
  laidMet_of_run' 8 (by kernel_rfl) (by kernel_rfl)
theorem reads (os : Os) {H : Type} (enc : TypeId × Value → H) : ∃ places, DataW.whole enc Tryd.prog ((laidWorld os).forCall (fun _ _ => 0) ⟨#[], #[.slice none 0 0, .int .i64 0], []⟩).memory Tryd.f3.params.toList Rows.cascadeOrderSpec.vars false (#[.slice none 0 0, .int .i64 0] : Array Value).toList 8 = some ([.nil, .lit (.int .i64 0)], [], places) :=
  ⟨[], by kernel_rfl⟩

set_option maxRecDepth 100000 in
theorem lifted (os : Os) (started : os.Started) (H : Type) (enc : TypeId × Value → H) (F : Stop.Interp) :
    ReturnsInHanded {} Tryd.checked os 3 .any ((OpenSpec.ofChange Rows.cascadeOrderSpec).preRow enc Tryd.prog Tryd.f3 Rows.cascadeOrderRow.domain false Rows.cascadeOrderRow.laid) (((OpenSpec.ofChange Rows.cascadeOrderSpec).at F).post enc Tryd.prog Tryd.f3 false true false false) := by
  obtain ⟨places, hx⟩ := reads os enc
  refine returnsInHanded_of_row (C := Tryd.checked) (s := (OpenSpec.ofChange Rows.cascadeOrderSpec)) own started (by kernel_rfl) Tryd.func3
    (witness_row_at (enc := enc) (C := Tryd.checked) false (laidWorld os) #[.slice none 0 0, .int .i64 0] rfl (by kernel_rfl) (by kernel_rfl) (by kernel_rfl)
      (OpenSpec.preRow_of_cond 8 hx (by kernel_rfl) (fun k hk => by cases hk) (by kernel_rfl) (laid_met os))) ?_
  intro W base args ds gs before hval hW _ _ _ hL _ _
  exact contract H enc W base args ds gs before hval hW

theorem said : Rows.CascadeOrderSaid :=
  OpenClaim.holds_of_cond 3 Tryd.f3 rfl rfl rfl rfl rfl rfl rfl ⟨rfl, rfl, rfl, rfl, rfl⟩ rfl rfl rfl rfl rfl (by kernel_rfl) Tryd.func3 (by kernel_rfl)
    (of_decide_eq_true (by kernel_rfl)) (by unfold Func.isWrapper; first | (rw [if_pos (by decide +kernel)]; kernel_rfl) | (rw [if_neg (by decide +kernel)]; exact ⟨rfl, rfl⟩))
    (fun os started H enc _ F => by rw [OpenClaim.pre_eq_preRow]; exact lifted os started H enc F)

theorem plain (f : FuncId) (fn : Func) (hf : Tryd.pinned.checked.prog.funcNamed "semigroup/semigrouplaw26.CascadeOrder" = some f) (hfn : Tryd.pinned.checked.prog.funcs[f]? = some fn) :
    false = Tryd.pinned.checked.prog.looks [] ∧ ∀ (j : Nat) t, fn.params[j]? = some t → Tryd.pinned.checked.prog.wantsStandIn t = false := by
  obtain rfl : f = 3 := Option.some.inj ((show Tryd.prog.funcNamed "semigroup/semigrouplaw26.CascadeOrder" = some 3 by kernel_rfl).symm.trans hf) |>.symm
  obtain rfl : fn = Tryd.f3 := (Option.some.inj (Tryd.func3.symm.trans hfn)).symm
  refine ⟨by kernel_rfl, fun j t ht => ?_⟩
  rw [Tryd.params3] at ht
  have ht2 : t = 22 ∨ t = 3 := by simpa using Array.mem_of_getElem? ht
  rcases ht2 with h | h
  · exact (congrArg (fun t => Tryd.pinned.checked.prog.wantsStandIn t) h).trans (show Tryd.pinned.checked.prog.wantsStandIn 22 = false by kernel_rfl)
  · exact (congrArg (fun t => Tryd.pinned.checked.prog.wantsStandIn t) h).trans (show Tryd.pinned.checked.prog.wantsStandIn 3 = false by kernel_rfl)

/-- The given statement. -/
theorem proved : Rows.CascadeOrderCardSaid :=
  Claim7.holds_tied_plain_at .later [] _ _ _ _ said (fun _ h => by cases h) (by kernel_rfl) (fun _ h => by cases h) cascadeOrder_row_tie rfl ⟨rfl, rfl⟩ (by kernel_rfl) rfl plain (by kernel_rfl)
#print axioms proved
end Go.Proofs.YthalofddjlhcjaaDoor.cascadeOrder
end
