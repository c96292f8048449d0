/- Proved here: a part of the proof of the law at hand, in one text: no condition. -/
import Derived.Test.YtbnnipkanechoaaMImagesBelow3
import Derived.KernelRfl
import Derived.WalkKit
import Derived.WalkSpells
import Derived.WalkLawsBesides
import Derived.Lib.Hide
import Derived.Deep.OwnRows
import Derived.Deep.RegionLaw
import Derived.Shelf.Small.Bits
import Derived.Shelf.Strconv.Itoa0
import Derived.Ground.Names2Prog
import Derived.Shelf.Slices.SearchI
import Derived.Ground.SlgcProg
import Derived.Shelf.SlicesG.Cmp
import Derived.Ground.SlsfProg
import Derived.Shelf.SlSortCmp.Insertion
import Derived.Shelf.SlSortCmp.SiftDown1
import Derived.Shelf.SlSortCmp.HeapSort1
import Derived.Shelf.SlSortCmp.Insertion1
import Derived.Shelf.SlSortCmp.Median1
import Derived.Shelf.SlSortCmp.Pivot1
import Derived.Shelf.SlSortCmp.ReverseRange1
import Derived.Shelf.SlSortCmp.PartialInsertion1
import Derived.Shelf.SlSortCmp.PartitionEqual1
import Derived.Shelf.SlSortCmp.Partition1
import Derived.Shelf.SlSortCmp.Pdq1
import Derived.Shelf.SlSortCmp.Whole1
import Derived.Test.YtbnnipkanechoaaProg
set_option linter.unusedVariables false
set_option linter.unusedSimpArgs false
section
/- Functions by value: program. -/
namespace Go.Proofs.Ytbnnipkanechoaa
open Go
noncomputable section
set_option maxRecDepth 100000
set_option maxHeartbeats 1000000
set_option linter.unusedVariables false
set_option linter.unusedSimpArgs false



-- semigroup/semigroupref01.MayLetters
def ref01_MayLetters (a0 : Int) : Option (Bool) :=
  if 1 ≤ a0 then
    some (decide (a0 ≤ 6))
  else
    some false
theorem ref01_MayLetters_ok {a0 : Int} {r : Bool} (h0 : ref01_MayLetters a0 = some r) : L 59 [.sc (.int .i64 a0)] = some (.sc (.bool r), [.dead]) := by
  simp only [ref01_MayLetters] at h0
  refine L_run cfn59 fn59 (runF_of bd59 ⟨of_decide_eq_true rfl, of_decide_eq_true rfl⟩ ?_)
  simp only [entryF, entryT, entryO, entryE, isIo]
  refine zq rfl (zr rfl rfl rfl (by simp; rfl) ?_)
  refine thenC_n (zq rfl ?_)
  by_cases c2 : 1 ≤ a0
  · rw [if_pos c2] at h0
    refine zr rfl rfl rfl (by simp [c2]; rfl) ?_
    refine thenC_n (q_ret rfl ?_)
    cases h0
    simp
  · rw [if_neg c2] at h0
    refine zr rfl rfl rfl (by simp [c2]; rfl) ?_
    refine thenC_n (q_ret rfl ?_)
    cases h0
    simp

-- semigroup/semigroupref07.Validate
def ref07_Validate_b14 (a0 : DFA) (w24 : Int) (v30 : List Int) : Int → Option (Int ⊕ (Int ⊕ Int))
  | w32 =>
  if w32 < (v30.length : Int) then
    (atI v30 w32).bind fun v34 =>
    if v34 < 0 then
      exitG <|
      exitG <|
      some 4
    else
      if (a0.final.length : Int) ≤ v34 then
        exitG <|
        exitG <|
        some 4
      else
        nextG (IntKind.i64.wrap (w32 + 1))
  else
    exitG <|
    nextG (IntKind.i64.wrap (w24 + 1))
def ref07_Validate_h14 (a0 : DFA) (w24 : Int) (v30 : List Int) : Int → Fr
  | w32 => ⟨64, [(1, .one (.a 1 [] (0))), (3, .one (.t none (.sc (.int .i64 (a0.final.length : Int))))), (38, .one (.t none (.sl a0.next.length (a0.next.map fun x0 => .sl x0.length (x0.map fun x1 => .sc (.int .i64 x1)))))), (39, .one (.t none (.sc (.int .i64 (a0.next.length : Int))))), (40, .one (.t none (.sc (.int .i64 w24)))), (49, .one (.t none (.sl v30.length (v30.map fun x0 => .sc (.int .i64 x0))))), (50, .one (.t none (.sc (.int .i64 (v30.length : Int))))), (51, .one (.t none (.sc (.int .i64 w32))))], [(1, .vr [.sc (.int .i64 a0.letters), .sc (.int .i64 a0.start), .sl a0.final.length (a0.final.map fun x0 => .sc (.bool x0)), .sl a0.next.length (a0.next.map fun x0 => .sl x0.length (x0.map fun x1 => .sc (.int .i64 x1)))])]⟩
def ref07_Validate_b9 (a0 : DFA) : Int → Option (Int ⊕ Int)
  | w24 =>
  if w24 < (a0.next.length : Int) then
    (atI a0.next w24).bind fun v30 =>
    if (v30.length : Int) = a0.letters then
      loopG (ref07_Validate_b14 a0 w24 v30) LFm 0
    else
      exitG <|
      some 4
  else
    exitG <|
    some 0
def ref07_Validate_h9 (a0 : DFA) : Int → Fr
  | w24 => ⟨64, [(1, .one (.a 1 [] (0))), (3, .one (.t none (.sc (.int .i64 (a0.final.length : Int))))), (38, .one (.t none (.sl a0.next.length (a0.next.map fun x0 => .sl x0.length (x0.map fun x1 => .sc (.int .i64 x1)))))), (39, .one (.t none (.sc (.int .i64 (a0.next.length : Int))))), (40, .one (.t none (.sc (.int .i64 w24))))], [(1, .vr [.sc (.int .i64 a0.letters), .sc (.int .i64 a0.start), .sl a0.final.length (a0.final.map fun x0 => .sc (.bool x0)), .sl a0.next.length (a0.next.map fun x0 => .sl x0.length (x0.map fun x1 => .sc (.int .i64 x1)))])]⟩
def ref07_Validate (a0 : DFA) : Option (Int) :=
  (ref01_MayLetters a0.letters).bind fun v18 =>
  if v18 = true then
    if 512 < (a0.final.length : Int) then
      some 3
    else
      if (a0.final.length : Int) = 0 then
        some 4
      else
        if (a0.next.length : Int) = (a0.final.length : Int) then
          if a0.start < 0 then
            some 4
          else
            if (a0.final.length : Int) ≤ a0.start then
              some 4
            else
              loopG (ref07_Validate_b9 a0) LFm 0
        else
          some 4
  else
    some 1
theorem ref07_Validate_ok {a0 : DFA} {r : Int} (h0 : ref07_Validate a0 = some r) : L 60 [.agg [.sc (.int .i64 a0.letters), .sc (.int .i64 a0.start), .sl a0.final.length (a0.final.map fun x0 => .sc (.bool x0)), .sl a0.next.length (a0.next.map fun x0 => .sl x0.length (x0.map fun x1 => .sc (.int .i64 x1)))]] = some (.sc (.int .i64 r), [.dead]) := by
  simp only [ref07_Validate] at h0
  refine L_run cfn60 fn60 (runF_of bd60 ⟨of_decide_eq_true rfl, of_decide_eq_true rfl⟩ ?_)
  simp only [entryF, entryT, entryO, entryE, isIo]
  refine zq rfl (zr rfl rfl rfl (by simp; rfl) ?_)
  refine thenC_n (zq rfl (zr rfl rfl rfl (by simp; rfl) ?_))
  refine thenC_n (zq rfl (zq rfl ?_))
  obtain ⟨v18, f53, h1⟩ := bnd_some h0
  have f53k := ref01_MayLetters_ok f53
  try simp at f53k
  refine zr rfl rfl rfl (by simp [f53k]; rfl) ?_
  refine thenC_n ?_
  by_cases c54 : v18 = true
  · rw [if_pos c54] at h1
    refine q_ifF rfl (by simp [c54]) (q_skip rfl (thenC_n (zq rfl (zq rfl (zr rfl rfl rfl (by simp; rfl) ?_)))))
    refine thenC_n ?_
    by_cases c55 : 512 < (a0.final.length : Int)
    · rw [if_pos c55] at h1
      refine q_ifT rfl (by simp [c55]) (zq rfl (zr rfl rfl rfl (by simp; rfl) ?_))
      refine thenC_n (q_ret rfl (thenC_r ?_))
      cases h1
      simp [c54]
    · rw [if_neg c55] at h1
      refine q_ifF rfl (by simp [c55]) (q_skip rfl (thenC_n (zq rfl (zq rfl ?_))))
      by_cases c56 : (a0.final.length : Int) = 0
      · rw [if_pos c56] at h1
        have c56e := eq_true c56
        have c56s : a0.final = [] := by simpa [List.length_pos_iff] using c56
        refine zr rfl rfl rfl (by simp [c56e, c56s]; rfl) ?_
        refine thenC_n (q_ifT rfl (by simp) (zq rfl (zr rfl rfl rfl (by simp; rfl) ?_)))
        refine thenC_n (q_ret rfl (thenC_r ?_))
        cases h1
        simp [c54]
      · rw [if_neg c56] at h1
        have c56e := eq_false c56
        have c56s : a0.final ≠ [] := by simpa [List.length_pos_iff] using c56
        by_cases c57 : (a0.next.length : Int) = (a0.final.length : Int)
        · rw [if_pos c57] at h1
          have c57e := eq_true c57
          by_cases c58 : a0.start < 0
          · rw [if_pos c58] at h1
            refine zr rfl rfl rfl (by simp [c56e, c56s, c57e, c58]; rfl) ?_
            refine thenC_n (q_ifT rfl (by simp) (zq rfl (zr rfl rfl rfl (by simp; rfl) ?_)))
            refine thenC_n (q_ret rfl (thenC_r ?_))
            cases h1
            simp [c54]
          · rw [if_neg c58] at h1
            refine zr rfl rfl rfl (by simp [c56e, c56s, c57e, c58]; rfl) ?_
            refine thenC_n ?_
            by_cases c59 : (a0.final.length : Int) ≤ a0.start
            · rw [if_pos c59] at h1
              refine q_ifT rfl (by simp [c59]) (zq rfl (zr rfl rfl rfl (by simp; rfl) ?_))
              refine thenC_n (q_ret rfl (thenC_r ?_))
              cases h1
              simp [c54]
            · rw [if_neg c59] at h1
              refine q_ifF rfl (by simp [c59]) (q_skip rfl (thenC_n (zq rfl (zq rfl (zr rfl rfl rfl (by simp; rfl) ?_)))))
              refine thenC_n (zb rfl (q_loopG h1 (ref07_Validate_h9 a0) rfl rfl (by simp [ref07_Validate_h9]) fun s o1 h2 hr1 => ?_))
              obtain ⟨w24, hs1⟩ : ∃ y, y = s := ⟨_, rfl⟩
              subst hs1
              simp only [ref07_Validate_b9] at h2
              simp only [ref07_Validate_h9]
              refine zq rfl (zr rfl rfl rfl (by simp; rfl) ?_)
              refine thenC_n (zq rfl ?_)
              by_cases c90 : w24 < (a0.next.length : Int)
              · rw [if_pos c90] at h2
                refine q_ifT rfl (by simp [c90]) (q_skip rfl (thenC_n (zq rfl (zb rfl (zq rfl ?_)))))
                obtain ⟨v30, f91, h3⟩ := bnd_some h2
                obtain ⟨f91a, f91b, f91c, f91d, f91e⟩ := atI_some f91
                refine zr rfl rfl rfl (by simp [f91a, f91b, f91c, f91d, f91e]; rfl) ?_
                refine thenC_n (zq rfl (zq rfl (zr rfl rfl rfl (by simp; rfl) ?_)))
                refine thenC_n ?_
                by_cases c92 : (v30.length : Int) = a0.letters
                · rw [if_pos c92] at h3
                  have c92e := eq_true c92
                  refine q_ifF rfl (by simp [c92e]) (q_skip rfl (thenC_n (zq rfl (zr rfl rfl rfl (by simp; rfl) ?_))))
                  refine thenC_n (zb rfl (q_loopG h3 (ref07_Validate_h14 a0 w24 v30) rfl rfl (by simp [ref07_Validate_h14]) fun s o2 h4 hr2 => ?_))
                  obtain ⟨w32, hs2⟩ : ∃ y, y = s := ⟨_, rfl⟩
                  subst hs2
                  simp only [ref07_Validate_b14] at h4
                  simp only [ref07_Validate_h14]
                  refine zq rfl (zr rfl rfl rfl (by simp; rfl) ?_)
                  refine thenC_n (zq rfl ?_)
                  by_cases c101 : w32 < (v30.length : Int)
                  · rw [if_pos c101] at h4
                    refine q_ifT rfl (by simp [c101]) (q_skip rfl (thenC_n (zq rfl (zb rfl (zq rfl ?_)))))
                    obtain ⟨v34, f102, h5⟩ := bnd_some h4
                    obtain ⟨f102a, f102b, f102c, f102d, f102e⟩ := atI_some f102
                    refine zr rfl rfl rfl (by simp [f102a, f102b, f102c, f102d, f102e]; rfl) ?_
                    refine thenC_n (zq rfl ?_)
                    by_cases c103 : v34 < 0
                    · rw [if_pos c103] at h5
                      refine zr rfl rfl rfl (by simp [c103]; rfl) ?_
                      refine thenC_n (q_ifT rfl (by simp) (zq rfl (zr rfl rfl rfl (by simp; rfl) ?_)))
                      refine thenC_n (q_ret rfl (blockC_r (thenC_r ?_)))
                      obtain ⟨rr2, h6, ho2⟩ := exit_some h5
                      have hs2 := hr2 _ ho2
                      subst hs2
                      refine roundC_r ho2 (blockC_r (blockC_r (thenC_r ?_)))
                      obtain ⟨rr1, h7, ho1⟩ := exit_some h6
                      have hs1 := hr1 _ ho1
                      subst hs1
                      refine roundC_r ho1 (blockC_r (thenC_r ?_))
                      cases h7
                      simp
                    · rw [if_neg c103] at h5
                      refine zr rfl rfl rfl (by simp [c103]; rfl) ?_
                      refine thenC_n ?_
                      by_cases c104 : (a0.final.length : Int) ≤ v34
                      · rw [if_pos c104] at h5
                        refine q_ifT rfl (by simp [c104]) (zq rfl (zr rfl rfl rfl (by simp; rfl) ?_))
                        refine thenC_n (q_ret rfl (blockC_r (thenC_r ?_)))
                        obtain ⟨rr2, h6, ho2⟩ := exit_some h5
                        have hs2 := hr2 _ ho2
                        subst hs2
                        refine roundC_r ho2 (blockC_r (blockC_r (thenC_r ?_)))
                        obtain ⟨rr1, h7, ho1⟩ := exit_some h6
                        have hs1 := hr1 _ ho1
                        subst hs1
                        refine roundC_r ho1 (blockC_r (thenC_r ?_))
                        cases h7
                        simp
                      · rw [if_neg c104] at h5
                        refine q_ifF rfl (by simp [c104]) (q_skip rfl (blockC_n (thenC_n (zr rfl rfl rfl (by simp; rfl) ?_))))
                        have ho := next_some h5
                        refine roundC_n ho ?_
                        simp [ref07_Validate_h14]
                  · rw [if_neg c101] at h4
                    refine q_ifF rfl (by simp [c101]) (q_exit rfl (thenC_x ?_))
                    obtain ⟨rr2, h5, ho2⟩ := exit_some h4
                    have hs2 := hr2 _ ho2
                    subst hs2
                    refine roundC_x ho2 (blockC_hit2 rfl (blockC_n (thenC_n (zr rfl rfl rfl (by simp; rfl) ?_))))
                    have ho := next_some h5
                    refine roundC_n ho ?_
                    simp [ref07_Validate_h9]
                · rw [if_neg c92] at h3
                  have c92e := eq_false c92
                  refine q_ifT rfl (by simp [c92e]) (zq rfl (zr rfl rfl rfl (by simp; rfl) ?_))
                  refine thenC_n (q_ret rfl (thenC_r (blockC_r (thenC_r ?_))))
                  obtain ⟨rr1, h4, ho1⟩ := exit_some h3
                  have hs1 := hr1 _ ho1
                  subst hs1
                  refine roundC_r ho1 (blockC_r (thenC_r ?_))
                  cases h4
                  simp
              · rw [if_neg c90] at h2
                refine q_ifF rfl (by simp [c90]) (q_exit rfl (thenC_x ?_))
                obtain ⟨rr1, h3, ho1⟩ := exit_some h2
                have hs1 := hr1 _ ho1
                subst hs1
                refine roundC_x ho1 (blockC_hit2 rfl (thenC_n (zq rfl (zr rfl rfl rfl (by simp; rfl) ?_))))
                refine thenC_n (q_ret rfl ?_)
                cases h3
                simp
        · rw [if_neg c57] at h1
          have c57e := eq_false c57
          refine zr rfl rfl rfl (by simp [c56e, c56s, c57e]; rfl) ?_
          refine thenC_n (q_ifT rfl (by simp) (zq rfl (zr rfl rfl rfl (by simp; rfl) ?_)))
          refine thenC_n (q_ret rfl (thenC_r ?_))
          cases h1
          simp [c54]
  · rw [if_neg c54] at h1
    refine q_ifT rfl (by simp [c54]) (zq rfl (zr rfl rfl rfl (by simp; rfl) ?_))
    refine thenC_n (q_ret rfl (thenC_r ?_))
    cases h1
    simp [c54]

-- semigroup/dfa.Validate
def dfa_Validate_b14 (a0 : DFA) (w22 : Int) (v28 : List Int) : Int → Option (Int ⊕ (Int ⊕ Int))
  | w30 =>
  if w30 < (v28.length : Int) then
    (atI v28 w30).bind fun v32 =>
    if v32 < 0 then
      exitG <|
      exitG <|
      some 4
    else
      if (a0.final.length : Int) ≤ v32 then
        exitG <|
        exitG <|
        some 4
      else
        nextG (IntKind.i64.wrap (w30 + 1))
  else
    exitG <|
    nextG (IntKind.i64.wrap (w22 + 1))
def dfa_Validate_h14 (a0 : DFA) (w22 : Int) (v28 : List Int) : Int → Fr
  | w30 => ⟨64, [(1, .one (.a 1 [] (0))), (3, .one (.t none (.sc (.int .i64 (a0.final.length : Int))))), (38, .one (.t none (.sl a0.next.length (a0.next.map fun x0 => .sl x0.length (x0.map fun x1 => .sc (.int .i64 x1)))))), (39, .one (.t none (.sc (.int .i64 (a0.next.length : Int))))), (40, .one (.t none (.sc (.int .i64 w22)))), (49, .one (.t none (.sl v28.length (v28.map fun x0 => .sc (.int .i64 x0))))), (50, .one (.t none (.sc (.int .i64 (v28.length : Int))))), (51, .one (.t none (.sc (.int .i64 w30))))], [(1, .vr [.sc (.int .i64 a0.letters), .sc (.int .i64 a0.start), .sl a0.final.length (a0.final.map fun x0 => .sc (.bool x0)), .sl a0.next.length (a0.next.map fun x0 => .sl x0.length (x0.map fun x1 => .sc (.int .i64 x1)))])]⟩
def dfa_Validate_b9 (a0 : DFA) : Int → Option (Int ⊕ Int)
  | w22 =>
  if w22 < (a0.next.length : Int) then
    (atI a0.next w22).bind fun v28 =>
    if (v28.length : Int) = a0.letters then
      loopG (dfa_Validate_b14 a0 w22 v28) LFm 0
    else
      exitG <|
      some 4
  else
    exitG <|
    some 0
def dfa_Validate_h9 (a0 : DFA) : Int → Fr
  | w22 => ⟨64, [(1, .one (.a 1 [] (0))), (3, .one (.t none (.sc (.int .i64 (a0.final.length : Int))))), (38, .one (.t none (.sl a0.next.length (a0.next.map fun x0 => .sl x0.length (x0.map fun x1 => .sc (.int .i64 x1)))))), (39, .one (.t none (.sc (.int .i64 (a0.next.length : Int))))), (40, .one (.t none (.sc (.int .i64 w22))))], [(1, .vr [.sc (.int .i64 a0.letters), .sc (.int .i64 a0.start), .sl a0.final.length (a0.final.map fun x0 => .sc (.bool x0)), .sl a0.next.length (a0.next.map fun x0 => .sl x0.length (x0.map fun x1 => .sc (.int .i64 x1)))])]⟩
def dfa_Validate (a0 : DFA) : Option (Int) :=
  if a0.letters < 1 then
    some 1
  else
    if 6 < a0.letters then
      some 1
    else
      if 512 < (a0.final.length : Int) then
        some 3
      else
        if (a0.next.length : Int) = (a0.final.length : Int) then
          if a0.start < 0 then
            some 4
          else
            if (a0.final.length : Int) ≤ a0.start then
              some 4
            else
              loopG (dfa_Validate_b9 a0) LFm 0
        else
          some 4
theorem dfa_Validate_ok {a0 : DFA} {r : Int} (h0 : dfa_Validate a0 = some r) : L 62 [.agg [.sc (.int .i64 a0.letters), .sc (.int .i64 a0.start), .sl a0.final.length (a0.final.map fun x0 => .sc (.bool x0)), .sl a0.next.length (a0.next.map fun x0 => .sl x0.length (x0.map fun x1 => .sc (.int .i64 x1)))]] = some (.sc (.int .i64 r), [.dead]) := by
  simp only [dfa_Validate] at h0
  refine L_run cfn62 fn62 (runF_of bd62 ⟨of_decide_eq_true rfl, of_decide_eq_true rfl⟩ ?_)
  simp only [entryF, entryT, entryO, entryE, isIo]
  refine zq rfl (zr rfl rfl rfl (by simp; rfl) ?_)
  refine thenC_n (zq rfl (zq rfl ?_))
  by_cases c52 : a0.letters < 1
  · rw [if_pos c52] at h0
    refine zr rfl rfl rfl (by simp [c52]; rfl) ?_
    refine thenC_n (q_ifT rfl (by simp) (zq rfl (zr rfl rfl rfl (by simp; rfl) ?_)))
    refine thenC_n (q_ret rfl (thenC_r ?_))
    cases h0
    simp
  · rw [if_neg c52] at h0
    refine zr rfl rfl rfl (by simp [c52]; rfl) ?_
    refine thenC_n ?_
    by_cases c53 : 6 < a0.letters
    · rw [if_pos c53] at h0
      refine q_ifT rfl (by simp [c53]) (zq rfl (zr rfl rfl rfl (by simp; rfl) ?_))
      refine thenC_n (q_ret rfl (thenC_r ?_))
      cases h0
      simp
    · rw [if_neg c53] at h0
      refine q_ifF rfl (by simp [c53]) (q_skip rfl (thenC_n (zq rfl (zr rfl rfl rfl (by simp; rfl) ?_))))
      refine thenC_n (zq rfl (zq rfl (zr rfl rfl rfl (by simp; rfl) ?_)))
      refine thenC_n ?_
      by_cases c54 : 512 < (a0.final.length : Int)
      · rw [if_pos c54] at h0
        refine q_ifT rfl (by simp [c54]) (zq rfl (zr rfl rfl rfl (by simp; rfl) ?_))
        refine thenC_n (q_ret rfl (thenC_r ?_))
        cases h0
        simp
      · rw [if_neg c54] at h0
        refine q_ifF rfl (by simp [c54]) (q_skip rfl (thenC_n (zq rfl (zq rfl ?_))))
        by_cases c55 : (a0.next.length : Int) = (a0.final.length : Int)
        · rw [if_pos c55] at h0
          have c55e := eq_true c55
          by_cases c56 : a0.start < 0
          · rw [if_pos c56] at h0
            refine zr rfl rfl rfl (by simp [c55e, c56]; rfl) ?_
            refine thenC_n (q_ifT rfl (by simp) (zq rfl (zr rfl rfl rfl (by simp; rfl) ?_)))
            refine thenC_n (q_ret rfl (thenC_r ?_))
            cases h0
            simp
          · rw [if_neg c56] at h0
            refine zr rfl rfl rfl (by simp [c55e, c56]; rfl) ?_
            refine thenC_n ?_
            by_cases c57 : (a0.final.length : Int) ≤ a0.start
            · rw [if_pos c57] at h0
              refine q_ifT rfl (by simp [c57]) (zq rfl (zr rfl rfl rfl (by simp; rfl) ?_))
              refine thenC_n (q_ret rfl (thenC_r ?_))
              cases h0
              simp
            · rw [if_neg c57] at h0
              refine q_ifF rfl (by simp [c57]) (q_skip rfl (thenC_n (zq rfl (zq rfl (zr rfl rfl rfl (by simp; rfl) ?_)))))
              refine thenC_n (zb rfl (q_loopG h0 (dfa_Validate_h9 a0) rfl rfl (by simp [dfa_Validate_h9]) fun s o1 h1 hr1 => ?_))
              obtain ⟨w22, hs1⟩ : ∃ y, y = s := ⟨_, rfl⟩
              subst hs1
              simp only [dfa_Validate_b9] at h1
              simp only [dfa_Validate_h9]
              refine zq rfl (zr rfl rfl rfl (by simp; rfl) ?_)
              refine thenC_n (zq rfl ?_)
              by_cases c88 : w22 < (a0.next.length : Int)
              · rw [if_pos c88] at h1
                refine q_ifT rfl (by simp [c88]) (q_skip rfl (thenC_n (zq rfl (zb rfl (zq rfl ?_)))))
                obtain ⟨v28, f89, h2⟩ := bnd_some h1
                obtain ⟨f89a, f89b, f89c, f89d, f89e⟩ := atI_some f89
                refine zr rfl rfl rfl (by simp [f89a, f89b, f89c, f89d, f89e]; rfl) ?_
                refine thenC_n (zq rfl (zq rfl (zr rfl rfl rfl (by simp; rfl) ?_)))
                refine thenC_n ?_
                by_cases c90 : (v28.length : Int) = a0.letters
                · rw [if_pos c90] at h2
                  have c90e := eq_true c90
                  refine q_ifF rfl (by simp [c90e]) (q_skip rfl (thenC_n (zq rfl (zr rfl rfl rfl (by simp; rfl) ?_))))
                  refine thenC_n (zb rfl (q_loopG h2 (dfa_Validate_h14 a0 w22 v28) rfl rfl (by simp [dfa_Validate_h14]) fun s o2 h3 hr2 => ?_))
                  obtain ⟨w30, hs2⟩ : ∃ y, y = s := ⟨_, rfl⟩
                  subst hs2
                  simp only [dfa_Validate_b14] at h3
                  simp only [dfa_Validate_h14]
                  refine zq rfl (zr rfl rfl rfl (by simp; rfl) ?_)
                  refine thenC_n (zq rfl ?_)
                  by_cases c99 : w30 < (v28.length : Int)
                  · rw [if_pos c99] at h3
                    refine q_ifT rfl (by simp [c99]) (q_skip rfl (thenC_n (zq rfl (zb rfl (zq rfl ?_)))))
                    obtain ⟨v32, f100, h4⟩ := bnd_some h3
                    obtain ⟨f100a, f100b, f100c, f100d, f100e⟩ := atI_some f100
                    refine zr rfl rfl rfl (by simp [f100a, f100b, f100c, f100d, f100e]; rfl) ?_
                    refine thenC_n (zq rfl ?_)
                    by_cases c101 : v32 < 0
                    · rw [if_pos c101] at h4
                      refine zr rfl rfl rfl (by simp [c101]; rfl) ?_
                      refine thenC_n (q_ifT rfl (by simp) (zq rfl (zr rfl rfl rfl (by simp; rfl) ?_)))
                      refine thenC_n (q_ret rfl (blockC_r (thenC_r ?_)))
                      obtain ⟨rr2, h5, ho2⟩ := exit_some h4
                      have hs2 := hr2 _ ho2
                      subst hs2
                      refine roundC_r ho2 (blockC_r (blockC_r (thenC_r ?_)))
                      obtain ⟨rr1, h6, ho1⟩ := exit_some h5
                      have hs1 := hr1 _ ho1
                      subst hs1
                      refine roundC_r ho1 (blockC_r (thenC_r ?_))
                      cases h6
                      simp
                    · rw [if_neg c101] at h4
                      refine zr rfl rfl rfl (by simp [c101]; rfl) ?_
                      refine thenC_n ?_
                      by_cases c102 : (a0.final.length : Int) ≤ v32
                      · rw [if_pos c102] at h4
                        refine q_ifT rfl (by simp [c102]) (zq rfl (zr rfl rfl rfl (by simp; rfl) ?_))
                        refine thenC_n (q_ret rfl (blockC_r (thenC_r ?_)))
                        obtain ⟨rr2, h5, ho2⟩ := exit_some h4
                        have hs2 := hr2 _ ho2
                        subst hs2
                        refine roundC_r ho2 (blockC_r (blockC_r (thenC_r ?_)))
                        obtain ⟨rr1, h6, ho1⟩ := exit_some h5
                        have hs1 := hr1 _ ho1
                        subst hs1
                        refine roundC_r ho1 (blockC_r (thenC_r ?_))
                        cases h6
                        simp
                      · rw [if_neg c102] at h4
                        refine q_ifF rfl (by simp [c102]) (q_skip rfl (blockC_n (thenC_n (zr rfl rfl rfl (by simp; rfl) ?_))))
                        have ho := next_some h4
                        refine roundC_n ho ?_
                        simp [dfa_Validate_h14]
                  · rw [if_neg c99] at h3
                    refine q_ifF rfl (by simp [c99]) (q_exit rfl (thenC_x ?_))
                    obtain ⟨rr2, h4, ho2⟩ := exit_some h3
                    have hs2 := hr2 _ ho2
                    subst hs2
                    refine roundC_x ho2 (blockC_hit2 rfl (blockC_n (thenC_n (zr rfl rfl rfl (by simp; rfl) ?_))))
                    have ho := next_some h4
                    refine roundC_n ho ?_
                    simp [dfa_Validate_h9]
                · rw [if_neg c90] at h2
                  have c90e := eq_false c90
                  refine q_ifT rfl (by simp [c90e]) (zq rfl (zr rfl rfl rfl (by simp; rfl) ?_))
                  refine thenC_n (q_ret rfl (thenC_r (blockC_r (thenC_r ?_))))
                  obtain ⟨rr1, h3, ho1⟩ := exit_some h2
                  have hs1 := hr1 _ ho1
                  subst hs1
                  refine roundC_r ho1 (blockC_r (thenC_r ?_))
                  cases h3
                  simp
              · rw [if_neg c88] at h1
                refine q_ifF rfl (by simp [c88]) (q_exit rfl (thenC_x ?_))
                obtain ⟨rr1, h2, ho1⟩ := exit_some h1
                have hs1 := hr1 _ ho1
                subst hs1
                refine roundC_x ho1 (blockC_hit2 rfl (thenC_n (zq rfl (zr rfl rfl rfl (by simp; rfl) ?_))))
                refine thenC_n (q_ret rfl ?_)
                cases h2
                simp
        · rw [if_neg c55] at h0
          have c55e := eq_false c55
          refine zr rfl rfl rfl (by simp [c55e]; rfl) ?_
          refine thenC_n (q_ifT rfl (by simp) (zq rfl (zr rfl rfl rfl (by simp; rfl) ?_)))
          refine thenC_n (q_ret rfl (thenC_r ?_))
          cases h0
          simp

-- semigroup/images.validate
def images_validate (a0 : DFA) : Option (Int) :=
  (dfa_Validate a0).bind fun v2 =>
  if v2 = 0 then
    if 12 < (a0.final.length : Int) then
      some 3
    else
      some 0
  else
    some v2
theorem images_validate_ok {a0 : DFA} {r : Int} (h0 : images_validate a0 = some r) : L 35 [.agg [.sc (.int .i64 a0.letters), .sc (.int .i64 a0.start), .sl a0.final.length (a0.final.map fun x0 => .sc (.bool x0)), .sl a0.next.length (a0.next.map fun x0 => .sl x0.length (x0.map fun x1 => .sc (.int .i64 x1)))]] = some (.sc (.int .i64 r), [.dead]) := by
  simp only [images_validate] at h0
  refine L_run cfn35 fn35 (runF_of bd35 ⟨of_decide_eq_true rfl, of_decide_eq_true rfl⟩ ?_)
  simp only [entryF, entryT, entryO, entryE, isIo]
  refine zq rfl (zr rfl rfl rfl (by simp; rfl) ?_)
  refine thenC_n (zq rfl (zq rfl ?_))
  obtain ⟨v2, f4, h1⟩ := bnd_some h0
  have f4k := dfa_Validate_ok f4
  try simp at f4k
  refine zr rfl rfl rfl (by simp [f4k]; rfl) ?_
  refine thenC_n (zq rfl (zr rfl rfl rfl (by simp; rfl) ?_))
  refine thenC_n ?_
  by_cases c5 : v2 = 0
  · rw [if_pos c5] at h1
    have c5e := eq_true c5
    refine q_ifF rfl (by simp [c5e]) (q_skip rfl (thenC_n (zq rfl (zq rfl (zr rfl rfl rfl (by simp; rfl) ?_)))))
    refine thenC_n ?_
    by_cases c6 : 12 < (a0.final.length : Int)
    · rw [if_pos c6] at h1
      refine q_ifT rfl (by simp [c6]) (zq rfl (zr rfl rfl rfl (by simp; rfl) ?_))
      refine thenC_n (q_ret rfl (thenC_r ?_))
      cases h1
      simp
    · rw [if_neg c6] at h1
      refine q_ifF rfl (by simp [c6]) (q_skip rfl (thenC_n (zq rfl (zr rfl rfl rfl (by simp; rfl) ?_))))
      refine thenC_n (q_ret rfl ?_)
      cases h1
      simp
  · rw [if_neg c5] at h1
    have c5e := eq_false c5
    refine q_ifT rfl (by simp [c5e]) (zq rfl (zr rfl rfl rfl (by simp; rfl) ?_))
    refine thenC_n (q_ret rfl (thenC_r ?_))
    cases h1
    simp

-- semigroup/semigroupref24.May
def ref24_May (a0 : DFA) : Option (Int) :=
  (ref07_Validate a0).bind fun v2 =>
  if v2 = 0 then
    if 12 < (a0.final.length : Int) then
      some 3
    else
      some 0
  else
    some v2
theorem ref24_May_ok {a0 : DFA} {r : Int} (h0 : ref24_May a0 = some r) : L 29 [.agg [.sc (.int .i64 a0.letters), .sc (.int .i64 a0.start), .sl a0.final.length (a0.final.map fun x0 => .sc (.bool x0)), .sl a0.next.length (a0.next.map fun x0 => .sl x0.length (x0.map fun x1 => .sc (.int .i64 x1)))]] = some (.sc (.int .i64 r), [.dead]) := by
  simp only [ref24_May] at h0
  refine L_run cfn29 fn29 (runF_of bd29 ⟨of_decide_eq_true rfl, of_decide_eq_true rfl⟩ ?_)
  simp only [entryF, entryT, entryO, entryE, isIo]
  refine zq rfl (zr rfl rfl rfl (by simp; rfl) ?_)
  refine thenC_n (zq rfl (zq rfl ?_))
  obtain ⟨v2, f4, h1⟩ := bnd_some h0
  have f4k := ref07_Validate_ok f4
  try simp at f4k
  refine zr rfl rfl rfl (by simp [f4k]; rfl) ?_
  refine thenC_n (zq rfl (zr rfl rfl rfl (by simp; rfl) ?_))
  refine thenC_n ?_
  by_cases c5 : v2 = 0
  · rw [if_pos c5] at h1
    have c5e := eq_true c5
    refine q_ifF rfl (by simp [c5e]) (q_skip rfl (thenC_n (zq rfl (zq rfl (zr rfl rfl rfl (by simp; rfl) ?_)))))
    refine thenC_n ?_
    by_cases c6 : 12 < (a0.final.length : Int)
    · rw [if_pos c6] at h1
      refine q_ifT rfl (by simp [c6]) (zq rfl (zr rfl rfl rfl (by simp; rfl) ?_))
      refine thenC_n (q_ret rfl (thenC_r ?_))
      cases h1
      simp
    · rw [if_neg c6] at h1
      refine q_ifF rfl (by simp [c6]) (q_skip rfl (thenC_n (zq rfl (zr rfl rfl rfl (by simp; rfl) ?_))))
      refine thenC_n (q_ret rfl ?_)
      cases h1
      simp
  · rw [if_neg c5] at h1
    have c5e := eq_false c5
    refine q_ifT rfl (by simp [c5e]) (zq rfl (zr rfl rfl rfl (by simp; rfl) ?_))
    refine thenC_n (q_ret rfl (thenC_r ?_))
    cases h1
    simp

-- semigroup/semigroupref01.Valid
def ref01_Valid_b4 (a0 : ByteArray) (a1 : Int) : Int → Option (Int ⊕ Bool)
  | w12 =>
  if w12 < (a0.size : Int) then
    (byteI a0 w12).bind fun v15 =>
    if v15 < 97 then
      exitG <|
      some false
    else
      if a1 ≤ (IntKind.i64.wrap (IntKind.u8.wrap (v15 - 97))) then
        exitG <|
        some false
      else
        nextG (IntKind.i64.wrap (w12 + 1))
  else
    exitG <|
    some true
def ref01_Valid_h4 (a0 : ByteArray) (a1 : Int) : Int → Fr
  | w12 => ⟨33, [(0, .one (.t none (.sc (.string a0)))), (1, .one (.t none (.sc (.int .i64 a1)))), (5, .one (.t none (.sc (.int .i64 w12))))], []⟩
def ref01_Valid (a0 : ByteArray) (a1 : Int) : Option (Bool) :=
  (ref01_MayLetters a1).bind fun v9 =>
  if v9 = true then
    if 2048 < (a0.size : Int) then
      some false
    else
      loopG (ref01_Valid_b4 a0 a1) LFm 0
  else
    some false
theorem ref01_Valid_ok {a0 : ByteArray} {a1 : Int} {r : Bool} (h0 : ref01_Valid a0 a1 = some r) : L 27 [.sc (.string a0), .sc (.int .i64 a1)] = some (.sc (.bool r), [.dead, .dead]) := by
  simp only [ref01_Valid] at h0
  refine L_run cfn27 fn27 (runF_of bd27 ⟨of_decide_eq_true rfl, of_decide_eq_true rfl⟩ ?_)
  simp only [entryF, entryT, entryO, entryE, isIo]
  refine zq rfl (zr rfl rfl rfl (by simp; rfl) ?_)
  refine thenC_n (zq rfl (zq rfl ?_))
  obtain ⟨v9, f16, h1⟩ := bnd_some h0
  have f16k := ref01_MayLetters_ok f16
  try simp at f16k
  by_cases c17 : v9 = true
  · rw [if_pos c17] at h1
    refine zr rfl rfl rfl (by simp [f16k, c17]; rfl) ?_
    refine thenC_n ?_
    by_cases c18 : 2048 < (a0.size : Int)
    · rw [if_pos c18] at h1
      refine q_ifT rfl (by simp [c18]) (zq rfl (zr rfl rfl rfl (by simp; rfl) ?_))
      refine thenC_n (q_ret rfl (thenC_r ?_))
      cases h1
      simp [c17]
    · rw [if_neg c18] at h1
      refine q_ifF rfl (by simp [c18]) (q_skip rfl (thenC_n (zq rfl (zq rfl (zr rfl rfl rfl (by simp; rfl) ?_)))))
      refine thenC_n (zb rfl (q_loopG h1 (ref01_Valid_h4 a0 a1) rfl rfl (by simp [ref01_Valid_h4]) fun s o1 h2 hr1 => ?_))
      obtain ⟨w12, hs1⟩ : ∃ y, y = s := ⟨_, rfl⟩
      subst hs1
      simp only [ref01_Valid_b4] at h2
      simp only [ref01_Valid_h4]
      refine zq rfl (zq rfl (zr rfl rfl rfl (by simp; rfl) ?_))
      refine thenC_n ?_
      by_cases c27 : w12 < (a0.size : Int)
      · rw [if_pos c27] at h2
        refine q_ifT rfl (by simp [c27]) (q_skip rfl (thenC_n (zq rfl (zb rfl (zq rfl ?_)))))
        obtain ⟨v15, f28, h3⟩ := bnd_some h2
        obtain ⟨f28a, f28b, f28w, f28c, f28d, f28g⟩ := byteI_some f28
        have f28d := f28d.symm
        by_cases c29 : v15 < 97
        · rw [if_pos c29] at h3
          refine zr rfl rfl rfl (by simp [f28a, f28b, f28c, f28d, f28g, c29]; rfl) ?_
          refine thenC_n (q_ifT rfl (by simp) (zq rfl (zr rfl rfl rfl (by simp; rfl) ?_)))
          refine thenC_n (q_ret rfl (blockC_r (thenC_r ?_)))
          obtain ⟨rr1, h4, ho1⟩ := exit_some h3
          have hs1 := hr1 _ ho1
          subst hs1
          refine roundC_r ho1 (blockC_r (thenC_r ?_))
          cases h4
          simp
        · rw [if_neg c29] at h3
          refine zr rfl rfl rfl (by simp [f28a, f28b, f28c, f28d, f28g, c29]; rfl) ?_
          refine thenC_n ?_
          by_cases c30 : a1 ≤ (IntKind.i64.wrap (IntKind.u8.wrap (v15 - 97)))
          · rw [if_pos c30] at h3
            refine q_ifT rfl (by simp [c30]) (zq rfl (zr rfl rfl rfl (by simp; rfl) ?_))
            refine thenC_n (q_ret rfl (blockC_r (thenC_r ?_)))
            obtain ⟨rr1, h4, ho1⟩ := exit_some h3
            have hs1 := hr1 _ ho1
            subst hs1
            refine roundC_r ho1 (blockC_r (thenC_r ?_))
            cases h4
            simp
          · rw [if_neg c30] at h3
            refine q_ifF rfl (by simp [c30]) (q_skip rfl (blockC_n (thenC_n (zr rfl rfl rfl (by simp; rfl) ?_))))
            have ho := next_some h3
            refine roundC_n ho ?_
            simp [ref01_Valid_h4]
      · rw [if_neg c27] at h2
        refine q_ifF rfl (by simp [c27]) (q_exit rfl (thenC_x ?_))
        obtain ⟨rr1, h3, ho1⟩ := exit_some h2
        have hs1 := hr1 _ ho1
        subst hs1
        refine roundC_x ho1 (blockC_hit2 rfl (thenC_n (zq rfl (zr rfl rfl rfl (by simp; rfl) ?_))))
        refine thenC_n (q_ret rfl ?_)
        cases h3
        simp
  · rw [if_neg c17] at h1
    refine zr rfl rfl rfl (by simp [f16k, c17]; rfl) ?_
    refine thenC_n (q_ifT rfl (by simp) (zq rfl (zr rfl rfl rfl (by simp; rfl) ?_)))
    refine thenC_n (q_ret rfl (thenC_r ?_))
    cases h1
    simp [c17]

-- semigroup/word.Valid
def word_Valid_b4 (a0 : ByteArray) (a1 : Int) : Int → Option (Int ⊕ Bool)
  | w10 =>
  if w10 < (a0.size : Int) then
    (byteI a0 w10).bind fun v13 =>
    if v13 < 97 then
      exitG <|
      some false
    else
      if a1 ≤ (IntKind.i64.wrap (IntKind.u8.wrap (v13 - 97))) then
        exitG <|
        some false
      else
        nextG (IntKind.i64.wrap (w10 + 1))
  else
    exitG <|
    some true
def word_Valid_h4 (a0 : ByteArray) (a1 : Int) : Int → Fr
  | w10 => ⟨36, [(0, .one (.t none (.sc (.string a0)))), (1, .one (.t none (.sc (.int .i64 a1)))), (18, .one (.t none (.sc (.int .i64 (a0.size : Int))))), (19, .one (.t none (.sc (.int .i64 w10))))], []⟩
def word_Valid (a0 : ByteArray) (a1 : Int) : Option (Bool) :=
  if a1 < 1 then
    some false
  else
    if 6 < a1 then
      some false
    else
      if 2048 < (a0.size : Int) then
        some false
      else
        loopG (word_Valid_b4 a0 a1) LFm 0
theorem word_Valid_ok {a0 : ByteArray} {a1 : Int} {r : Bool} (h0 : word_Valid a0 a1 = some r) : L 50 [.sc (.string a0), .sc (.int .i64 a1)] = some (.sc (.bool r), [.dead, .dead]) := by
  simp only [word_Valid] at h0
  refine L_run cfn50 fn50 (runF_of bd50 ⟨of_decide_eq_true rfl, of_decide_eq_true rfl⟩ ?_)
  simp only [entryF, entryT, entryO, entryE, isIo]
  refine zq rfl (zr rfl rfl rfl (by simp; rfl) ?_)
  refine thenC_n (zq rfl (zq rfl ?_))
  by_cases c16 : a1 < 1
  · rw [if_pos c16] at h0
    refine zr rfl rfl rfl (by simp [c16]; rfl) ?_
    refine thenC_n (q_ifT rfl (by simp) (zq rfl (zr rfl rfl rfl (by simp; rfl) ?_)))
    refine thenC_n (q_ret rfl (thenC_r ?_))
    cases h0
    simp
  · rw [if_neg c16] at h0
    by_cases c17 : 6 < a1
    · rw [if_pos c17] at h0
      refine zr rfl rfl rfl (by simp [c16, c17]; rfl) ?_
      refine thenC_n (q_ifT rfl (by simp) (zq rfl (zr rfl rfl rfl (by simp; rfl) ?_)))
      refine thenC_n (q_ret rfl (thenC_r ?_))
      cases h0
      simp
    · rw [if_neg c17] at h0
      refine zr rfl rfl rfl (by simp [c16, c17]; rfl) ?_
      refine thenC_n ?_
      by_cases c18 : 2048 < (a0.size : Int)
      · rw [if_pos c18] at h0
        refine q_ifT rfl (by simp [c18]) (zq rfl (zr rfl rfl rfl (by simp; rfl) ?_))
        refine thenC_n (q_ret rfl (thenC_r ?_))
        cases h0
        simp
      · rw [if_neg c18] at h0
        refine q_ifF rfl (by simp [c18]) (q_skip rfl (thenC_n (zq rfl (zq rfl (zr rfl rfl rfl (by simp; rfl) ?_)))))
        refine thenC_n (zb rfl (q_loopG h0 (word_Valid_h4 a0 a1) rfl rfl (by simp [word_Valid_h4]) fun s o1 h1 hr1 => ?_))
        obtain ⟨w10, hs1⟩ : ∃ y, y = s := ⟨_, rfl⟩
        subst hs1
        simp only [word_Valid_b4] at h1
        simp only [word_Valid_h4]
        refine zq rfl (zr rfl rfl rfl (by simp; rfl) ?_)
        refine thenC_n (zq rfl ?_)
        by_cases c27 : w10 < (a0.size : Int)
        · rw [if_pos c27] at h1
          refine q_ifT rfl (by simp [c27]) (q_skip rfl (thenC_n (zq rfl (zb rfl (zq rfl (zr rfl rfl rfl (by simp; rfl) ?_))))))
          refine thenC_n (zq rfl ?_)
          obtain ⟨v13, f28, h2⟩ := bnd_some h1
          obtain ⟨f28a, f28b, f28w, f28c, f28d, f28g⟩ := byteI_some f28
          have f28d := f28d.symm
          by_cases c29 : v13 < 97
          · rw [if_pos c29] at h2
            refine zr rfl rfl rfl (by simp [f28a, f28b, f28c, f28d, f28g, c29]; rfl) ?_
            refine thenC_n (q_ifT rfl (by simp) (zq rfl (zr rfl rfl rfl (by simp; rfl) ?_)))
            refine thenC_n (q_ret rfl (blockC_r (thenC_r ?_)))
            obtain ⟨rr1, h3, ho1⟩ := exit_some h2
            have hs1 := hr1 _ ho1
            subst hs1
            refine roundC_r ho1 (blockC_r (thenC_r ?_))
            cases h3
            simp
          · rw [if_neg c29] at h2
            refine zr rfl rfl rfl (by simp [f28a, f28b, f28c, f28d, f28g, c29]; rfl) ?_
            refine thenC_n ?_
            by_cases c30 : a1 ≤ (IntKind.i64.wrap (IntKind.u8.wrap (v13 - 97)))
            · rw [if_pos c30] at h2
              refine q_ifT rfl (by simp [c30]) (zq rfl (zr rfl rfl rfl (by simp; rfl) ?_))
              refine thenC_n (q_ret rfl (blockC_r (thenC_r ?_)))
              obtain ⟨rr1, h3, ho1⟩ := exit_some h2
              have hs1 := hr1 _ ho1
              subst hs1
              refine roundC_r ho1 (blockC_r (thenC_r ?_))
              cases h3
              simp
            · rw [if_neg c30] at h2
              refine q_ifF rfl (by simp [c30]) (q_skip rfl (blockC_n (thenC_n (zr rfl rfl rfl (by simp; rfl) ?_))))
              have ho := next_some h2
              refine roundC_n ho ?_
              simp [word_Valid_h4]
        · rw [if_neg c27] at h1
          refine q_ifF rfl (by simp [c27]) (q_exit rfl (thenC_x ?_))
          obtain ⟨rr1, h2, ho1⟩ := exit_some h1
          have hs1 := hr1 _ ho1
          subst hs1
          refine roundC_x ho1 (blockC_hit2 rfl (thenC_n (zq rfl (zr rfl rfl rfl (by simp; rfl) ?_))))
          refine thenC_n (q_ret rfl ?_)
          cases h2
          simp

-- semigroup/semigroupref24.All
def ref24_All (a0 : DFA) : Option (Int) :=
  chk (¬ (IntKind.u64.wrap (a0.final.length : Int)) < 0) <|
  some (IntKind.i64.wrap ((shlI .i64 1 (IntKind.u64.wrap (a0.final.length : Int))) - 1))
theorem ref24_All_ok {a0 : DFA} {r : Int} (h0 : ref24_All a0 = some r) : L 71 [.agg [.sc (.int .i64 a0.letters), .sc (.int .i64 a0.start), .sl a0.final.length (a0.final.map fun x0 => .sc (.bool x0)), .sl a0.next.length (a0.next.map fun x0 => .sl x0.length (x0.map fun x1 => .sc (.int .i64 x1)))]] = some (.sc (.int .i64 r), [.dead]) := by
  simp only [ref24_All] at h0
  refine L_run cfn71 fn71 (runF_of bd71 ⟨of_decide_eq_true rfl, of_decide_eq_true rfl⟩ ?_)
  simp only [entryF, entryT, entryO, entryE, isIo]
  refine zq rfl (zr rfl rfl rfl (by simp; rfl) ?_)
  refine thenC_n (zq rfl ?_)
  obtain ⟨f2, h1⟩ := chk_some h0
  refine zr rfl rfl rfl (by simp [f2]; rfl) ?_
  refine thenC_n (q_ret rfl ?_)
  cases h1
  simp

-- semigroup/images.isSet
def images_isSet (a0 : DFA) (a1 : Int) : Option (Bool) :=
  if 0 ≤ a1 then
    chk (¬ (a0.final.length : Int) < 0) <|
    some (decide (a1 < (shlI .i64 1 (a0.final.length : Int))))
  else
    some false
theorem images_isSet_ok {a0 : DFA} {a1 : Int} {r : Bool} (h0 : images_isSet a0 a1 = some r) : L 49 [.agg [.sc (.int .i64 a0.letters), .sc (.int .i64 a0.start), .sl a0.final.length (a0.final.map fun x0 => .sc (.bool x0)), .sl a0.next.length (a0.next.map fun x0 => .sl x0.length (x0.map fun x1 => .sc (.int .i64 x1)))], .sc (.int .i64 a1)] = some (.sc (.bool r), [.dead, .dead]) := by
  simp only [images_isSet] at h0
  refine L_run cfn49 fn49 (runF_of bd49 ⟨of_decide_eq_true rfl, of_decide_eq_true rfl⟩ ?_)
  simp only [entryF, entryT, entryO, entryE, isIo]
  refine zq rfl (zr rfl rfl rfl (by simp; rfl) ?_)
  refine thenC_n (zq rfl ?_)
  by_cases c3 : 0 ≤ a1
  · rw [if_pos c3] at h0
    obtain ⟨f4, h1⟩ := chk_some h0
    refine zr rfl rfl rfl (by simp [c3, f4]; rfl) ?_
    refine thenC_n (q_ret rfl ?_)
    cases h1
    simp
  · rw [if_neg c3] at h0
    refine zr rfl rfl rfl (by simp [c3]; rfl) ?_
    refine thenC_n (q_ret rfl ?_)
    cases h0
    simp

-- semigroup/semigroupref24.IsSet
def ref24_IsSet (a0 : DFA) (a1 : Int) : Option (Bool) :=
  if 0 ≤ a1 then
    (ref24_All a0).bind fun v2 =>
    some (decide (a1 ≤ v2))
  else
    some false
theorem ref24_IsSet_ok {a0 : DFA} {a1 : Int} {r : Bool} (h0 : ref24_IsSet a0 a1 = some r) : L 55 [.agg [.sc (.int .i64 a0.letters), .sc (.int .i64 a0.start), .sl a0.final.length (a0.final.map fun x0 => .sc (.bool x0)), .sl a0.next.length (a0.next.map fun x0 => .sl x0.length (x0.map fun x1 => .sc (.int .i64 x1)))], .sc (.int .i64 a1)] = some (.sc (.bool r), [.dead, .dead]) := by
  simp only [ref24_IsSet] at h0
  refine L_run cfn55 fn55 (runF_of bd55 ⟨of_decide_eq_true rfl, of_decide_eq_true rfl⟩ ?_)
  simp only [entryF, entryT, entryO, entryE, isIo]
  refine zq rfl (zr rfl rfl rfl (by simp; rfl) ?_)
  refine thenC_n (zq rfl ?_)
  by_cases c3 : 0 ≤ a1
  · rw [if_pos c3] at h0
    obtain ⟨v2, f4, h1⟩ := bnd_some h0
    have f4k := ref24_All_ok f4
    try simp at f4k
    refine zr rfl rfl rfl (by simp [c3, f4k]; rfl) ?_
    refine thenC_n (q_ret rfl ?_)
    cases h1
    simp
  · rw [if_neg c3] at h0
    refine zr rfl rfl rfl (by simp [c3]; rfl) ?_
    refine thenC_n (q_ret rfl ?_)
    cases h0
    simp

-- semigroup/semigroupref24.Letter
def ref24_Letter_b3 (a0 : DFA) (a1 : Int) (a2 : Int) : Int × Int → Option ((Int × Int) ⊕ Int)
  | (w11, w12) =>
  if w12 < (a0.final.length : Int) then
    chk (¬ (IntKind.u64.wrap w12) < 0) <|
    if (andI .i64 (shrI .i64 a1 (IntKind.u64.wrap w12)) 1) = 1 then
      (atI a0.next w12).bind fun v15 =>
      (atI v15 a2).bind fun v16 =>
      chk (¬ (IntKind.u64.wrap v16) < 0) <|
      nextG (orI .i64 w11 (shlI .i64 1 (IntKind.u64.wrap v16)), IntKind.i64.wrap (w12 + 1))
    else
      nextG (w11, IntKind.i64.wrap (w12 + 1))
  else
    exitG <|
    some w11
def ref24_Letter_h3 (a0 : DFA) (a1 : Int) (a2 : Int) : Int × Int → Fr
  | (w11, w12) => ⟨35, [(1, .one (.t none (.sc (.int .i64 a1)))), (2, .one (.t none (.sc (.int .i64 a2)))), (3, .one (.a 3 [] (0))), (7, .one (.t none (.sc (.int .i64 w11)))), (11, .one (.t none (.sc (.int .i64 (a0.final.length : Int))))), (12, .one (.t none (.sc (.int .i64 w12))))], [(3, .vr [.sc (.int .i64 a0.letters), .sc (.int .i64 a0.start), .sl a0.final.length (a0.final.map fun x0 => .sc (.bool x0)), .sl a0.next.length (a0.next.map fun x0 => .sl x0.length (x0.map fun x1 => .sc (.int .i64 x1)))])]⟩
def ref24_Letter (a0 : DFA) (a1 : Int) (a2 : Int) : Option (Int) :=
  loopG (ref24_Letter_b3 a0 a1 a2) LFm (0, 0)
theorem ref24_Letter_ok {a0 : DFA} {a1 : Int} {a2 : Int} {r : Int} (h0 : ref24_Letter a0 a1 a2 = some r) : L 73 [.agg [.sc (.int .i64 a0.letters), .sc (.int .i64 a0.start), .sl a0.final.length (a0.final.map fun x0 => .sc (.bool x0)), .sl a0.next.length (a0.next.map fun x0 => .sl x0.length (x0.map fun x1 => .sc (.int .i64 x1)))], .sc (.int .i64 a1), .sc (.int .i64 a2)] = some (.sc (.int .i64 r), [.dead, .dead, .dead]) := by
  simp only [ref24_Letter] at h0
  refine L_run cfn73 fn73 (runF_of bd73 ⟨of_decide_eq_true rfl, of_decide_eq_true rfl⟩ ?_)
  simp only [entryF, entryT, entryO, entryE, isIo]
  refine zq rfl (zr rfl rfl rfl (by simp; rfl) ?_)
  refine thenC_n (zq rfl (zr rfl rfl rfl (by simp; rfl) ?_))
  refine thenC_n (zq rfl (zq rfl (zr rfl rfl rfl (by simp; rfl) ?_)))
  refine thenC_n (zb rfl (q_loopG h0 (ref24_Letter_h3 a0 a1 a2) rfl rfl (by simp [ref24_Letter_h3]) fun s o1 h1 hr1 => ?_))
  obtain ⟨w11, w12⟩ := s
  simp only [ref24_Letter_b3] at h1
  simp only [ref24_Letter_h3]
  refine zq rfl (zr rfl rfl rfl (by simp; rfl) ?_)
  refine thenC_n (zq rfl ?_)
  by_cases c31 : w12 < (a0.final.length : Int)
  · rw [if_pos c31] at h1
    refine q_ifT rfl (by simp [c31]) (q_skip rfl (thenC_n (zq rfl (zb rfl (zq rfl (zr rfl rfl rfl (by simp; rfl) ?_))))))
    refine thenC_n (zq rfl ?_)
    obtain ⟨f32, h2⟩ := chk_some h1
    refine zr rfl rfl rfl (by simp [f32]; rfl) ?_
    refine thenC_n ?_
    by_cases c33 : (andI .i64 (shrI .i64 a1 (IntKind.u64.wrap w12)) 1) = 1
    · rw [if_pos c33] at h2
      have c33e := eq_true c33
      refine q_ifT rfl (by simp [c33e]) ?_
      obtain ⟨v15, f34, h3⟩ := bnd_some h2
      obtain ⟨f34a, f34b, f34c, f34d, f34e⟩ := atI_some f34
      obtain ⟨v16, f35, h4⟩ := bnd_some h3
      obtain ⟨f35a, f35b, f35c, f35d, f35e⟩ := atI_some f35
      obtain ⟨f36, h5⟩ := chk_some h4
      refine zr rfl rfl rfl (by simp [f34a, f34b, f34c, f34d, f34e, f35a, f35b, f35c, f35d, f35e, f36]; rfl) ?_
      refine blockC_n (thenC_n (zr rfl rfl rfl (by simp; rfl) ?_))
      have ho := next_some h5
      refine roundC_n ho ?_
      simp [ref24_Letter_h3]
    · rw [if_neg c33] at h2
      have c33e := eq_false c33
      refine q_ifF rfl (by simp [c33e]) (q_skip rfl (blockC_n (thenC_n (zr rfl rfl rfl (by simp; rfl) ?_))))
      have ho := next_some h2
      refine roundC_n ho ?_
      simp [ref24_Letter_h3]
  · rw [if_neg c31] at h1
    refine q_ifF rfl (by simp [c31]) (q_exit rfl (thenC_x ?_))
    obtain ⟨rr1, h2, ho1⟩ := exit_some h1
    have hs1 := hr1 _ ho1
    subst hs1
    refine roundC_x ho1 (blockC_hit2 rfl (thenC_n (zq rfl (zr rfl rfl rfl (by simp; rfl) ?_))))
    refine thenC_n (q_ret rfl ?_)
    cases h2
    simp

-- semigroup/images.move
def images_move_b3 (a0 : DFA) (a1 : Int) (a2 : Int) : Int × Int → Option ((Int × Int) ⊕ Int)
  | (w11, w12) =>
  if w12 < (a0.next.length : Int) then
    (atI a0.next w12).bind fun v15 =>
    chk (¬ w12 < 0) <|
    if (andI .i64 (shrI .i64 a1 w12) 1) = 1 then
      (atI v15 a2).bind fun v16 =>
      chk (¬ v16 < 0) <|
      nextG (orI .i64 w11 (shlI .i64 1 v16), IntKind.i64.wrap (w12 + 1))
    else
      nextG (w11, IntKind.i64.wrap (w12 + 1))
  else
    exitG <|
    some w11
def images_move_h3 (a0 : DFA) (a1 : Int) (a2 : Int) : Int × Int → Fr
  | (w11, w12) => ⟨32, [(1, .one (.t none (.sc (.int .i64 a1)))), (2, .one (.t none (.sc (.int .i64 a2)))), (7, .one (.t none (.sc (.int .i64 w11)))), (11, .one (.t none (.sl a0.next.length (a0.next.map fun x0 => .sl x0.length (x0.map fun x1 => .sc (.int .i64 x1)))))), (12, .one (.t none (.sc (.int .i64 (a0.next.length : Int))))), (13, .one (.t none (.sc (.int .i64 w12))))], []⟩
def images_move (a0 : DFA) (a1 : Int) (a2 : Int) : Option (Int) :=
  loopG (images_move_b3 a0 a1 a2) LFm (0, 0)
theorem images_move_ok {a0 : DFA} {a1 : Int} {a2 : Int} {r : Int} (h0 : images_move a0 a1 a2 = some r) : L 51 [.agg [.sc (.int .i64 a0.letters), .sc (.int .i64 a0.start), .sl a0.final.length (a0.final.map fun x0 => .sc (.bool x0)), .sl a0.next.length (a0.next.map fun x0 => .sl x0.length (x0.map fun x1 => .sc (.int .i64 x1)))], .sc (.int .i64 a1), .sc (.int .i64 a2)] = some (.sc (.int .i64 r), [.dead, .dead, .dead]) := by
  simp only [images_move] at h0
  refine L_run cfn51 fn51 (runF_of bd51 ⟨of_decide_eq_true rfl, of_decide_eq_true rfl⟩ ?_)
  simp only [entryF, entryT, entryO, entryE, isIo]
  refine zq rfl (zr rfl rfl rfl (by simp; rfl) ?_)
  refine thenC_n (zq rfl (zr rfl rfl rfl (by simp; rfl) ?_))
  refine thenC_n (zq rfl (zq rfl (zr rfl rfl rfl (by simp; rfl) ?_)))
  refine thenC_n (zb rfl (q_loopG h0 (images_move_h3 a0 a1 a2) rfl rfl (by simp [images_move_h3]) fun s o1 h1 hr1 => ?_))
  obtain ⟨w11, w12⟩ := s
  simp only [images_move_b3] at h1
  simp only [images_move_h3]
  refine zq rfl (zr rfl rfl rfl (by simp; rfl) ?_)
  refine thenC_n (zq rfl ?_)
  by_cases c29 : w12 < (a0.next.length : Int)
  · rw [if_pos c29] at h1
    refine q_ifT rfl (by simp [c29]) (q_skip rfl (thenC_n (zq rfl (zb rfl (zq rfl ?_)))))
    obtain ⟨v15, f30, h2⟩ := bnd_some h1
    obtain ⟨f30a, f30b, f30c, f30d, f30e⟩ := atI_some f30
    refine zr rfl rfl rfl (by simp [f30a, f30b, f30c, f30d, f30e]; rfl) ?_
    refine thenC_n (zq rfl ?_)
    obtain ⟨f31, h3⟩ := chk_some h2
    refine zr rfl rfl rfl (by simp [f31]; rfl) ?_
    refine thenC_n ?_
    by_cases c32 : (andI .i64 (shrI .i64 a1 w12) 1) = 1
    · rw [if_pos c32] at h3
      have c32e := eq_true c32
      refine q_ifT rfl (by simp [c32e]) ?_
      obtain ⟨v16, f33, h4⟩ := bnd_some h3
      obtain ⟨f33a, f33b, f33c, f33d, f33e⟩ := atI_some f33
      obtain ⟨f34, h5⟩ := chk_some h4
      refine zr rfl rfl rfl (by simp [f33a, f33b, f33c, f33d, f33e, f34]; rfl) ?_
      refine blockC_n (thenC_n (zr rfl rfl rfl (by simp; rfl) ?_))
      have ho := next_some h5
      refine roundC_n ho ?_
      simp [images_move_h3]
    · rw [if_neg c32] at h3
      have c32e := eq_false c32
      refine q_ifF rfl (by simp [c32e]) (q_skip rfl (blockC_n (thenC_n (zr rfl rfl rfl (by simp; rfl) ?_))))
      have ho := next_some h3
      refine roundC_n ho ?_
      simp [images_move_h3]
  · rw [if_neg c29] at h1
    refine q_ifF rfl (by simp [c29]) (q_exit rfl (thenC_x ?_))
    obtain ⟨rr1, h2, ho1⟩ := exit_some h1
    have hs1 := hr1 _ ho1
    subst hs1
    refine roundC_x ho1 (blockC_hit2 rfl (thenC_n (zq rfl (zr rfl rfl rfl (by simp; rfl) ?_))))
    refine thenC_n (q_ret rfl ?_)
    cases h2
    simp

-- semigroup/semigroupref24.Word
def ref24_Word_b2 (a0 : DFA) (a2 : ByteArray) : Int × Int → Option ((Int × Int) ⊕ Int)
  | (w11, w12) =>
  if w12 < (a2.size : Int) then
    (byteI a2 w12).bind fun v15 =>
    (ref24_Letter a0 w11 (IntKind.i64.wrap (IntKind.u8.wrap (v15 - 97)))).bind fun v16 =>
    nextG (v16, IntKind.i64.wrap (w12 + 1))
  else
    exitG <|
    some w11
def ref24_Word_h2 (a0 : DFA) (a2 : ByteArray) : Int × Int → Fr
  | (w11, w12) => ⟨23, [(1, .one (.t none (.sc (.int .i64 w11)))), (2, .one (.t none (.sc (.string a2)))), (3, .one (.a 3 [] (0))), (7, .one (.t none (.sc (.int .i64 w12))))], [(3, .vr [.sc (.int .i64 a0.letters), .sc (.int .i64 a0.start), .sl a0.final.length (a0.final.map fun x0 => .sc (.bool x0)), .sl a0.next.length (a0.next.map fun x0 => .sl x0.length (x0.map fun x1 => .sc (.int .i64 x1)))])]⟩
def ref24_Word (a0 : DFA) (a1 : Int) (a2 : ByteArray) : Option (Int) :=
  loopG (ref24_Word_b2 a0 a2) LFm (a1, 0)
theorem ref24_Word_ok {a0 : DFA} {a1 : Int} {a2 : ByteArray} {r : Int} (h0 : ref24_Word a0 a1 a2 = some r) : L 56 [.agg [.sc (.int .i64 a0.letters), .sc (.int .i64 a0.start), .sl a0.final.length (a0.final.map fun x0 => .sc (.bool x0)), .sl a0.next.length (a0.next.map fun x0 => .sl x0.length (x0.map fun x1 => .sc (.int .i64 x1)))], .sc (.int .i64 a1), .sc (.string a2)] = some (.sc (.int .i64 r), [.dead, .dead, .dead]) := by
  simp only [ref24_Word] at h0
  refine L_run cfn56 fn56 (runF_of bd56 ⟨of_decide_eq_true rfl, of_decide_eq_true rfl⟩ ?_)
  simp only [entryF, entryT, entryO, entryE, isIo]
  refine zq rfl (zr rfl rfl rfl (by simp; rfl) ?_)
  refine thenC_n (zq rfl (zq rfl (zr rfl rfl rfl (by simp; rfl) ?_)))
  refine thenC_n (zb rfl (q_loopG h0 (ref24_Word_h2 a0 a2) rfl rfl (by simp [ref24_Word_h2]) fun s o1 h1 hr1 => ?_))
  obtain ⟨w11, w12⟩ := s
  simp only [ref24_Word_b2] at h1
  simp only [ref24_Word_h2]
  refine zq rfl (zq rfl (zr rfl rfl rfl (by simp; rfl) ?_))
  refine thenC_n ?_
  by_cases c16 : w12 < (a2.size : Int)
  · rw [if_pos c16] at h1
    refine q_ifT rfl (by simp [c16]) (q_skip rfl (thenC_n (zq rfl (zb rfl ?_))))
    obtain ⟨v15, f17, h2⟩ := bnd_some h1
    obtain ⟨f17a, f17b, f17w, f17c, f17d, f17g⟩ := byteI_some f17
    have f17d := f17d.symm
    obtain ⟨v16, f18, h3⟩ := bnd_some h2
    have f18k := ref24_Letter_ok f18
    try simp at f18k
    refine q_drawW rfl rfl rfl rfl ?_; repeat' (first | (refine q_drawW_op rfl rfl fun Q' hQ => ?_; simp [f17a, f17b, f17c, f17d, f17g, f18k]; refine hQ.out _ ?_; clear hQ; clear Q') | (refine q_drawW_guard rfl rfl fun Q1 Q2 h1 h2 => ?_; simp [f17a, f17b, f17c, f17d, f17g, f18k, twoB_some]; (first | refine h1.out ?_ | refine h2.out ?_); clear h1 h2; clear Q1 Q2; intro Q' hQ; simp [f17a, f17b, f17c, f17d, f17g, f18k]; refine hQ.out _ ?_; clear hQ; clear Q') | (refine q_drawW_nil rfl fun Q' hQ => ?_; simp [f17a, f17b, f17c, f17d, f17g, f18k]; refine hQ.out _ ?_; clear hQ; clear Q'))
    refine blockC_n (thenC_n (zr rfl rfl rfl (by simp; rfl) ?_))
    have ho := next_some h3
    refine roundC_n ho ?_
    simp [ref24_Word_h2]
  · rw [if_neg c16] at h1
    refine q_ifF rfl (by simp [c16]) (q_exit rfl (thenC_x ?_))
    obtain ⟨rr1, h2, ho1⟩ := exit_some h1
    have hs1 := hr1 _ ho1
    subst hs1
    refine roundC_x ho1 (blockC_hit2 rfl (thenC_n (zq rfl (zr rfl rfl rfl (by simp; rfl) ?_))))
    refine thenC_n (q_ret rfl ?_)
    cases h2
    simp

-- semigroup/images.Apply
def images_Apply_b7 (a0 : DFA) (a2 : ByteArray) : Int × Int → Option ((Int × Int) ⊕ (Int × Int))
  | (w17, w18) =>
  if w18 < (a2.size : Int) then
    (byteI a2 w18).bind fun v21 =>
    (images_move a0 w17 (IntKind.i64.wrap (IntKind.u8.wrap (v21 - 97)))).bind fun v22 =>
    nextG (v22, IntKind.i64.wrap (w18 + 1))
  else
    exitG <|
    some (w17, 0)
def images_Apply_h7 (a0 : DFA) (a2 : ByteArray) : Int × Int → Fr
  | (w17, w18) => ⟨41, [(1, .one (.t none (.sc (.int .i64 w17)))), (2, .one (.t none (.sc (.string a2)))), (3, .one (.a 3 [] (0))), (27, .one (.t none (.sc (.int .i64 (a2.size : Int))))), (28, .one (.t none (.sc (.int .i64 w18))))], [(3, .vr [.sc (.int .i64 a0.letters), .sc (.int .i64 a0.start), .sl a0.final.length (a0.final.map fun x0 => .sc (.bool x0)), .sl a0.next.length (a0.next.map fun x0 => .sl x0.length (x0.map fun x1 => .sc (.int .i64 x1)))])]⟩
def images_Apply (a0 : DFA) (a1 : Int) (a2 : ByteArray) : Option (Int × Int) :=
  (images_validate a0).bind fun v12 =>
  if v12 = 0 then
    (images_isSet a0 a1).bind fun v13 =>
    if v13 = true then
      (word_Valid a2 a0.letters).bind fun v14 =>
      if v14 = true then
        loopG (images_Apply_b7 a0 a2) LFm (a1, 0)
      else
        some (0, 1)
    else
      some (0, 1)
  else
    some (0, v12)
theorem images_Apply_ok {a0 : DFA} {a1 : Int} {a2 : ByteArray} {r : Int × Int} (h0 : images_Apply a0 a1 a2 = some r) : L 19 [.agg [.sc (.int .i64 a0.letters), .sc (.int .i64 a0.start), .sl a0.final.length (a0.final.map fun x0 => .sc (.bool x0)), .sl a0.next.length (a0.next.map fun x0 => .sl x0.length (x0.map fun x1 => .sc (.int .i64 x1)))], .sc (.int .i64 a1), .sc (.string a2)] = some (.tup [.sc (.int .i64 r.1), .sc (.int .i64 r.2)], [.dead, .dead, .dead]) := by
  simp only [images_Apply] at h0
  refine L_run cfn19 fn19 (runF_of bd19 ⟨of_decide_eq_true rfl, of_decide_eq_true rfl⟩ ?_)
  simp only [entryF, entryT, entryO, entryE, isIo]
  refine zq rfl (zr rfl rfl rfl (by simp; rfl) ?_)
  refine thenC_n (zq rfl (zq rfl ?_))
  obtain ⟨v12, f16, h1⟩ := bnd_some h0
  have f16k := images_validate_ok f16
  try simp at f16k
  refine zr rfl rfl rfl (by simp [f16k]; rfl) ?_
  refine thenC_n (zq rfl (zr rfl rfl rfl (by simp; rfl) ?_))
  refine thenC_n ?_
  by_cases c17 : v12 = 0
  · rw [if_pos c17] at h1
    have c17e := eq_true c17
    refine q_ifF rfl (by simp [c17e]) (q_skip rfl (thenC_n (zq rfl (zq rfl ?_))))
    obtain ⟨v13, f18, h2⟩ := bnd_some h1
    have f18k := images_isSet_ok f18
    try simp at f18k
    by_cases c19 : v13 = true
    · rw [if_pos c19] at h2
      obtain ⟨v14, f20, h3⟩ := bnd_some h2
      have f20k := word_Valid_ok f20
      try simp at f20k
      refine zr rfl rfl rfl (by simp [f18k, c19, f20k]; rfl) ?_
      refine thenC_n ?_
      by_cases c21 : v14 = true
      · rw [if_pos c21] at h3
        refine q_ifF rfl (by simp [c21]) (q_skip rfl (thenC_n (zq rfl (zq rfl (zr rfl rfl rfl (by simp; rfl) ?_)))))
        refine thenC_n (zb rfl (q_loopG h3 (images_Apply_h7 a0 a2) rfl rfl (by simp [images_Apply_h7]) fun s o1 h4 hr1 => ?_))
        obtain ⟨w17, w18⟩ := s
        simp only [images_Apply_b7] at h4
        simp only [images_Apply_h7]
        refine zq rfl (zr rfl rfl rfl (by simp; rfl) ?_)
        refine thenC_n (zq rfl ?_)
        by_cases c28 : w18 < (a2.size : Int)
        · rw [if_pos c28] at h4
          refine q_ifT rfl (by simp [c28]) (q_skip rfl (thenC_n (zq rfl (zb rfl (zq rfl (zr rfl rfl rfl (by simp; rfl) ?_))))))
          refine thenC_n ?_
          obtain ⟨v21, f29, h5⟩ := bnd_some h4
          obtain ⟨f29a, f29b, f29w, f29c, f29d, f29g⟩ := byteI_some f29
          have f29d := f29d.symm
          obtain ⟨v22, f30, h6⟩ := bnd_some h5
          have f30k := images_move_ok f30
          try simp at f30k
          refine q_drawW rfl rfl rfl rfl ?_; repeat' (first | (refine q_drawW_op rfl rfl fun Q' hQ => ?_; simp [f29a, f29b, f29c, f29d, f29g, f30k]; refine hQ.out _ ?_; clear hQ; clear Q') | (refine q_drawW_guard rfl rfl fun Q1 Q2 h1 h2 => ?_; simp [f29a, f29b, f29c, f29d, f29g, f30k, twoB_some]; (first | refine h1.out ?_ | refine h2.out ?_); clear h1 h2; clear Q1 Q2; intro Q' hQ; simp [f29a, f29b, f29c, f29d, f29g, f30k]; refine hQ.out _ ?_; clear hQ; clear Q') | (refine q_drawW_nil rfl fun Q' hQ => ?_; simp [f29a, f29b, f29c, f29d, f29g, f30k]; refine hQ.out _ ?_; clear hQ; clear Q'))
          refine blockC_n (thenC_n (zr rfl rfl rfl (by simp; rfl) ?_))
          have ho := next_some h6
          refine roundC_n ho ?_
          simp [images_Apply_h7]
        · rw [if_neg c28] at h4
          refine q_ifF rfl (by simp [c28]) (q_exit rfl (thenC_x ?_))
          obtain ⟨rr1, h5, ho1⟩ := exit_some h4
          have hs1 := hr1 _ ho1
          subst hs1
          refine roundC_x ho1 (blockC_hit2 rfl (thenC_n (zq rfl (zr rfl rfl rfl (by simp; rfl) ?_))))
          refine thenC_n (q_ret rfl ?_)
          cases h5
          simp
      · rw [if_neg c21] at h3
        refine q_ifT rfl (by simp [c21]) (zq rfl (zr rfl rfl rfl (by simp; rfl) ?_))
        refine thenC_n (q_ret rfl (thenC_r ?_))
        cases h3
        simp [c19, c21]
    · rw [if_neg c19] at h2
      refine zr rfl rfl rfl (by simp [f18k, c19]; rfl) ?_
      refine thenC_n (q_ifT rfl (by simp) (zq rfl (zr rfl rfl rfl (by simp; rfl) ?_)))
      refine thenC_n (q_ret rfl (thenC_r ?_))
      cases h2
      simp [c19]
  · rw [if_neg c17] at h1
    have c17e := eq_false c17
    refine q_ifT rfl (by simp [c17e]) (zq rfl (zr rfl rfl rfl (by simp; rfl) ?_))
    refine thenC_n (q_ret rfl (thenC_r ?_))
    cases h1
    simp

-- semigroup/semigroupref24.Apply
def ref24_Apply (a0 : DFA) (a1 : Int) (a2 : ByteArray) : Option (Int × Int) :=
  (ref24_May a0).bind fun v5 =>
  if v5 = 0 then
    (ref24_IsSet a0 a1).bind fun v6 =>
    if v6 = true then
      (ref01_Valid a2 a0.letters).bind fun v7 =>
      if v7 = true then
        (ref24_Word a0 a1 a2).bind fun v8 =>
        some (v8, 0)
      else
        some (0, 1)
    else
      some (0, 1)
  else
    some (0, v5)
theorem ref24_Apply_ok {a0 : DFA} {a1 : Int} {a2 : ByteArray} {r : Int × Int} (h0 : ref24_Apply a0 a1 a2 = some r) : L 24 [.agg [.sc (.int .i64 a0.letters), .sc (.int .i64 a0.start), .sl a0.final.length (a0.final.map fun x0 => .sc (.bool x0)), .sl a0.next.length (a0.next.map fun x0 => .sl x0.length (x0.map fun x1 => .sc (.int .i64 x1)))], .sc (.int .i64 a1), .sc (.string a2)] = some (.tup [.sc (.int .i64 r.1), .sc (.int .i64 r.2)], [.dead, .dead, .dead]) := by
  simp only [ref24_Apply] at h0
  refine L_run cfn24 fn24 (runF_of bd24 ⟨of_decide_eq_true rfl, of_decide_eq_true rfl⟩ ?_)
  simp only [entryF, entryT, entryO, entryE, isIo]
  refine zq rfl (zr rfl rfl rfl (by simp; rfl) ?_)
  refine thenC_n (zq rfl (zq rfl ?_))
  obtain ⟨v5, f8, h1⟩ := bnd_some h0
  have f8k := ref24_May_ok f8
  try simp at f8k
  refine zr rfl rfl rfl (by simp [f8k]; rfl) ?_
  refine thenC_n (zq rfl (zr rfl rfl rfl (by simp; rfl) ?_))
  refine thenC_n ?_
  by_cases c9 : v5 = 0
  · rw [if_pos c9] at h1
    have c9e := eq_true c9
    refine q_ifF rfl (by simp [c9e]) (q_skip rfl (thenC_n (zq rfl (zq rfl ?_))))
    obtain ⟨v6, f10, h2⟩ := bnd_some h1
    have f10k := ref24_IsSet_ok f10
    try simp at f10k
    by_cases c11 : v6 = true
    · rw [if_pos c11] at h2
      obtain ⟨v7, f12, h3⟩ := bnd_some h2
      have f12k := ref01_Valid_ok f12
      try simp at f12k
      refine zr rfl rfl rfl (by simp [f10k, c11, f12k]; rfl) ?_
      refine thenC_n ?_
      by_cases c13 : v7 = true
      · rw [if_pos c13] at h3
        refine q_ifF rfl (by simp [c13]) (q_skip rfl (thenC_n (zq rfl ?_)))
        obtain ⟨v8, f14, h4⟩ := bnd_some h3
        have f14k := ref24_Word_ok f14
        try simp at f14k
        refine zr rfl rfl rfl (by simp [f14k]; rfl) ?_
        refine thenC_n (q_ret rfl ?_)
        cases h4
        simp [c11, c13]
      · rw [if_neg c13] at h3
        refine q_ifT rfl (by simp [c13]) (zq rfl (zr rfl rfl rfl (by simp; rfl) ?_))
        refine thenC_n (q_ret rfl (thenC_r ?_))
        cases h3
        simp [c11, c13]
    · rw [if_neg c11] at h2
      refine zr rfl rfl rfl (by simp [f10k, c11]; rfl) ?_
      refine thenC_n (q_ifT rfl (by simp) (zq rfl (zr rfl rfl rfl (by simp; rfl) ?_)))
      refine thenC_n (q_ret rfl (thenC_r ?_))
      cases h2
      simp [c11]
  · rw [if_neg c9] at h1
    have c9e := eq_false c9
    refine q_ifT rfl (by simp [c9e]) (zq rfl (zr rfl rfl rfl (by simp; rfl) ?_))
    refine thenC_n (q_ret rfl (thenC_r ?_))
    cases h1
    simp

-- semigroup/images.contains
def images_contains (a0 : Int) (a1 : Int) : Option (Bool) :=
  some (decide ((andNotI .i64 a1 a0) = 0))
theorem images_contains_ok {a0 : Int} {a1 : Int} {r : Bool} (h0 : images_contains a0 a1 = some r) : L 58 [.sc (.int .i64 a0), .sc (.int .i64 a1)] = some (.sc (.bool r), [.dead, .dead]) := by
  simp only [images_contains] at h0
  refine L_run cfn58 fn58 (runF_of bd58 ⟨of_decide_eq_true rfl, of_decide_eq_true rfl⟩ ?_)
  simp only [entryF, entryT, entryO, entryE, isIo]
  refine zq rfl (zr rfl rfl rfl (by simp; rfl) ?_)
  refine thenC_n (zq rfl (zr rfl rfl rfl (by simp; rfl) ?_))
  refine thenC_n (q_ret rfl ?_)
  cases h0
  simp

-- semigroup/images.reach
def images_reach_b8 (a0 : DFA) (w77 : Int) : Int × List Bool × List Int × List ByteArray → Option ((Int × List Bool × List Int × List ByteArray) ⊕ ((Int × List Bool × List Int × List ByteArray) ⊕ (List Int × List ByteArray)))
  | (w105, w106, w107, w108) =>
  if w105 < a0.letters then
    (atI w107 w77).bind fun v114 =>
    (images_move a0 v114 w105).bind fun v115 =>
    (atI w106 v115).bind fun v116 =>
    if v116 = true then
      nextG (IntKind.i64.wrap (w105 + 1), w106, w107, w108)
    else
      chk (capOk 8 (w107.length + 1)) <|
      (atI w108 w77).bind fun v118 =>
      chk (catOk v118 ⟨#[UInt8.ofNat (IntKind.u8.wrap (IntKind.i64.wrap (97 + w105))).toNat]⟩) <|
      chk (capOk 16 (w108.length + 1)) <|
      nextG (IntKind.i64.wrap (w105 + 1), (w106.set v115.toNat true), w107 ++ [v115], w108 ++ [v118 ++ ⟨#[UInt8.ofNat (IntKind.u8.wrap (IntKind.i64.wrap (97 + w105))).toNat]⟩])
  else
    exitG <|
    nextG (IntKind.i64.wrap (w77 + 1), w106, w107, w108)
def images_reach_h8 (a0 : DFA) (w77 : Int) : Int × List Bool × List Int × List ByteArray → Fr
  | (w105, w106, w107, w108) => ⟨69, [(2, .one (.a 2 [] (0))), (6, .one (.h 6 [])), (7, .one (.h 7 [])), (8, .one (.h 8 [])), (9, .one (.t none (.sc (.int .i64 w77)))), (30, .one (.t none (.sc (.int .i64 a0.letters)))), (31, .one (.t none (.sc (.int .i64 w105))))], [(2, .vr [.sc (.int .i64 a0.letters), .sc (.int .i64 a0.start), .sl a0.final.length (a0.final.map fun x0 => .sc (.bool x0)), .sl a0.next.length (a0.next.map fun x0 => .sl x0.length (x0.map fun x1 => .sc (.int .i64 x1)))]), (6, .os 1 w106.length (w106.map fun x0 => .sc (.bool x0))), (7, .os 1 w107.length (w107.map fun x0 => .sc (.int .i64 x0))), (8, .os 1 w108.length (w108.map fun x0 => .sc (.string x0)))]⟩
def images_reach_b5 (a0 : DFA) : Int × List Bool × List Int × List ByteArray → Option ((Int × List Bool × List Int × List ByteArray) ⊕ (List Int × List ByteArray))
  | (w77, w78, w79, w80) =>
  if w77 < (w79.length : Int) then
    loopG (images_reach_b8 a0 w77) LFm (0, w78, w79, w80)
  else
    exitG <|
    some (w79, w80)
def images_reach_h5 (a0 : DFA) : Int × List Bool × List Int × List ByteArray → Fr
  | (w77, w78, w79, w80) => ⟨69, [(2, .one (.a 2 [] (0))), (6, .one (.h 6 [])), (7, .one (.h 7 [])), (8, .one (.h 8 [])), (9, .one (.t none (.sc (.int .i64 w77))))], [(2, .vr [.sc (.int .i64 a0.letters), .sc (.int .i64 a0.start), .sl a0.final.length (a0.final.map fun x0 => .sc (.bool x0)), .sl a0.next.length (a0.next.map fun x0 => .sl x0.length (x0.map fun x1 => .sc (.int .i64 x1)))]), (6, .os 1 w78.length (w78.map fun x0 => .sc (.bool x0))), (7, .os 1 w79.length (w79.map fun x0 => .sc (.int .i64 x0))), (8, .os 1 w80.length (w80.map fun x0 => .sc (.string x0)))]⟩
def images_reach (a0 : DFA) (a1 : Int) : Option (List Int × List ByteArray) :=
  chk (¬ (a0.final.length : Int) < 0) <|
  chk (makeOk 1 (shlI .i64 1 (a0.final.length : Int))) <|
  chk (0 ≤ a1 ∧ a1 < (shlI .i64 1 (a0.final.length : Int))) <|
  loopG (images_reach_b5 a0) LFm (0, ((List.replicate (shlI .i64 1 (a0.final.length : Int)).toNat (false : Bool)).set a1.toNat true), [a1], [ByteArray.empty])
theorem images_reach_ok {a0 : DFA} {a1 : Int} {r : List Int × List ByteArray} (h0 : images_reach a0 a1 = some r) : L 57 [.agg [.sc (.int .i64 a0.letters), .sc (.int .i64 a0.start), .sl a0.final.length (a0.final.map fun x0 => .sc (.bool x0)), .sl a0.next.length (a0.next.map fun x0 => .sl x0.length (x0.map fun x1 => .sc (.int .i64 x1)))], .sc (.int .i64 a1)] = some (.tup [.os 1 r.1.length (r.1.map fun x0 => .sc (.int .i64 x0)), .os 1 r.2.length (r.2.map fun x0 => .sc (.string x0))], [.dead, .dead]) := by
  simp only [images_reach] at h0
  refine L_run cfn57 fn57 (runF_of bd57 ⟨of_decide_eq_true rfl, of_decide_eq_true rfl⟩ ?_)
  simp only [entryF, entryT, entryO, entryE, isIo]
  refine zq rfl (zr rfl rfl rfl (by simp; rfl) ?_)
  refine thenC_n (zq rfl ?_)
  obtain ⟨f84, h1⟩ := chk_some h0
  obtain ⟨f85, h2⟩ := chk_some h1
  obtain ⟨f85a, f85b, f85c⟩ := f85
  simp only [Int.one_mul] at f85c
  have f85d : max (shlI .i64 1 (a0.final.length : Int)) 0 = (shlI .i64 1 (a0.final.length : Int)) := by omega
  refine zr rfl rfl rfl (by simp [f84, f85a, f85b, f85c, f85d]; rfl) ?_
  refine thenC_n (zq rfl ?_)
  obtain ⟨f86, h3⟩ := chk_some h2
  obtain ⟨f86a, f86b⟩ := f86
  have f86c : a1.toNat < (shlI .i64 1 (a0.final.length : Int)).toNat := by omega
  have f86d : a1.toNat + 1 ≤ (shlI .i64 1 (a0.final.length : Int)).toNat := by omega
  refine zr rfl rfl rfl (by simp [f85a, f85b, f85c, f85d, f86a, f86b, f86c, f86d]; rfl) ?_
  refine thenC_n (zq rfl (zr rfl rfl rfl (by simp; rfl) ?_))
  refine thenC_n (zq rfl (zq rfl (zr rfl rfl rfl (by simp; rfl) ?_)))
  refine thenC_n (zb rfl (q_loopG h3 (images_reach_h5 a0) rfl rfl (by simp [images_reach_h5]) fun s o1 h4 hr1 => ?_))
  obtain ⟨w77, w78, w79, w80⟩ := s
  simp only [images_reach_b5] at h4
  simp only [images_reach_h5]
  refine zq rfl (zq rfl (zr rfl rfl rfl (by simp; rfl) ?_))
  refine thenC_n ?_
  by_cases c139 : w77 < (w79.length : Int)
  · rw [if_pos c139] at h4
    refine q_ifT rfl (by simp [c139]) (q_skip rfl (thenC_n (zq rfl (zb rfl (zq rfl (zr rfl rfl rfl (by simp; rfl) ?_))))))
    refine thenC_n (zb rfl (q_loopG h4 (images_reach_h8 a0 w77) rfl rfl (by simp [images_reach_h8]) fun s o2 h5 hr2 => ?_))
    obtain ⟨w105, w106, w107, w108⟩ := s
    simp only [images_reach_b8] at h5
    simp only [images_reach_h8]
    refine zq rfl (zr rfl rfl rfl (by simp; rfl) ?_)
    refine thenC_n (zq rfl ?_)
    by_cases c158 : w105 < a0.letters
    · rw [if_pos c158] at h5
      refine q_ifT rfl (by simp [c158]) (q_skip rfl (thenC_n (zq rfl (zb rfl (zq rfl (zr rfl rfl rfl (by simp; rfl) ?_))))))
      refine thenC_n (zq rfl ?_)
      obtain ⟨v114, f159, h6⟩ := bnd_some h5
      obtain ⟨f159a, f159b, f159c, f159d, f159e⟩ := atI_some f159
      obtain ⟨v115, f160, h7⟩ := bnd_some h6
      have f160k := images_move_ok f160
      try simp at f160k
      refine q_drawW rfl rfl rfl rfl ?_; repeat' (first | (refine q_drawW_op rfl rfl fun Q' hQ => ?_; simp [f159a, f159b, f159c, f159d, f159e, f160k]; refine hQ.out _ ?_; clear hQ; clear Q') | (refine q_drawW_guard rfl rfl fun Q1 Q2 h1 h2 => ?_; simp [f159a, f159b, f159c, f159d, f159e, f160k, twoB_some]; (first | refine h1.out ?_ | refine h2.out ?_); clear h1 h2; clear Q1 Q2; intro Q' hQ; simp [f159a, f159b, f159c, f159d, f159e, f160k]; refine hQ.out _ ?_; clear hQ; clear Q') | (refine q_drawW_nil rfl fun Q' hQ => ?_; simp [f159a, f159b, f159c, f159d, f159e, f160k]; refine hQ.out _ ?_; clear hQ; clear Q'))
      refine thenC_n (zq rfl ?_)
      obtain ⟨v116, f161, h8⟩ := bnd_some h7
      obtain ⟨f161a, f161b, f161c, f161d, f161e⟩ := atI_some f161
      refine zr rfl rfl rfl (by simp [f161a, f161b, f161c, f161d, f161e]; rfl) ?_
      refine thenC_n ?_
      by_cases c162 : v116 = true
      · rw [if_pos c162] at h8
        refine q_ifF rfl (by simp [c162]) (q_skip rfl (blockC_n (thenC_n (zr rfl rfl rfl (by simp; rfl) ?_))))
        have ho := next_some h8
        refine roundC_n ho ?_
        simp [images_reach_h8, c162]
      · rw [if_neg c162] at h8
        refine q_ifT rfl (by simp [c162]) (zq rfl (zr rfl rfl rfl (by simp [f161a, f161b, f161c, f161d, f161e]; rfl) ?_))
        refine thenC_n (zq rfl ?_)
        obtain ⟨f163, h9⟩ := chk_some h8
        obtain ⟨f163a, f163b⟩ := f163
        refine zr rfl rfl rfl (by simp [f163a, f163b]; rfl) ?_
        refine thenC_n ?_
        obtain ⟨v118, f164, h10⟩ := bnd_some h9
        obtain ⟨f164a, f164b, f164c, f164d, f164e⟩ := atI_some f164
        obtain ⟨f165, h11⟩ := chk_some h10
        obtain ⟨f166, h12⟩ := chk_some h11
        obtain ⟨f166a, f166b⟩ := f166
        refine q_drawW rfl rfl rfl rfl ?_; repeat' (first | (refine q_drawW_op rfl rfl fun Q' hQ => ?_; simp [f164a, f164b, f164c, f164d, f164e, f165, f166a, f166b]; refine hQ.out _ ?_; clear hQ; clear Q') | (refine q_drawW_guard rfl rfl fun Q1 Q2 h1 h2 => ?_; simp [f164a, f164b, f164c, f164d, f164e, f165, f166a, f166b, twoB_some]; (first | refine h1.out ?_ | refine h2.out ?_); clear h1 h2; clear Q1 Q2; intro Q' hQ; simp [f164a, f164b, f164c, f164d, f164e, f165, f166a, f166b]; refine hQ.out _ ?_; clear hQ; clear Q') | (refine q_drawW_nil rfl fun Q' hQ => ?_; simp [f164a, f164b, f164c, f164d, f164e, f165, f166a, f166b]; refine hQ.out _ ?_; clear hQ; clear Q'))
        refine blockC_n (thenC_n (zr rfl rfl rfl (by simp; rfl) ?_))
        have ho := next_some h12
        refine roundC_n ho ?_
        simp [images_reach_h8, c162]
    · rw [if_neg c158] at h5
      refine q_ifF rfl (by simp [c158]) (q_exit rfl (thenC_x ?_))
      obtain ⟨rr2, h6, ho2⟩ := exit_some h5
      have hs2 := hr2 _ ho2
      subst hs2
      refine roundC_x ho2 (blockC_hit2 rfl (blockC_n (thenC_n (zr rfl rfl rfl (by simp; rfl) ?_))))
      have ho := next_some h6
      refine roundC_n ho ?_
      simp [images_reach_h5]
  · rw [if_neg c139] at h4
    refine q_ifF rfl (by simp [c139]) (q_exit rfl (thenC_x ?_))
    obtain ⟨rr1, h5, ho1⟩ := exit_some h4
    have hs1 := hr1 _ ho1
    subst hs1
    refine roundC_x ho1 (blockC_hit2 rfl (thenC_n (zq rfl (zr rfl rfl rfl (by simp; rfl) ?_))))
    refine thenC_n (q_ret rfl ?_)
    cases h5
    simp

-- semigroup/semigroupref24.Reach
def ref24_Reach_b7 (a0 : DFA) (w53 : Int) : Int × List Int × List ByteArray × (List (Int × Bool)) → Option ((Int × List Int × List ByteArray × (List (Int × Bool))) ⊕ ((Int × List Int × List ByteArray × (List (Int × Bool))) ⊕ (List Int × List ByteArray)))
  | (w73, w74, w75, w76) =>
  if w73 < a0.letters then
    (atI w74 w53).bind fun v80 =>
    (ref24_Letter a0 v80 w73).bind fun v81 =>
    if ((getM v81 w76).getD false) = true then
      nextG (IntKind.i64.wrap (w73 + 1), w74, w75, w76)
    else
      (atI w75 w53).bind fun v82 =>
      chk (capOk 8 (w74.length + 1)) <|
      chk (catOk v82 ⟨#[UInt8.ofNat (IntKind.u8.wrap (IntKind.i64.wrap (97 + w73))).toNat]⟩) <|
      chk (capOk 16 (w75.length + 1)) <|
      nextG (IntKind.i64.wrap (w73 + 1), w74 ++ [v81], w75 ++ [v82 ++ ⟨#[UInt8.ofNat (IntKind.u8.wrap (IntKind.i64.wrap (97 + w73))).toNat]⟩], setM v81 true w76)
  else
    exitG <|
    nextG (IntKind.i64.wrap (w53 + 1), w74, w75, w76)
def ref24_Reach_h7 (a0 : DFA) (w53 : Int) : Int × List Int × List ByteArray × (List (Int × Bool)) → Fr
  | (w73, w74, w75, w76) => ⟨62, [(2, .one (.a 2 [] (0))), (6, .one (.h 6 [])), (7, .one (.h 7 [])), (8, .one (.h 8 [])), (9, .one (.t none (.sc (.int .i64 w53)))), (10, .one (.t none (.sc (.int .i64 w73))))], [(2, .vr [.sc (.int .i64 a0.letters), .sc (.int .i64 a0.start), .sl a0.final.length (a0.final.map fun x0 => .sc (.bool x0)), .sl a0.next.length (a0.next.map fun x0 => .sl x0.length (x0.map fun x1 => .sc (.int .i64 x1)))]), (6, .os 1 w74.length (w74.map fun x0 => .sc (.int .i64 x0))), (7, .os 1 w75.length (w75.map fun x0 => .sc (.string x0))), (8, .mp (some .i64) (w76.map fun x0 => (.int .i64 x0.1, .bool x0.2)))]⟩
def ref24_Reach_b4 (a0 : DFA) : Int × List Int × List ByteArray × (List (Int × Bool)) → Option ((Int × List Int × List ByteArray × (List (Int × Bool))) ⊕ (List Int × List ByteArray))
  | (w53, w54, w55, w56) =>
  if w53 < (w54.length : Int) then
    loopG (ref24_Reach_b7 a0 w53) LFm (0, w54, w55, w56)
  else
    exitG <|
    some (w54, w55)
def ref24_Reach_h4 (a0 : DFA) : Int × List Int × List ByteArray × (List (Int × Bool)) → Fr
  | (w53, w54, w55, w56) => ⟨62, [(2, .one (.a 2 [] (0))), (6, .one (.h 6 [])), (7, .one (.h 7 [])), (8, .one (.h 8 [])), (9, .one (.t none (.sc (.int .i64 w53))))], [(2, .vr [.sc (.int .i64 a0.letters), .sc (.int .i64 a0.start), .sl a0.final.length (a0.final.map fun x0 => .sc (.bool x0)), .sl a0.next.length (a0.next.map fun x0 => .sl x0.length (x0.map fun x1 => .sc (.int .i64 x1)))]), (6, .os 1 w54.length (w54.map fun x0 => .sc (.int .i64 x0))), (7, .os 1 w55.length (w55.map fun x0 => .sc (.string x0))), (8, .mp (some .i64) (w56.map fun x0 => (.int .i64 x0.1, .bool x0.2)))]⟩
def ref24_Reach (a0 : DFA) (a1 : Int) : Option (List Int × List ByteArray) :=
  loopG (ref24_Reach_b4 a0) LFm (0, [a1], [ByteArray.empty], setM a1 true ([] : List (Int × Bool)))
theorem ref24_Reach_ok {a0 : DFA} {a1 : Int} {r : List Int × List ByteArray} (h0 : ref24_Reach a0 a1 = some r) : L 43 [.agg [.sc (.int .i64 a0.letters), .sc (.int .i64 a0.start), .sl a0.final.length (a0.final.map fun x0 => .sc (.bool x0)), .sl a0.next.length (a0.next.map fun x0 => .sl x0.length (x0.map fun x1 => .sc (.int .i64 x1)))], .sc (.int .i64 a1)] = some (.tup [.os 1 r.1.length (r.1.map fun x0 => .sc (.int .i64 x0)), .os 1 r.2.length (r.2.map fun x0 => .sc (.string x0))], [.dead, .dead]) := by
  simp only [ref24_Reach] at h0
  refine L_run cfn43 fn43 (runF_of bd43 ⟨of_decide_eq_true rfl, of_decide_eq_true rfl⟩ ?_)
  simp only [entryF, entryT, entryO, entryE, isIo]
  refine zq rfl (zr rfl rfl rfl (by simp; rfl) ?_)
  refine thenC_n (zq rfl (zr rfl rfl rfl (by simp; rfl) ?_))
  refine thenC_n (zq rfl (zr rfl rfl rfl (by simp; rfl) ?_))
  refine thenC_n (zq rfl (zq rfl (zr rfl rfl rfl (by simp; rfl) ?_)))
  refine thenC_n (zb rfl (q_loopG h0 (ref24_Reach_h4 a0) rfl rfl (by simp [ref24_Reach_h4]) fun s o1 h1 hr1 => ?_))
  obtain ⟨w53, w54, w55, w56⟩ := s
  simp only [ref24_Reach_b4] at h1
  simp only [ref24_Reach_h4]
  refine zq rfl (zq rfl (zr rfl rfl rfl (by simp; rfl) ?_))
  refine thenC_n ?_
  by_cases c118 : w53 < (w54.length : Int)
  · rw [if_pos c118] at h1
    refine q_ifT rfl (by simp [c118]) (q_skip rfl (thenC_n (zq rfl (zb rfl (zq rfl (zr rfl rfl rfl (by simp; rfl) ?_))))))
    refine thenC_n (zb rfl (q_loopG h1 (ref24_Reach_h7 a0 w53) rfl rfl (by simp [ref24_Reach_h7]) fun s o2 h2 hr2 => ?_))
    obtain ⟨w73, w74, w75, w76⟩ := s
    simp only [ref24_Reach_b7] at h2
    simp only [ref24_Reach_h7]
    refine zq rfl (zq rfl (zr rfl rfl rfl (by simp; rfl) ?_))
    refine thenC_n ?_
    by_cases c135 : w73 < a0.letters
    · rw [if_pos c135] at h2
      refine q_ifT rfl (by simp [c135]) (q_skip rfl (thenC_n (zq rfl (zb rfl (zq rfl ?_)))))
      obtain ⟨v80, f136, h3⟩ := bnd_some h2
      obtain ⟨f136a, f136b, f136c, f136d, f136e⟩ := atI_some f136
      obtain ⟨v81, f137, h4⟩ := bnd_some h3
      have f137k := ref24_Letter_ok f137
      try simp at f137k
      refine q_drawW rfl rfl rfl rfl ?_; repeat' (first | (refine q_drawW_op rfl rfl fun Q' hQ => ?_; simp [f136a, f136b, f136c, f136d, f136e, f137k]; refine hQ.out _ ?_; clear hQ; clear Q') | (refine q_drawW_guard rfl rfl fun Q1 Q2 h1 h2 => ?_; simp [f136a, f136b, f136c, f136d, f136e, f137k, twoB_some]; (first | refine h1.out ?_ | refine h2.out ?_); clear h1 h2; clear Q1 Q2; intro Q' hQ; simp [f136a, f136b, f136c, f136d, f136e, f137k]; refine hQ.out _ ?_; clear hQ; clear Q') | (refine q_drawW_nil rfl fun Q' hQ => ?_; simp [f136a, f136b, f136c, f136d, f136e, f137k]; refine hQ.out _ ?_; clear hQ; clear Q'))
      refine thenC_n (zq rfl (zr rfl rfl rfl (by simp; rfl) ?_))
      refine thenC_n ?_
      by_cases c138 : ((getM v81 w76).getD false) = true
      · rw [if_pos c138] at h4
        refine q_ifF rfl (by simp [c138]) (q_skip rfl (blockC_n (thenC_n (zr rfl rfl rfl (by simp; rfl) ?_))))
        have ho := next_some h4
        refine roundC_n ho ?_
        simp [ref24_Reach_h7, c138]
      · rw [if_neg c138] at h4
        refine q_ifT rfl (by simp [c138]) (zq rfl (zr rfl rfl rfl (by simp; rfl) ?_))
        refine thenC_n ?_
        obtain ⟨v82, f139, h5⟩ := bnd_some h4
        obtain ⟨f139a, f139b, f139c, f139d, f139e⟩ := atI_some f139
        obtain ⟨f140, h6⟩ := chk_some h5
        obtain ⟨f140a, f140b⟩ := f140
        obtain ⟨f141, h7⟩ := chk_some h6
        obtain ⟨f142, h8⟩ := chk_some h7
        obtain ⟨f142a, f142b⟩ := f142
        refine q_tree rfl rfl rfl rfl ?_
        refine tp_op rfl rfl (by simp [stepN, stepZ, f139a, f139b, f139c, f139d, f139e, f140a, f140b, f141, f142a, f142b]; rfl) ?_
        refine tp_op rfl rfl (by simp [stepN, stepZ, f139a, f139b, f139c, f139d, f139e, f140a, f140b, f141, f142a, f142b]; rfl) ?_
        refine tp_op rfl rfl (by simp [stepN, stepZ, f139a, f139b, f139c, f139d, f139e, f140a, f140b, f141, f142a, f142b]; rfl) ?_
        refine tp_op rfl rfl (by simp [stepN, stepZ, f139a, f139b, f139c, f139d, f139e, f140a, f140b, f141, f142a, f142b]; rfl) ?_
        refine tp_op rfl rfl (by simp [stepN, stepZ, f139a, f139b, f139c, f139d, f139e, f140a, f140b, f141, f142a, f142b]; rfl) ?_
        refine tp_op rfl rfl (by simp [stepN, stepZ, f139a, f139b, f139c, f139d, f139e, f140a, f140b, f141, f142a, f142b]; rfl) ?_
        refine tp_op rfl rfl (by simp [stepN, stepZ, f139a, f139b, f139c, f139d, f139e, f140a, f140b, f141, f142a, f142b]; rfl) ?_
        refine tp_op rfl rfl (by simp [stepN, stepZ, f139a, f139b, f139c, f139d, f139e, f140a, f140b, f141, f142a, f142b]; rfl) ?_
        refine tp_op rfl rfl (by simp [stepN, stepZ, f139a, f139b, f139c, f139d, f139e, f140a, f140b, f141, f142a, f142b]; rfl) ?_
        refine tp_op rfl rfl (by simp [stepN, stepZ, f139a, f139b, f139c, f139d, f139e, f140a, f140b, f141, f142a, f142b]; rfl) ?_
        refine tp_alt2 ?_
        refine tp_op rfl rfl (by simp [stepN, stepZ, f139a, f139b, f139c, f139d, f139e, f140a, f140b, f141, f142a, f142b]; rfl) ?_
        refine tp_alt2 ?_
        refine tp_op rfl rfl (by simp [stepN, stepZ, f139a, f139b, f139c, f139d, f139e, f140a, f140b, f141, f142a, f142b]; rfl) ?_
        refine tp_op rfl rfl (by simp [stepN, stepZ, f139a, f139b, f139c, f139d, f139e, f140a, f140b, f141, f142a, f142b]; rfl) ?_
        refine tp_op rfl rfl (by simp [stepN, stepZ, f139a, f139b, f139c, f139d, f139e, f140a, f140b, f141, f142a, f142b]; rfl) ?_
        refine tp_op rfl rfl (by simp [stepN, stepZ, f139a, f139b, f139c, f139d, f139e, f140a, f140b, f141, f142a, f142b]; rfl) ?_
        refine tp_op rfl rfl (by simp [stepN, stepZ, f139a, f139b, f139c, f139d, f139e, f140a, f140b, f141, f142a, f142b]; rfl) ?_
        refine tp_op rfl rfl (by simp [stepN, stepZ, f139a, f139b, f139c, f139d, f139e, f140a, f140b, f141, f142a, f142b]; rfl) ?_
        refine tp_op rfl rfl (by simp [stepN, stepZ, f139a, f139b, f139c, f139d, f139e, f140a, f140b, f141, f142a, f142b]; rfl) ?_
        refine tp_op rfl rfl (by simp [stepN, stepZ, f139a, f139b, f139c, f139d, f139e, f140a, f140b, f141, f142a, f142b]; rfl) ?_
        refine tp_nil ?_
        refine ⟨?_, ?_⟩
        · refine tp_op rfl rfl (by simp [stepN, stepZ, f139a, f139b, f139c, f139d, f139e, f140a, f140b, f141, f142a, f142b]; rfl) ?_
          refine tp_op rfl rfl (by simp [stepN, stepZ, f139a, f139b, f139c, f139d, f139e, f140a, f140b, f141, f142a, f142b]; rfl) ?_
          refine tp_op rfl rfl (by simp [stepN, stepZ, f139a, f139b, f139c, f139d, f139e, f140a, f140b, f141, f142a, f142b]; rfl) ?_
          refine tp_alt2 ?_
          refine tp_op rfl rfl (by simp [stepN, stepZ, f139a, f139b, f139c, f139d, f139e, f140a, f140b, f141, f142a, f142b]; rfl) ?_
          refine tp_op rfl rfl (by simp [stepN, stepZ, f139a, f139b, f139c, f139d, f139e, f140a, f140b, f141, f142a, f142b]; rfl) ?_
          refine tp_op rfl rfl (by simp [stepN, stepZ, f139a, f139b, f139c, f139d, f139e, f140a, f140b, f141, f142a, f142b]; rfl) ?_
          refine tp_op rfl rfl (by simp [stepN, stepZ, f139a, f139b, f139c, f139d, f139e, f140a, f140b, f141, f142a, f142b]; rfl) ?_
          refine tp_op rfl rfl (by simp [stepN, stepZ, f139a, f139b, f139c, f139d, f139e, f140a, f140b, f141, f142a, f142b]; rfl) ?_
          refine tp_nil ?_
          refine ⟨?_, ?_⟩
          · refine tp_op rfl rfl (by simp [stepN, stepZ, f139a, f139b, f139c, f139d, f139e, f140a, f140b, f141, f142a, f142b]; rfl) ?_
            refine tp_op rfl rfl (by simp [stepN, stepZ, f139a, f139b, f139c, f139d, f139e, f140a, f140b, f141, f142a, f142b]; rfl) ?_
            refine tp_op rfl rfl (by simp [stepN, stepZ, f139a, f139b, f139c, f139d, f139e, f140a, f140b, f141, f142a, f142b]; rfl) ?_
            refine tp_op rfl rfl (by simp [stepN, stepZ, f139a, f139b, f139c, f139d, f139e, f140a, f140b, f141, f142a, f142b]; rfl) ?_
            refine tp_op rfl rfl (by simp [stepN, stepZ, f139a, f139b, f139c, f139d, f139e, f140a, f140b, f141, f142a, f142b]; rfl) ?_
            refine tp_nil ?_
            simp [sameF, f139a, f139b, f139c, f139d, f139e, f140a, f140b, f141, f142a, f142b]
          simp [sameF, f139a, f139b, f139c, f139d, f139e, f140a, f140b, f141, f142a, f142b]
        refine ⟨?_, ?_⟩
        · refine tp_op rfl rfl (by simp [stepN, stepZ, f139a, f139b, f139c, f139d, f139e, f140a, f140b, f141, f142a, f142b]; rfl) ?_
          refine tp_op rfl rfl (by simp [stepN, stepZ, f139a, f139b, f139c, f139d, f139e, f140a, f140b, f141, f142a, f142b]; rfl) ?_
          refine tp_op rfl rfl (by simp [stepN, stepZ, f139a, f139b, f139c, f139d, f139e, f140a, f140b, f141, f142a, f142b]; rfl) ?_
          refine tp_alt2 ?_
          refine tp_op rfl rfl (by simp [stepN, stepZ, f139a, f139b, f139c, f139d, f139e, f140a, f140b, f141, f142a, f142b]; rfl) ?_
          refine tp_alt2 ?_
          refine tp_op rfl rfl (by simp [stepN, stepZ, f139a, f139b, f139c, f139d, f139e, f140a, f140b, f141, f142a, f142b]; rfl) ?_
          refine tp_op rfl rfl (by simp [stepN, stepZ, f139a, f139b, f139c, f139d, f139e, f140a, f140b, f141, f142a, f142b]; rfl) ?_
          refine tp_op rfl rfl (by simp [stepN, stepZ, f139a, f139b, f139c, f139d, f139e, f140a, f140b, f141, f142a, f142b]; rfl) ?_
          refine tp_op rfl rfl (by simp [stepN, stepZ, f139a, f139b, f139c, f139d, f139e, f140a, f140b, f141, f142a, f142b]; rfl) ?_
          refine tp_op rfl rfl (by simp [stepN, stepZ, f139a, f139b, f139c, f139d, f139e, f140a, f140b, f141, f142a, f142b]; rfl) ?_
          refine tp_nil ?_
          refine ⟨?_, ?_⟩
          · refine tp_op rfl rfl (by simp [stepN, stepZ, f139a, f139b, f139c, f139d, f139e, f140a, f140b, f141, f142a, f142b]; rfl) ?_
            refine tp_op rfl rfl (by simp [stepN, stepZ, f139a, f139b, f139c, f139d, f139e, f140a, f140b, f141, f142a, f142b]; rfl) ?_
            refine tp_op rfl rfl (by simp [stepN, stepZ, f139a, f139b, f139c, f139d, f139e, f140a, f140b, f141, f142a, f142b]; rfl) ?_
            refine tp_op rfl rfl (by simp [stepN, stepZ, f139a, f139b, f139c, f139d, f139e, f140a, f140b, f141, f142a, f142b]; rfl) ?_
            refine tp_op rfl rfl (by simp [stepN, stepZ, f139a, f139b, f139c, f139d, f139e, f140a, f140b, f141, f142a, f142b]; rfl) ?_
            refine tp_nil ?_
            simp [sameF, f139a, f139b, f139c, f139d, f139e, f140a, f140b, f141, f142a, f142b]
          refine ⟨?_, ?_⟩
          · refine tp_op rfl rfl (by simp [stepN, stepZ, f139a, f139b, f139c, f139d, f139e, f140a, f140b, f141, f142a, f142b]; rfl) ?_
            refine tp_op rfl rfl (by simp [stepN, stepZ, f139a, f139b, f139c, f139d, f139e, f140a, f140b, f141, f142a, f142b]; rfl) ?_
            refine tp_op rfl rfl (by simp [stepN, stepZ, f139a, f139b, f139c, f139d, f139e, f140a, f140b, f141, f142a, f142b]; rfl) ?_
            refine tp_op rfl rfl (by simp [stepN, stepZ, f139a, f139b, f139c, f139d, f139e, f140a, f140b, f141, f142a, f142b]; rfl) ?_
            refine tp_op rfl rfl (by simp [stepN, stepZ, f139a, f139b, f139c, f139d, f139e, f140a, f140b, f141, f142a, f142b]; rfl) ?_
            refine tp_op rfl rfl (by simp [stepN, stepZ, f139a, f139b, f139c, f139d, f139e, f140a, f140b, f141, f142a, f142b]; rfl) ?_
            refine tp_nil ?_
            simp [sameF, f139a, f139b, f139c, f139d, f139e, f140a, f140b, f141, f142a, f142b]
          simp [sameF, f139a, f139b, f139c, f139d, f139e, f140a, f140b, f141, f142a, f142b]
        refine tp_end rfl (by simp [f139a, f139b, f139c, f139d, f139e, f140a, f140b, f141, f142a, f142b]; rfl) ?_
        refine blockC_n (thenC_n (zr rfl rfl rfl (by simp; rfl) ?_))
        have ho := next_some h8
        refine roundC_n ho ?_
        simp [ref24_Reach_h7, c138]
    · rw [if_neg c135] at h2
      refine q_ifF rfl (by simp [c135]) (q_exit rfl (thenC_x ?_))
      obtain ⟨rr2, h3, ho2⟩ := exit_some h2
      have hs2 := hr2 _ ho2
      subst hs2
      refine roundC_x ho2 (blockC_hit2 rfl (blockC_n (thenC_n (zr rfl rfl rfl (by simp; rfl) ?_))))
      have ho := next_some h3
      refine roundC_n ho ?_
      simp [ref24_Reach_h4]
  · rw [if_neg c118] at h1
    refine q_ifF rfl (by simp [c118]) (q_exit rfl (thenC_x ?_))
    obtain ⟨rr1, h2, ho1⟩ := exit_some h1
    have hs1 := hr1 _ ho1
    subst hs1
    refine roundC_x ho1 (blockC_hit2 rfl (thenC_n (zq rfl (zr rfl rfl rfl (by simp; rfl) ?_))))
    refine thenC_n (q_ret rfl ?_)
    cases h2
    simp

-- semigroup/images.Below
def images_Below_b8 (a1 : Int) (v18 : List Int × List ByteArray) : Int → Option (Int ⊕ (ByteArray × Bool × Int))
  | w22 =>
  if w22 < (v18.1.length : Int) then
    (atI v18.1 w22).bind fun v26 =>
    (images_contains v26 a1).bind fun v27 =>
    if v27 = true then
      (atI v18.2 w22).bind fun v28 =>
      exitG <|
      some (v28, true, 0)
    else
      nextG (IntKind.i64.wrap (w22 + 1))
  else
    exitG <|
    some (ByteArray.empty, false, 0)
def images_Below_h8 (a1 : Int) (v18 : List Int × List ByteArray) : Int → Fr
  | w22 => ⟨50, [(1, .one (.t none (.sc (.int .i64 a1)))), (11, .one (.h 11 [])), (35, .one (.h 10 [])), (36, .one (.t none (.sc (.int .i64 (v18.1.length : Int))))), (37, .one (.t none (.sc (.int .i64 w22))))], [(11, .os 1 v18.2.length (v18.2.map fun x0 => .sc (.string x0))), (10, .os 1 v18.1.length (v18.1.map fun x0 => .sc (.int .i64 x0)))]⟩
def images_Below (a0 : DFA) (a1 : Int) (a2 : Int) : Option (ByteArray × Bool × Int) :=
  (images_validate a0).bind fun v15 =>
  if v15 = 0 then
    (images_isSet a0 a1).bind fun v16 =>
    if v16 = true then
      (images_isSet a0 a2).bind fun v17 =>
      if v17 = true then
        (images_reach a0 a2).bind fun v18 =>
        loopG (images_Below_b8 a1 v18) LFm 0
      else
        some (ByteArray.empty, false, 1)
    else
      some (ByteArray.empty, false, 1)
  else
    some (ByteArray.empty, false, v15)
theorem images_Below_ok {a0 : DFA} {a1 : Int} {a2 : Int} {r : ByteArray × Bool × Int} (h0 : images_Below a0 a1 a2 = some r) : L 25 [.agg [.sc (.int .i64 a0.letters), .sc (.int .i64 a0.start), .sl a0.final.length (a0.final.map fun x0 => .sc (.bool x0)), .sl a0.next.length (a0.next.map fun x0 => .sl x0.length (x0.map fun x1 => .sc (.int .i64 x1)))], .sc (.int .i64 a1), .sc (.int .i64 a2)] = some (.tup [.sc (.string r.1), .sc (.bool r.2.1), .sc (.int .i64 r.2.2)], [.dead, .dead, .dead]) := by
  simp only [images_Below] at h0
  refine L_run cfn25 fn25 (runF_of bd25 ⟨of_decide_eq_true rfl, of_decide_eq_true rfl⟩ ?_)
  simp only [entryF, entryT, entryO, entryE, isIo]
  refine zq rfl (zr rfl rfl rfl (by simp; rfl) ?_)
  refine thenC_n (zq rfl (zq rfl ?_))
  obtain ⟨v15, f23, h1⟩ := bnd_some h0
  have f23k := images_validate_ok f23
  try simp at f23k
  refine zr rfl rfl rfl (by simp [f23k]; rfl) ?_
  refine thenC_n (zq rfl (zr rfl rfl rfl (by simp; rfl) ?_))
  refine thenC_n ?_
  by_cases c24 : v15 = 0
  · rw [if_pos c24] at h1
    have c24e := eq_true c24
    refine q_ifF rfl (by simp [c24e]) (q_skip rfl (thenC_n (zq rfl (zq rfl ?_))))
    obtain ⟨v16, f25, h2⟩ := bnd_some h1
    have f25k := images_isSet_ok f25
    try simp at f25k
    by_cases c26 : v16 = true
    · rw [if_pos c26] at h2
      obtain ⟨v17, f27, h3⟩ := bnd_some h2
      have f27k := images_isSet_ok f27
      try simp at f27k
      refine zr rfl rfl rfl (by simp [f25k, c26, f27k]; rfl) ?_
      refine thenC_n ?_
      by_cases c28 : v17 = true
      · rw [if_pos c28] at h3
        refine q_ifF rfl (by simp [c28]) (q_skip rfl (thenC_n (zq rfl ?_)))
        obtain ⟨v18, f29, h4⟩ := bnd_some h3
        have f29k := images_reach_ok f29
        try simp at f29k
        refine zr rfl rfl rfl (by simp [f29k]; rfl) ?_
        refine thenC_n (zq rfl (zq rfl (zr rfl rfl rfl (by simp; rfl) ?_)))
        refine thenC_n (zb rfl (q_loopG h4 (images_Below_h8 a1 v18) rfl rfl (by simp [images_Below_h8]) fun s o1 h5 hr1 => ?_))
        obtain ⟨w22, hs1⟩ : ∃ y, y = s := ⟨_, rfl⟩
        subst hs1
        simp only [images_Below_b8] at h5
        simp only [images_Below_h8]
        refine zq rfl (zr rfl rfl rfl (by simp; rfl) ?_)
        refine thenC_n (zq rfl ?_)
        by_cases c40 : w22 < (v18.1.length : Int)
        · rw [if_pos c40] at h5
          refine q_ifT rfl (by simp [c40]) (q_skip rfl (thenC_n (zq rfl (zb rfl (zq rfl ?_)))))
          obtain ⟨v26, f41, h6⟩ := bnd_some h5
          obtain ⟨f41a, f41b, f41c, f41d, f41e⟩ := atI_some f41
          refine zr rfl rfl rfl (by simp [f41a, f41b, f41c, f41d, f41e]; rfl) ?_
          refine thenC_n (zq rfl ?_)
          obtain ⟨v27, f42, h7⟩ := bnd_some h6
          have f42k := images_contains_ok f42
          try simp at f42k
          refine zr rfl rfl rfl (by simp [f42k]; rfl) ?_
          refine thenC_n ?_
          by_cases c43 : v27 = true
          · rw [if_pos c43] at h7
            refine q_ifT rfl (by simp [c43]) (zq rfl ?_)
            obtain ⟨v28, f44, h8⟩ := bnd_some h7
            obtain ⟨f44a, f44b, f44c, f44d, f44e⟩ := atI_some f44
            refine zr rfl rfl rfl (by simp [f44a, f44b, f44c, f44d, f44e]; rfl) ?_
            refine thenC_n (q_ret rfl (blockC_r (thenC_r ?_)))
            obtain ⟨rr1, h9, ho1⟩ := exit_some h8
            have hs1 := hr1 _ ho1
            subst hs1
            refine roundC_r ho1 (blockC_r (thenC_r ?_))
            cases h9
            simp [c43]
          · rw [if_neg c43] at h7
            refine q_ifF rfl (by simp [c43]) (q_skip rfl (blockC_n (thenC_n (zr rfl rfl rfl (by simp; rfl) ?_))))
            have ho := next_some h7
            refine roundC_n ho ?_
            simp [images_Below_h8, c43]
        · rw [if_neg c40] at h5
          refine q_ifF rfl (by simp [c40]) (q_exit rfl (thenC_x ?_))
          obtain ⟨rr1, h6, ho1⟩ := exit_some h5
          have hs1 := hr1 _ ho1
          subst hs1
          refine roundC_x ho1 (blockC_hit2 rfl (thenC_n (zq rfl (zr rfl rfl rfl (by simp; rfl) ?_))))
          refine thenC_n (q_ret rfl ?_)
          cases h6
          simp
      · rw [if_neg c28] at h3
        refine q_ifT rfl (by simp [c28]) (zq rfl (zr rfl rfl rfl (by simp; rfl) ?_))
        refine thenC_n (q_ret rfl (thenC_r ?_))
        cases h3
        simp [c26, c28]
    · rw [if_neg c26] at h2
      refine zr rfl rfl rfl (by simp [f25k, c26]; rfl) ?_
      refine thenC_n (q_ifT rfl (by simp) (zq rfl (zr rfl rfl rfl (by simp; rfl) ?_)))
      refine thenC_n (q_ret rfl (thenC_r ?_))
      cases h2
      simp [c26]
  · rw [if_neg c24] at h1
    have c24e := eq_false c24
    refine q_ifT rfl (by simp [c24e]) (zq rfl (zr rfl rfl rfl (by simp; rfl) ?_))
    refine thenC_n (q_ret rfl (thenC_r ?_))
    cases h1
    simp

-- semigroup/semigroupref24.Below
def ref24_Below_b8 (a1 : Int) (v15 : List Int × List ByteArray) : Int → Option (Int ⊕ (ByteArray × Bool × Int))
  | w18 =>
  if w18 < (v15.1.length : Int) then
    (atI v15.1 w18).bind fun v21 =>
    if (andI .i64 a1 v21) = a1 then
      (atI v15.2 w18).bind fun v22 =>
      exitG <|
      some (v22, true, 0)
    else
      nextG (IntKind.i64.wrap (w18 + 1))
  else
    exitG <|
    some (ByteArray.empty, false, 0)
def ref24_Below_h8 (a1 : Int) (v15 : List Int × List ByteArray) : Int → Fr
  | w18 => ⟨52, [(1, .one (.t none (.sc (.int .i64 a1)))), (11, .one (.h 11 [])), (35, .one (.h 10 [])), (36, .one (.t none (.sc (.int .i64 (v15.1.length : Int))))), (37, .one (.t none (.sc (.int .i64 w18))))], [(11, .os 1 v15.2.length (v15.2.map fun x0 => .sc (.string x0))), (10, .os 1 v15.1.length (v15.1.map fun x0 => .sc (.int .i64 x0)))]⟩
def ref24_Below (a0 : DFA) (a1 : Int) (a2 : Int) : Option (ByteArray × Bool × Int) :=
  (ref24_May a0).bind fun v12 =>
  if v12 = 0 then
    (ref24_IsSet a0 a1).bind fun v13 =>
    if v13 = true then
      (ref24_IsSet a0 a2).bind fun v14 =>
      if v14 = true then
        (ref24_Reach a0 a2).bind fun v15 =>
        loopG (ref24_Below_b8 a1 v15) LFm 0
      else
        some (ByteArray.empty, false, 1)
    else
      some (ByteArray.empty, false, 1)
  else
    some (ByteArray.empty, false, v12)
theorem ref24_Below_ok {a0 : DFA} {a1 : Int} {a2 : Int} {r : ByteArray × Bool × Int} (h0 : ref24_Below a0 a1 a2 = some r) : L 26 [.agg [.sc (.int .i64 a0.letters), .sc (.int .i64 a0.start), .sl a0.final.length (a0.final.map fun x0 => .sc (.bool x0)), .sl a0.next.length (a0.next.map fun x0 => .sl x0.length (x0.map fun x1 => .sc (.int .i64 x1)))], .sc (.int .i64 a1), .sc (.int .i64 a2)] = some (.tup [.sc (.string r.1), .sc (.bool r.2.1), .sc (.int .i64 r.2.2)], [.dead, .dead, .dead]) := by
  simp only [ref24_Below] at h0
  refine L_run cfn26 fn26 (runF_of bd26 ⟨of_decide_eq_true rfl, of_decide_eq_true rfl⟩ ?_)
  simp only [entryF, entryT, entryO, entryE, isIo]
  refine zq rfl (zr rfl rfl rfl (by simp; rfl) ?_)
  refine thenC_n (zq rfl (zq rfl ?_))
  obtain ⟨v12, f20, h1⟩ := bnd_some h0
  have f20k := ref24_May_ok f20
  try simp at f20k
  refine zr rfl rfl rfl (by simp [f20k]; rfl) ?_
  refine thenC_n (zq rfl (zr rfl rfl rfl (by simp; rfl) ?_))
  refine thenC_n ?_
  by_cases c21 : v12 = 0
  · rw [if_pos c21] at h1
    have c21e := eq_true c21
    refine q_ifF rfl (by simp [c21e]) (q_skip rfl (thenC_n (zq rfl (zq rfl ?_))))
    obtain ⟨v13, f22, h2⟩ := bnd_some h1
    have f22k := ref24_IsSet_ok f22
    try simp at f22k
    by_cases c23 : v13 = true
    · rw [if_pos c23] at h2
      obtain ⟨v14, f24, h3⟩ := bnd_some h2
      have f24k := ref24_IsSet_ok f24
      try simp at f24k
      refine zr rfl rfl rfl (by simp [f22k, c23, f24k]; rfl) ?_
      refine thenC_n ?_
      by_cases c25 : v14 = true
      · rw [if_pos c25] at h3
        refine q_ifF rfl (by simp [c25]) (q_skip rfl (thenC_n (zq rfl ?_)))
        obtain ⟨v15, f26, h4⟩ := bnd_some h3
        have f26k := ref24_Reach_ok f26
        try simp at f26k
        refine zr rfl rfl rfl (by simp [f26k]; rfl) ?_
        refine thenC_n (zq rfl (zq rfl (zr rfl rfl rfl (by simp; rfl) ?_)))
        refine thenC_n (zb rfl (q_loopG h4 (ref24_Below_h8 a1 v15) rfl rfl (by simp [ref24_Below_h8]) fun s o1 h5 hr1 => ?_))
        obtain ⟨w18, hs1⟩ : ∃ y, y = s := ⟨_, rfl⟩
        subst hs1
        simp only [ref24_Below_b8] at h5
        simp only [ref24_Below_h8]
        refine zq rfl (zr rfl rfl rfl (by simp; rfl) ?_)
        refine thenC_n (zq rfl ?_)
        by_cases c35 : w18 < (v15.1.length : Int)
        · rw [if_pos c35] at h5
          refine q_ifT rfl (by simp [c35]) (q_skip rfl (thenC_n (zq rfl (zb rfl (zq rfl ?_)))))
          obtain ⟨v21, f36, h6⟩ := bnd_some h5
          obtain ⟨f36a, f36b, f36c, f36d, f36e⟩ := atI_some f36
          refine zr rfl rfl rfl (by simp [f36a, f36b, f36c, f36d, f36e]; rfl) ?_
          refine thenC_n (zq rfl (zr rfl rfl rfl (by simp; rfl) ?_))
          refine thenC_n ?_
          by_cases c37 : (andI .i64 a1 v21) = a1
          · rw [if_pos c37] at h6
            have c37e := eq_true c37
            refine q_ifT rfl (by simp [c37e]) (zq rfl ?_)
            obtain ⟨v22, f38, h7⟩ := bnd_some h6
            obtain ⟨f38a, f38b, f38c, f38d, f38e⟩ := atI_some f38
            refine zr rfl rfl rfl (by simp [f38a, f38b, f38c, f38d, f38e]; rfl) ?_
            refine thenC_n (q_ret rfl (blockC_r (thenC_r ?_)))
            obtain ⟨rr1, h8, ho1⟩ := exit_some h7
            have hs1 := hr1 _ ho1
            subst hs1
            refine roundC_r ho1 (blockC_r (thenC_r ?_))
            cases h8
            simp
          · rw [if_neg c37] at h6
            have c37e := eq_false c37
            refine q_ifF rfl (by simp [c37e]) (q_skip rfl (blockC_n (thenC_n (zr rfl rfl rfl (by simp; rfl) ?_))))
            have ho := next_some h6
            refine roundC_n ho ?_
            simp [ref24_Below_h8]
        · rw [if_neg c35] at h5
          refine q_ifF rfl (by simp [c35]) (q_exit rfl (thenC_x ?_))
          obtain ⟨rr1, h6, ho1⟩ := exit_some h5
          have hs1 := hr1 _ ho1
          subst hs1
          refine roundC_x ho1 (blockC_hit2 rfl (thenC_n (zq rfl (zr rfl rfl rfl (by simp; rfl) ?_))))
          refine thenC_n (q_ret rfl ?_)
          cases h6
          simp
      · rw [if_neg c25] at h3
        refine q_ifT rfl (by simp [c25]) (zq rfl (zr rfl rfl rfl (by simp; rfl) ?_))
        refine thenC_n (q_ret rfl (thenC_r ?_))
        cases h3
        simp [c23, c25]
    · rw [if_neg c23] at h2
      refine zr rfl rfl rfl (by simp [f22k, c23]; rfl) ?_
      refine thenC_n (q_ifT rfl (by simp) (zq rfl (zr rfl rfl rfl (by simp; rfl) ?_)))
      refine thenC_n (q_ret rfl (thenC_r ?_))
      cases h2
      simp [c23]
  · rw [if_neg c21] at h1
    have c21e := eq_false c21
    refine q_ifT rfl (by simp [c21e]) (zq rfl (zr rfl rfl rfl (by simp; rfl) ?_))
    refine thenC_n (q_ret rfl (thenC_r ?_))
    cases h1
    simp

-- semigroup/semigroupref24.Size
def ref24_Size_b2 : Int × Int → Option ((Int × Int) ⊕ Int)
  | (w3, w4) =>
  if 0 < w3 then
    chk (¬ 1 < 0) <|
    nextG (shrI .i64 w3 1, IntKind.i64.wrap (w4 + (andI .i64 w3 1)))
  else
    exitG <|
    some w4
def ref24_Size_h2 : Int × Int → Fr
  | (w3, w4) => ⟨13, [(0, .one (.t none (.sc (.int .i64 w3)))), (3, .one (.t none (.sc (.int .i64 w4))))], []⟩
def ref24_Size (a0 : Int) : Option (Int) :=
  loopG (ref24_Size_b2) LFm (a0, 0)
theorem ref24_Size_ok {a0 : Int} {r : Int} (h0 : ref24_Size a0 = some r) : L 18 [.sc (.int .i64 a0)] = some (.sc (.int .i64 r), [.dead]) := by
  simp only [ref24_Size] at h0
  refine L_run cfn18 fn18 (runF_of bd18 ⟨of_decide_eq_true rfl, of_decide_eq_true rfl⟩ ?_)
  simp only [entryF, entryT, entryO, entryE, isIo]
  refine zq rfl (zr rfl rfl rfl (by simp; rfl) ?_)
  refine thenC_n (zq rfl (zr rfl rfl rfl (by simp; rfl) ?_))
  refine thenC_n (zq rfl (zb rfl (q_loopG h0 ref24_Size_h2 rfl rfl (by simp [ref24_Size_h2]) fun s o1 h1 hr1 => ?_)))
  obtain ⟨w3, w4⟩ := s
  simp only [ref24_Size_b2] at h1
  simp only [ref24_Size_h2]
  refine zq rfl (zq rfl (zr rfl rfl rfl (by simp; rfl) ?_))
  refine thenC_n ?_
  by_cases c11 : 0 < w3
  · rw [if_pos c11] at h1
    refine q_ifT rfl (by simp [c11]) (q_skip rfl (thenC_n (zq rfl (zb rfl (zr rfl rfl rfl (by simp; rfl) ?_)))))
    refine blockC_n (thenC_n ?_)
    obtain ⟨f12, h2⟩ := chk_some h1
    refine zr rfl rfl rfl (by simp [f12]; rfl) ?_
    have ho := next_some h2
    refine roundC_n ho ?_
    simp [ref24_Size_h2]
  · rw [if_neg c11] at h1
    refine q_ifF rfl (by simp [c11]) (q_exit rfl (thenC_x ?_))
    obtain ⟨rr1, h2, ho1⟩ := exit_some h1
    have hs1 := hr1 _ ho1
    subst hs1
    refine roundC_x ho1 (blockC_hit2 rfl (thenC_n (zq rfl (zr rfl rfl rfl (by simp; rfl) ?_))))
    refine thenC_n (q_ret rfl ?_)
    cases h2
    simp

-- math/bits.OnesCount64
def math_bits_OnesCount64 (a0 : Int) : Option (Int) :=
  chk (¬ 1 < 0) <|
  chk (¬ 2 < 0) <|
  chk (¬ 4 < 0) <|
  chk (¬ 8 < 0) <|
  chk (¬ 16 < 0) <|
  chk (¬ 32 < 0) <|
  some (andI .i64 (IntKind.i64.wrap (IntKind.u64.wrap ((IntKind.u64.wrap ((IntKind.u64.wrap ((andI .u64 (IntKind.u64.wrap ((shrI .u64 (IntKind.u64.wrap ((andI .u64 (shrI .u64 (IntKind.u64.wrap ((andI .u64 (shrI .u64 a0 1) 6148914691236517205) + (andI .u64 a0 6148914691236517205))) 2) 3689348814741910323) + (andI .u64 (IntKind.u64.wrap ((andI .u64 (shrI .u64 a0 1) 6148914691236517205) + (andI .u64 a0 6148914691236517205))) 3689348814741910323))) 4) + (IntKind.u64.wrap ((andI .u64 (shrI .u64 (IntKind.u64.wrap ((andI .u64 (shrI .u64 a0 1) 6148914691236517205) + (andI .u64 a0 6148914691236517205))) 2) 3689348814741910323) + (andI .u64 (IntKind.u64.wrap ((andI .u64 (shrI .u64 a0 1) 6148914691236517205) + (andI .u64 a0 6148914691236517205))) 3689348814741910323))))) 1085102592571150095) + (shrI .u64 (andI .u64 (IntKind.u64.wrap ((shrI .u64 (IntKind.u64.wrap ((andI .u64 (shrI .u64 (IntKind.u64.wrap ((andI .u64 (shrI .u64 a0 1) 6148914691236517205) + (andI .u64 a0 6148914691236517205))) 2) 3689348814741910323) + (andI .u64 (IntKind.u64.wrap ((andI .u64 (shrI .u64 a0 1) 6148914691236517205) + (andI .u64 a0 6148914691236517205))) 3689348814741910323))) 4) + (IntKind.u64.wrap ((andI .u64 (shrI .u64 (IntKind.u64.wrap ((andI .u64 (shrI .u64 a0 1) 6148914691236517205) + (andI .u64 a0 6148914691236517205))) 2) 3689348814741910323) + (andI .u64 (IntKind.u64.wrap ((andI .u64 (shrI .u64 a0 1) 6148914691236517205) + (andI .u64 a0 6148914691236517205))) 3689348814741910323))))) 1085102592571150095) 8))) + (shrI .u64 (IntKind.u64.wrap ((andI .u64 (IntKind.u64.wrap ((shrI .u64 (IntKind.u64.wrap ((andI .u64 (shrI .u64 (IntKind.u64.wrap ((andI .u64 (shrI .u64 a0 1) 6148914691236517205) + (andI .u64 a0 6148914691236517205))) 2) 3689348814741910323) + (andI .u64 (IntKind.u64.wrap ((andI .u64 (shrI .u64 a0 1) 6148914691236517205) + (andI .u64 a0 6148914691236517205))) 3689348814741910323))) 4) + (IntKind.u64.wrap ((andI .u64 (shrI .u64 (IntKind.u64.wrap ((andI .u64 (shrI .u64 a0 1) 6148914691236517205) + (andI .u64 a0 6148914691236517205))) 2) 3689348814741910323) + (andI .u64 (IntKind.u64.wrap ((andI .u64 (shrI .u64 a0 1) 6148914691236517205) + (andI .u64 a0 6148914691236517205))) 3689348814741910323))))) 1085102592571150095) + (shrI .u64 (andI .u64 (IntKind.u64.wrap ((shrI .u64 (IntKind.u64.wrap ((andI .u64 (shrI .u64 (IntKind.u64.wrap ((andI .u64 (shrI .u64 a0 1) 6148914691236517205) + (andI .u64 a0 6148914691236517205))) 2) 3689348814741910323) + (andI .u64 (IntKind.u64.wrap ((andI .u64 (shrI .u64 a0 1) 6148914691236517205) + (andI .u64 a0 6148914691236517205))) 3689348814741910323))) 4) + (IntKind.u64.wrap ((andI .u64 (shrI .u64 (IntKind.u64.wrap ((andI .u64 (shrI .u64 a0 1) 6148914691236517205) + (andI .u64 a0 6148914691236517205))) 2) 3689348814741910323) + (andI .u64 (IntKind.u64.wrap ((andI .u64 (shrI .u64 a0 1) 6148914691236517205) + (andI .u64 a0 6148914691236517205))) 3689348814741910323))))) 1085102592571150095) 8))) 16))) + (shrI .u64 (IntKind.u64.wrap ((IntKind.u64.wrap ((andI .u64 (IntKind.u64.wrap ((shrI .u64 (IntKind.u64.wrap ((andI .u64 (shrI .u64 (IntKind.u64.wrap ((andI .u64 (shrI .u64 a0 1) 6148914691236517205) + (andI .u64 a0 6148914691236517205))) 2) 3689348814741910323) + (andI .u64 (IntKind.u64.wrap ((andI .u64 (shrI .u64 a0 1) 6148914691236517205) + (andI .u64 a0 6148914691236517205))) 3689348814741910323))) 4) + (IntKind.u64.wrap ((andI .u64 (shrI .u64 (IntKind.u64.wrap ((andI .u64 (shrI .u64 a0 1) 6148914691236517205) + (andI .u64 a0 6148914691236517205))) 2) 3689348814741910323) + (andI .u64 (IntKind.u64.wrap ((andI .u64 (shrI .u64 a0 1) 6148914691236517205) + (andI .u64 a0 6148914691236517205))) 3689348814741910323))))) 1085102592571150095) + (shrI .u64 (andI .u64 (IntKind.u64.wrap ((shrI .u64 (IntKind.u64.wrap ((andI .u64 (shrI .u64 (IntKind.u64.wrap ((andI .u64 (shrI .u64 a0 1) 6148914691236517205) + (andI .u64 a0 6148914691236517205))) 2) 3689348814741910323) + (andI .u64 (IntKind.u64.wrap ((andI .u64 (shrI .u64 a0 1) 6148914691236517205) + (andI .u64 a0 6148914691236517205))) 3689348814741910323))) 4) + (IntKind.u64.wrap ((andI .u64 (shrI .u64 (IntKind.u64.wrap ((andI .u64 (shrI .u64 a0 1) 6148914691236517205) + (andI .u64 a0 6148914691236517205))) 2) 3689348814741910323) + (andI .u64 (IntKind.u64.wrap ((andI .u64 (shrI .u64 a0 1) 6148914691236517205) + (andI .u64 a0 6148914691236517205))) 3689348814741910323))))) 1085102592571150095) 8))) + (shrI .u64 (IntKind.u64.wrap ((andI .u64 (IntKind.u64.wrap ((shrI .u64 (IntKind.u64.wrap ((andI .u64 (shrI .u64 (IntKind.u64.wrap ((andI .u64 (shrI .u64 a0 1) 6148914691236517205) + (andI .u64 a0 6148914691236517205))) 2) 3689348814741910323) + (andI .u64 (IntKind.u64.wrap ((andI .u64 (shrI .u64 a0 1) 6148914691236517205) + (andI .u64 a0 6148914691236517205))) 3689348814741910323))) 4) + (IntKind.u64.wrap ((andI .u64 (shrI .u64 (IntKind.u64.wrap ((andI .u64 (shrI .u64 a0 1) 6148914691236517205) + (andI .u64 a0 6148914691236517205))) 2) 3689348814741910323) + (andI .u64 (IntKind.u64.wrap ((andI .u64 (shrI .u64 a0 1) 6148914691236517205) + (andI .u64 a0 6148914691236517205))) 3689348814741910323))))) 1085102592571150095) + (shrI .u64 (andI .u64 (IntKind.u64.wrap ((shrI .u64 (IntKind.u64.wrap ((andI .u64 (shrI .u64 (IntKind.u64.wrap ((andI .u64 (shrI .u64 a0 1) 6148914691236517205) + (andI .u64 a0 6148914691236517205))) 2) 3689348814741910323) + (andI .u64 (IntKind.u64.wrap ((andI .u64 (shrI .u64 a0 1) 6148914691236517205) + (andI .u64 a0 6148914691236517205))) 3689348814741910323))) 4) + (IntKind.u64.wrap ((andI .u64 (shrI .u64 (IntKind.u64.wrap ((andI .u64 (shrI .u64 a0 1) 6148914691236517205) + (andI .u64 a0 6148914691236517205))) 2) 3689348814741910323) + (andI .u64 (IntKind.u64.wrap ((andI .u64 (shrI .u64 a0 1) 6148914691236517205) + (andI .u64 a0 6148914691236517205))) 3689348814741910323))))) 1085102592571150095) 8))) 16))) 32)))) 127)
theorem math_bits_OnesCount64_ok {a0 : Int} {r : Int} (h0 : math_bits_OnesCount64 a0 = some r) : L 91 [.sc (.int .u64 a0)] = some (.sc (.int .i64 r), [.dead]) := by
  simp only [math_bits_OnesCount64] at h0
  refine L_run cfn91 fn91 (runF_of bd91 ⟨of_decide_eq_true rfl, of_decide_eq_true rfl⟩ ?_)
  simp only [entryF, entryT, entryO, entryE, isIo]
  refine zq rfl (zr rfl rfl rfl (by simp; rfl) ?_)
  refine thenC_n (zq rfl ?_)
  obtain ⟨f7, h1⟩ := chk_some h0
  refine zr rfl rfl rfl (by simp [f7]; rfl) ?_
  refine thenC_n (zq rfl ?_)
  obtain ⟨f8, h2⟩ := chk_some h1
  refine zr rfl rfl rfl (by simp [f8]; rfl) ?_
  refine thenC_n (zq rfl ?_)
  obtain ⟨f9, h3⟩ := chk_some h2
  refine zr rfl rfl rfl (by simp [f9]; rfl) ?_
  refine thenC_n (zq rfl ?_)
  obtain ⟨f10, h4⟩ := chk_some h3
  refine zr rfl rfl rfl (by simp [f10]; rfl) ?_
  refine thenC_n (zq rfl ?_)
  obtain ⟨f11, h5⟩ := chk_some h4
  refine zr rfl rfl rfl (by simp [f11]; rfl) ?_
  refine thenC_n (zq rfl ?_)
  obtain ⟨f12, h6⟩ := chk_some h5
  refine zr rfl rfl rfl (by simp [f12]; rfl) ?_
  refine thenC_n (zq rfl (zr rfl rfl rfl (by simp; rfl) ?_))
  refine thenC_n (q_ret rfl ?_)
  cases h6
  simp

-- math/bits.OnesCount
def math_bits_OnesCount (a0 : Int) : Option (Int) :=
  (math_bits_OnesCount64 a0).bind fun v2 =>
  some v2
theorem math_bits_OnesCount_ok {a0 : Int} {r : Int} (h0 : math_bits_OnesCount a0 = some r) : L 78 [.sc (.int .u64 a0)] = some (.sc (.int .i64 r), [.dead]) := by
  simp only [math_bits_OnesCount] at h0
  refine L_run cfn78 fn78 (runF_of bd78 ⟨of_decide_eq_true rfl, of_decide_eq_true rfl⟩ ?_)
  simp only [entryF, entryT, entryO, entryE, isIo]
  refine zq rfl (zr rfl rfl rfl (by simp; rfl) ?_)
  refine thenC_n (zq rfl (q_ifF rfl (by simp) (q_skip rfl (thenC_n (zq rfl ?_)))))
  obtain ⟨v2, f2, h1⟩ := bnd_some h0
  have f2k := math_bits_OnesCount64_ok f2
  try simp at f2k
  refine zr rfl rfl rfl (by simp [f2k]; rfl) ?_
  refine thenC_n (q_ret rfl ?_)
  cases h1
  simp

-- semigroup/images.size
def images_size (a0 : Int) : Option (Int) :=
  (math_bits_OnesCount (IntKind.u64.wrap a0)).bind fun v2 =>
  some v2
theorem images_size_ok {a0 : Int} {r : Int} (h0 : images_size a0 = some r) : L 68 [.sc (.int .i64 a0)] = some (.sc (.int .i64 r), [.dead]) := by
  simp only [images_size] at h0
  refine L_run cfn68 fn68 (runF_of bd68 ⟨of_decide_eq_true rfl, of_decide_eq_true rfl⟩ ?_)
  simp only [entryF, entryT, entryO, entryE, isIo]
  refine zq rfl (zr rfl rfl rfl (by simp; rfl) ?_)
  refine thenC_n (zq rfl ?_)
  obtain ⟨v2, f2, h1⟩ := bnd_some h0
  have f2k := math_bits_OnesCount_ok f2
  try simp at f2k
  refine zr rfl rfl rfl (by simp [f2k]; rfl) ?_
  refine thenC_n (q_ret rfl ?_)
  cases h1
  simp
end
end Go.Proofs.Ytbnnipkanechoaa
end
section
/- Plain: sets of states as numbers. -/
namespace Go.Proofs.Ytbnnipkanechoaa
open Go
set_option linter.unusedVariables false
set_option linter.unusedSimpArgs false
set_option maxRecDepth 100000

theorem wrap_nat {a : Nat} (h : a < 2 ^ 62) : IntKind.i64.wrap (a : Int) = (a : Int) := wrapI (by omega) (by omega)
theorem andI_nat {a b : Nat} (ha : a < 2 ^ 62) (hb : b < 2 ^ 62) : andI .i64 (a : Int) (b : Int) = ((a &&& b : Nat) : Int) := by
  unfold andI
  have e : (BitVec.ofInt IntKind.i64.bits (a : Int) &&& BitVec.ofInt IntKind.i64.bits (b : Int)).toNat = a &&& b := by
    show (BitVec.ofInt 64 (a : Int) &&& BitVec.ofInt 64 (b : Int)).toNat = _
    rw [BitVec.toNat_and, BitVec.toNat_ofInt, BitVec.toNat_ofInt]
    have h1 : ((a : Int) % ((2 ^ 64 : Nat) : Int)).toNat = a := by omega
    have h2 : ((b : Int) % ((2 ^ 64 : Nat) : Int)).toNat = b := by omega
    rw [h1, h2]
  rw [e]
  exact wrap_nat (Nat.lt_of_le_of_lt Nat.and_le_left ha)
theorem or_lt {a b k : Nat} (ha : a < 2 ^ k) (hb : b < 2 ^ k) : a ||| b < 2 ^ k := Nat.or_lt_two_pow ha hb
theorem orI_nat {a b : Nat} (ha : a < 2 ^ 62) (hb : b < 2 ^ 62) : orI .i64 (a : Int) (b : Int) = ((a ||| b : Nat) : Int) := by
  unfold orI
  have e : (BitVec.ofInt IntKind.i64.bits (a : Int) ||| BitVec.ofInt IntKind.i64.bits (b : Int)).toNat = a ||| b := by
    show (BitVec.ofInt 64 (a : Int) ||| BitVec.ofInt 64 (b : Int)).toNat = _
    rw [BitVec.toNat_or, BitVec.toNat_ofInt, BitVec.toNat_ofInt]
    have h1 : ((a : Int) % ((2 ^ 64 : Nat) : Int)).toNat = a := by omega
    have h2 : ((b : Int) % ((2 ^ 64 : Nat) : Int)).toNat = b := by omega
    rw [h1, h2]
  rw [e]
  exact wrap_nat (or_lt ha hb)
theorem andNotI_nat {a b : Nat} (ha : a < 2 ^ 62) (hb : b < 2 ^ 62) : andNotI .i64 (a : Int) (b : Int) = 0 ↔ a &&& b = a := by
  unfold andNotI
  have e : (BitVec.ofInt IntKind.i64.bits (a : Int) &&& ~~~ BitVec.ofInt IntKind.i64.bits (b : Int)).toNat = (BitVec.ofNat 64 a &&& ~~~ BitVec.ofNat 64 b).toNat := by
    show (BitVec.ofInt 64 (a : Int) &&& ~~~ BitVec.ofInt 64 (b : Int)).toNat = _
    congr 2
  rw [e]
  have hle : (BitVec.ofNat 64 a &&& ~~~ BitVec.ofNat 64 b).toNat ≤ a := by
    rw [BitVec.toNat_and]
    refine Nat.le_trans Nat.and_le_left ?_
    simp only [BitVec.toNat_ofNat]
    omega
  rw [wrap_nat (by omega)]
  have ta : ∀ i, (BitVec.ofNat 64 a).toNat.testBit i = a.testBit i := fun i => by
    rw [BitVec.toNat_ofNat, Nat.mod_eq_of_lt (by omega)]
  have tb : ∀ i, (BitVec.ofNat 64 b).toNat.testBit i = b.testBit i := fun i => by
    rw [BitVec.toNat_ofNat, Nat.mod_eq_of_lt (by omega)]
  have hz : ∀ i, (BitVec.ofNat 64 a &&& ~~~ BitVec.ofNat 64 b).toNat.testBit i = (a.testBit i && !(b.testBit i)) := fun i => by
    rw [BitVec.testBit_toNat, BitVec.getLsbD_and, BitVec.getLsbD_not]
    by_cases hi : i < 64
    · simp only [hi, decide_true, Bool.true_and]
      rw [← BitVec.testBit_toNat, ← BitVec.testBit_toNat, ta, tb]
    · have : a.testBit i = false := Nat.testBit_lt_two_pow (Nat.lt_of_lt_of_le ha (Nat.pow_le_pow_right (by omega) (by omega)))
      rw [← BitVec.testBit_toNat, ta, this]; simp
  constructor
  · intro h
    have h0 : (BitVec.ofNat 64 a &&& ~~~ BitVec.ofNat 64 b).toNat = 0 := by omega
    apply Nat.eq_of_testBit_eq
    intro i
    have := hz i
    rw [h0, Nat.zero_testBit] at this
    rw [Nat.testBit_and]
    revert this
    cases a.testBit i <;> cases b.testBit i <;> simp
  · intro h
    have : (BitVec.ofNat 64 a &&& ~~~ BitVec.ofNat 64 b).toNat = 0 := by
      apply Nat.eq_of_testBit_eq
      intro i
      have e2 : (a &&& b).testBit i = a.testBit i := by rw [h]
      rw [Nat.testBit_and] at e2
      rw [hz, Nat.zero_testBit]
      revert e2
      cases a.testBit i <;> cases b.testBit i <;> simp
    omega
theorem shrI_nat {a q : Nat} (hq : q ≤ 64) : shrI .i64 (a : Int) (q : Int) = ((a >>> q : Nat) : Int) := by
  unfold shrI
  have e : min ((q : Int).toNat) IntKind.i64.bits = q := by
    show min ((q : Int).toNat) 64 = q
    omega
  rw [e, Nat.shiftRight_eq_div_pow, Int.fdiv_eq_ediv_of_nonneg _ (by exact Int.pow_nonneg (by omega))]
  simp
theorem shlI_one {q : Nat} (hq : q ≤ 61) : shlI .i64 1 (q : Int) = ((2 ^ q : Nat) : Int) := by
  rw [shlI_eq]
  have e : min ((q : Int).toNat) IntKind.i64.bits = q := by
    show min ((q : Int).toNat) 64 = q
    omega
  rw [e, Int.one_mul]
  have : ((2 : Int) ^ q) = ((2 ^ q : Nat) : Int) := by simp
  rw [this]
  exact wrap_nat (Nat.pow_lt_pow_right (by omega) (by omega))
theorem bit_iff {a q : Nat} (ha : a < 2 ^ 62) (hq : q ≤ 64) : (andI .i64 (shrI .i64 (a : Int) (q : Int)) 1 = 1) ↔ a.testBit q = true := by
  rw [shrI_nat hq, show (1 : Int) = ((1 : Nat) : Int) from rfl, andI_nat (by rw [Nat.shiftRight_eq_div_pow]; exact Nat.lt_of_le_of_lt (Nat.div_le_self _ _) ha) (by decide), Nat.testBit]
  have : (1 &&& a >>> q) = (a >>> q) &&& 1 := Nat.and_comm ..
  rw [this]
  have h2 := Nat.and_one_is_mod (a >>> q)
  rw [h2]
  simp only [bne_iff_ne, ne_eq]
  omega
theorem wrapU {q : Nat} (h : q < 2 ^ 62) : IntKind.u64.wrap (q : Int) = (q : Int) := by rw [IntKind.wrap_u64]; omega

/-- The image of a set under a letter, so far. -/
def mvTo (rows : List (List Int)) (s a : Nat) : Nat → Nat
  | 0 => 0
  | q + 1 => if s.testBit q = true then mvTo rows s a q ||| 2 ^ ((rows.getD q []).getD a 0).toNat else mvTo rows s a q
def mvN (d : DFA) (s a : Nat) : Nat := mvTo d.next s a d.next.length
theorem row_get {d : DFA} {m n : Nat} (hd : DfaOk d m n) {q a : Nat} (hq : q < n) (ha : a < m) : ∃ h1 : q < d.next.length, ∃ h2 : a < d.next[q].length, (d.next.getD q []).getD a 0 = d.next[q][a] ∧ 0 ≤ d.next[q][a] ∧ d.next[q][a] < n := by
  have h1 : q < d.next.length := by rw [hd.nl]; exact hq
  have hr := hd.row _ (List.getElem_mem h1)
  have h2 : a < d.next[q].length := by rw [hr.1]; exact ha
  exact ⟨h1, h2, by simp [List.getD, h1, h2], hr.2 _ (List.getElem_mem h2)⟩
theorem mvTo_bit {d : DFA} {m n : Nat} (hd : DfaOk d m n) {s a : Nat} (ha : a < m) (p : Nat) : ∀ q, q ≤ n → ((mvTo d.next s a q).testBit p = true ↔ ∃ i, i < q ∧ s.testBit i = true ∧ ((d.next.getD i []).getD a 0).toNat = p)
  | 0, _ => by simp [mvTo]
  | q + 1, hq => by
    have ih := mvTo_bit hd (s := s) ha p q (by omega)
    unfold mvTo
    by_cases hb : s.testBit q = true
    · rw [if_pos hb, Nat.testBit_or, Bool.or_eq_true, ih, Nat.testBit_two_pow]
      constructor
      · rintro (⟨i, h1, h2, h3⟩ | h)
        · exact ⟨i, by omega, h2, h3⟩
        · exact ⟨q, by omega, hb, by simpa using h⟩
      · rintro ⟨i, h1, h2, h3⟩
        by_cases e : i = q
        · subst e; right; simpa using h3
        · left; exact ⟨i, by omega, h2, h3⟩
    · rw [if_neg hb, ih]
      constructor
      · rintro ⟨i, h1, h2, h3⟩; exact ⟨i, by omega, h2, h3⟩
      · rintro ⟨i, h1, h2, h3⟩
        by_cases e : i = q
        · subst e; exact absurd h2 hb
        · exact ⟨i, by omega, h2, h3⟩
theorem mvTo_lt {d : DFA} {m n : Nat} (hd : DfaOk d m n) {s a : Nat} (ha : a < m) : ∀ q, q ≤ n → mvTo d.next s a q < 2 ^ n
  | 0, _ => Nat.two_pow_pos n
  | q + 1, hq => by
    have ih := mvTo_lt hd (s := s) ha q (by omega)
    unfold mvTo
    split
    · obtain ⟨h1, h2, e, h3, h4⟩ := row_get hd (q := q) (by omega) ha
      refine or_lt ih (Nat.pow_lt_pow_right (by omega) ?_)
      rw [e]; omega
    · exact ih
theorem mvN_bit {d : DFA} {m n : Nat} (hd : DfaOk d m n) {s a : Nat} (ha : a < m) (p : Nat) : (mvN d s a).testBit p = true ↔ ∃ i, i < n ∧ s.testBit i = true ∧ ((d.next.getD i []).getD a 0).toNat = p := by
  unfold mvN; rw [hd.nl]; exact mvTo_bit hd ha p n (Nat.le_refl _)
theorem mvN_lt {d : DFA} {m n : Nat} (hd : DfaOk d m n) {s a : Nat} (ha : a < m) : mvN d s a < 2 ^ n := by
  unfold mvN; rw [hd.nl]; exact mvTo_lt hd ha n (Nat.le_refl _)
theorem pow12 {n : Nat} (h : n ≤ 12) : 2 ^ n ≤ 4096 := Nat.pow_le_pow_right (n := 2) (by omega) h
theorem move_eq {d : DFA} {m n : Nat} (hd : DfaOk d m n) (hn : n ≤ 12) {s a : Nat} (hs : s < 2 ^ n) (ha : a < m) : images_move d (s : Int) (a : Int) = some ((mvN d s a : Nat) : Int) := by
  have h12 := pow12 hn
  unfold images_move mvN
  refine loop_to (s := ((0 : Int), (0 : Int))) n (fun q => (((mvTo d.next s a q : Nat) : Int), (q : Int))) rfl (by simp only [LFm]; omega) (fun q hq => ?_) ?_
  · have hlt := mvTo_lt hd (s := s) ha q (by omega)
    obtain ⟨h1, h2, e, h3, h4⟩ := row_get hd (q := q) hq ha
    simp only [images_move_b3]
    rw [if_pos (by omega), atI_nat h1]
    simp only [Option.bind_some]
    rw [chk_pos _ (by omega), wrapS (by omega)]
    by_cases hb : s.testBit q = true
    · rw [if_pos ((bit_iff (by omega) (by omega)).2 hb), atI_nat h2]
      simp only [Option.bind_some]
      obtain ⟨v, hv⟩ := Int.eq_ofNat_of_zero_le h3
      rw [chk_pos _ (by omega), hv, shlI_one (by omega), orI_nat (by omega) (Nat.pow_lt_pow_right (by omega) (by omega))]
      simp only [mvTo]
      rw [if_pos hb, e, hv, Int.toNat_natCast]
    · rw [if_neg (fun h => hb ((bit_iff (by omega) (by omega)).1 h))]
      simp only [mvTo]
      rw [if_neg hb]
  · simp only [images_move_b3]
    rw [if_neg (by rw [hd.nl]; omega), hd.nl]
theorem Letter_eq {d : DFA} {m n : Nat} (hd : DfaOk d m n) (hn : n ≤ 12) {s a : Nat} (hs : s < 2 ^ n) (ha : a < m) : ref24_Letter d (s : Int) (a : Int) = some ((mvN d s a : Nat) : Int) := by
  have h12 := pow12 hn
  unfold ref24_Letter mvN
  refine loop_to (s := ((0 : Int), (0 : Int))) n (fun q => (((mvTo d.next s a q : Nat) : Int), (q : Int))) rfl (by simp only [LFm]; omega) (fun q hq => ?_) ?_
  · have hlt := mvTo_lt hd (s := s) ha q (by omega)
    obtain ⟨h1, h2, e, h3, h4⟩ := row_get hd (q := q) hq ha
    simp only [ref24_Letter_b3]
    rw [if_pos (by rw [hd.fin]; omega), wrapU (by omega), chk_pos _ (by omega), wrapS (by omega)]
    by_cases hb : s.testBit q = true
    · rw [if_pos ((bit_iff (by omega) (by omega)).2 hb), atI_nat h1]
      simp only [Option.bind_some]
      rw [atI_nat h2]
      simp only [Option.bind_some]
      obtain ⟨v, hv⟩ := Int.eq_ofNat_of_zero_le h3
      rw [hv, wrapU (by omega), chk_pos _ (by omega), shlI_one (by omega), orI_nat (by omega) (Nat.pow_lt_pow_right (by omega) (by omega))]
      simp only [mvTo]
      rw [if_pos hb, e, hv, Int.toNat_natCast]
    · rw [if_neg (fun h => hb ((bit_iff (by omega) (by omega)).1 h))]
      simp only [mvTo]
      rw [if_neg hb]
  · simp only [ref24_Letter_b3]
    rw [if_neg (by rw [hd.fin]; omega), hd.nl]
end Go.Proofs.Ytbnnipkanechoaa
end
section
/- Plain: valid automata, words, sets; images of sets under words. -/
namespace Go.Proofs.Ytbnnipkanechoaa
open Go
set_option linter.unusedVariables false
set_option linter.unusedSimpArgs false
set_option maxRecDepth 100000

/-- A row is one of n states over the automaton's letters. -/
def rowB (d : DFA) (r : List Int) : Bool := decide ((r.length : Int) = d.letters) && r.all fun x => decide (0 ≤ x ∧ x < (d.final.length : Int))
def shapeB (d : DFA) : Bool := decide (d.next.length = d.final.length) && decide (0 ≤ d.start ∧ d.start < (d.final.length : Int)) && d.next.all (rowB d)
/-- What validation answers. -/
def valE (d : DFA) : Int := if d.letters < 1 ∨ 6 < d.letters then 1 else if 512 < d.final.length then 3 else if shapeB d = true then 0 else 4
/-- Its lists are of a length that a machine counts. -/
def cntB (d : DFA) : Prop := d.final.length < 2 ^ 61 ∧ d.next.length < 2 ^ 61 ∧ ∀ r ∈ d.next, r.length < 2 ^ 61
theorem val_rows {d : DFA} (hc : cntB d) : loopG (dfa_Validate_b9 d) LFm 0 = some (if d.next.all (rowB d) = true then 0 else 4) := by
  rw [list_loop (l := d.next) ([] : List Int) (rowB d) (A := some 4) (B := some 0) (by have := hc.2.1; omega) (fun k hk => ?_) ?_]
  · split <;> rfl
  · simp only [dfa_Validate_b9]
    rw [if_neg (by omega)]
  · simp only [dfa_Validate_b9]
    have hkl := hc.2.1
    have hrl := hc.2.2 _ (List.getElem_mem hk)
    rw [if_pos (by omega), atI_nat hk]
    simp only [Option.bind_some, List.getD, List.getElem?_eq_getElem hk, Option.getD_some]
    by_cases hl : (d.next[k].length : Int) = d.letters
    · rw [if_pos hl]
      rw [list_loop (l := d.next[k]) (0 : Int) (fun x => decide (0 ≤ x ∧ x < (d.final.length : Int))) (A := exitG (some 4)) (B := nextG ((k + 1 : Nat) : Int)) (by omega) (fun j hj => ?_) ?_]
      · simp only [rowB, hl, decide_true, Bool.true_and]
      · simp only [dfa_Validate_b14]
        rw [if_neg (by omega), wrapS (by omega)]
      · simp only [dfa_Validate_b14]
        rw [if_pos (by omega), atI_nat hj]
        simp only [Option.bind_some, List.getD, List.getElem?_eq_getElem hj, Option.getD_some]
        by_cases h1 : d.next[k][j] < 0
        · rw [if_pos h1, if_neg (by simp; omega)]
        · rw [if_neg h1]
          by_cases h2 : (d.final.length : Int) ≤ d.next[k][j]
          · rw [if_pos h2, if_neg (by simp; omega)]
          · rw [if_neg h2, if_pos (by simp; omega), wrapS (by omega)]
    · rw [if_neg hl]
      rw [if_neg (by simp [rowB, hl])]
theorem dfaVal_eq {d : DFA} (hc : cntB d) : dfa_Validate d = some (valE d) := by
  unfold dfa_Validate valE
  by_cases h1 : d.letters < 1
  · rw [if_pos h1, if_pos (.inl h1)]
  rw [if_neg h1]
  by_cases h2 : 6 < d.letters
  · rw [if_pos h2, if_pos (.inr h2)]
  have hno : ¬ (d.letters < 1 ∨ 6 < d.letters) := by omega
  rw [if_neg h2, if_neg hno]
  by_cases h3 : 512 < (d.final.length : Int)
  · have h3' : 512 < d.final.length := by omega
    rw [if_pos h3, if_pos h3']
  have h3' : ¬ 512 < d.final.length := by omega
  rw [if_neg h3, if_neg h3']
  by_cases h4 : (d.next.length : Int) = (d.final.length : Int)
  · rw [if_pos h4]
    by_cases h5 : d.start < 0
    · rw [if_pos h5, if_neg (by simp [shapeB]; omega)]
    rw [if_neg h5]
    by_cases h6 : (d.final.length : Int) ≤ d.start
    · rw [if_pos h6, if_neg (by simp [shapeB]; omega)]
    rw [if_neg h6, val_rows hc]
    congr 1
    have e1 : decide (d.next.length = d.final.length) = true := by simp; omega
    have e2 : decide (0 ≤ d.start ∧ d.start < (d.final.length : Int)) = true := by simp; omega
    simp only [shapeB, e1, e2, Bool.true_and]
  · rw [if_neg h4, if_neg (by simp [shapeB]; omega)]
theorem b9_same (d : DFA) : ref07_Validate_b9 d = dfa_Validate_b9 d := rfl
theorem refVal_eq {d : DFA} (hc : cntB d) : ref07_Validate d = some (valE d) := by
  unfold ref07_Validate ref01_MayLetters valE
  by_cases h1 : 1 ≤ d.letters
  · rw [if_pos h1]
    simp only [Option.bind_some]
    by_cases h2 : 6 < d.letters
    · have hno : d.letters < 1 ∨ 6 < d.letters := .inr h2
      rw [if_neg (by simp; omega), if_pos hno]
    · have hno : ¬ (d.letters < 1 ∨ 6 < d.letters) := by omega
      rw [if_pos (by simp; omega), if_neg hno]
      by_cases h3 : 512 < (d.final.length : Int)
      · have h3' : 512 < d.final.length := by omega
        rw [if_pos h3, if_pos h3']
      have h3' : ¬ 512 < d.final.length := by omega
      rw [if_neg h3, if_neg h3']
      by_cases h0 : (d.final.length : Int) = 0
      · rw [if_pos h0, if_neg (by simp [shapeB]; omega)]
      rw [if_neg h0]
      by_cases h4 : (d.next.length : Int) = (d.final.length : Int)
      · rw [if_pos h4]
        by_cases h5 : d.start < 0
        · rw [if_pos h5, if_neg (by simp [shapeB]; omega)]
        rw [if_neg h5]
        by_cases h6 : (d.final.length : Int) ≤ d.start
        · rw [if_pos h6, if_neg (by simp [shapeB]; omega)]
        rw [if_neg h6, b9_same, val_rows hc]
        congr 1
        have e1 : decide (d.next.length = d.final.length) = true := by simp; omega
        have e2 : decide (0 ≤ d.start ∧ d.start < (d.final.length : Int)) = true := by simp; omega
        simp only [shapeB, e1, e2, Bool.true_and]
      · rw [if_neg h4, if_neg (by simp [shapeB]; omega)]
  · rw [if_neg h1]
    simp only [Option.bind_some]
    have hno : d.letters < 1 ∨ 6 < d.letters := by omega
    rw [if_pos hno]
    rfl
/-- What the functions of chapter 24 ask. -/
def mayE (d : DFA) : Int := if valE d = 0 then (if 12 < d.final.length then 3 else 0) else valE d
theorem validate_eq {d : DFA} (hc : cntB d) : images_validate d = some (mayE d) := by
  unfold images_validate mayE
  rw [dfaVal_eq hc]
  simp only [Option.bind_some]
  split
  · split
    · rw [if_pos (by omega)]
    · rw [if_neg (by omega)]
  · rfl
theorem May_eq {d : DFA} (hc : cntB d) : ref24_May d = some (mayE d) := by
  unfold ref24_May mayE
  rw [refVal_eq hc]
  simp only [Option.bind_some]
  split
  · split
    · rw [if_pos (by omega)]
    · rw [if_neg (by omega)]
  · rfl
theorem val_ok {d : DFA} {m n : Nat} (hd : DfaOk d m n) (hn : n ≤ 512) : valE d = 0 := by
  have h1 := hd.lt
  have h2 := hd.m1
  have h3 := hd.m6
  have hf := hd.fin
  have hl := hd.nl
  unfold valE
  rw [if_neg (by omega), if_neg (by omega), if_pos]
  have e1 : decide (d.next.length = d.final.length) = true := by simp; omega
  have e2 : decide (0 ≤ d.start ∧ d.start < (d.final.length : Int)) = true := by have := hd.s0; have := hd.s1; simp; omega
  simp only [shapeB, e1, e2, Bool.true_and, List.all_eq_true]
  intro r hr
  obtain ⟨a, b⟩ := hd.row r hr
  have e3 : decide ((r.length : Int) = d.letters) = true := by simp; omega
  simp only [rowB, e3, Bool.true_and, List.all_eq_true, decide_eq_true_eq]
  intro x hx
  have := b x hx
  omega
theorem ok_val {d : DFA} (h : valE d = 0) : DfaOk d d.letters.toNat d.final.length ∧ d.final.length ≤ 512 := by
  unfold valE at h
  split at h
  · cases h
  split at h
  · cases h
  split at h
  case isFalse => cases h
  rename_i h1 h2 h3
  simp only [shapeB, Bool.and_eq_true, decide_eq_true_eq, List.all_eq_true, rowB] at h3
  obtain ⟨⟨h4, h5⟩, h6⟩ := h3
  refine ⟨⟨by omega, by omega, by omega, by omega, rfl, h4, h5.1, h5.2, fun r hr => ?_⟩, by omega⟩
  obtain ⟨a, b⟩ := h6 r hr
  exact ⟨by omega, fun x hx => b x hx⟩
theorem may_ok {d : DFA} {m n : Nat} (hd : DfaOk d m n) (hn : n ≤ 12) : mayE d = 0 := by
  have hf := hd.fin
  unfold mayE
  rw [val_ok hd (by omega), if_pos rfl, if_neg (by omega)]
theorem ok_may {d : DFA} (h : mayE d = 0) : DfaOk d d.letters.toNat d.final.length ∧ d.final.length ≤ 12 := by
  unfold mayE at h
  split at h
  · rename_i hv
    split at h
    · cases h
    · exact ⟨(ok_val hv).1, by omega⟩
  · rename_i hv
    exact absurd h hv
theorem cnt_ok {d : DFA} {m n : Nat} (hd : DfaOk d m n) (hn : n ≤ 12) : cntB d := ⟨by rw [hd.fin]; omega, by rw [hd.nl]; omega, fun r hr => by have := (hd.row r hr).1; have := hd.m6; omega⟩

/-! Words. -/
theorem wordValid_same (w : ByteArray) (m : Int) : word_Valid w m = ref01_Valid w m := by
  unfold word_Valid ref01_Valid ref01_MayLetters
  by_cases h1 : m < 1
  · rw [if_pos h1, if_neg (by omega)]; rfl
  rw [if_neg h1]
  have h1' : 1 ≤ m := by omega
  by_cases h2 : 6 < m
  · rw [if_pos h2, if_pos h1']
    simp only [Option.bind_some]
    rw [if_neg (by simp; omega)]
  rw [if_neg h2, if_pos h1']
  simp only [Option.bind_some]
  rw [if_pos (show decide (m ≤ 6) = true by simp; omega)]
  rfl
def letterB (m : Int) (c : UInt8) : Bool := decide (97 ≤ c.toNat) && decide ((c.toNat : Int) < 97 + m)
theorem wrapLetter {k : Nat} (h : 97 ≤ k) (h2 : k < 256) : IntKind.i64.wrap (IntKind.u8.wrap ((k : Int) - 97)) = ((k - 97 : Nat) : Int) := by
  rw [wrap8 (by omega) (by omega), wrapI (by omega) (by omega)]; omega
theorem byte_getD {w : ByteArray} {k : Nat} (h : k < w.size) : w[k] = w.data.toList.getD k 0 := by
  have h' : k < w.data.toList.length := by rw [Array.length_toList]; exact h
  rw [List.getD, List.getElem?_eq_getElem h', Option.getD_some, Array.getElem_toList]
  rfl
theorem Valid_eq {w : ByteArray} {m : Int} (hm : 1 ≤ m ∧ m ≤ 6) : ref01_Valid w m = some (decide (w.size ≤ 2048) && w.data.toList.all (letterB m)) := by
  unfold ref01_Valid ref01_MayLetters
  rw [if_pos hm.1]
  simp only [Option.bind_some]
  rw [if_pos (show decide (m ≤ 6) = true by simp; omega)]
  by_cases h : 2048 < (w.size : Int)
  · rw [if_pos h, show decide (w.size ≤ 2048) = false by simp; omega]; rfl
  rw [if_neg h, show decide (w.size ≤ 2048) = true by simp; omega, Bool.true_and]
  have hl : w.data.toList.length = w.size := by rw [Array.length_toList]; rfl
  rw [loop_find (s := (0 : Int)) w.size (fun k => (k : Int)) (fun k => !letterB m (w.data.toList.getD k 0)) (fun _ => some false) (x := some true) rfl (by simp only [LFm]; omega)]
  · rw [find_all]
    simp only [Bool.not_not]
    rw [← hl, range_all]
    cases w.data.toList.all (letterB m) <;> rfl
  · intro k hk
    have hb : w[k].toNat < 256 := w[k].toNat_lt
    simp only [ref01_Valid_b4]
    rw [if_pos (by omega), byteI_nat hk]
    simp only [Option.bind_some]
    rw [← byte_getD hk]
    by_cases h1 : (w[k].toNat : Int) < 97
    · have : letterB m w[k] = false := by simp only [letterB, Bool.and_eq_false_iff, decide_eq_false_iff_not]; omega
      simp only [h1, this, Bool.not_false, if_true]
    · rw [if_neg h1, wrapLetter (by omega) hb]
      by_cases h2 : m ≤ ((w[k].toNat - 97 : Nat) : Int)
      · have : letterB m w[k] = false := by simp only [letterB, Bool.and_eq_false_iff, decide_eq_false_iff_not]; omega
        simp only [h2, this, Bool.not_false, if_true]
      · have : letterB m w[k] = true := by simp only [letterB, Bool.and_eq_true, decide_eq_true_eq]; omega
        rw [if_neg h2, this, if_neg (by simp), wrapS (by omega)]
  · simp only [ref01_Valid_b4]
    rw [if_neg (by omega)]
/-- A word over the letters, short enough. -/
def wordB (m : Nat) (w : ByteArray) : Prop := w.size ≤ 2048 ∧ ∀ c ∈ w.data.toList, 97 ≤ c.toNat ∧ c.toNat < 97 + m
instance (m : Nat) (w : ByteArray) : Decidable (wordB m w) := by unfold wordB; exact inferInstance
theorem Valid_word {w : ByteArray} {m : Nat} (hm : 1 ≤ m ∧ m ≤ 6) : ref01_Valid w (m : Int) = some (decide (wordB m w)) := by
  rw [Valid_eq (by omega)]
  congr 1
  rw [Bool.eq_iff_iff, decide_eq_true_iff]
  unfold wordB
  simp only [Bool.and_eq_true, decide_eq_true_eq, List.all_eq_true, letterB]
  constructor
  · rintro ⟨a, b⟩; exact ⟨a, fun c hc => by have := b c hc; omega⟩
  · rintro ⟨a, b⟩; exact ⟨a, fun c hc => by have := b c hc; omega⟩

/-! Sets. -/
theorem isSet_eq {d : DFA} {m n : Nat} (hd : DfaOk d m n) (hn : n ≤ 12) (s : Int) : images_isSet d s = some (decide (0 ≤ s ∧ s < ((2 ^ n : Nat) : Int))) := by
  unfold images_isSet
  rw [hd.fin]
  by_cases h : 0 ≤ s
  · rw [if_pos h, chk_pos _ (by omega), shlI_one (by omega)]
    congr 1
    rw [Bool.eq_iff_iff]; simp only [decide_eq_true_eq]; omega
  · rw [if_neg h]
    congr 1
    symm
    simp only [decide_eq_false_iff_not]; omega
theorem All_eq {d : DFA} {m n : Nat} (hd : DfaOk d m n) (hn : n ≤ 12) : ref24_All d = some (((2 ^ n - 1 : Nat) : Int)) := by
  have h12 := pow12 hn
  have hp := Nat.two_pow_pos n
  unfold ref24_All
  rw [hd.fin, wrapU (by omega), chk_pos _ (by omega), shlI_one (by omega), wrapI (by omega) (by omega)]
  congr 1
  omega
theorem IsSet_eq {d : DFA} {m n : Nat} (hd : DfaOk d m n) (hn : n ≤ 12) (s : Int) : ref24_IsSet d s = some (decide (0 ≤ s ∧ s < ((2 ^ n : Nat) : Int))) := by
  have hp := Nat.two_pow_pos n
  unfold ref24_IsSet
  by_cases h : 0 ≤ s
  · rw [if_pos h, All_eq hd hn]
    simp only [Option.bind_some]
    congr 1
    rw [Bool.eq_iff_iff]; simp only [decide_eq_true_eq]; omega
  · rw [if_neg h]
    congr 1
    symm
    simp only [decide_eq_false_iff_not]; omega
theorem contains_eq {r p : Nat} (hr : r < 2 ^ 62) (hp : p < 2 ^ 62) : images_contains (r : Int) (p : Int) = some (decide (p &&& r = p)) := by
  unfold images_contains
  congr 1
  rw [Bool.eq_iff_iff]; simp only [decide_eq_true_eq]
  exact andNotI_nat hp hr

/-! Images under words. -/
def runN (d : DFA) : Nat → List UInt8 → Nat
  | s, [] => s
  | s, c :: w => runN d (mvN d s (c.toNat - 97)) w
theorem runN_append (d : DFA) : ∀ (s : Nat) (u v : List UInt8), runN d s (u ++ v) = runN d (runN d s u) v
  | s, [], v => rfl
  | s, c :: u, v => by simp only [List.cons_append, runN, runN_append]
theorem runN_lt {d : DFA} {m n : Nat} (hd : DfaOk d m n) : ∀ {w : List UInt8} {s : Nat}, s < 2 ^ n → (∀ c ∈ w, 97 ≤ c.toNat ∧ c.toNat < 97 + m) → runN d s w < 2 ^ n
  | [], s, hs, _ => hs
  | c :: w, s, hs, hw => by
    have hc := hw c (List.mem_cons_self ..)
    exact runN_lt (w := w) (s := mvN d s (c.toNat - 97)) hd (mvN_lt hd (by omega)) fun c' hc' => hw c' (List.mem_cons_of_mem _ hc')
theorem take_snoc {α : Type} {l : List α} {k : Nat} (h : k < l.length) : l.take (k + 1) = l.take k ++ [l[k]] := by rw [List.take_succ_eq_append_getElem h]
theorem Word_eq {d : DFA} {m n : Nat} (hd : DfaOk d m n) (hn : n ≤ 12) {s : Nat} (hs : s < 2 ^ n) {w : ByteArray} (hw : wordB m w) : ref24_Word d (s : Int) w = some ((runN d s w.data.toList : Nat) : Int) := by
  have hl : w.data.toList.length = w.size := by rw [Array.length_toList]; rfl
  have h48 := hw.1
  unfold ref24_Word
  refine loop_to (s := ((s : Int), (0 : Int))) w.size (fun k => (((runN d s (w.data.toList.take k) : Nat) : Int), (k : Int))) rfl (by simp only [LFm]; omega) (fun k hk => ?_) ?_
  · have hk' : k < w.data.toList.length := by omega
    have hc := hw.2 _ (List.getElem_mem hk')
    have hb : w[k] = w.data.toList[k] := by rw [byte_getD hk, List.getD, List.getElem?_eq_getElem hk', Option.getD_some]
    have h256 : w[k].toNat < 256 := w[k].toNat_lt
    simp only [ref24_Word_b2]
    rw [if_pos (by omega), byteI_nat hk]
    simp only [Option.bind_some]
    rw [hb] at *
    rw [wrapLetter hc.1 h256, Letter_eq hd hn (runN_lt hd hs fun c hc => hw.2 c (List.mem_of_mem_take hc)) (by omega)]
    simp only [Option.bind_some]
    rw [wrapS (by omega), take_snoc hk', runN_append]
    rfl
  · simp only [ref24_Word_b2]
    rw [if_neg (by omega), ← hl, List.take_length]
theorem applyLoop_eq {d : DFA} {m n : Nat} (hd : DfaOk d m n) (hn : n ≤ 12) {s : Nat} (hs : s < 2 ^ n) {w : ByteArray} (hw : wordB m w) : loopG (images_Apply_b7 d w) LFm ((s : Int), 0) = some (((runN d s w.data.toList : Nat) : Int), 0) := by
  have hl : w.data.toList.length = w.size := by rw [Array.length_toList]; rfl
  have h48 := hw.1
  refine loop_to (s := ((s : Int), (0 : Int))) w.size (fun k => (((runN d s (w.data.toList.take k) : Nat) : Int), (k : Int))) rfl (by simp only [LFm]; omega) (fun k hk => ?_) ?_
  · have hk' : k < w.data.toList.length := by omega
    have hc := hw.2 _ (List.getElem_mem hk')
    have hb : w[k] = w.data.toList[k] := by rw [byte_getD hk, List.getD, List.getElem?_eq_getElem hk', Option.getD_some]
    have h256 : w[k].toNat < 256 := w[k].toNat_lt
    simp only [images_Apply_b7]
    rw [if_pos (by omega), byteI_nat hk]
    simp only [Option.bind_some]
    rw [hb] at *
    rw [wrapLetter hc.1 h256, move_eq hd hn (runN_lt hd hs fun c hc => hw.2 c (List.mem_of_mem_take hc)) (by omega)]
    simp only [Option.bind_some]
    rw [wrapS (by omega), take_snoc hk', runN_append]
    rfl
  · simp only [images_Apply_b7]
    rw [if_neg (by omega), ← hl, List.take_length]
/-- What Apply answers, on a valid automaton. -/
def applyE (d : DFA) (m n : Nat) (s : Int) (w : ByteArray) : Int × Int := if (0 ≤ s ∧ s < ((2 ^ n : Nat) : Int)) ∧ wordB m w then (((runN d s.toNat w.data.toList : Nat) : Int), 0) else (0, 1)
theorem Apply_eq {d : DFA} {m n : Nat} (hd : DfaOk d m n) (hn : n ≤ 12) (s : Int) (w : ByteArray) : images_Apply d s w = some (applyE d m n s w) := by
  unfold images_Apply applyE
  rw [validate_eq (cnt_ok hd hn), may_ok hd hn]
  simp only [Option.bind_some, if_true]
  rw [isSet_eq hd hn]
  simp only [Option.bind_some, decide_eq_true_eq]
  by_cases h : 0 ≤ s ∧ s < ((2 ^ n : Nat) : Int)
  · rw [if_pos h, wordValid_same, hd.lt, Valid_word ⟨hd.m1, hd.m6⟩]
    simp only [Option.bind_some, decide_eq_true_eq]
    by_cases hw : wordB m w
    · rw [if_pos hw, if_pos ⟨h, hw⟩]
      obtain ⟨k, rfl⟩ := Int.eq_ofNat_of_zero_le h.1
      rw [applyLoop_eq hd hn (by omega) hw, Int.toNat_natCast]
    · rw [if_neg hw, if_neg (fun hh => hw hh.2)]
  · rw [if_neg h, if_neg (fun hh => h hh.1)]
theorem refApply_eq {d : DFA} {m n : Nat} (hd : DfaOk d m n) (hn : n ≤ 12) (s : Int) (w : ByteArray) : ref24_Apply d s w = some (applyE d m n s w) := by
  unfold ref24_Apply applyE
  rw [May_eq (cnt_ok hd hn), may_ok hd hn]
  simp only [Option.bind_some, if_true]
  rw [IsSet_eq hd hn]
  simp only [Option.bind_some, decide_eq_true_eq]
  by_cases h : 0 ≤ s ∧ s < ((2 ^ n : Nat) : Int)
  · rw [if_pos h, hd.lt, Valid_word ⟨hd.m1, hd.m6⟩]
    simp only [Option.bind_some, decide_eq_true_eq]
    by_cases hw : wordB m w
    · rw [if_pos hw, if_pos ⟨h, hw⟩]
      obtain ⟨k, rfl⟩ := Int.eq_ofNat_of_zero_le h.1
      rw [Word_eq hd hn (by omega) hw, Int.toNat_natCast]
      rfl
    · rw [if_neg hw, if_neg (fun hh => hw hh.2)]
  · rw [if_neg h, if_neg (fun hh => h hh.1)]
end Go.Proofs.Ytbnnipkanechoaa
end
section
/- Plain: the images of a set under all words. -/
namespace Go.Proofs.Ytbnnipkanechoaa
open Go
set_option linter.unusedVariables false
set_option linter.unusedSimpArgs false
set_option maxRecDepth 100000

/-- A letter as a text. -/
def letW (a : Nat) : ByteArray := ⟨#[UInt8.ofNat (97 + a)]⟩
abbrev RS := List Nat × List ByteArray
def stepB (d : DFA) (i a : Nat) (st : RS) : RS := if mvN d (st.1.getD i 0) a ∈ st.1 then st else (st.1 ++ [mvN d (st.1.getD i 0) a], st.2 ++ [st.2.getD i ByteArray.empty ++ letW a])
def innB (d : DFA) (i : Nat) (st : RS) : Nat → RS
  | 0 => st
  | a + 1 => stepB d i a (innB d i st a)
def rchS (d : DFA) (m s : Nat) : Nat → RS
  | 0 => ([s], [ByteArray.empty])
  | k + 1 => if k < (rchS d m s k).1.length then innB d k (rchS d m s k) m else rchS d m s k
/-- What is known all along. -/
structure RInv (d : DFA) (m n s : Nat) (st : RS) : Prop where
  nd : st.1.Nodup
  lt : ∀ x ∈ st.1, x < 2 ^ n
  len : st.2.length = st.1.length
  f0 : st.1[0]? = some s
  w0 : st.2[0]? = some ByteArray.empty
  ok : ∀ i, i < st.1.length → (st.2.getD i ByteArray.empty).size ≤ i ∧ (∀ c ∈ (st.2.getD i ByteArray.empty).data.toList, 97 ≤ c.toNat ∧ c.toNat < 97 + m) ∧ runN d s (st.2.getD i ByteArray.empty).data.toList = st.1.getD i 0
theorem getD_app {α : Type} {l r : List α} {i : Nat} (d : α) (h : i < l.length) : (l ++ r).getD i d = l.getD i d := by
  rw [List.getD, List.getD, List.getElem?_append_left h]
theorem getD_last {α : Type} {l : List α} {x d : α} {i : Nat} (h : i = l.length) : (l ++ [x]).getD i d = x := by
  subst h; simp [List.getD]
theorem getD_mem {l : List Nat} {i : Nat} (h : i < l.length) : l.getD i 0 ∈ l := by
  rw [List.getD, List.getElem?_eq_getElem h]; exact List.getElem_mem h
theorem len_sub {α : Type} : ∀ {l r : List α}, l.Nodup → (∀ x ∈ l, x ∈ r) → l.length ≤ r.length
  | [], r, _, _ => by simp
  | x :: l, r, hn, hs => by
    obtain ⟨a, b, rfl⟩ := List.append_of_mem (hs x (List.mem_cons_self ..))
    have hn' := List.nodup_cons.1 hn
    have := len_sub (r := a ++ b) hn'.2 fun y hy => by
      have h1 := hs y (List.mem_cons_of_mem _ hy)
      have hne : y ≠ x := fun e => hn'.1 (e ▸ hy)
      rcases List.mem_append.1 h1 with h | h
      · exact List.mem_append.2 (.inl h)
      · rcases List.mem_cons.1 h with h | h
        · exact absurd h hne
        · exact List.mem_append.2 (.inr h)
    simp only [List.length_cons, List.length_append] at *
    omega
theorem nodup_len {l : List Nat} {N : Nat} (hn : l.Nodup) (hl : ∀ x ∈ l, x < N) : l.length ≤ N := by
  have := len_sub hn (r := List.range N) fun x hx => List.mem_range.2 (hl x hx)
  simpa using this
theorem letW_list (a : Nat) : (letW a).data.toList = [UInt8.ofNat (97 + a)] := rfl
theorem cat_list (u v : ByteArray) : (u ++ v).data.toList = u.data.toList ++ v.data.toList := by simp
theorem cat_size (u v : ByteArray) : (u ++ v).size = u.size + v.size := by simp
theorem letW_size (a : Nat) : (letW a).size = 1 := rfl
theorem letW_nat {a : Nat} (h : a < 26) : (UInt8.ofNat (97 + a)).toNat = 97 + a := by simp [UInt8.toNat_ofNat']; omega
theorem step_inv {d : DFA} {m n s : Nat} (hd : DfaOk d m n) {st : RS} (h : RInv d m n s st) {i a : Nat} (hi : i < st.1.length) (ha : a < m) :
    RInv d m n s (stepB d i a st) ∧ mvN d (st.1.getD i 0) a ∈ (stepB d i a st).1 ∧ ∃ S W, (stepB d i a st).1 = st.1 ++ S ∧ (stepB d i a st).2 = st.2 ++ W := by
  have hm6 := hd.m6
  unfold stepB
  split
  · rename_i hm
    exact ⟨h, hm, [], [], by simp, by simp⟩
  · rename_i hm
    obtain ⟨o1, o2, o3⟩ := h.ok i hi
    refine ⟨⟨?_, ?_, by simp [h.len], ?_, ?_, ?_⟩, by simp, _, _, rfl, rfl⟩
    · refine List.nodup_append.2 ⟨h.nd, by simp, fun x hx y hy => ?_⟩
      obtain rfl : y = _ := by simpa using hy
      exact fun e => hm (e ▸ hx)
    · intro x hx
      rcases List.mem_append.1 hx with hx | hx
      · exact h.lt x hx
      · obtain rfl : x = _ := by simpa using hx
        exact mvN_lt hd ha
    · rw [List.getElem?_append_left (by omega)]; exact h.f0
    · rw [List.getElem?_append_left (by rw [h.len]; omega)]; exact h.w0
    · intro j hj
      simp only [List.length_append, List.length_singleton] at hj
      by_cases e : j = st.1.length
      · rw [getD_last e, getD_last (by rw [h.len]; exact e), cat_size, cat_list, letW_list, letW_size, runN_append, o3]
        refine ⟨by omega, fun c hc => ?_, ?_⟩
        · rcases List.mem_append.1 hc with hc | hc
          · exact o2 c hc
          · obtain rfl := List.mem_singleton.1 hc
            rw [letW_nat (by omega)]; omega
        · simp only [runN]
          rw [letW_nat (by omega), Nat.add_sub_cancel_left]
      · rw [getD_app _ (show j < st.2.length by rw [h.len]; omega), getD_app _ (show j < st.1.length by omega)]
        exact h.ok j (by omega)
theorem inn_inv {d : DFA} {m n s : Nat} (hd : DfaOk d m n) {st : RS} (h : RInv d m n s st) {i : Nat} (hi : i < st.1.length) : ∀ a, a ≤ m →
    RInv d m n s (innB d i st a) ∧ (∀ b, b < a → mvN d (st.1.getD i 0) b ∈ (innB d i st a).1) ∧ (∃ S W, (innB d i st a).1 = st.1 ++ S ∧ (innB d i st a).2 = st.2 ++ W)
  | 0, _ => ⟨h, fun b hb => by omega, [], [], by simp [innB], by simp [innB]⟩
  | a + 1, ha => by
    obtain ⟨h1, h2, S, W, h3, h4⟩ := inn_inv hd h hi a (by omega)
    have hi' : i < (innB d i st a).1.length := by rw [h3, List.length_append]; omega
    obtain ⟨k1, k2, S', W', k3, k4⟩ := step_inv hd h1 hi' (show a < m by omega)
    have e : (innB d i st a).1.getD i 0 = st.1.getD i 0 := by rw [h3, getD_app _ hi]
    rw [e] at k2
    refine ⟨k1, fun b hb => ?_, S ++ S', W ++ W', by rw [innB, k3, h3, List.append_assoc], by rw [innB, k4, h4, List.append_assoc]⟩
    by_cases hb' : b = a
    · subst hb'; exact k2
    · rw [innB, k3]; exact List.mem_append.2 (.inl (h2 b (by omega)))
theorem seq_inv {d : DFA} {m n s : Nat} (hd : DfaOk d m n) (hs : s < 2 ^ n) : ∀ k, RInv d m n s (rchS d m s k) ∧ ∀ j, j < k → j < (rchS d m s k).1.length → ∀ a, a < m → mvN d ((rchS d m s k).1.getD j 0) a ∈ (rchS d m s k).1
  | 0 => ⟨⟨by simp [rchS], by simpa [rchS] using hs, rfl, rfl, rfl, fun i hi => by
      obtain rfl : i = 0 := by simpa [rchS] using hi
      exact ⟨Nat.le_refl _, fun c hc => by simp [rchS, List.getD] at hc, rfl⟩⟩, fun j hj => by omega⟩
  | k + 1 => by
    obtain ⟨h1, h2⟩ := seq_inv hd hs k
    unfold rchS
    split
    · rename_i hk
      obtain ⟨k1, k2, S, W, k3, k4⟩ := inn_inv hd h1 hk m (Nat.le_refl _)
      refine ⟨k1, fun j hj hjl a ha => ?_⟩
      by_cases e : j = k
      · subst e
        have := k2 a ha
        rwa [show (innB d j (rchS d m s j) m).1.getD j 0 = (rchS d m s j).1.getD j 0 by rw [k3, getD_app _ hk]]
      · have hj' : j < (rchS d m s k).1.length := by omega
        have := h2 j (by omega) hj' a ha
        rw [show (innB d k (rchS d m s k) m).1.getD j 0 = (rchS d m s k).1.getD j 0 by rw [k3, getD_app _ hj'], k3]
        exact List.mem_append.2 (.inl this)
    · rename_i hk
      exact ⟨h1, fun j hj hjl a ha => h2 j (by omega) hjl a ha⟩
theorem seq_len {d : DFA} {m n s : Nat} (hd : DfaOk d m n) (hs : s < 2 ^ n) (k : Nat) : (rchS d m s k).1.length ≤ 2 ^ n := nodup_len (seq_inv hd hs k).1.nd (seq_inv hd hs k).1.lt
theorem seq_stop {d : DFA} {m s : Nat} {k : Nat} (h : ¬ k < (rchS d m s k).1.length) : ∀ j, k ≤ j → rchS d m s j = rchS d m s k
  | 0, hj => by
    obtain rfl : k = 0 := by omega
    rfl
  | j + 1, hj => by
    by_cases e : k = j + 1
    · rw [e]
    · have ih := seq_stop h j (by omega)
      rw [rchS, ih, if_neg (by omega)]
/-- All that is reached. -/
def reachB (d : DFA) (m n s : Nat) : RS := rchS d m s (2 ^ n)
theorem reach_closed {d : DFA} {m n s : Nat} (hd : DfaOk d m n) (hs : s < 2 ^ n) {x a : Nat} (hx : x ∈ (reachB d m n s).1) (ha : a < m) : mvN d x a ∈ (reachB d m n s).1 := by
  obtain ⟨i, hi, rfl⟩ := List.getElem_of_mem hx
  have hl := seq_len hd hs (2 ^ n)
  have := (seq_inv hd hs (2 ^ n)).2 i (by unfold reachB at hi; omega) hi a ha
  have e : (rchS d m s (2 ^ n)).1.getD i 0 = (reachB d m n s).1[i] := by
    show (reachB d m n s).1.getD i 0 = _
    rw [List.getD, List.getElem?_eq_getElem hi, Option.getD_some]
  rw [e] at this
  exact this
theorem reach_inv {d : DFA} {m n s : Nat} (hd : DfaOk d m n) (hs : s < 2 ^ n) : RInv d m n s (reachB d m n s) := (seq_inv hd hs _).1

/-! The program's loops. -/
def toI (l : List Nat) : List Int := l.map fun x => ((x : Nat) : Int)
theorem toI_len (l : List Nat) : (toI l).length = l.length := by simp [toI]
theorem toI_snoc (l : List Nat) (x : Nat) : toI (l ++ [x]) = toI l ++ [((x : Nat) : Int)] := by simp [toI]
theorem toI_at {l : List Nat} {i : Nat} (h : i < l.length) : atI (toI l) (i : Int) = some ((l.getD i 0 : Nat) : Int) := by
  rw [atI_nat (by rw [toI_len]; exact h)]
  simp [toI, List.getD, h]
theorem strs_at {l : List ByteArray} {i : Nat} (h : i < l.length) : atI l (i : Int) = some (l.getD i ByteArray.empty) := by
  rw [atI_nat h, List.getD, List.getElem?_eq_getElem h, Option.getD_some]
def metL (n : Nat) (S : List Nat) : List Bool := (List.range (2 ^ n)).map fun x => decide (x ∈ S)
theorem met_at {n : Nat} {S : List Nat} {x : Nat} (h : x < 2 ^ n) : atI (metL n S) (x : Int) = some (decide (x ∈ S)) := by
  rw [atI_nat (by simpa [metL] using h)]; simp [metL]
theorem met_set {n : Nat} {S : List Nat} {x : Nat} : (metL n S).set x true = metL n (S ++ [x]) := by
  apply List.ext_getElem (by simp [metL])
  intro i h1 h2
  simp only [metL, List.getElem_set, List.getElem_map, List.getElem_range, List.mem_append, List.mem_singleton]
  by_cases e : x = i
  · subst e; simp
  · rw [if_neg e]
    have : ¬ i = x := fun h => e h.symm
    simp [this]
theorem met_first {n s : Nat} : (List.replicate (2 ^ n) false).set s true = metL n [s] := by
  have : List.replicate (2 ^ n) false = metL n [] := by
    apply List.ext_getElem (by simp [metL])
    intro i h1 h2
    simp [metL]
  rw [this, met_set]; rfl
def mapL (S : List Nat) : List (Int × Bool) := S.map fun x => (((x : Nat) : Int), true)
theorem map_get (x : Nat) : ∀ S : List Nat, ((getM ((x : Nat) : Int) (mapL S)).getD false) = decide (x ∈ S)
  | [] => rfl
  | y :: S => by
    have ih := map_get x S
    simp only [mapL, List.map_cons, getM]
    by_cases e : y = x
    · subst e; simp
    · rw [if_neg (by omega)]
      have : ¬ x = y := fun h => e h.symm
      simp only [List.mem_cons, this, false_or]
      exact ih
theorem map_set {x : Nat} : ∀ {S : List Nat}, x ∉ S → setM ((x : Nat) : Int) true (mapL S) = mapL (S ++ [x])
  | [], _ => rfl
  | y :: S, h => by
    have ih := map_set (x := x) (S := S) (fun hh => h (List.mem_cons_of_mem _ hh))
    have hne : y ≠ x := fun e => h (by simp [e])
    simp only [mapL, List.map_cons, setM, List.cons_append]
    rw [if_neg (by omega)]
    congr 1
theorem letI_eq {a : Nat} (h : a < 26) : (⟨#[UInt8.ofNat (IntKind.u8.wrap (IntKind.i64.wrap (97 + (a : Int)))).toNat]⟩ : ByteArray) = letW a := by
  rw [wrapI (by omega) (by omega), wrap8 (by omega) (by omega)]
  have : (97 + (a : Int)).toNat = 97 + a := by omega
  rw [this]; rfl
theorem inner_reach {d : DFA} {m n s : Nat} (hd : DfaOk d m n) (hn : n ≤ 12) {st : RS} (h : RInv d m n s st) {i : Nat} (hi : i < st.1.length) :
    loopG (images_reach_b8 d i) LFm (0, metL n st.1, toI st.1, st.2) = nextG (((i + 1 : Nat) : Int), metL n (innB d i st m).1, toI (innB d i st m).1, (innB d i st m).2) := by
  have h12 := pow12 hn
  have hm6 := hd.m6
  have hl := nodup_len h.nd h.lt
  refine loop_to (s := ((0 : Int), metL n st.1, toI st.1, st.2)) m (fun a => ((a : Int), metL n (innB d i st a).1, toI (innB d i st a).1, (innB d i st a).2)) rfl (by simp only [LFm]; omega) (fun a ha => ?_) ?_
  · obtain ⟨k1, _, S, W, k3, k4⟩ := inn_inv hd h hi a (by omega)
    have hl2 := nodup_len k1.nd k1.lt
    have hi' : i < (innB d i st a).1.length := by rw [k3, List.length_append]; omega
    have hx : (innB d i st a).1.getD i 0 < 2 ^ n := k1.lt _ (getD_mem hi')
    obtain ⟨o1, _, _⟩ := k1.ok i hi'
    simp only [images_reach_b8]
    rw [if_pos (by rw [hd.lt]; omega), toI_at hi']
    simp only [Option.bind_some]
    rw [move_eq hd hn hx ha]
    simp only [Option.bind_some]
    rw [met_at (mvN_lt hd ha)]
    simp only [Option.bind_some, decide_eq_true_eq]
    rw [wrapS (by omega), innB]
    unfold stepB
    have hml := mvN_lt hd (s := (innB d i st a).1.getD i 0) ha
    have hlt := hd.lt
    clear hd h k3 k4
    revert hml
    generalize innB d i st a = st' at *
    generalize mvN d (st'.1.getD i 0) a = x
    intro hml
    by_cases hm : x ∈ st'.1
    · rw [if_pos hm, if_pos hm]
    · rw [if_neg hm, if_neg hm, chk_pos _ (by unfold capOk; rw [toI_len]; omega), strs_at (by rw [k1.len]; exact hi'), Option.bind_some]
      rw [letI_eq (by omega), chk_pos _ (by unfold catOk; rw [letW_size]; omega), chk_pos _ (by unfold capOk; rw [k1.len]; omega), Int.toNat_natCast, met_set]
      rw [toI_snoc]
  · simp only [images_reach_b8]
    rw [if_neg (by rw [hd.lt]; omega), wrapS (by omega)]
theorem reach_eq {d : DFA} {m n s : Nat} (hd : DfaOk d m n) (hn : n ≤ 12) (hs : s < 2 ^ n) : images_reach d (s : Int) = some (toI (reachB d m n s).1, (reachB d m n s).2) := by
  have h12 := pow12 hn
  have hp := Nat.two_pow_pos n
  unfold images_reach
  rw [hd.fin, chk_pos _ (by omega), shlI_one (by omega), chk_pos _ (by unfold makeOk; omega), chk_pos _ (by omega), Int.toNat_natCast, Int.toNat_natCast, met_first]
  refine loopG_eq (s := ((0 : Int), metL n [s], [(s : Int)], [ByteArray.empty])) (fun z => ∃ k : Nat, k ≤ 2 ^ n ∧ z = ((k : Int), metL n (rchS d m s k).1, toI (rchS d m s k).1, (rchS d m s k).2)) (fun z => 2 ^ n + 1 - z.1.toNat) ⟨0, by omega, rfl⟩ (by simp only [LFm]; omega) ?_
  rintro z ⟨k, hk, rfl⟩
  have hl := seq_len hd hs k
  simp only [images_reach_b5]
  by_cases h : k < (rchS d m s k).1.length
  · left
    rw [if_pos (by rw [toI_len]; omega), inner_reach hd hn (seq_inv hd hs k).1 h]
    refine ⟨_, rfl, ⟨k + 1, by omega, ?_⟩, by simp only; omega⟩
    rw [rchS, if_pos h]
  · right
    rw [if_neg (by rw [toI_len]; omega)]
    unfold reachB
    rw [seq_stop h _ hk]
theorem inner_Reach {d : DFA} {m n s : Nat} (hd : DfaOk d m n) (hn : n ≤ 12) {st : RS} (h : RInv d m n s st) {i : Nat} (hi : i < st.1.length) :
    loopG (ref24_Reach_b7 d i) LFm (0, toI st.1, st.2, mapL st.1) = nextG (((i + 1 : Nat) : Int), toI (innB d i st m).1, (innB d i st m).2, mapL (innB d i st m).1) := by
  have h12 := pow12 hn
  have hm6 := hd.m6
  have hl := nodup_len h.nd h.lt
  refine loop_to (s := ((0 : Int), toI st.1, st.2, mapL st.1)) m (fun a => ((a : Int), toI (innB d i st a).1, (innB d i st a).2, mapL (innB d i st a).1)) rfl (by simp only [LFm]; omega) (fun a ha => ?_) ?_
  · obtain ⟨k1, _, S, W, k3, k4⟩ := inn_inv hd h hi a (by omega)
    have hl2 := nodup_len k1.nd k1.lt
    have hi' : i < (innB d i st a).1.length := by rw [k3, List.length_append]; omega
    have hx : (innB d i st a).1.getD i 0 < 2 ^ n := k1.lt _ (getD_mem hi')
    obtain ⟨o1, _, _⟩ := k1.ok i hi'
    simp only [ref24_Reach_b7]
    rw [if_pos (by rw [hd.lt]; omega), toI_at hi']
    simp only [Option.bind_some]
    rw [Letter_eq hd hn hx ha]
    simp only [Option.bind_some]
    rw [map_get]
    simp only [decide_eq_true_eq]
    rw [wrapS (by omega), innB]
    unfold stepB
    by_cases hm : mvN d ((innB d i st a).1.getD i 0) a ∈ (innB d i st a).1
    · rw [if_pos hm, if_pos hm]
    · rw [if_neg hm, if_neg hm, strs_at (by rw [k1.len]; exact hi'), Option.bind_some]
      rw [chk_pos _ (by unfold capOk; rw [toI_len]; omega), letI_eq (by omega), chk_pos _ (by unfold catOk; rw [letW_size]; omega), chk_pos _ (by unfold capOk; rw [k1.len]; omega), map_set hm, toI_snoc]
  · simp only [ref24_Reach_b7]
    rw [if_neg (by rw [hd.lt]; omega), wrapS (by omega)]
theorem Reach_eq {d : DFA} {m n s : Nat} (hd : DfaOk d m n) (hn : n ≤ 12) (hs : s < 2 ^ n) : ref24_Reach d (s : Int) = some (toI (reachB d m n s).1, (reachB d m n s).2) := by
  have h12 := pow12 hn
  have hp := Nat.two_pow_pos n
  unfold ref24_Reach
  refine loopG_eq (s := ((0 : Int), [(s : Int)], [ByteArray.empty], mapL [s])) (fun z => ∃ k : Nat, k ≤ 2 ^ n ∧ z = ((k : Int), toI (rchS d m s k).1, (rchS d m s k).2, mapL (rchS d m s k).1)) (fun z => 2 ^ n + 1 - z.1.toNat) ⟨0, by omega, rfl⟩ (by simp only [LFm]; omega) ?_
  rintro z ⟨k, hk, rfl⟩
  have hl := seq_len hd hs k
  simp only [ref24_Reach_b4]
  by_cases h : k < (rchS d m s k).1.length
  · left
    rw [if_pos (by rw [toI_len]; omega), inner_Reach hd hn (seq_inv hd hs k).1 h]
    refine ⟨_, rfl, ⟨k + 1, by omega, ?_⟩, by simp only; omega⟩
    rw [rchS, if_pos h]
  · right
    rw [if_neg (by rw [toI_len]; omega)]
    unfold reachB
    rw [seq_stop h _ hk]
end Go.Proofs.Ytbnnipkanechoaa
end
section
/- Plain: which images contain a set. -/
namespace Go.Proofs.Ytbnnipkanechoaa
open Go
set_option linter.unusedVariables false
set_option linter.unusedSimpArgs false
set_option maxRecDepth 100000

abbrev isB (n : Nat) (s : Int) : Prop := 0 ≤ s ∧ s < ((2 ^ n : Nat) : Int)
def findB (p : Nat) (st : RS) : ByteArray × Bool × Int := match (List.range st.1.length).find? fun k => decide (p &&& st.1.getD k 0 = p) with
  | some k => (st.2.getD k ByteArray.empty, true, 0)
  | none => (ByteArray.empty, false, 0)
def belE (d : DFA) (m n : Nat) (p r : Int) : ByteArray × Bool × Int := if isB n p ∧ isB n r then findB p.toNat (reachB d m n r.toNat) else (ByteArray.empty, false, 1)
theorem find_opt {α : Type} {f : Nat → α} {o : Option Nat} {x : α} : (match o with | some k => some (f k) | none => some x) = some (match o with | some k => f k | none => x) := by cases o <;> rfl
theorem below_loop {d : DFA} {m n s : Nat} (hd : DfaOk d m n) (hn : n ≤ 12) (hs : s < 2 ^ n) {p : Nat} (hp : p < 2 ^ n) : loopG (images_Below_b8 (p : Int) (toI (reachB d m n s).1, (reachB d m n s).2)) LFm 0 = some (findB p (reachB d m n s)) := by
  have h12 := pow12 hn
  have hi := reach_inv hd hs
  have hl := nodup_len hi.nd hi.lt
  rw [loop_find (s := (0 : Int)) (reachB d m n s).1.length (fun k => (k : Int)) (fun k => decide (p &&& (reachB d m n s).1.getD k 0 = p)) (fun k => some ((reachB d m n s).2.getD k ByteArray.empty, true, 0)) (x := some (ByteArray.empty, false, 0)) rfl (by simp only [LFm]; omega)]
  · unfold findB; exact find_opt
  · intro k hk
    have hx := hi.lt _ (getD_mem hk)
    simp only [images_Below_b8]
    rw [if_pos (by rw [toI_len]; omega), toI_at hk, Option.bind_some, contains_eq (by omega) (by omega), Option.bind_some]
    simp only [decide_eq_true_eq]
    split
    · rw [strs_at (by rw [hi.len]; exact hk), Option.bind_some]
    · rw [wrapS (by omega)]
  · simp only [images_Below_b8]
    rw [if_neg (by rw [toI_len]; omega)]
theorem Below_loop {d : DFA} {m n s : Nat} (hd : DfaOk d m n) (hn : n ≤ 12) (hs : s < 2 ^ n) {p : Nat} (hp : p < 2 ^ n) : loopG (ref24_Below_b8 (p : Int) (toI (reachB d m n s).1, (reachB d m n s).2)) LFm 0 = some (findB p (reachB d m n s)) := by
  have h12 := pow12 hn
  have hi := reach_inv hd hs
  have hl := nodup_len hi.nd hi.lt
  rw [loop_find (s := (0 : Int)) (reachB d m n s).1.length (fun k => (k : Int)) (fun k => decide (p &&& (reachB d m n s).1.getD k 0 = p)) (fun k => some ((reachB d m n s).2.getD k ByteArray.empty, true, 0)) (x := some (ByteArray.empty, false, 0)) rfl (by simp only [LFm]; omega)]
  · unfold findB; exact find_opt
  · intro k hk
    have hx := hi.lt _ (getD_mem hk)
    simp only [ref24_Below_b8]
    rw [if_pos (by rw [toI_len]; omega), toI_at hk, Option.bind_some, andI_nat (by omega) (by omega)]
    simp only [decide_eq_true_eq]
    by_cases h : p &&& (reachB d m n s).1.getD k 0 = p
    · rw [if_pos (by rw [h]), if_pos h, strs_at (by rw [hi.len]; exact hk), Option.bind_some]
    · rw [if_neg (by omega), if_neg h, wrapS (by omega)]
  · simp only [ref24_Below_b8]
    rw [if_neg (by rw [toI_len]; omega)]
theorem below_eq {d : DFA} {m n : Nat} (hd : DfaOk d m n) (hn : n ≤ 12) (p r : Int) : images_Below d p r = some (belE d m n p r) := by
  unfold images_Below belE
  rw [validate_eq (cnt_ok hd hn), may_ok hd hn, Option.bind_some, if_pos rfl, isSet_eq hd hn, Option.bind_some]
  simp only [decide_eq_true_eq]
  by_cases h : isB n p
  · rw [if_pos h, isSet_eq hd hn, Option.bind_some]
    simp only [decide_eq_true_eq]
    by_cases h2 : isB n r
    · rw [if_pos h2, if_pos ⟨h, h2⟩]
      obtain ⟨k, rfl⟩ := Int.eq_ofNat_of_zero_le h.1
      obtain ⟨j, rfl⟩ := Int.eq_ofNat_of_zero_le h2.1
      have hk := h.2
      have hj := h2.2
      rw [reach_eq hd hn (by omega), Option.bind_some, below_loop hd hn (by omega) (by omega)]
      rfl
    · rw [if_neg h2, if_neg (fun hh => h2 hh.2)]
  · rw [if_neg h, if_neg (fun hh => h hh.1)]
theorem Below_eq {d : DFA} {m n : Nat} (hd : DfaOk d m n) (hn : n ≤ 12) (p r : Int) : ref24_Below d p r = some (belE d m n p r) := by
  unfold ref24_Below belE
  rw [May_eq (cnt_ok hd hn), may_ok hd hn, Option.bind_some, if_pos rfl, IsSet_eq hd hn, Option.bind_some]
  simp only [decide_eq_true_eq]
  by_cases h : isB n p
  · rw [if_pos h, IsSet_eq hd hn, Option.bind_some]
    simp only [decide_eq_true_eq]
    by_cases h2 : isB n r
    · rw [if_pos h2, if_pos ⟨h, h2⟩]
      obtain ⟨k, rfl⟩ := Int.eq_ofNat_of_zero_le h.1
      obtain ⟨j, rfl⟩ := Int.eq_ofNat_of_zero_le h2.1
      have hk := h.2
      have hj := h2.2
      rw [Reach_eq hd hn (by omega), Option.bind_some, Below_loop hd hn (by omega) (by omega)]
      rfl
    · rw [if_neg h2, if_neg (fun hh => h2 hh.2)]
  · rw [if_neg h, if_neg (fun hh => h hh.1)]

/-! What it means. -/
/-- All states of p are in r. -/
def subN (p r : Nat) : Prop := p &&& r = p
theorem sub_bits {p r : Nat} : subN p r ↔ ∀ q, p.testBit q = true → r.testBit q = true := by
  unfold subN
  constructor
  · intro h q hq
    have : (p &&& r).testBit q = true := by rw [h]; exact hq
    rw [Nat.testBit_and, Bool.and_eq_true] at this
    exact this.2
  · intro h
    apply Nat.eq_of_testBit_eq
    intro q
    rw [Nat.testBit_and]
    cases hp : p.testBit q with
    | false => rfl
    | true => rw [h q hp]; rfl
theorem sub_refl (p : Nat) : subN p p := Nat.and_self p
theorem sub_trans {p q r : Nat} (h1 : subN p q) (h2 : subN q r) : subN p r := sub_bits.2 fun i hi => sub_bits.1 h2 i (sub_bits.1 h1 i hi)
theorem sub_antisymm {p q : Nat} (h1 : subN p q) (h2 : subN q p) : p = q := Nat.eq_of_testBit_eq fun i => by
  have a := sub_bits.1 h1 i
  have b := sub_bits.1 h2 i
  cases hp : p.testBit i <;> cases hq : q.testBit i <;> simp_all
theorem mv_mono {d : DFA} {m n : Nat} (hd : DfaOk d m n) {p r a : Nat} (ha : a < m) (h : subN p r) : subN (mvN d p a) (mvN d r a) := sub_bits.2 fun q hq => by
  obtain ⟨i, h1, h2, h3⟩ := (mvN_bit hd ha q).1 hq
  exact (mvN_bit hd ha q).2 ⟨i, h1, sub_bits.1 h i h2, h3⟩
theorem run_mono {d : DFA} {m n : Nat} (hd : DfaOk d m n) : ∀ {w : List UInt8} {p r : Nat}, (∀ c ∈ w, 97 ≤ c.toNat ∧ c.toNat < 97 + m) → subN p r → subN (runN d p w) (runN d r w)
  | [], p, r, _, h => h
  | c :: w, p, r, hw, h => run_mono (w := w) (p := mvN d p (c.toNat - 97)) (r := mvN d r (c.toNat - 97)) hd (fun c' hc' => hw c' (List.mem_cons_of_mem _ hc')) (mv_mono hd (by have := hw c (List.mem_cons_self ..); omega) h)
theorem reach_run {d : DFA} {m n s : Nat} (hd : DfaOk d m n) (hs : s < 2 ^ n) : ∀ {w : List UInt8} {x : Nat}, (∀ c ∈ w, 97 ≤ c.toNat ∧ c.toNat < 97 + m) → x ∈ (reachB d m n s).1 → runN d x w ∈ (reachB d m n s).1
  | [], x, _, h => h
  | c :: w, x, hw, h => reach_run (w := w) (x := mvN d x (c.toNat - 97)) hd hs (fun c' hc' => hw c' (List.mem_cons_of_mem _ hc')) (reach_closed hd hs h (by have := hw c (List.mem_cons_self ..); omega))
theorem reach_self {d : DFA} {m n s : Nat} (hd : DfaOk d m n) (hs : s < 2 ^ n) : s ∈ (reachB d m n s).1 := by
  have := (reach_inv hd hs).f0
  exact List.mem_of_getElem? this
/-- p is below r. -/
def belN (d : DFA) (m : Nat) (p r : Nat) : Prop := ∃ w : List UInt8, (∀ c ∈ w, 97 ≤ c.toNat ∧ c.toNat < 97 + m) ∧ subN p (runN d r w)
theorem bel_reach {d : DFA} {m n p r : Nat} (hd : DfaOk d m n) (hr : r < 2 ^ n) : belN d m p r ↔ ∃ x ∈ (reachB d m n r).1, subN p x := by
  constructor
  · rintro ⟨w, h1, h2⟩
    exact ⟨_, reach_run hd hr h1 (reach_self hd hr), h2⟩
  · rintro ⟨x, hx, hs⟩
    obtain ⟨i, hi, rfl⟩ := List.getElem_of_mem hx
    obtain ⟨_, o2, o3⟩ := (reach_inv hd hr).ok i hi
    refine ⟨_, o2, ?_⟩
    rw [o3, List.getD, List.getElem?_eq_getElem hi, Option.getD_some]
    exact hs
theorem bel_refl (d : DFA) (m p : Nat) : belN d m p p := ⟨[], fun c hc => by simp at hc, sub_refl p⟩
theorem bel_trans {d : DFA} {m n p q r : Nat} (hd : DfaOk d m n) (h1 : belN d m p q) (h2 : belN d m q r) : belN d m p r := by
  obtain ⟨u, u1, u2⟩ := h1
  obtain ⟨v, v1, v2⟩ := h2
  refine ⟨v ++ u, fun c hc => ?_, ?_⟩
  · rcases List.mem_append.1 hc with h | h
    · exact v1 c h
    · exact u1 c h
  · rw [runN_append]
    exact sub_trans u2 (run_mono hd u1 v2)
/-- What findB says. -/
theorem findB_yes {d : DFA} {m n p r : Nat} (hd : DfaOk d m n) (hr : r < 2 ^ n) (h : (findB p (reachB d m n r)).2.1 = true) : wordB m (findB p (reachB d m n r)).1 ∨ ¬ (2 ^ n ≤ 2048) := by
  have hi := reach_inv hd hr
  have hl := nodup_len hi.nd hi.lt
  by_cases h48 : 2 ^ n ≤ 2048
  · left
    unfold findB at h ⊢
    split at h
    · rename_i k hk
      obtain ⟨k1, k2, _⟩ := find_some.1 hk
      obtain ⟨o1, o2, _⟩ := hi.ok k k1
      exact ⟨by show ((reachB d m n r).2.getD k ByteArray.empty).size ≤ 2048; omega, o2⟩
    · cases h
  · exact .inr h48
theorem findB_spec {d : DFA} {m n p r : Nat} (hd : DfaOk d m n) (hr : r < 2 ^ n) : ((findB p (reachB d m n r)).2.1 = true → (∀ c ∈ (findB p (reachB d m n r)).1.data.toList, 97 ≤ c.toNat ∧ c.toNat < 97 + m) ∧ (findB p (reachB d m n r)).1.size ≤ 2 ^ n ∧ subN p (runN d r (findB p (reachB d m n r)).1.data.toList)) ∧ ((findB p (reachB d m n r)).2.1 = false → (findB p (reachB d m n r)).1 = ByteArray.empty ∧ ¬ belN d m p r) ∧ (findB p (reachB d m n r)).2.2 = 0 := by
  have hi := reach_inv hd hr
  have hl := nodup_len hi.nd hi.lt
  unfold findB
  split
  · rename_i k hk
    obtain ⟨k1, k2, _⟩ := find_some.1 hk
    obtain ⟨o1, o2, o3⟩ := hi.ok k k1
    refine ⟨fun _ => ⟨o2, by show ((reachB d m n r).2.getD k ByteArray.empty).size ≤ _; omega, ?_⟩, (fun h => by cases h), rfl⟩
    show subN p (runN d r _)
    rw [o3]
    have k2 : p &&& (reachB d m n r).1.getD k 0 = p := by simpa using k2
    exact k2
  · rename_i hk
    refine ⟨(fun h => by cases h), fun _ => ⟨rfl, fun hb => ?_⟩, rfl⟩
    obtain ⟨x, hx, hs⟩ := (bel_reach hd hr).1 hb
    obtain ⟨i, hxi, rfl⟩ := List.getElem_of_mem hx
    have := find_none.1 hk i hxi
    rw [List.getD, List.getElem?_eq_getElem hxi, Option.getD_some] at this
    exact absurd hs (by simpa [subN] using this)
end Go.Proofs.Ytbnnipkanechoaa
end
section
/- Plain: automata that remember the last letters; automata of any kind. -/
namespace Go.Proofs.Ytbnnipkanechoaa
open Go
set_option linter.unusedVariables false
set_option linter.unusedSimpArgs false
set_option maxRecDepth 100000

def letD (a : Nat) : ByteArray := ⟨#[UInt8.ofNat (IntKind.u8.wrap (IntKind.i64.wrap (97 + (a : Int)))).toNat]⟩
/-- The row of a word: where each letter leads. -/
def rowD (W : List ByteArray) (w : ByteArray) : Nat → Option (List Int)
  | 0 => some []
  | a + 1 => match rowD W w a with
    | none => none
    | some row => if catOk w (letD a) then (match loopG (made_Tape_Definite_b13 W (a : Int) row) LFm (w ++ letD a, -1) with
      | some (.inl (x, r)) => if x = ((a + 1 : Nat) : Int) then some r else none
      | _ => none) else none
def chkD (m L : Nat) : Bool := match made_Words m L with
  | none => false
  | some W => decide (1 ≤ W.length) && decide (W.length ≤ 7) && W.all fun w => match rowD W w m with
    | none => false
    | some r => decide (r.length = m) && r.all fun x => decide (0 ≤ x ∧ x < (W.length : Int))
theorem chkD_ok : chkD 1 1 = true ∧ chkD 1 2 = true ∧ chkD 2 1 = true ∧ chkD 2 2 = true := ⟨by kernel_rfl, by kernel_rfl, by kernel_rfl, by kernel_rfl⟩
theorem b9_row {m : Nat} {W : List ByteArray} {i : Int} {fs : List Bool} {rs : List (List Int)} {w : ByteArray} {v : Int × Tape} {r : List Int} (hm : m ≤ 6) (h : rowD W w m = some r) :
    loopG (made_Tape_Definite_b9 (m : Int) W i fs rs w v) LFm (0, []) = chk (capOk 24 (rs.length + 1)) (nextG (IntKind.i64.wrap (i + 1), v.2.l, v.2.at_, fs ++ [decide (v.1 = 1)], rs ++ [r])) := by
  have key : ∀ a, a ≤ m → ∃ r', rowD W w a = some r' := by
    have : ∀ j a, a + j = m → ∃ r', rowD W w a = some r' := by
      intro j
      induction j with
      | zero => intro a ha; obtain rfl : a = m := by omega
                exact ⟨r, h⟩
      | succ j ih =>
        intro a ha
        obtain ⟨r', hr'⟩ := ih (a + 1) (by omega)
        rw [rowD] at hr'
        split at hr'
        · cases hr'
        · rename_i row hrow; exact ⟨row, hrow⟩
    intro a ha
    exact this (m - a) a (by omega)
  refine loop_to (s := ((0 : Int), ([] : List Int))) m (fun a => ((a : Int), (rowD W w a).getD [])) rfl (by simp only [LFm]; omega) (fun a ha => ?_) ?_
  · obtain ⟨r1, h1⟩ := key a (by omega)
    obtain ⟨r2, h2⟩ := key (a + 1) (by omega)
    rw [h1, h2, Option.getD_some, Option.getD_some]
    rw [rowD, h1] at h2
    simp only [made_Tape_Definite_b9]
    rw [if_pos (by omega)]
    dsimp only at h2
    split at h2
    case isFalse => cases h2
    rename_i hc
    change chk (catOk w (letD a)) (loopG (made_Tape_Definite_b13 W (a : Int) r1) LFm (w ++ letD a, -1)) = _
    rw [chk_pos _ hc]
    split at h2
    · rename_i x q hq
      split at h2
      · rename_i hx
        cases h2
        rw [← hx]
        exact hq
      · cases h2
    · cases h2
  · simp only [made_Tape_Definite_b9]
    rw [if_neg (by omega), h, Option.getD_some]
theorem definite_in {t : Tape} (ht : TapeOk t) (m : Nat) (hm : 1 ≤ m ∧ m ≤ 2) : ∃ d t' n, made_Tape_Definite t m = some (d, t') ∧ DfaOk d m n ∧ n ≤ 7 ∧ TapeOk t' := by
  unfold made_Tape_Definite
  obtain ⟨v, t1, e1, v0, v1, ht1⟩ := next_in ht 2 (by omega) (by omega)
  simp only [e1, Option.bind_some]
  obtain ⟨k, rfl⟩ := Int.eq_ofNat_of_zero_le v0
  have hw : IntKind.i64.wrap (1 + (k : Int)) = ((k + 1 : Nat) : Int) := by rw [wrapI (by omega) (by omega)]; omega
  rw [hw]
  have hchk : chkD m (k + 1) = true := by
    obtain ⟨c1, c2, c3, c4⟩ := chkD_ok
    rcases (by omega : (m = 1 ∧ k = 0) ∨ (m = 1 ∧ k = 1) ∨ (m = 2 ∧ k = 0) ∨ (m = 2 ∧ k = 1)) with ⟨rfl, rfl⟩ | ⟨rfl, rfl⟩ | ⟨rfl, rfl⟩ | ⟨rfl, rfl⟩
    · exact c1
    · exact c2
    · exact c3
    · exact c4
  unfold chkD at hchk
  split at hchk
  · cases hchk
  rename_i W hW
  simp only [Bool.and_eq_true, decide_eq_true_eq, List.all_eq_true] at hchk
  obtain ⟨⟨hW1, hW7⟩, hrow⟩ := hchk
  rw [hW, Option.bind_some]
  refine Exists.elim (loopG_rule (b := made_Tape_Definite_b4 (m : Int) W) (fun z => 0 ≤ z.1 ∧ z.1 ≤ W.length ∧ TapeOk ⟨z.2.1, z.2.2.1⟩ ∧ (z.2.2.2.1.length : Int) = z.1 ∧ (z.2.2.2.2.length : Int) = z.1 ∧ ∀ r ∈ z.2.2.2.2, RowOk m W.length r) (fun z => W.length + 1 - z.1.toNat)
    (fun r => DfaOk r.1 m W.length ∧ TapeOk r.2) ?_ LFm (0, t1.l, t1.at_, [], []) ⟨by simp, by simp, ht1, by simp, by simp, by simp⟩ (by simp only [LFm]; omega)) fun r h => ⟨r.1, r.2, W.length, h.1, h.2.1, hW7, h.2.2⟩
  rintro ⟨i, tl, ta, fs, rs⟩ ⟨i0, i1, i2, i3, i4, i5⟩
  simp only at i0 i1 i2 i3 i4 i5 ⊢
  obtain ⟨i, rfl⟩ := Int.eq_ofNat_of_zero_le i0
  simp only [made_Tape_Definite_b4]
  by_cases hi : (i : Int) < (W.length : Int)
  · left
    have hi' : i < W.length := by omega
    rw [if_pos hi, atI_nat hi', Option.bind_some]
    obtain ⟨u, t3, e3, u0, u1, ht3⟩ := next_in i2 2 (by omega) (by omega)
    rw [e3, Option.bind_some, chk_pos _ (by unfold capOk; omega)]
    have hr := hrow _ (List.getElem_mem hi')
    split at hr
    · cases hr
    rename_i r hr0
    simp only [Bool.and_eq_true, decide_eq_true_eq, List.all_eq_true] at hr
    rw [b9_row (by omega) hr0, chk_pos _ (by unfold capOk; omega), wrapI (by omega) (by omega)]
    refine ⟨_, rfl, ⟨by simp only; omega, by simp only; omega, ht3, by simp only [List.length_append, List.length_singleton]; omega, by simp only [List.length_append, List.length_singleton]; omega, fun y hy => ?_⟩, by simp only; omega⟩
    rcases mem_snoc.1 hy with h | rfl
    · exact i5 y h
    · exact ⟨hr.1, fun x hx => hr.2 x hx⟩
  · right
    rw [if_neg hi]
    exact ⟨_, rfl, ⟨rfl, by omega, by omega, by omega, by simp only; omega, by simp only; omega, by simp only; omega, by simp only; omega, i5⟩, i2⟩
theorem any_in {t : Tape} (ht : TapeOk t) (m most : Nat) (hm : 1 ≤ m ∧ m ≤ 2) (hk : 1 ≤ most ∧ most ≤ 7) : ∃ d t' n, made_Tape_Any t m most = some (d, t') ∧ DfaOk d m n ∧ n ≤ 7 ∧ TapeOk t' := by
  unfold made_Tape_Any
  obtain ⟨v, t1, e1, v0, v1, ht1⟩ := next_in ht 6 (by omega) (by omega)
  simp only [e1, Option.bind_some]
  split
  · obtain ⟨d, t', n, e, h1, h2, h3⟩ := ordered_in ht1 m most (by omega) (by omega)
    exact ⟨d, t', n, by rw [e, Option.bind_some], h1, by omega, h3⟩
  · split
    · have : (if (4 : Int) < (most : Int) then (4 : Int) else (most : Int)) = ((min most 4 : Nat) : Int) := by split <;> omega
      rw [this]
      obtain ⟨d, t', n, e, h1, h2, h3⟩ := perms_in ht1 m (min most 4) (by omega) (by omega)
      exact ⟨d, t', n, by rw [e, Option.bind_some], h1, by omega, h3⟩
    · split
      · obtain ⟨d, t', n, e, h1, h2, h3⟩ := definite_in ht1 m hm
        exact ⟨d, t', n, by rw [e, Option.bind_some], h1, h2, h3⟩
      · obtain ⟨d, t', n, e, h1, h2, h3⟩ := dfa_in ht1 m most (by omega) (by omega)
        exact ⟨d, t', n, by rw [e, Option.bind_some], h1, by omega, h3⟩
end Go.Proofs.Ytbnnipkanechoaa
end
section
/- What a level answers, all higher ones do. Over any program. -/
namespace Go.Proofs.Ytbnnipkanechoaa
set_option linter.unusedVariables false
set_option linter.unusedSimpArgs false

/-- The second knows all that the first does. -/
def Mo (C0 C1 : Contract) : Prop := ∀ f a o, C0 f a = some o → C1 f a = some o
section
variable {P : Program} {C0 C1 : Contract}

theorem callF_mo (hMo : Mo C0 C1) {wio : FuncId → Nat → Bool} {fr fr' : Fr} {f : FuncId} {args : List E} {dst : Option Nat} (h : callF C0 wio fr f args dst = some fr') : Ev fun m => callF C1 wio fr f args dst = some fr' := by
  unfold callF at h ⊢
  split at h
  · cases h
  · rename_i ts deps io ha
    split at h
    · cases h
    · rename_i r outs hc
      refine ⟨0, fun m _ => ?_⟩
      show (match C1 f ts with | none => none | some (r, outs) => _) = _
      rw [hMo _ _ _ hc]
      exact h

theorem opF_mo (hMo : Mo C0 C1) {wio : FuncId → Nat → Bool} {fr fr' : Fr} {o : Oper} (h : opF P C0 wio fr o = some fr') : Ev fun m => opF P C1 wio fr o = some fr' := by
  unfold opF at h ⊢
  split at h
  · exact .pure fun _ => h
  · split at h
    · exact callF_mo hMo h
    · cases h
  · exact .pure fun _ => h
  · exact .pure fun _ => h
theorem calmF_mo (hMo : Mo C0 C1) {wio : FuncId → Nat → Bool} {fr fr' : Fr} {o : Oper} (h : calmF P C0 wio fr o = some fr') : Ev fun m => calmF P C1 wio fr o = some fr' := by
  unfold calmF at h ⊢
  split at h
  · split at h
    · split at h
      · exact callF_mo hMo h
      · cases h
    · cases h
  · exact .pure fun _ => h
theorem wrF_mo (hMo : Mo C0 C1) {wio : FuncId → Nat → Bool} {M : Nat → Bool} {fr fr' : Fr} {o : Oper} (h : wrF P C0 wio M fr o = some fr') : Ev fun m => wrF P C1 wio M fr o = some fr' := by
  unfold wrF at h ⊢
  split at h
  · split at h
    · cases h
    · split at h
      · exact callF_mo hMo h
      · split at h
        · rename_i hM
          simp only [hM, if_true]
          exact callF_mo hMo h
        · cases h
      · cases h
  · exact .pure fun _ => h
  · exact .pure fun _ => h
  · exact .pure fun _ => h
  · cases h

theorem regF_mo (hMo : Mo C0 C1) {wio : FuncId → Nat → Bool} {ops : Array Oper} : ∀ {l : List Oper} {fr fr' : Fr}, regF P C0 wio ops l fr = some fr' → Ev fun m => regF P C1 wio ops l fr = some fr'
  | [], fr, fr', h => .pure fun _ => h
  | o :: rest, fr, fr', h => by
    simp only [regF] at h ⊢
    split at h
    · cases h
    · split at h
      · rename_i fr1 h1
        exact (opF_mo hMo h1).both (regF_mo hMo h) fun m a1 a2 => by rw [a1]; exact a2
      · cases h
    · split at h
      · rename_i fr1 h1
        exact (regF_mo hMo h)
      · cases h
theorem drawZ_mo (hMo : Mo C0 C1) {wio : FuncId → Nat → Bool} {same : Bool} {M : Nat → Bool} {ops : Array Oper} : ∀ {l : List (Nat × Oper × Nat)} {fr fr' : Fr}, drawZ P C0 wio same M ops l fr = some fr' → Ev fun m => drawZ P C1 wio same M ops l fr = some fr'
  | [], fr, fr', h => .pure fun _ => h
  | (k, o, mk) :: rest, fr, fr', h => by
    simp only [drawZ] at h ⊢
    split at h
    · cases h
    · split at h
      · exact drawZ_mo hMo h
      · cases h
    · split at h
      · rename_i hm
        simp only [if_pos hm]
        split at h
        · split at h
          · exact drawZ_mo hMo h
          · cases h
        · cases h
      · rename_i hm
        simp only [if_neg hm]
        split at h
        · rename_i fr1 h1
          have h2 : Ev fun m => (if mk = 2 then opF P C1 wio fr o else if same = true then calmF P C1 wio fr o else wrF P C1 wio M fr o) = some fr1 := by
            by_cases e : mk = 2
            · simp only [if_pos e] at h1 ⊢; exact opF_mo hMo h1
            · simp only [if_neg e] at h1 ⊢
              by_cases e2 : same = true
              · simp only [if_pos e2] at h1 ⊢; exact calmF_mo hMo h1
              · simp only [if_neg e2] at h1 ⊢; exact wrF_mo hMo h1
          exact h2.both (drawZ_mo hMo h) fun m a1 a2 => by rw [a1]; exact a2
        · cases h

theorem drawT_mo (hMo : Mo C0 C1) {wio : FuncId → Nat → Bool} {same : Bool} {M : Nat → Bool} {ops : Array Oper} : ∀ {l : SchT} {fr fr' : Fr}, drawT P C0 wio same M ops l fr = some fr' → Ev fun m => drawT P C1 wio same M ops l fr = some fr'
  | .nil, fr, fr', h => .pure fun _ => h
  | .alt x y, fr, fr', h => by
    simp only [drawT] at h ⊢
    split at h
    · rename_i f1 f2 h1 h2
      obtain ⟨rfl, hs⟩ := pickX_some h
      exact (drawT_mo hMo h1).both (drawT_mo hMo h2) fun m a1 a2 => by rw [a1, a2]; exact pickX_of hs
    · cases h
  | .op k mk rest, fr, fr', h => by
    simp only [drawT] at h ⊢
    split at h
    · cases h
    rename_i o ho
    try simp only [ho]
    split at h
    · cases h
    · split at h
      · exact drawT_mo hMo h
      · cases h
    · split at h
      · rename_i hm
        simp only [if_pos hm]
        split at h
        · split at h
          · exact drawT_mo hMo h
          · cases h
        · cases h
      · rename_i hm
        simp only [if_neg hm]
        split at h
        · rename_i fr1 h1
          have h2 : Ev fun m => (if mk = 2 then opF P C1 wio fr o else if same = true then calmF P C1 wio fr o else wrF P C1 wio M fr o) = some fr1 := by
            by_cases e : mk = 2
            · simp only [if_pos e] at h1 ⊢; exact opF_mo hMo h1
            · simp only [if_neg e] at h1 ⊢
              by_cases e2 : same = true
              · simp only [if_pos e2] at h1 ⊢; exact calmF_mo hMo h1
              · simp only [if_neg e2] at h1 ⊢; exact wrF_mo hMo h1
          exact h2.both (drawT_mo hMo h) fun m a1 a2 => by rw [a1]; exact a2
        · cases h
theorem drawAny_mo (hMo : Mo C0 C1) {c : Cfg} {id : Nat} {ops : Array Oper} {fr fr' : Fr} (h : drawAny P C0 c id ops fr = some fr') : Ev fun m => drawAny P C1 c id ops fr = some fr' := by
  unfold drawAny at h ⊢
  split at h
  · exact drawT_mo hMo h
  · split at h
    · exact drawZ_mo hMo h
    · cases h

theorem iterF_mo (hMo : Mo C0 C1) {B : Contract → Fr → Option (X × Fr)} {cn : Fr → Fr} (hB : ∀ fr o, B C0 fr = some o → Ev fun m => B C1 fr = some o) : ∀ {n : Nat} {fr : Fr} {o : X × Fr}, iterF (B C0) cn n fr = some o → Ev fun m => iterF (B C1) cn n fr = some o
  | 0, fr, o, h => by cases h
  | n + 1, fr, o, h => by
    simp only [iterF] at h ⊢
    split at h
    · rename_i fr1 h1
      exact (hB _ _ h1).both (iterF_mo hMo hB h) fun m a1 a2 => by rw [a1]; exact a2
    · rename_i x fr1 hne h1
      refine (hB _ _ h1).imp fun m a1 => ?_
      rw [a1]
      cases x with
      | n => exact absurd rfl hne
      | x i => exact h
      | r => exact h
    · cases h

theorem codeF_mo (hMo : Mo C0 C1) {c : Cfg} {LF : Nat} : ∀ (b : Code) {fr : Fr} {o : X × Fr}, codeF P C0 c LF b fr = some o → Ev fun m => codeF P C1 c LF b fr = some o := by
  intro b
  induction b with
  | skip => intro fr o h; exact .pure fun _ => h
  | label l => intro fr o h; exact .pure fun _ => h
  | exit id => intro fr o h; exact .pure fun _ => h
  | ret => intro fr o h; exact .pure fun _ => h
  | goto l => intro fr o h; cases h
  | scope c ih => intro fr o h; simp only [codeF] at h ⊢; exact ih h
  | refuse s => intro fr o h; cases h
  | rangeFunc => intro fr o h; cases h
  | region id ops draw =>
    intro fr o h
    simp only [codeF] at h ⊢
    split at h
    · rename_i hd
      simp only [hd, if_true]
      split at h
      · rename_i fr1 h1
        exact (drawAny_mo hMo h1).imp fun m a1 => by rw [a1]; exact h
      · cases h
    · rename_i hd
      simp only [hd, Bool.false_eq_true, if_false]
      split at h
      · rename_i fr1 h1
        exact (regF_mo hMo h1).imp fun m a1 => by rw [a1]; exact h
      · cases h
  | seq a b ih1 ih2 =>
    intro fr o h
    simp only [codeF] at h ⊢
    split at h
    · rename_i fr1 h1
      exact (ih1 h1).both (ih2 h) fun m a1 a2 => by rw [a1]; exact a2
    · rename_i hne
      refine (ih1 h).imp fun m a1 => ?_
      rw [a1]
      obtain ⟨x, fr1⟩ := o
      cases x with
      | n => exact absurd h (hne _)
      | x i => rfl
      | r => rfl
  | cond c x y ih1 ih2 =>
    intro fr o h
    simp only [codeF] at h ⊢
    split at h
    · exact ih1 h
    · exact ih2 h
    · cases h
  | block id c ih =>
    intro fr o h
    simp only [codeF] at h ⊢
    split at h
    · rename_i i fr1 h1
      exact (ih h1).imp fun m a1 => by rw [a1]; exact h
    · rename_i hne
      refine (ih h).imp fun m a1 => ?_
      rw [a1]
      obtain ⟨x, fr1⟩ := o
      cases x with
      | n => rfl
      | x i => exact absurd h (hne _ _)
      | r => rfl
  | loop b ih =>
    intro fr o h
    simp only [codeF] at h ⊢
    exact iterF_mo hMo (B := fun C fr => codeF P C c LF b fr) (fun fr o h => ih h) h

theorem runF_mo (hMo : Mo C0 C1) {c : Cfg} {LF : Nat} {fn : Func} {args : List T} {o : T × List T} (h : runF P C0 c LF fn args = some o) : Ev fun m => runF P C1 c LF fn args = some o := by
  unfold runF at h ⊢
  split at h
  · rename_i hc
    simp only [if_pos hc]
    split at h
    · cases h
    · rename_i b hb
      split at h
      · rename_i fr h1
        exact (codeF_mo hMo _ h1).imp fun m a1 => by rw [a1]; exact h
      · rename_i fr h1
        exact (codeF_mo hMo _ h1).imp fun m a1 => by rw [a1]; exact h
      · cases h
  · cases h

end
theorem level_le {P : Program} {X : Contract} {cf : FuncId → Option Cfg} : ∀ n, Mo (level P X cf n) (level P X cf (n + 1))
  | 0 => fun f a o h => by
    simp only [level] at h ⊢
    split at h
    · cases h
    · rename_i hc
      first
        | exact h
        | (rw [hc]; exact h)
  | n + 1 => fun f a o h => by
    simp only [level] at h
    split at h
    · rename_i c hc
      split at h
      · rename_i fn hfn
        obtain ⟨k, hk⟩ := runF_mo (level_le n) h
        exact level_run hc hfn (hk k (Nat.le_refl _))
      · cases h
    · rename_i hc
      simp only [level, hc]
      exact h
/-- One level's answer. -/
theorem lim_at {P : Program} {X : Contract} {cf : FuncId → Option Cfg} (n : Nat) {f : FuncId} {a : List T} {o : T × List T} (h : level P X cf n f a = some o) : Lim P X cf f a = some o := by
  refine lim_of (d := n) fun m hm => ?_
  obtain ⟨k, rfl⟩ := Nat.exists_eq_add_of_le hm
  clear hm
  induction k with
  | zero => exact h
  | succ k ih => exact level_le (n + k) f a o ih

/-! Answers that are known already. -/
def tab : List (FuncId × List T × T × List T) → Contract
  | [] => fun _ _ => none
  | (g, b, r, os) :: l => fun f a => if (Nat.beq g f && eqTs b a) = true then some (r, os) else tab l f a
theorem tab_mo {C : Contract} : ∀ {l : List (FuncId × List T × T × List T)}, (∀ x ∈ l, C x.1 x.2.1 = some x.2.2) → Mo (tab l) C
  | [], _ => fun f a o h => by cases h
  | (g, b, r, os) :: l, hl => fun f a o h => by
    simp only [tab] at h
    split at h
    · rename_i hc
      simp only [Bool.and_eq_true] at hc
      cases h
      have := hl _ (List.mem_cons_self ..)
      rw [← Nat.eq_of_beq_eq_true hc.1, ← eqTs_eq hc.2]
      exact this
    · exact tab_mo (fun x hx => hl x (List.mem_cons_of_mem _ hx)) f a o h
noncomputable def levelS (P : Program) (X : Contract) (cf : FuncId → Option Cfg) (S : Contract) : Nat → Contract
  | 0 => S
  | n + 1 => fun f a => match S f a with
    | some o => some o
    | none => match cf f with
      | some c => (match P.funcs[f]? with | some fn => runF P (levelS P X cf S n) c LFm fn a | none => none)
      | none => X f a
theorem levelS_le {P : Program} {X : Contract} {cf : FuncId → Option Cfg} {S : Contract} (hS : Mo S (Lim P X cf)) : ∀ n, Mo (levelS P X cf S n) (Lim P X cf)
  | 0 => hS
  | n + 1 => fun f a o h => by
    simp only [levelS] at h
    split at h
    · rename_i o' ho
      cases h
      exact hS f a o ho
    · split at h
      · rename_i c hc
        split at h
        · rename_i fn hfn
          obtain ⟨k, hk⟩ := runF_mo (levelS_le hS n) h
          exact lim_run hc hfn (hk k (Nat.le_refl _))
        · cases h
      · rename_i hc
        exact lim_ext hc h
/-- One level's answer, with what is known already. -/
theorem lim_tab {P : Program} {X : Contract} {cf : FuncId → Option Cfg} (l : List (FuncId × List T × T × List T)) (n : Nat) {f : FuncId} {a : List T} {o : T × List T} (h : levelS P X cf (tab l) n f a = some o) (hl : ∀ x ∈ l, Lim P X cf x.1 x.2.1 = some x.2.2) : Lim P X cf f a = some o :=
  levelS_le (tab_mo hl) n f a o h
end Go.Proofs.Ytbnnipkanechoaa
end
section
/- The chapter's example: program, by the kernel. -/
namespace Go.Proofs.Ytbnnipkanechoaa
open Go
set_option maxRecDepth 100000
set_option linter.unusedVariables false

def exT : T := .agg [.sc (.int .i64 2), .sc (.int .i64 0), .sl 3 [.sc (.bool true), .sc (.bool false), .sc (.bool false)], .sl 3 [.sl 2 [.sc (.int .i64 1), .sc (.int .i64 0)], .sl 2 [.sc (.int .i64 2), .sc (.int .i64 0)], .sl 2 [.sc (.int .i64 0), .sc (.int .i64 2)]]]
def exSets : List T := [.sc (.int .i64 7), .sc (.int .i64 3), .sc (.int .i64 5), .sc (.int .i64 6), .sc (.int .i64 1), .sc (.int .i64 2), .sc (.int .i64 4)]
def dgT : T := .agg [.sl 7 [.sc (.int .i64 7), .sc (.int .i64 3), .sc (.int .i64 5), .sc (.int .i64 6), .sc (.int .i64 1), .sc (.int .i64 2), .sc (.int .i64 4)], .sl 7 [.sl 2 [.sc (.int .i64 0), .sc (.int .i64 2)], .sl 2 [.sc (.int .i64 3), .sc (.int .i64 4)], .sl 2 [.sc (.int .i64 1), .sc (.int .i64 2)], .sl 2 [.sc (.int .i64 2), .sc (.int .i64 2)], .sl 2 [.sc (.int .i64 5), .sc (.int .i64 4)], .sl 2 [.sc (.int .i64 6), .sc (.int .i64 4)], .sl 2 [.sc (.int .i64 4), .sc (.int .i64 6)]], .sl 7 [.sl 7 [.sc (.bool true), .sc (.bool false), .sc (.bool false), .sc (.bool false), .sc (.bool false), .sc (.bool false), .sc (.bool false)], .sl 7 [.sc (.bool true), .sc (.bool true), .sc (.bool true), .sc (.bool true), .sc (.bool false), .sc (.bool false), .sc (.bool false)], .sl 7 [.sc (.bool true), .sc (.bool true), .sc (.bool true), .sc (.bool true), .sc (.bool false), .sc (.bool false), .sc (.bool false)], .sl 7 [.sc (.bool true), .sc (.bool true), .sc (.bool true), .sc (.bool true), .sc (.bool false), .sc (.bool false), .sc (.bool false)], .sl 7 [.sc (.bool true), .sc (.bool true), .sc (.bool true), .sc (.bool true), .sc (.bool true), .sc (.bool true), .sc (.bool true)], .sl 7 [.sc (.bool true), .sc (.bool true), .sc (.bool true), .sc (.bool true), .sc (.bool true), .sc (.bool true), .sc (.bool true)], .sl 7 [.sc (.bool true), .sc (.bool true), .sc (.bool true), .sc (.bool true), .sc (.bool true), .sc (.bool true), .sc (.bool true)]]]
theorem e36 : level Try.prog xt cfAll 10 36 [exT] = some (.os 1 7 exSets, [.dead]) := by kernel_rfl
theorem e37 : level Try.prog xt cfAll 10 37 [exT, .sl 7 exSets] = some (.agg [.sl 7 [.sc (.int .i64 7), .sc (.int .i64 3), .sc (.int .i64 5), .sc (.int .i64 6), .sc (.int .i64 1), .sc (.int .i64 2), .sc (.int .i64 4)], .os 1 7 [.os 1 2 [.sc (.int .i64 0), .sc (.int .i64 2)], .os 1 2 [.sc (.int .i64 3), .sc (.int .i64 4)], .os 1 2 [.sc (.int .i64 1), .sc (.int .i64 2)], .os 1 2 [.sc (.int .i64 2), .sc (.int .i64 2)], .os 1 2 [.sc (.int .i64 5), .sc (.int .i64 4)], .os 1 2 [.sc (.int .i64 6), .sc (.int .i64 4)], .os 1 2 [.sc (.int .i64 4), .sc (.int .i64 6)]], .os 1 7 [.os 1 7 [.sc (.bool true), .sc (.bool false), .sc (.bool false), .sc (.bool false), .sc (.bool false), .sc (.bool false), .sc (.bool false)], .os 1 7 [.sc (.bool true), .sc (.bool true), .sc (.bool true), .sc (.bool true), .sc (.bool false), .sc (.bool false), .sc (.bool false)], .os 1 7 [.sc (.bool true), .sc (.bool true), .sc (.bool true), .sc (.bool true), .sc (.bool false), .sc (.bool false), .sc (.bool false)], .os 1 7 [.sc (.bool true), .sc (.bool true), .sc (.bool true), .sc (.bool true), .sc (.bool false), .sc (.bool false), .sc (.bool false)], .os 1 7 [.sc (.bool true), .sc (.bool true), .sc (.bool true), .sc (.bool true), .sc (.bool true), .sc (.bool true), .sc (.bool true)], .os 1 7 [.sc (.bool true), .sc (.bool true), .sc (.bool true), .sc (.bool true), .sc (.bool true), .sc (.bool true), .sc (.bool true)], .os 1 7 [.sc (.bool true), .sc (.bool true), .sc (.bool true), .sc (.bool true), .sc (.bool true), .sc (.bool true), .sc (.bool true)]]], [.dead, .dead]) := by kernel_rfl
def sr0 : T := .tup [.os 1 7 [.sc (.int .i64 0), .sc (.int .i64 2), .sc (.int .i64 1), .sc (.int .i64 3), .sc (.int .i64 4), .sc (.int .i64 5), .sc (.int .i64 6)], .os 1 7 [.sc (.string ByteArray.empty), .sc (.string ⟨#[98, 97]⟩), .sc (.string ⟨#[98]⟩), .sc (.string ⟨#[98, 97, 97]⟩), .sc (.string ⟨#[98, 97, 98]⟩), .sc (.string ⟨#[98, 97, 98, 97]⟩), .sc (.string ⟨#[98, 97, 98, 97, 97]⟩)]]
theorem e41_0 : level Try.prog xt cfAll 6 41 [dgT, .sc (.int .i64 0)] = some (sr0, [.dead, .dead]) := by kernel_rfl
def sr1 : T := .tup [.os 1 6 [.sc (.int .i64 1), .sc (.int .i64 3), .sc (.int .i64 4), .sc (.int .i64 2), .sc (.int .i64 5), .sc (.int .i64 6)], .os 1 7 [.sc (.string ByteArray.empty), .sc (.string ByteArray.empty), .sc (.string ⟨#[97, 97]⟩), .sc (.string ⟨#[97]⟩), .sc (.string ⟨#[98]⟩), .sc (.string ⟨#[98, 97]⟩), .sc (.string ⟨#[98, 97, 97]⟩)]]
theorem e41_1 : level Try.prog xt cfAll 6 41 [dgT, .sc (.int .i64 1)] = some (sr1, [.dead, .dead]) := by kernel_rfl
def sr2 : T := .tup [.os 1 6 [.sc (.int .i64 2), .sc (.int .i64 1), .sc (.int .i64 3), .sc (.int .i64 4), .sc (.int .i64 5), .sc (.int .i64 6)], .os 1 7 [.sc (.string ByteArray.empty), .sc (.string ⟨#[97]⟩), .sc (.string ByteArray.empty), .sc (.string ⟨#[97, 97]⟩), .sc (.string ⟨#[97, 98]⟩), .sc (.string ⟨#[97, 98, 97]⟩), .sc (.string ⟨#[97, 98, 97, 97]⟩)]]
theorem e41_2 : level Try.prog xt cfAll 6 41 [dgT, .sc (.int .i64 2)] = some (sr2, [.dead, .dead]) := by kernel_rfl
def sr3 : T := .tup [.os 1 6 [.sc (.int .i64 3), .sc (.int .i64 2), .sc (.int .i64 1), .sc (.int .i64 4), .sc (.int .i64 5), .sc (.int .i64 6)], .os 1 7 [.sc (.string ByteArray.empty), .sc (.string ⟨#[97, 97]⟩), .sc (.string ⟨#[97]⟩), .sc (.string ByteArray.empty), .sc (.string ⟨#[97, 97, 98]⟩), .sc (.string ⟨#[97, 97, 98, 97]⟩), .sc (.string ⟨#[97, 97, 98, 97, 97]⟩)]]
theorem e41_3 : level Try.prog xt cfAll 6 41 [dgT, .sc (.int .i64 3)] = some (sr3, [.dead, .dead]) := by kernel_rfl
def sr4 : T := .tup [.os 1 3 [.sc (.int .i64 4), .sc (.int .i64 5), .sc (.int .i64 6)], .os 1 7 [.sc (.string ByteArray.empty), .sc (.string ByteArray.empty), .sc (.string ByteArray.empty), .sc (.string ByteArray.empty), .sc (.string ByteArray.empty), .sc (.string ⟨#[97]⟩), .sc (.string ⟨#[97, 97]⟩)]]
theorem e41_4 : level Try.prog xt cfAll 6 41 [dgT, .sc (.int .i64 4)] = some (sr4, [.dead, .dead]) := by kernel_rfl
def sr5 : T := .tup [.os 1 3 [.sc (.int .i64 5), .sc (.int .i64 6), .sc (.int .i64 4)], .os 1 7 [.sc (.string ByteArray.empty), .sc (.string ByteArray.empty), .sc (.string ByteArray.empty), .sc (.string ByteArray.empty), .sc (.string ⟨#[98]⟩), .sc (.string ByteArray.empty), .sc (.string ⟨#[97]⟩)]]
theorem e41_5 : level Try.prog xt cfAll 6 41 [dgT, .sc (.int .i64 5)] = some (sr5, [.dead, .dead]) := by kernel_rfl
def sr6 : T := .tup [.os 1 3 [.sc (.int .i64 6), .sc (.int .i64 4), .sc (.int .i64 5)], .os 1 7 [.sc (.string ByteArray.empty), .sc (.string ByteArray.empty), .sc (.string ByteArray.empty), .sc (.string ByteArray.empty), .sc (.string ⟨#[97]⟩), .sc (.string ⟨#[97, 97]⟩), .sc (.string ByteArray.empty)]]
theorem e41_6 : level Try.prog xt cfAll 6 41 [dgT, .sc (.int .i64 6)] = some (sr6, [.dead, .dead]) := by kernel_rfl
def exTab : List (FuncId × List T × T × List T) := [(36, [exT], .os 1 7 exSets, [.dead]), (37, [exT, .sl 7 exSets], .agg [.sl 7 [.sc (.int .i64 7), .sc (.int .i64 3), .sc (.int .i64 5), .sc (.int .i64 6), .sc (.int .i64 1), .sc (.int .i64 2), .sc (.int .i64 4)], .os 1 7 [.os 1 2 [.sc (.int .i64 0), .sc (.int .i64 2)], .os 1 2 [.sc (.int .i64 3), .sc (.int .i64 4)], .os 1 2 [.sc (.int .i64 1), .sc (.int .i64 2)], .os 1 2 [.sc (.int .i64 2), .sc (.int .i64 2)], .os 1 2 [.sc (.int .i64 5), .sc (.int .i64 4)], .os 1 2 [.sc (.int .i64 6), .sc (.int .i64 4)], .os 1 2 [.sc (.int .i64 4), .sc (.int .i64 6)]], .os 1 7 [.os 1 7 [.sc (.bool true), .sc (.bool false), .sc (.bool false), .sc (.bool false), .sc (.bool false), .sc (.bool false), .sc (.bool false)], .os 1 7 [.sc (.bool true), .sc (.bool true), .sc (.bool true), .sc (.bool true), .sc (.bool false), .sc (.bool false), .sc (.bool false)], .os 1 7 [.sc (.bool true), .sc (.bool true), .sc (.bool true), .sc (.bool true), .sc (.bool false), .sc (.bool false), .sc (.bool false)], .os 1 7 [.sc (.bool true), .sc (.bool true), .sc (.bool true), .sc (.bool true), .sc (.bool false), .sc (.bool false), .sc (.bool false)], .os 1 7 [.sc (.bool true), .sc (.bool true), .sc (.bool true), .sc (.bool true), .sc (.bool true), .sc (.bool true), .sc (.bool true)], .os 1 7 [.sc (.bool true), .sc (.bool true), .sc (.bool true), .sc (.bool true), .sc (.bool true), .sc (.bool true), .sc (.bool true)], .os 1 7 [.sc (.bool true), .sc (.bool true), .sc (.bool true), .sc (.bool true), .sc (.bool true), .sc (.bool true), .sc (.bool true)]]], [.dead, .dead]), (41, [dgT, .sc (.int .i64 0)], sr0, [.dead, .dead]), (41, [dgT, .sc (.int .i64 1)], sr1, [.dead, .dead]), (41, [dgT, .sc (.int .i64 2)], sr2, [.dead, .dead]), (41, [dgT, .sc (.int .i64 3)], sr3, [.dead, .dead]), (41, [dgT, .sc (.int .i64 4)], sr4, [.dead, .dead]), (41, [dgT, .sc (.int .i64 5)], sr5, [.dead, .dead]), (41, [dgT, .sc (.int .i64 6)], sr6, [.dead, .dead])]
theorem exTab_ok : ∀ x ∈ exTab, L x.1 x.2.1 = some x.2.2 := by
  simp only [exTab, List.forall_mem_cons]
  exact ⟨lim_at 10 e36, lim_at 10 e37, lim_at 6 e41_0, lim_at 6 e41_1, lim_at 6 e41_2, lim_at 6 e41_3, lim_at 6 e41_4, lim_at 6 e41_5, lim_at 6 e41_6, fun x h => by cases h⟩
theorem c17l : levelS Try.prog xt cfAll (tab exTab) 14 17 [] = some (.sc (.bool true), []) := by kernel_rfl
theorem c17 : L 17 [] = some (.sc (.bool true), []) := lim_tab exTab 14 c17l exTab_ok
def xKnown : Option Bool := some true
theorem xKnown_ok {r : Bool} (h : xKnown = some r) : L 17 [] = some (.sc (.bool r), []) := by cases h; exact c17
end Go.Proofs.Ytbnnipkanechoaa
end
section
/- Functions by value: program. -/
namespace Go.Proofs.Ytbnnipkanechoaa
open Go
noncomputable section
set_option maxRecDepth 100000
set_option maxHeartbeats 1000000
set_option linter.unusedVariables false
set_option linter.unusedSimpArgs false



-- semigroup/semigrouplaw24.ImagesQueries
def law24_ImagesQueries (a0 : List Int) (a1 : Int) (a2 : Int) : Option (Bool) :=
  (made_New a0).bind fun v12 =>
  (made_Tape_Letters v12).bind fun v13 =>
  (made_Tape_Any v13.2 v13.1 5).bind fun v14 =>
  chk (¬ (IntKind.u64.wrap (v14.1.final.length : Int)) < 0) <|
  (made_Mod a1 (IntKind.i64.wrap ((shlI .i64 1 (IntKind.u64.wrap (v14.1.final.length : Int))) + 1))).bind fun v15 =>
  (made_Mod a2 (IntKind.i64.wrap ((shlI .i64 1 (IntKind.u64.wrap (v14.1.final.length : Int))) + 1))).bind fun v16 =>
  (made_Tape_Word v14.2 v14.1.letters 12).bind fun v17 =>
  (images_Apply v14.1 v15 v17.1).bind fun v18 =>
  (ref24_Apply v14.1 v15 v17.1).bind fun v19 =>
  (images_Below v14.1 v15 v16).bind fun v20 =>
  (ref24_Below v14.1 v15 v16).bind fun v21 =>
  if v18.2 = v19.2 then
    if v18.1 = v19.1 then
      if v20.2.2 = v21.2.2 then
        if v20.1 = v21.1 then
          if (v20.2.1 == v21.2.1) = true then
            (xKnown).bind fun v22 =>
            some v22
          else
            some false
        else
          some false
      else
        some false
    else
      some false
  else
    some false
theorem law24_ImagesQueries_ok {a0 : List Int} {a1 : Int} {a2 : Int} {r : Bool} (h0 : law24_ImagesQueries a0 a1 a2 = some r) : L 8 [.sl a0.length (a0.map fun x0 => .sc (.int .i64 x0)), .sc (.int .i64 a1), .sc (.int .i64 a2)] = some (.sc (.bool r), [.dead, .dead, .dead]) := by
  simp only [law24_ImagesQueries] at h0
  refine L_run cfn8 fn8 (runF_of bd8 ⟨of_decide_eq_true rfl, of_decide_eq_true rfl⟩ ?_)
  simp only [entryF, entryT, entryO, entryE, isIo]
  refine zq rfl (zr rfl rfl rfl (by simp; rfl) ?_)
  refine thenC_n (zq rfl ?_)
  obtain ⟨v12, f18, h1⟩ := bnd_some h0
  have f18k := made_New_ok f18
  try simp at f18k
  refine zr rfl rfl rfl (by simp [f18k]; rfl) ?_
  refine thenC_n (zq rfl ?_)
  obtain ⟨v13, f19, h2⟩ := bnd_some h1
  have f19k := made_Tape_Letters_ok f19
  try simp at f19k
  obtain ⟨v14, f20, h3⟩ := bnd_some h2
  have f20k := made_Tape_Any_ok f20
  try simp at f20k
  refine zr rfl rfl rfl (by simp [f19k, f20k]; rfl) ?_
  refine thenC_n (zq rfl ?_)
  obtain ⟨f21, h4⟩ := chk_some h3
  refine zr rfl rfl rfl (by simp [f21]; rfl) ?_
  refine thenC_n (zq rfl ?_)
  obtain ⟨v15, f22, h5⟩ := bnd_some h4
  have f22k := made_Mod_ok f22
  try simp at f22k
  obtain ⟨v16, f23, h6⟩ := bnd_some h5
  have f23k := made_Mod_ok f23
  try simp at f23k
  refine zr rfl rfl rfl (by simp [f22k, f23k]; rfl) ?_
  refine thenC_n (zq rfl ?_)
  obtain ⟨v17, f24, h7⟩ := bnd_some h6
  have f24k := made_Tape_Word_ok f24
  try simp at f24k
  refine zr rfl rfl rfl (by simp [f24k]; rfl) ?_
  refine thenC_n (zq rfl ?_)
  obtain ⟨v18, f25, h8⟩ := bnd_some h7
  have f25k := images_Apply_ok f25
  try simp at f25k
  refine zr rfl rfl rfl (by simp [f25k]; rfl) ?_
  refine thenC_n (zq rfl ?_)
  obtain ⟨v19, f26, h9⟩ := bnd_some h8
  have f26k := ref24_Apply_ok f26
  try simp at f26k
  refine zr rfl rfl rfl (by simp [f26k]; rfl) ?_
  refine thenC_n (zq rfl ?_)
  obtain ⟨v20, f27, h10⟩ := bnd_some h9
  have f27k := images_Below_ok f27
  try simp at f27k
  refine zr rfl rfl rfl (by simp [f27k]; rfl) ?_
  refine thenC_n (zq rfl ?_)
  obtain ⟨v21, f28, h11⟩ := bnd_some h10
  have f28k := ref24_Below_ok f28
  try simp at f28k
  refine zr rfl rfl rfl (by simp [f28k]; rfl) ?_
  refine thenC_n (zq rfl ?_)
  by_cases c29 : v18.2 = v19.2
  · rw [if_pos c29] at h11
    have c29e := eq_true c29
    by_cases c30 : v18.1 = v19.1
    · rw [if_pos c30] at h11
      have c30e := eq_true c30
      by_cases c31 : v20.2.2 = v21.2.2
      · rw [if_pos c31] at h11
        have c31e := eq_true c31
        by_cases c32 : v20.1 = v21.1
        · rw [if_pos c32] at h11
          have c32e := eq_true c32
          by_cases c33 : (v20.2.1 == v21.2.1) = true
          · rw [if_pos c33] at h11
            obtain ⟨v22, f34, h12⟩ := bnd_some h11
            have f34k := xKnown_ok f34
            try simp at f34k
            refine zr rfl rfl rfl (by simp [c29e, c30e, c31e, c32e, c33, f34k]; rfl) ?_
            refine thenC_n (q_ret rfl ?_)
            cases h12
            simp [c33]
          · rw [if_neg c33] at h11
            refine zr rfl rfl rfl (by simp [c29e, c30e, c31e, c32e, c33]; rfl) ?_
            refine thenC_n (q_ret rfl ?_)
            cases h11
            simp [c33]
        · rw [if_neg c32] at h11
          have c32e := eq_false c32
          refine zr rfl rfl rfl (by simp [c29e, c30e, c31e, c32e]; rfl) ?_
          refine thenC_n (q_ret rfl ?_)
          cases h11
          simp
      · rw [if_neg c31] at h11
        have c31e := eq_false c31
        refine zr rfl rfl rfl (by simp [c29e, c30e, c31e]; rfl) ?_
        refine thenC_n (q_ret rfl ?_)
        cases h11
        simp
    · rw [if_neg c30] at h11
      have c30e := eq_false c30
      refine zr rfl rfl rfl (by simp [c29e, c30e]; rfl) ?_
      refine thenC_n (q_ret rfl ?_)
      cases h11
      simp
  · rw [if_neg c29] at h11
    have c29e := eq_false c29
    refine zr rfl rfl rfl (by simp [c29e]; rfl) ?_
    refine thenC_n (q_ret rfl ?_)
    cases h11
    simp

-- semigroup/semigrouplaw24.ImagesBelow
def law24_ImagesBelow (a0 : List Int) (a1 : Int) (a2 : Int) (a3 : Int) : Option (Bool) :=
  (made_New a0).bind fun v24 =>
  (made_Tape_Letters v24).bind fun v25 =>
  (made_Tape_Any v25.2 v25.1 5).bind fun v26 =>
  chk (¬ (IntKind.u64.wrap (v26.1.final.length : Int)) < 0) <|
  (made_Mod a1 (shlI .i64 1 (IntKind.u64.wrap (v26.1.final.length : Int)))).bind fun v27 =>
  (made_Mod a2 (shlI .i64 1 (IntKind.u64.wrap (v26.1.final.length : Int)))).bind fun v28 =>
  (made_Mod a3 (shlI .i64 1 (IntKind.u64.wrap (v26.1.final.length : Int)))).bind fun v29 =>
  (images_Below v26.1 v27 v28).bind fun v30 =>
  (images_Below v26.1 v28 v29).bind fun v31 =>
  (images_Below v26.1 v27 v29).bind fun v32 =>
  if v30.2.2 = 0 then
    if v31.2.2 = 0 then
      if v32.2.2 = 0 then
        if v30.2.1 = true then
          if v31.2.1 = true then
            if v32.2.1 = true then
              (images_Apply v26.1 v28 v30.1).bind fun v33 =>
              (images_Apply v26.1 v29 v31.1).bind fun v34 =>
              if (andI .i64 v33.1 v27) = v27 then
                if (andI .i64 v34.1 v28) = v28 then
                  (ref01_Valid v30.1 6).bind fun v35 =>
                  if v35 = true then
                    (xKnown).bind fun v36 =>
                    some v36
                  else
                    some false
                else
                  some false
              else
                some false
            else
              some false
          else
            (images_Apply v26.1 v28 v30.1).bind fun v37 =>
            (images_Apply v26.1 v29 v31.1).bind fun v38 =>
            if (andI .i64 v37.1 v27) = v27 then
              (ref01_Valid v30.1 6).bind fun v39 =>
              if v39 = true then
                (xKnown).bind fun v40 =>
                some v40
              else
                some false
            else
              some false
        else
          (images_Apply v26.1 v28 v30.1).bind fun v41 =>
          (images_Apply v26.1 v29 v31.1).bind fun v42 =>
          if v31.2.1 = true then
            if (andI .i64 v42.1 v28) = v28 then
              (ref01_Valid v30.1 6).bind fun v43 =>
              if v43 = true then
                (xKnown).bind fun v44 =>
                some v44
              else
                some false
            else
              some false
          else
            (ref01_Valid v30.1 6).bind fun v45 =>
            if v45 = true then
              (xKnown).bind fun v46 =>
              some v46
            else
              some false
      else
        some false
    else
      some false
  else
    some false
theorem law24_ImagesBelow_ok {a0 : List Int} {a1 : Int} {a2 : Int} {a3 : Int} {r : Bool} (h0 : law24_ImagesBelow a0 a1 a2 a3 = some r) : L 9 [.sl a0.length (a0.map fun x0 => .sc (.int .i64 x0)), .sc (.int .i64 a1), .sc (.int .i64 a2), .sc (.int .i64 a3)] = some (.sc (.bool r), [.dead, .dead, .dead, .dead]) := by
  simp only [law24_ImagesBelow] at h0
  refine L_run cfn9 fn9 (runF_of bd9 ⟨of_decide_eq_true rfl, of_decide_eq_true rfl⟩ ?_)
  simp only [entryF, entryT, entryO, entryE, isIo]
  refine zq rfl (zr rfl rfl rfl (by simp; rfl) ?_)
  refine thenC_n (zq rfl ?_)
  obtain ⟨v24, f40, h1⟩ := bnd_some h0
  have f40k := made_New_ok f40
  try simp at f40k
  refine zr rfl rfl rfl (by simp [f40k]; rfl) ?_
  refine thenC_n (zq rfl ?_)
  obtain ⟨v25, f41, h2⟩ := bnd_some h1
  have f41k := made_Tape_Letters_ok f41
  try simp at f41k
  obtain ⟨v26, f42, h3⟩ := bnd_some h2
  have f42k := made_Tape_Any_ok f42
  try simp at f42k
  refine zr rfl rfl rfl (by simp [f41k, f42k]; rfl) ?_
  refine thenC_n (zq rfl ?_)
  obtain ⟨f43, h4⟩ := chk_some h3
  refine zr rfl rfl rfl (by simp [f43]; rfl) ?_
  refine thenC_n (zq rfl ?_)
  obtain ⟨v27, f44, h5⟩ := bnd_some h4
  have f44k := made_Mod_ok f44
  try simp at f44k
  obtain ⟨v28, f45, h6⟩ := bnd_some h5
  have f45k := made_Mod_ok f45
  try simp at f45k
  obtain ⟨v29, f46, h7⟩ := bnd_some h6
  have f46k := made_Mod_ok f46
  try simp at f46k
  refine zr rfl rfl rfl (by simp [f44k, f45k, f46k]; rfl) ?_
  refine thenC_n (zq rfl ?_)
  obtain ⟨v30, f47, h8⟩ := bnd_some h7
  have f47k := images_Below_ok f47
  try simp at f47k
  refine zr rfl rfl rfl (by simp [f47k]; rfl) ?_
  refine thenC_n (zq rfl ?_)
  obtain ⟨v31, f48, h9⟩ := bnd_some h8
  have f48k := images_Below_ok f48
  try simp at f48k
  refine zr rfl rfl rfl (by simp [f48k]; rfl) ?_
  refine thenC_n (zq rfl ?_)
  obtain ⟨v32, f49, h10⟩ := bnd_some h9
  have f49k := images_Below_ok f49
  try simp at f49k
  refine zr rfl rfl rfl (by simp [f49k]; rfl) ?_
  refine thenC_n (zq rfl (zq rfl ?_))
  by_cases c50 : v30.2.2 = 0
  · rw [if_pos c50] at h10
    have c50e := eq_true c50
    by_cases c51 : v31.2.2 = 0
    · rw [if_pos c51] at h10
      have c51e := eq_true c51
      by_cases c52 : v32.2.2 = 0
      · rw [if_pos c52] at h10
        have c52e := eq_true c52
        by_cases c53 : v30.2.1 = true
        · rw [if_pos c53] at h10
          by_cases c54 : v31.2.1 = true
          · rw [if_pos c54] at h10
            refine zr rfl rfl rfl (by simp [c50e, c51e, c52e, c53, c54]; rfl) ?_
            refine thenC_n ?_
            by_cases c55 : v32.2.1 = true
            · rw [if_pos c55] at h10
              refine q_ifF rfl (by simp [c55]) (q_skip rfl (thenC_n (zq rfl ?_)))
              obtain ⟨v33, f56, h11⟩ := bnd_some h10
              have f56k := images_Apply_ok f56
              try simp at f56k
              refine zr rfl rfl rfl (by simp [f56k]; rfl) ?_
              refine thenC_n (zq rfl ?_)
              obtain ⟨v34, f57, h12⟩ := bnd_some h11
              have f57k := images_Apply_ok f57
              try simp at f57k
              refine zr rfl rfl rfl (by simp [f57k]; rfl) ?_
              refine thenC_n (zq rfl ?_)
              by_cases c58 : (andI .i64 v33.1 v27) = v27
              · rw [if_pos c58] at h12
                have c58e := eq_true c58
                by_cases c59 : (andI .i64 v34.1 v28) = v28
                · rw [if_pos c59] at h12
                  have c59e := eq_true c59
                  obtain ⟨v35, f60, h13⟩ := bnd_some h12
                  have f60k := ref01_Valid_ok f60
                  try simp at f60k
                  by_cases c61 : v35 = true
                  · rw [if_pos c61] at h13
                    obtain ⟨v36, f62, h14⟩ := bnd_some h13
                    have f62k := xKnown_ok f62
                    try simp at f62k
                    refine zr rfl rfl rfl (by simp [c53, c58e, c54, c59e, f60k, c61, f62k]; rfl) ?_
                    refine thenC_n (q_ret rfl ?_)
                    cases h14
                    simp [c53, c54, c55, c61]
                  · rw [if_neg c61] at h13
                    refine zr rfl rfl rfl (by simp [c53, c58e, c54, c59e, f60k, c61]; rfl) ?_
                    refine thenC_n (q_ret rfl ?_)
                    cases h13
                    simp [c53, c54, c55, c61]
                · rw [if_neg c59] at h12
                  have c59e := eq_false c59
                  refine zr rfl rfl rfl (by simp [c53, c58e, c54, c59e]; rfl) ?_
                  refine thenC_n (q_ret rfl ?_)
                  cases h12
                  simp [c53, c54, c55]
              · rw [if_neg c58] at h12
                have c58e := eq_false c58
                refine zr rfl rfl rfl (by simp [c53, c58e]; rfl) ?_
                refine thenC_n (q_ret rfl ?_)
                cases h12
                simp [c53, c54, c55]
            · rw [if_neg c55] at h10
              refine q_ifT rfl (by simp [c55]) (zq rfl (zr rfl rfl rfl (by simp; rfl) ?_))
              refine thenC_n (q_ret rfl (thenC_r ?_))
              cases h10
              simp [c53, c54, c55]
          · rw [if_neg c54] at h10
            refine zr rfl rfl rfl (by simp [c50e, c51e, c52e, c53, c54]; rfl) ?_
            refine thenC_n (q_ifF rfl (by simp) (q_skip rfl (thenC_n (zq rfl ?_))))
            obtain ⟨v37, f63, h11⟩ := bnd_some h10
            have f63k := images_Apply_ok f63
            try simp at f63k
            refine zr rfl rfl rfl (by simp [f63k]; rfl) ?_
            refine thenC_n (zq rfl ?_)
            obtain ⟨v38, f64, h12⟩ := bnd_some h11
            have f64k := images_Apply_ok f64
            try simp at f64k
            refine zr rfl rfl rfl (by simp [f64k]; rfl) ?_
            refine thenC_n (zq rfl ?_)
            by_cases c65 : (andI .i64 v37.1 v27) = v27
            · rw [if_pos c65] at h12
              have c65e := eq_true c65
              obtain ⟨v39, f66, h13⟩ := bnd_some h12
              have f66k := ref01_Valid_ok f66
              try simp at f66k
              by_cases c67 : v39 = true
              · rw [if_pos c67] at h13
                obtain ⟨v40, f68, h14⟩ := bnd_some h13
                have f68k := xKnown_ok f68
                try simp at f68k
                refine zr rfl rfl rfl (by simp [c53, c65e, c54, f66k, c67, f68k]; rfl) ?_
                refine thenC_n (q_ret rfl ?_)
                cases h14
                simp [c53, c54, c67]
              · rw [if_neg c67] at h13
                refine zr rfl rfl rfl (by simp [c53, c65e, c54, f66k, c67]; rfl) ?_
                refine thenC_n (q_ret rfl ?_)
                cases h13
                simp [c53, c54, c67]
            · rw [if_neg c65] at h12
              have c65e := eq_false c65
              refine zr rfl rfl rfl (by simp [c53, c65e]; rfl) ?_
              refine thenC_n (q_ret rfl ?_)
              cases h12
              simp [c53, c54]
        · rw [if_neg c53] at h10
          refine zr rfl rfl rfl (by simp [c50e, c51e, c52e, c53]; rfl) ?_
          refine thenC_n (q_ifF rfl (by simp) (q_skip rfl (thenC_n (zq rfl ?_))))
          obtain ⟨v41, f69, h11⟩ := bnd_some h10
          have f69k := images_Apply_ok f69
          try simp at f69k
          refine zr rfl rfl rfl (by simp [f69k]; rfl) ?_
          refine thenC_n (zq rfl ?_)
          obtain ⟨v42, f70, h12⟩ := bnd_some h11
          have f70k := images_Apply_ok f70
          try simp at f70k
          refine zr rfl rfl rfl (by simp [f70k]; rfl) ?_
          refine thenC_n (zq rfl ?_)
          by_cases c71 : v31.2.1 = true
          · rw [if_pos c71] at h12
            by_cases c72 : (andI .i64 v42.1 v28) = v28
            · rw [if_pos c72] at h12
              have c72e := eq_true c72
              obtain ⟨v43, f73, h13⟩ := bnd_some h12
              have f73k := ref01_Valid_ok f73
              try simp at f73k
              by_cases c74 : v43 = true
              · rw [if_pos c74] at h13
                obtain ⟨v44, f75, h14⟩ := bnd_some h13
                have f75k := xKnown_ok f75
                try simp at f75k
                refine zr rfl rfl rfl (by simp [c53, c71, c72e, f73k, c74, f75k]; rfl) ?_
                refine thenC_n (q_ret rfl ?_)
                cases h14
                simp [c53, c71, c74]
              · rw [if_neg c74] at h13
                refine zr rfl rfl rfl (by simp [c53, c71, c72e, f73k, c74]; rfl) ?_
                refine thenC_n (q_ret rfl ?_)
                cases h13
                simp [c53, c71, c74]
            · rw [if_neg c72] at h12
              have c72e := eq_false c72
              refine zr rfl rfl rfl (by simp [c53, c71, c72e]; rfl) ?_
              refine thenC_n (q_ret rfl ?_)
              cases h12
              simp [c53, c71]
          · rw [if_neg c71] at h12
            obtain ⟨v45, f76, h13⟩ := bnd_some h12
            have f76k := ref01_Valid_ok f76
            try simp at f76k
            by_cases c77 : v45 = true
            · rw [if_pos c77] at h13
              obtain ⟨v46, f78, h14⟩ := bnd_some h13
              have f78k := xKnown_ok f78
              try simp at f78k
              refine zr rfl rfl rfl (by simp [c53, c71, f76k, c77, f78k]; rfl) ?_
              refine thenC_n (q_ret rfl ?_)
              cases h14
              simp [c53, c71, c77]
            · rw [if_neg c77] at h13
              refine zr rfl rfl rfl (by simp [c53, c71, f76k, c77]; rfl) ?_
              refine thenC_n (q_ret rfl ?_)
              cases h13
              simp [c53, c71, c77]
      · rw [if_neg c52] at h10
        have c52e := eq_false c52
        refine zr rfl rfl rfl (by simp [c50e, c51e, c52e]; rfl) ?_
        refine thenC_n (q_ifT rfl (by simp) (zq rfl (zr rfl rfl rfl (by simp; rfl) ?_)))
        refine thenC_n (q_ret rfl (thenC_r ?_))
        cases h10
        simp
    · rw [if_neg c51] at h10
      have c51e := eq_false c51
      refine zr rfl rfl rfl (by simp [c50e, c51e]; rfl) ?_
      refine thenC_n (q_ifT rfl (by simp) (zq rfl (zr rfl rfl rfl (by simp; rfl) ?_)))
      refine thenC_n (q_ret rfl (thenC_r ?_))
      cases h10
      simp
  · rw [if_neg c50] at h10
    have c50e := eq_false c50
    refine zr rfl rfl rfl (by simp [c50e]; rfl) ?_
    refine thenC_n (q_ifT rfl (by simp) (zq rfl (zr rfl rfl rfl (by simp; rfl) ?_)))
    refine thenC_n (q_ret rfl (thenC_r ?_))
    cases h10
    simp
end
end Go.Proofs.Ytbnnipkanechoaa
end
section
/- Plain: what Below returns is a word that does it; being below is transitive. -/
namespace Go.Proofs.Ytbnnipkanechoaa
open Go
set_option linter.unusedVariables false
set_option linter.unusedSimpArgs false
set_option maxRecDepth 100000

theorem lawBelow (l : List Int) (w0 : l.length ≤ maxLen) (z0 : ∀ x ∈ l, (Lit.int .i64 x).wf = true) (a : Int) (w1 : (Lit.int .i64 a).wf = true) (b : Int) (w2 : (Lit.int .i64 b).wf = true) (c : Int) (w3 : (Lit.int .i64 c).wf = true) : ∃ outs, L 9 [.sl l.length (l.map fun x => .sc (.int .i64 x)), .sc (.int .i64 a), .sc (.int .i64 b), .sc (.int .i64 c)] = some (bT true, outs) := by
  obtain ⟨t0, e0, h0⟩ := new_in l
  obtain ⟨m, t1, e1, m1, m2, h1⟩ := letters_in h0
  obtain ⟨d, t2, n, e2, hd, hn, h2⟩ := any_in h1 m 5 ⟨m1, m2⟩ (by omega)
  have h128 : 2 ^ n ≤ 128 := Nat.pow_le_pow_right (n := 2) (by omega) hn
  have hp := Nat.two_pow_pos n
  obtain ⟨p, e3, p0, p1⟩ := made_Mod_in a ((2 ^ n : Nat) : Int) (by omega) (by omega)
  obtain ⟨q, e4, q0, q1⟩ := made_Mod_in b ((2 ^ n : Nat) : Int) (by omega) (by omega)
  obtain ⟨r, e5, r0, r1⟩ := made_Mod_in c ((2 ^ n : Nat) : Int) (by omega) (by omega)
  obtain ⟨p, rfl⟩ := Int.eq_ofNat_of_zero_le p0
  obtain ⟨q, rfl⟩ := Int.eq_ofNat_of_zero_le q0
  obtain ⟨r, rfl⟩ := Int.eq_ofNat_of_zero_le r0
  have hpn : p < 2 ^ n := by omega
  have hqn : q < 2 ^ n := by omega
  have hrn : r < 2 ^ n := by omega
  have bel : ∀ {x y : Nat}, x < 2 ^ n → y < 2 ^ n → belE d m n (x : Int) (y : Int) = findB x (reachB d m n y) := fun {x y} hx hy => by
    unfold belE
    rw [if_pos ⟨⟨by omega, by omega⟩, by omega, by omega⟩, Int.toNat_natCast, Int.toNat_natCast]
  have app : ∀ {y : Nat} {w : ByteArray}, y < 2 ^ n → wordB m w → applyE d m n (y : Int) w = (((runN d y w.data.toList : Nat) : Int), 0) := fun {y w} hy hw => by
    unfold applyE
    rw [if_pos ⟨⟨by omega, by omega⟩, hw⟩, Int.toNat_natCast]
  obtain ⟨f1, g1, k1⟩ := findB_spec (p := p) hd hqn
  obtain ⟨f2, g2, k2⟩ := findB_spec (p := q) hd hrn
  obtain ⟨f3, g3, k3⟩ := findB_spec (p := p) hd hrn
  have wrd : ∀ {w : ByteArray}, (∀ c ∈ w.data.toList, 97 ≤ c.toNat ∧ c.toNat < 97 + m) → w.size ≤ 2 ^ n → wordB m w := fun h1 h2 => ⟨by omega, h1⟩
  have v1 : wordB m (findB p (reachB d m n q)).1 := by
    cases h : (findB p (reachB d m n q)).2.1 with
    | true => exact wrd (f1 h).1 (f1 h).2.1
    | false => rw [(g1 h).1]; exact ⟨by decide, fun c hc => by simp at hc⟩
  have v2 : wordB m (findB q (reachB d m n r)).1 := by
    cases h : (findB q (reachB d m n r)).2.1 with
    | true => exact wrd (f2 h).1 (f2 h).2.1
    | false => rw [(g2 h).1]; exact ⟨by decide, fun c hc => by simp at hc⟩
  have w6 : ref01_Valid (findB p (reachB d m n q)).1 6 = some true := by
    rw [show (6 : Int) = ((6 : Nat) : Int) from rfl, Valid_word (by omega)]
    congr 1
    rw [decide_eq_true_iff]
    exact ⟨v1.1, fun c hc => by have := v1.2 c hc; omega⟩
  have x1 : (findB p (reachB d m n q)).2.1 = true → andI .i64 ((runN d q (findB p (reachB d m n q)).1.data.toList : Nat) : Int) (p : Int) = (p : Int) := fun h => by
    have := runN_lt hd hqn v1.2
    rw [andI_nat (by omega) (by omega), Nat.and_comm]
    exact congrArg _ (f1 h).2.2
  have x2 : (findB q (reachB d m n r)).2.1 = true → andI .i64 ((runN d r (findB q (reachB d m n r)).1.data.toList : Nat) : Int) (q : Int) = (q : Int) := fun h => by
    have := runN_lt hd hrn v2.2
    rw [andI_nat (by omega) (by omega), Nat.and_comm]
    exact congrArg _ (f2 h).2.2
  have x3 : (findB p (reachB d m n q)).2.1 = true → (findB q (reachB d m n r)).2.1 = true → (findB p (reachB d m n r)).2.1 = true := fun h h' => by
    cases h3 : (findB p (reachB d m n r)).2.1 with
    | true => rfl
    | false => exact absurd (bel_trans hd ⟨_, v1.2, (f1 h).2.2⟩ ⟨_, v2.2, (f2 h').2.2⟩) (g3 h3).2
  have key : law24_ImagesBelow l a b c = some true := by
    unfold law24_ImagesBelow
    have e2' : made_Tape_Any t1 (m : Int) 5 = some (d, t2) := e2
    rw [e0, Option.bind_some, e1, Option.bind_some]
    simp only
    rw [e2', Option.bind_some]
    simp only
    rw [hd.fin, wrapU (by omega), chk_pos _ (by omega), shlI_one (by omega), e3, Option.bind_some, e4, Option.bind_some, e5, Option.bind_some]
    rw [below_eq hd (by omega), Option.bind_some, below_eq hd (by omega), Option.bind_some, below_eq hd (by omega), Option.bind_some, bel hpn hqn, bel hqn hrn, bel hpn hrn, if_pos k1, if_pos k2, if_pos k3]
    rw [Apply_eq hd (by omega), Apply_eq hd (by omega), app hqn v1, app hrn v2, w6]
    simp only [Option.bind_some]
    clear f1 f2 f3 g1 g2 g3
    generalize (findB p (reachB d m n q)).2.1 = b1 at *
    generalize (findB q (reachB d m n r)).2.1 = b2 at *
    generalize (findB p (reachB d m n r)).2.1 = b3 at *
    cases b1 <;> cases b2 <;> cases b3 <;> simp_all [xKnown]
  exact ⟨_, law24_ImagesBelow_ok key⟩
end Go.Proofs.Ytbnnipkanechoaa
end
section
/- Laws on slices that a call owns, over any program. -/
namespace Go.Proofs.Ytbnnipkanechoaa
set_option linter.unusedVariables false
open Go.RowKit

theorem grown_trans {w w1 w2 : World} {row : Option Nat} (h : w.grownBy w1 row) (k : w1.grownBy w2 row) : w.grownBy w2 row :=
  ⟨k.os.trans h.os, k.tape.trans h.tape, k.output.trans h.output, Nat.le_trans h.size k.size,
    fun b hb hr => (k.block b (Nat.lt_of_lt_of_le hb h.size) hr).trans (h.block b hb hr)⟩

/-- 'append(s, y)': s nil or the call's own, y one cell, laid in a block of its own just before. -/
theorem wpList_push {P : Program} {ops : Array Oper} {rest : List Oper} {o : Oper} {a : Act} {Q : Exit → Act → World → Prop} {w : World}
    (s x : Operand) (t e : TypeId) (z : Value) (bytes base : Nat) (hgd : o.guard = none)
    (ho : o.op = .call { callee := .builtin .append, args := #[s, x], argTypes := #[t, t] })
    (ht : P.underlying t = some (.slice e)) (hi : (P.info? e).map (fun i => (i.zero, i.size, i.bytes)) = some (some z, 1, bytes)) (hz : z.cells.size = 1)
    (v : Value) (n : Nat) (xs : List Value) (hs : a.eval s = v) (hown : w.ownsRow base e 1 v n xs)
    (y : Value) (c : Nat) (hx : a.eval x = .slice (some ⟨w.heap.size, 0, none⟩) 1 c) (h1 : y.oneCell' = true)
    (hb : (n + 1) * bytes ≤ 140737488355328) (hn : n < 4611686018427387904) (hbase : base ≤ w.heap.size)
    (h : ∀ v' w', w'.ownsRow base e 1 v' (n + 1) (xs ++ [y]) → w.grownBy w' v.ownBlock → v' ≠ .slice none 0 0 → wpList P ops Q rest (a.put o.dst v') w') :
    wpList P ops Q (o :: rest) a (w.alloc (.cells #[y] e)) := by
  obtain ⟨i0, hi1, hi2, hi3, hi4⟩ := info_parts hi
  refine wpList_append_own (w.alloc (.cells #[y] e)) hgd s x t ho base e i0 z 1 bytes ht hi1 hi2 hi3 hi4 hz (by decide) v n xs hs (hown.alloc _) ⟨w.heap.size, 0, none⟩ 1 c [y] hx rfl
    (fun j u hj => ?_) (fun u hu => ?_) (by unfold maxLen; omega) hb (by simp; omega) (fun v' w' o' g' iff' => h v' w' o' (grown_trans (World.grownBy_alloc w _ _) g') (fun e => ?_))
  · match j, hj with
    | 0, hj => simp at hj; subst hj; simp [Addr.add, World.cell?_alloc_new]
    | j + 1, hj => simp at hj
  · simp at hu; subst hu; exact h1
  · have := iff'.1 e; omega

theorem Below_of_grown {w w' : World} {row : Option Nat} {base : Nat} (h : w.grownBy w' row) (hb : base ≤ w.heap.size) (hr : ∀ k, row = some k → base ≤ k) : Below base w w' :=
  Below.grown (Below.refl _ _) h hb hr


/-- The n cells at block g are f 0, f 1 .. and may be written. -/
def Arr (w : World) (g n : Nat) (f : Nat → Value) : Prop :=
  ∀ i, i < n → w.cell? ⟨g, i, none⟩ = some (f i) ∧ w.frozen? ⟨g, i, none⟩ = false

theorem Arr.set {w : World} {g n : Nat} {f : Nat → Value} (h : Arr w g n f) (j : Nat) (hj : j < n) (c : Value) :
    Arr (w.setCell ⟨g, j, none⟩ c) g n (fun i => if i = j then c else f i) := by
  intro i hi
  refine ⟨?_, by rw [World.frozen?_setCell]; exact (h i hi).2⟩
  by_cases hij : i = j
  · subst hij
    rw [World.cell?_setCell_same _ _ _ (h i hi).1]; simp
  · rw [World.cell?_setCell_other _ _ _ _ (fun e => hij (by cases e; rfl)), (h i hi).1]; simp [hij]

theorem Arr.setOther {w : World} {g n : Nat} {f : Nat → Value} (h : Arr w g n f) {g' : Nat} (hg : g ≠ g') (j : Nat) (c : Value) : Arr (w.setCell ⟨g', j, none⟩ c) g n f := by
  intro i hi
  refine ⟨?_, by rw [World.frozen?_setCell]; exact (h i hi).2⟩
  rw [World.cell?_setCell_other _ _ _ _ (fun e => hg (by cases e; rfl))]; exact (h i hi).1

theorem Arr.drew {w : World} {g n : Nat} {f : Nat → Value} (h : Arr w g n f) : Arr w.drew g n f := h
theorem Arr.congr {w : World} {g n : Nat} {f f' : Nat → Value} (h : Arr w g n f) (e : ∀ i, i < n → f i = f' i) : Arr w g n f' :=
  fun i hi => by rw [← e i hi]; exact h i hi
theorem Arr.below {w w' : World} {g n B : Nat} {f : Nat → Value} (h : Arr w g n f) (hb : Below B w w') (hg : g < B) : Arr w' g n f :=
  fun i hi => ⟨(hb.cell (p := ⟨g, i, none⟩) hg).trans (h i hi).1, (hb.frozen (p := ⟨g, i, none⟩) hg).trans (h i hi).2⟩
theorem Arr.grown {w w' : World} {g n : Nat} {row : Option Nat} {f : Nat → Value} (h : Arr w g n f) (hb : w.grownBy w' row) (hg : some g ≠ row) : Arr w' g n f :=
  fun i hi => by
    have hlt := World.block_lt_of_cell? w _ (h i hi).1
    have e := hb.block g hlt hg
    exact ⟨(World.cell?_of_block (a := ⟨g, i, none⟩) e).trans (h i hi).1, (World.frozen?_of_block (a := ⟨g, i, none⟩) e).trans (h i hi).2⟩
theorem Arr.made (w : World) (z : Value) (n : Nat) (e : TypeId) : Arr (w.alloc (.cells (madeCells #[z] n) e)) w.heap.size n (fun _ => z) := by
  intro i hi
  refine ⟨?_, by rw [World.frozen?_alloc_new]⟩
  rw [World.cell?_alloc_new]
  simp [madeCells, hi, Nat.mod_one]
theorem Arr.lt {w : World} {g n : Nat} {f : Nat → Value} (h : Arr w g n f) (hn : 0 < n) : g < w.heap.size := World.block_lt_of_cell? w _ (h 0 hn).1

/-- 'append(s, y)' as one step of a region that draws: s nil or the call's own. -/
theorem step_push {P : Program} {ops : Array Oper} {o : Oper} {a : Act} {w : World} {K : Act → World → Prop} {Q : Exit → Act → World → Prop} {E : Prop}
    (s x : Operand) (t e : TypeId) (z : Value) (bytes base : Nat) (hgd : o.guard = none)
    (ho : o.op = .call { callee := .builtin .append, args := #[s, x], argTypes := #[t, t] })
    (ht : P.underlying t = some (.slice e)) (hi : (P.info? e).map (fun i => (i.zero, i.size, i.bytes)) = some (some z, 1, bytes)) (hz : z.cells.size = 1)
    (v : Value) (n : Nat) (xs : List Value) (hs : a.eval s = v) (hown : w.ownsRow base e 1 v n xs)
    (y : Value) (b c : Nat) (hx : a.eval x = .slice (some ⟨b, 0, none⟩) 1 c) (hy : w.cell? ⟨b, 0, none⟩ = some y) (h1 : y.oneCell' = true)
    (hb : (n + 1) * bytes ≤ 140737488355328) (hn : n < 4611686018427387904) (hbase : base ≤ w.heap.size)
    (h : ∀ v' w', w'.ownsRow base e 1 v' (n + 1) (xs ++ [y]) → w.grownBy w' v.ownBlock → v' ≠ .slice none 0 0 → K (a.put o.dst v') w') :
    if Region.wanted o (yielded ops a.tmps) = true then Oper.wp P o a w K Q else E := by
  have hw : Region.wanted o (yielded ops a.tmps) = true := by simp [Region.wanted, hgd]
  rw [if_pos hw]
  obtain ⟨i0, hi1, hi2, hi3, hi4⟩ := info_parts hi
  refine wp_append_own w s x t ho base e i0 z 1 bytes ht hi1 hi2 hi3 hi4 hz (by decide) v n xs hs hown ⟨b, 0, none⟩ 1 c [y] hx rfl
    (fun j u hj => ?_) (fun u hu => ?_) (by unfold maxLen; omega) hb hbase (fun v' w' o' g' iff' => h v' w' o' g' (fun e => ?_))
  · match j, hj with
    | 0, hj => simp at hj; subst hj; simpa [Addr.add] using hy
    | j + 1, hj => simp at hj
  · simp at hu; subst hu; exact h1
  · have := iff'.1 e; omega

/-- 'make([]T, n)', T of one cell: the new world by what is known of it. -/
theorem wpList_make_arr {P : Program} {ops : Array Oper} {rest : List Oper} {o : Oper} {a : Act} {Q : Exit → Act → World → Prop} {w : World}
    (l c : Operand) (t e : TypeId) (z : Value) (bytes : Nat) (hgd : o.guard = none) (hop : o.op = .makeSlice t l c)
    (ht : P.underlying t = some (.slice e)) (hi : (P.info? e).map (fun i => (i.zero, i.size, i.bytes)) = some (some z, 1, bytes)) (hz1 : z.cells = #[z])
    (kl kc : IntKind) (N : Int) (n : Nat) (hN : N = (n : Int)) (hl : a.eval l = .int kl N) (hc : a.eval c = .int kc N) (hb : bytes * n ≤ 281474976710656) (h63 : n ≤ 4611686018427387904)
    (h : ∀ w', Arr w' w.heap.size n (fun _ => z) → Below w.heap.size w w' → w.heap.size < w'.heap.size → w'.ownsRow w.heap.size e 1 (.slice (some ⟨w.heap.size, 0, none⟩) n n) n (List.replicate n z) →
      wpList P ops Q rest (a.put o.dst (.slice (some ⟨w.heap.size, 0, none⟩) n n)) w') :
    wpList P ops Q (o :: rest) a w := by
  subst hN
  obtain ⟨i0, hi1, hi2, hi3, hi4⟩ := info_parts hi
  refine wpList_make_row w hgd l c t hop e i0 z ht hi1 hi2 hi3 hz1 kl kc n hl hc (by rw [hi4]; exact hb) (by omega) (h _ (Arr.made w z n e) ((Below.refl _ _).alloc (Nat.le_refl _) _) (by simp) ?_)
  refine ⟨by simp, .inr ⟨w.heap.size, n, madeCells #[z] n, rfl, Nat.le_refl _, heap_alloc_new w _, Nat.le_refl _, by unfold maxLen; omega, by simp [size_madeCells], ?_⟩⟩
  apply List.ext_getElem
  · simp [size_madeCells]
  · intro i h1 h2
    simp [madeCells, Nat.mod_one]

theorem Arr.get {w : World} {g n : Nat} {f : Nat → Value} (h : Arr w g n f) (i : Nat) (hi : i < n) {v : Value} (e : f i = v) : w.cell? ⟨g, i, none⟩ = some v := by rw [(h i hi).1, e]
theorem Arr.free {w : World} {g n : Nat} {f : Nat → Value} (h : Arr w g n f) (i : Nat) (hi : i < n) : w.frozen? ⟨g, i, none⟩ = false := (h i hi).2

theorem ownsRow_base {w : World} {b b' : Nat} {e : TypeId} {size : Nat} {v : Value} {n : Nat} {xs : List Value} (h : w.ownsRow b e size v n xs) (hb : b' ≤ b) : w.ownsRow b' e size v n xs :=
  ⟨h.1, h.2.imp id fun ⟨g, cap, cur, h1, h2, h3⟩ => ⟨g, cap, cur, h1, Nat.le_trans hb h2, h3⟩⟩

/-- v' lies where v lay, or in a block that w does not have. -/
def SameOrNew (w : World) (v v' : Value) : Prop := v'.ownBlock = v.ownBlock ∨ ∃ g, v'.ownBlock = some g ∧ w.heap.size ≤ g

/-- 'append' to an owned slice, with the word that its block is the old one or a new one. -/
theorem run_append_place {P : Program} (w : World) (base : Nat) (t ty e : TypeId) (i : TypeInfo) (z : Value) (size bytes : Nat) (ht : P.underlying t = some (.slice e)) (hi : P.info? e = some i) (hz : i.zero = some z)
    (hsize : i.size = size) (hby : i.bytes = bytes) (hzs : z.cells.size = size) (hsz : 0 < size)
    (v : Value) (n : Nat) (xs : List Value) (hown : w.ownsRow base e size v n xs)
    (a : Addr) (m c : Nat) (news : List Value) (hl : news.length = m * size) (hnews : ∀ j u, news[j]? = some u → w.cell? (a.add j) = some u) (h1 : ∀ u ∈ news, u.oneCell' = true)
    (h63 : n + m ≤ maxLen) (hbytes : (n + m) * bytes ≤ 140737488355328) (hbase : base ≤ w.heap.size) :
    ∃ v' w', (Builtin.append_ #[t, t] ty #[v, .slice (some a) m c]).run P w = .ok v' w' ∧ w'.ownsRow base e size v' (n + m) (xs ++ news) ∧ w.grownBy w' v.ownBlock ∧
      (v' = .slice none 0 0 ↔ v = .slice none 0 0 ∧ m = 0) ∧ SameOrNew w v v' := by
  have hsmall : n + m ≤ 9223372036854775807 := by simp only [maxLen] at h63; omega
  rcases hown.2 with ⟨rfl, rfl⟩ | ⟨g, cap, cur, rfl, hbg, hg, hnc, hcm, hcs, htake⟩
  · have hown' : w.ownsRow w.heap.size e size (.slice none 0 0) 0 xs := ⟨hown.1, .inl ⟨rfl, rfl⟩⟩
    obtain ⟨v', w', hr, ho, hgr, hiff⟩ := run_append_own (P := P) w w.heap.size t ty e i z size bytes ht hi hz hsize hby hzs hsz _ 0 xs hown' a m c news hl hnews h1 h63 hbytes (Nat.le_refl _)
    refine ⟨v', w', hr, ownsRow_base ho hbase, hgr, hiff, ?_⟩
    cases hv : v'.ownBlock with
    | none => exact .inl (by rw [hv]; rfl)
    | some g => exact .inr ⟨g, hv, (ho.lt g hv).1⟩
  · obtain ⟨v', w', hr, ho, hgr, hiff⟩ := run_append_own (P := P) w base t ty e i z size bytes ht hi hz hsize hby hzs hsz _ n xs hown a m c news hl hnews h1 h63 hbytes hbase
    refine ⟨v', w', hr, ho, hgr, hiff, ?_⟩
    subst hsize
    subst hby
    by_cases hroom : n + m ≤ cap
    · have hfit : n * i.size + news.length ≤ cur.size := by rw [hl, hcs, ← Nat.add_mul]; exact Nat.mul_le_mul_right _ hroom
      have hr2 := run_append_room (P := P) w t ty e i ht hi g n cap cur hg a m c news hl hnews h1 hroom hfit
      rw [hr] at hr2
      injection hr2 with e1 e2
      exact .inl (by rw [e1]; rfl)
    · have holds : ∀ j u, xs[j]? = some u → w.cell? ((⟨g, 0, none⟩ : Addr).add j) = some u := hown.cells (g := g) rfl
      have hr2 := run_append_grow (P := P) w t ty e i z ht hi hz ⟨g, 0, none⟩ n cap xs hown.1 holds a m c news hl hnews (by omega) (by omega) (growslice_fits (by omega) hbytes)
      rw [hr] at hr2
      injection hr2 with e1 e2
      exact .inr ⟨w.heap.size, by rw [e1]; rfl, Nat.le_refl _⟩

/-- 'append(s, y)' as one step of a region that draws, with the place. -/
theorem step_push_place {P : Program} {ops : Array Oper} {o : Oper} {a : Act} {w : World} {K : Act → World → Prop} {Q : Exit → Act → World → Prop} {E : Prop}
    (s x : Operand) (t e : TypeId) (z : Value) (bytes base : Nat) (hgd : o.guard = none)
    (ho : o.op = .call { callee := .builtin .append, args := #[s, x], argTypes := #[t, t] })
    (ht : P.underlying t = some (.slice e)) (hi : (P.info? e).map (fun i => (i.zero, i.size, i.bytes)) = some (some z, 1, bytes)) (hz : z.cells.size = 1)
    (v : Value) (n : Nat) (xs : List Value) (hs : a.eval s = v) (hown : w.ownsRow base e 1 v n xs)
    (y : Value) (b c : Nat) (hx : a.eval x = .slice (some ⟨b, 0, none⟩) 1 c) (hy : w.cell? ⟨b, 0, none⟩ = some y) (h1 : y.oneCell' = true)
    (hb : (n + 1) * bytes ≤ 140737488355328) (hn : n < 4611686018427387904) (hbase : base ≤ w.heap.size)
    (h : ∀ v' w', w'.ownsRow base e 1 v' (n + 1) (xs ++ [y]) → w.grownBy w' v.ownBlock → SameOrNew w v v' → (∃ g k l, v' = .slice (some g) k l) → K (a.put o.dst v') w') :
    if Region.wanted o (yielded ops a.tmps) = true then Oper.wp P o a w K Q else E := by
  have hw : Region.wanted o (yielded ops a.tmps) = true := by simp [Region.wanted, hgd]
  rw [if_pos hw]
  obtain ⟨i0, hi1, hi2, hi3, hi4⟩ := info_parts hi
  obtain ⟨v', w', hr, o', g', iff', pl⟩ := run_append_place (P := P) w base t o.type e i0 z 1 bytes ht hi1 hi2 hi3 hi4 hz (by decide) v n xs hown ⟨b, 0, none⟩ 1 c [y] rfl
    (fun j u hj => by
      match j, hj with
      | 0, hj => simp at hj; subst hj; simpa [Addr.add] using hy
      | j + 1, hj => simp at hj)
    (fun u hu => by simp at hu; subst hu; exact h1) (by unfold maxLen; omega) hb hbase
  have hnn : ∃ g k l, v' = .slice (some g) k l := by
    rcases o'.2 with ⟨_, hz⟩ | ⟨g, cap, cur, rfl, _⟩
    · omega
    · exact ⟨_, _, _, rfl⟩
  unfold Oper.wp execOp
  simp only [ho, resolve, invoke, builtin, Sem.run_bind, Sem.run_pure, Result.andThen_ok, List.map_toArray, List.map_cons, List.map_nil, hs, hx, hr]
  exact h v' w' o' g' pl hnn

/-- A variable of an array type, all of whose cells are z at first: the new world by what is known of it. -/
theorem wpList_alloc_arr {P : Program} {ops : Array Oper} {rest : List Oper} {o : Oper} {a : Act} {Q : Exit → Act → World → Prop} {w : World}
    (T : TypeId) (z : Value) (n : Nat) (hgd : o.guard = none) (hop : o.op = .alloc T)
    (hz : ((P.info? T).bind (·.zero)).map (·.cells) = some (Array.replicate n z))
    (h : ∀ w', Arr w' w.heap.size n (fun _ => z) → Below w.heap.size w w' → w.heap.size < w'.heap.size →
      wpList P ops Q rest (a.put o.dst (.pointer (some ⟨w.heap.size, 0, none⟩))) w') :
    wpList P ops Q (o :: rest) a w := by
  refine wpList_plain hgd fun K hK => ?_
  obtain ⟨zv, hzv, hcs⟩ := Option.map_eq_some_iff.1 hz
  obtain ⟨i, hi, hzi⟩ := Option.bind_eq_some_iff.1 hzv
  have hrun : (Instr.alloc T true (.tuple #[])).run P w = .ok (.pointer (some ⟨w.heap.size, 0, none⟩)) (w.alloc (.cells (Array.replicate n z) T)) := by
    simp [Instr.alloc, zeroValue, typeInfo, hi, hzi, newVar, newRow, newObj, hcs]
    rfl
  unfold Oper.wp execOp
  simp only [hop, Sem.run_bind, Sem.run_pure, hrun, Result.andThen_ok]
  refine hK _ _ (h _ (fun i hi => ⟨?_, by rw [World.frozen?_alloc_new]⟩) ((Below.refl _ _).alloc (Nat.le_refl _) _) (by simp))
  rw [World.cell?_alloc_new]
  simp [hi]

/-- An owned row is a slice value; where it has an element it has an address. -/
theorem ownsRow_slice {w : World} {base : Nat} {e : TypeId} {v : Value} {n : Nat} {xs : List Value} (h : w.ownsRow base e 1 v n xs) :
    ∃ ga cap, v = .slice ga n cap ∧ n ≤ maxLen ∧ ∀ j u, xs[j]? = some u → ∃ g, ga = some ⟨g, 0, none⟩ ∧ w.cell? ⟨g, j, none⟩ = some u ∧ base ≤ g := by
  rcases h.2 with ⟨rfl, rfl⟩ | ⟨g, cap, cur, rfl, hb, hg, hn, hc, _⟩
  · have hx : xs = [] := List.eq_nil_of_length_eq_zero (by simpa using h.1)
    subst hx
    exact ⟨none, 0, rfl, by decide, fun j u hj => by simp at hj⟩
  · refine ⟨_, _, rfl, by omega, fun j u hj => ⟨g, rfl, ?_, hb⟩⟩
    have := h.cells (g := g) rfl j u hj
    rw [show (⟨g, 0, none⟩ : Addr).add j = ⟨g, j, none⟩ by rw [Addr.add_lit]; simp] at this
    exact this
end Go.Proofs.Ytbnnipkanechoaa
end
section
/-
  DERIVED: THE SHELF's CONTRACTS AT THIS DUMP, IN PLAIN WORDS (tools/lay-plain.mjs out of 'TryShelf.lean', which tools/lay-shelf.mjs wrote): THE SAME DECLARATIONS UNDER THE SAME NAMES: 'import', 'namespace', 'open', 'def', 'theorem' AND NOTHING ELSE: no command of the shelf's: FOR A HAND-IN. Each laying: the table of numbers ('.._ren') and one theorem, a field a fact of the dump's own or the kernel's comparison; each contract: ONE APPLICATION.
-/
namespace Go.Proofs
open Go.Shelf
def Try.lays128_ren : Go.Shelf.Ren := ⟨fun | 128 => 88 | n => n, fun | 51 => 102 | 3 => 3 | 4 => 4 | 46 => 51 | 5 => 5 | 9 => 9 | n => n, fun | n => n⟩
theorem Try.lays128 : Go.Proofs.Lays.n128 Try.prog Try.lays128_ren := {
  mixed := by kernel_rfl
  f128 := Try.func88.trans (congrArg some (by kernel_rfl))
  t3 := Try.underlying3
  a3 := Try.isAgg3
  z3 := Try.sizeOf3
  v3 := Try.zeroValue3
  t4 := Try.underlying4
  a4 := Try.isAgg4
  z4 := Try.sizeOf4
  v4 := Try.zeroValue4
  t5 := Try.underlying5
  a5 := Try.isAgg5
  z5 := Try.sizeOf5
  v5 := Try.zeroValue5
  t9 := Try.underlying9
  a9 := Try.isAgg9
  z9 := Try.sizeOf9
  v9 := Try.zeroValue9
  t46 := Try.underlying51
  a46 := Try.isAgg51
  z46 := Try.sizeOf51
  v46 := Try.zeroValue51
  t51 := Try.underlying102
  a51 := Try.isAgg102
  z51 := Try.sizeOf102
  v51 := Try.zeroValue102 }
/-- bits.Len32: "Len32 returns the minimum number of bits required to represent x; the result is 0 for x == 0.": IT RETURNS 'Lib.bitLen x'; the world is as it was. ('h0', 'h1': x is a uint32.) (LAID: no walk: one application.) -/
theorem Try.bits_Len32 (x : Int) (w : World) (h0 : 0 ≤ x) (h1 : x ≤ 4294967295) :
    Calls Try.prog 88 #[.int .u32 x] w fun e w' => e = .returned (.int .i64 (Lib.bitLen x.toNat)) ∧ w' = w := Any.bits_Len32 Try.lays128 x w h0 h1
def Try.lays125_ren : Go.Shelf.Ren := ⟨fun | 125 => 76 | 128 => 88 | 129 => 89 | n => n, fun | 46 => 51 | 3 => 3 | 51 => 102 | 53 => 104 | 4 => 4 | 5 => 5 | 9 => 9 | n => n, fun | n => n⟩
theorem Try.lays125 : Go.Proofs.Lays.n125 Try.prog Try.lays125_ren := {
  mixed := by kernel_rfl
  f125 := Try.func76.trans (congrArg some (by kernel_rfl))
  f128 := Try.func88.trans (congrArg some (by kernel_rfl))
  f129 := Try.func89.trans (congrArg some (by kernel_rfl))
  t3 := Try.underlying3
  a3 := Try.isAgg3
  z3 := Try.sizeOf3
  v3 := Try.zeroValue3
  t4 := Try.underlying4
  a4 := Try.isAgg4
  z4 := Try.sizeOf4
  v4 := Try.zeroValue4
  t5 := Try.underlying5
  a5 := Try.isAgg5
  z5 := Try.sizeOf5
  v5 := Try.zeroValue5
  t9 := Try.underlying9
  a9 := Try.isAgg9
  z9 := Try.sizeOf9
  v9 := Try.zeroValue9
  t46 := Try.underlying51
  a46 := Try.isAgg51
  z46 := Try.sizeOf51
  v46 := Try.zeroValue51
  t51 := Try.underlying102
  a51 := Try.isAgg102
  z51 := Try.sizeOf102
  v51 := Try.zeroValue102
  t53 := Try.underlying104
  a53 := Try.isAgg104
  z53 := Try.sizeOf104
  v53 := Try.zeroValue104 }
/-- bits.Len: "Len returns the minimum number of bits required to represent x; the result is 0 for x == 0.": IT RETURNS 'Lib.bitLen x'; the world is as it was. (A uint has 64 bits in the model.) ITS CALLEE bits.Len64 IS MET BY ITS OWN CONTRACT OFF THE SHELF (lay that first). (LAID: no walk: one application.) -/
theorem Try.bits_Len (x : Int) (w : World) (h0 : 0 ≤ x) (h1 : x ≤ 18446744073709551615) :
    Calls Try.prog 76 #[.int .u64 x] w fun e w' => e = .returned (.int .i64 (Lib.bitLen x.toNat)) ∧ w' = w := Any.bits_Len Try.lays125 x w h0 h1
def Try.lays129_ren : Go.Shelf.Ren := ⟨fun | 129 => 89 | n => n, fun | 53 => 104 | 3 => 3 | 4 => 4 | 46 => 51 | 5 => 5 | 9 => 9 | n => n, fun | n => n⟩
theorem Try.lays129 : Go.Proofs.Lays.n129 Try.prog Try.lays129_ren := {
  mixed := by kernel_rfl
  f129 := Try.func89.trans (congrArg some (by kernel_rfl))
  t3 := Try.underlying3
  a3 := Try.isAgg3
  z3 := Try.sizeOf3
  v3 := Try.zeroValue3
  t4 := Try.underlying4
  a4 := Try.isAgg4
  z4 := Try.sizeOf4
  v4 := Try.zeroValue4
  t5 := Try.underlying5
  a5 := Try.isAgg5
  z5 := Try.sizeOf5
  v5 := Try.zeroValue5
  t9 := Try.underlying9
  a9 := Try.isAgg9
  z9 := Try.sizeOf9
  v9 := Try.zeroValue9
  t46 := Try.underlying51
  a46 := Try.isAgg51
  z46 := Try.sizeOf51
  v46 := Try.zeroValue51
  t53 := Try.underlying104
  a53 := Try.isAgg104
  z53 := Try.sizeOf104
  v53 := Try.zeroValue104 }
/-- bits.Len64: "Len64 returns the minimum number of bits required to represent x; the result is 0 for x == 0.": IT RETURNS 'Lib.bitLen x'; the world is as it was. ('h0', 'h1': x is a uint64.) (LAID: no walk: one application.) -/
theorem Try.bits_Len64 (x : Int) (w : World) (h0 : 0 ≤ x) (h1 : x ≤ 18446744073709551615) :
    Calls Try.prog 89 #[.int .u64 x] w fun e w' => e = .returned (.int .i64 (Lib.bitLen x.toNat)) ∧ w' = w := Any.bits_Len64 Try.lays129 x w h0 h1
def Try.laysNm237_ren : Go.Shelf.Ren := ⟨fun | 37 => 77 | n => n, fun | 3 => 3 | 4 => 4 | n => n, fun | n => n⟩
theorem Try.laysNm237 : Go.Proofs.Lays2.n37 Try.prog Try.laysNm237_ren := {
  mixed := by kernel_rfl
  f37 := Try.func77.trans (congrArg some (by kernel_rfl))
  t3 := Try.underlying3
  a3 := Try.isAgg3
  z3 := Try.sizeOf3
  v3 := Try.zeroValue3
  t4 := Try.underlying4
  a4 := Try.isAgg4
  z4 := Try.sizeOf4
  v4 := Try.zeroValue4 }
open Go.RowKit Go.Lib in
/-- cmp.isNaN[int]: 'x != x': false. (LAID: no walk: one application.) -/
theorem Try.cmp_isNaN_int2 (x : Int) (w : World) :
    Calls Try.prog 77 #[.int .i64 x] w fun e w' => e = .returned (.bool false) ∧ w' = w := Any.cmp_isNaN_int2 Try.laysNm237 x w
def Try.laysSlC27_f77_ren : Go.Shelf.Ren := ⟨fun | 7 => 77 | n => n, fun | 22 => 3 | 4 => 4 | n => n, fun | n => n⟩
theorem Try.laysSlC27_f77 : Go.Proofs.SlLaysC2.n7 Try.prog Try.laysSlC27_f77_ren := {
  mixed := by kernel_rfl
  f7 := ⟨Try.f77.name, by decide, Try.func77.trans (congrArg some (by kernel_rfl))⟩
  t4 := Try.underlying4
  a4 := Try.isAgg4
  z4 := Try.sizeOf4
  v4 := Try.zeroValue4
  t22 := Try.underlying3
  a22 := Try.isAgg3
  z22 := Try.sizeOf3
  v22 := Try.zeroValue3 }
open Go.Lib in
/-- cmp.isNaN at an int under a name: 'x != x': false. (LAID AT THE INSTANCE 'cmp.isNaN[int]': no walk: one application.) -/
theorem Try.cmp_isNaN_int (x : Int) (w : World) :
    Calls Try.prog 77 #[.int .i64 x] w fun e w' => e = .returned (.bool false) ∧ w' = w := AnyG.cmp_isNaN_int Try.laysSlC27_f77 x w
def Try.laysSlC25_f67_ren : Go.Shelf.Ren := ⟨fun | 5 => 67 | 7 => 77 | n => n, fun | 22 => 3 | 3 => 3 | 4 => 4 | n => n, fun | n => n⟩
theorem Try.laysSlC25_f67 : Go.Proofs.SlLaysC2.n5 Try.prog Try.laysSlC25_f67_ren := {
  mixed := by kernel_rfl
  f5 := ⟨Try.f67.name, by decide, Try.func67.trans (congrArg some (by kernel_rfl))⟩
  f7 := ⟨Try.f77.name, by decide, Try.func77.trans (congrArg some (by kernel_rfl))⟩
  t3 := Try.underlying3
  a3 := Try.isAgg3
  z3 := Try.sizeOf3
  v3 := Try.zeroValue3
  t4 := Try.underlying4
  a4 := Try.isAgg4
  z4 := Try.sizeOf4
  v4 := Try.zeroValue4
  t22 := Try.underlying3
  a22 := Try.isAgg3
  z22 := Try.sizeOf3
  v22 := Try.zeroValue3 }
open Go.Lib in
/-- cmp.Compare at an int under a name: "Compare returns -1 if x is less than y, 0 if x equals y, +1 if x is greater than y.": IT RETURNS 'Lib.compareInt x y'; the world is as it was. (LAID AT THE INSTANCE 'cmp.Compare[int]': no walk: one application.) -/
theorem Try.cmp_Compare_int (x y : Int) (w : World) :
    Calls Try.prog 67 #[.int .i64 x, .int .i64 y] w fun e w' => e = .returned (.int .i64 (Lib.compareInt x y)) ∧ w' = w := AnyG.cmp_Compare_int Try.laysSlC25_f67 x y w
def Try.laysSlF20_f80_ren : Go.Shelf.Ren := ⟨fun | 20 => 80 | n => n, fun | 24 => 3 | 22 => 22 | 3 => 3 | 25 => 46 | 4 => 4 | 0 => 0 | n => n, fun | n => n⟩
theorem Try.laysSlF20_f80 : Go.Proofs.SlLaysF.n20 Try.prog Try.laysSlF20_f80_ren := {
  mixed := by kernel_rfl
  f20 := ⟨Try.f80.name, by decide, Try.func80.trans (congrArg some (by kernel_rfl))⟩
  t0 := Try.underlying0
  a0 := Try.isAgg0
  z0 := Try.sizeOf0
  v0 := Try.zeroValue0
  t3 := Try.underlying3
  a3 := Try.isAgg3
  z3 := Try.sizeOf3
  v3 := Try.zeroValue3
  t4 := Try.underlying4
  a4 := Try.isAgg4
  z4 := Try.sizeOf4
  v4 := Try.zeroValue4
  t22 := Try.underlying22
  a22 := Try.isAgg22
  z22 := Try.sizeOf22
  v22 := Try.zeroValue22
  a24 := Try.isAgg3
  z24 := Try.sizeOf3
  t25 := Try.underlying46
  a25 := Try.isAgg46
  z25 := Try.sizeOf46
  v25 := Try.zeroValue46 }
open Go.RowKit Go.Lib Go.Sort in
theorem Try.insertionSortCmpFunc_one {α : Type} [Inhabited α] (enc : α → Value) (hO : OneCell enc) (cf : α → α → Int) (g : Nat) (cb : Array Value) (blk off cap a b : Nat) (d : Array α) (w : World) (eg : ∀ args w, (callFunc g args).run Try.prog w = .ok (.enter g args) w) (hcmp : CmpReads Try.prog g cb enc cf blk off d.size w) (hH : Holds enc w blk off d) (hab : a ≤ b) (hb : b ≤ d.size) (hsz : d.size < 4611686018427387904) :
    Calls Try.prog 80 #[.slice (some ⟨blk, off, none⟩) d.size cap, .int .i64 a, .int .i64 b, .func (.func g) #[] cb] w fun e w' =>
      e = .returned (.tuple #[]) ∧ ∃ n, w' = (putRow enc w blk off (Sort.insertionSort (ltOf cf) d a b)).drewN n := Any.insertionSortCmpFunc_one Try.laysSlF20_f80 enc hO cf g cb blk off cap a b d w eg hcmp hH hab hb hsz
def Try.laysSlF46_f93_ren : Go.Shelf.Ren := ⟨fun | 46 => 93 | n => n, fun | 24 => 3 | 22 => 22 | 3 => 3 | 25 => 46 | 4 => 4 | 0 => 0 | n => n, fun | n => n⟩
theorem Try.laysSlF46_f93 : Go.Proofs.SlLaysF.n46 Try.prog Try.laysSlF46_f93_ren := {
  mixed := by kernel_rfl
  f46 := ⟨Try.f93.name, by decide, Try.func93.trans (congrArg some (by kernel_rfl))⟩
  t0 := Try.underlying0
  a0 := Try.isAgg0
  z0 := Try.sizeOf0
  v0 := Try.zeroValue0
  t3 := Try.underlying3
  a3 := Try.isAgg3
  z3 := Try.sizeOf3
  v3 := Try.zeroValue3
  t4 := Try.underlying4
  a4 := Try.isAgg4
  z4 := Try.sizeOf4
  v4 := Try.zeroValue4
  t22 := Try.underlying22
  a22 := Try.isAgg22
  z22 := Try.sizeOf22
  v22 := Try.zeroValue22
  a24 := Try.isAgg3
  z24 := Try.sizeOf3
  t25 := Try.underlying46
  a25 := Try.isAgg46
  z25 := Try.sizeOf46
  v25 := Try.zeroValue46 }
open Go.RowKit Go.Lib Go.Sort in
/-- slices.siftDownCmpFunc at elements of one cell: from a world of the sort's to a world of the sort's. (LAID AT THE INSTANCE 'slices.siftDownCmpFunc[int]': no walk: one application.) -/
theorem Try.siftDownCmpFunc {α : Type} [Inhabited α] (enc : α → Value) (cf : α → α → Int) (g : Nat) (cb : Array Value) (blk off cap lo hi first : Nat) (d0 d : Array α) (w0 w : World) (eg : ∀ args w, (callFunc g args).run Try.prog w = .ok (.enter g args) w) (hcmp : CmpLays1 Try.prog g cb enc cf blk off d0.size w0) (R : Row1 enc w0 blk off d0) (hs : d0.size = d.size) (S : SW enc w0 blk off d w) (hlo : lo ≤ hi) (hb : first + hi ≤ d.size) (hsz : d.size < 4611686018427387904) :
    Calls Try.prog 93 #[.slice (some ⟨blk, off, none⟩) d.size cap, .int .i64 lo, .int .i64 hi, .int .i64 first, .func (.func g) #[] cb] w fun e w' =>
      e = .returned (.tuple #[]) ∧ SW enc w0 blk off (siftDown (ltOf cf) hi first lo d) w' := Any.siftDownCmpFunc Try.laysSlF46_f93 enc cf g cb blk off cap lo hi first d0 d w0 w eg hcmp R hs S hlo hb hsz
def Try.laysSlF21_f81_ren : Go.Shelf.Ren := ⟨fun | 21 => 81 | 46 => 93 | n => n, fun | 24 => 3 | 22 => 22 | 3 => 3 | 25 => 46 | 4 => 4 | 0 => 0 | n => n, fun | n => n⟩
theorem Try.laysSlF21_f81 : Go.Proofs.SlLaysF.n21 Try.prog Try.laysSlF21_f81_ren := {
  mixed := by kernel_rfl
  f21 := ⟨Try.f81.name, by decide, Try.func81.trans (congrArg some (by kernel_rfl))⟩
  f46 := ⟨Try.f93.name, by decide, Try.func93.trans (congrArg some (by kernel_rfl))⟩
  t0 := Try.underlying0
  a0 := Try.isAgg0
  z0 := Try.sizeOf0
  v0 := Try.zeroValue0
  t3 := Try.underlying3
  a3 := Try.isAgg3
  z3 := Try.sizeOf3
  v3 := Try.zeroValue3
  t4 := Try.underlying4
  a4 := Try.isAgg4
  z4 := Try.sizeOf4
  v4 := Try.zeroValue4
  t22 := Try.underlying22
  a22 := Try.isAgg22
  z22 := Try.sizeOf22
  v22 := Try.zeroValue22
  a24 := Try.isAgg3
  z24 := Try.sizeOf3
  t25 := Try.underlying46
  a25 := Try.isAgg46
  z25 := Try.sizeOf46
  v25 := Try.zeroValue46 }
open Go.RowKit Go.Lib Go.Sort in
/-- slices.heapSortCmpFunc at elements of one cell. (LAID AT THE INSTANCE 'slices.heapSortCmpFunc[int]': no walk: one application.) -/
theorem Try.heapSortCmpFunc {α : Type} [Inhabited α] (enc : α → Value) (cf : α → α → Int) (g : Nat) (cb : Array Value) (blk off cap a b : Nat) (d0 d : Array α) (w0 w : World) (eg : ∀ args w, (callFunc g args).run Try.prog w = .ok (.enter g args) w) (hcmp : CmpLays1 Try.prog g cb enc cf blk off d0.size w0) (R : Row1 enc w0 blk off d0) (hs : d0.size = d.size) (S : SW enc w0 blk off d w) (hab : a ≤ b) (hb : b ≤ d.size) (hsz : d.size < 4611686018427387904) :
    Calls Try.prog 81 #[.slice (some ⟨blk, off, none⟩) d.size cap, .int .i64 a, .int .i64 b, .func (.func g) #[] cb] w fun e w' =>
      e = .returned (.tuple #[]) ∧ SW enc w0 blk off (heapSort (ltOf cf) d a b) w' := Any.heapSortCmpFunc Try.laysSlF21_f81 enc cf g cb blk off cap a b d0 d w0 w eg hcmp R hs S hab hb hsz
open Go.RowKit Go.Lib Go.Sort in
/-- slices.insertionSortCmpFunc at elements of one cell: from a world of the sort's to a world of the sort's. (LAID AT THE INSTANCE 'slices.insertionSortCmpFunc[int]': no walk: one application.) -/
theorem Try.insertionSortCmpFunc_s {α : Type} [Inhabited α] (enc : α → Value) (cf : α → α → Int) (g : Nat) (cb : Array Value) (blk off cap a b : Nat) (d0 d : Array α) (w0 w : World) (eg : ∀ args w, (callFunc g args).run Try.prog w = .ok (.enter g args) w) (hcmp : CmpLays1 Try.prog g cb enc cf blk off d0.size w0) (R : Row1 enc w0 blk off d0) (hs : d0.size = d.size) (S : SW enc w0 blk off d w) (hab : a ≤ b) (hb : b ≤ d.size) (hsz : d.size < 4611686018427387904) :
    Calls Try.prog 80 #[.slice (some ⟨blk, off, none⟩) d.size cap, .int .i64 a, .int .i64 b, .func (.func g) #[] cb] w fun e w' => e = .returned (.tuple #[]) ∧ SW enc w0 blk off (Sort.insertionSort (ltOf cf) d a b) w' := Any.insertionSortCmpFunc_s Try.laysSlF20_f80 enc cf g cb blk off cap a b d0 d w0 w eg hcmp R hs S hab hb hsz
def Try.laysSlF57_f99_ren : Go.Shelf.Ren := ⟨fun | 57 => 99 | n => n, fun | 24 => 3 | 22 => 22 | 3 => 3 | 70 => 109 | 25 => 46 | 0 => 0 | 4 => 4 | n => n, fun | n => n⟩
theorem Try.laysSlF57_f99 : Go.Proofs.SlLaysF.n57 Try.prog Try.laysSlF57_f99_ren := {
  mixed := by kernel_rfl
  f57 := ⟨Try.f99.name, by decide, Try.func99.trans (congrArg some (by kernel_rfl))⟩
  t0 := Try.underlying0
  a0 := Try.isAgg0
  z0 := Try.sizeOf0
  v0 := Try.zeroValue0
  t3 := Try.underlying3
  a3 := Try.isAgg3
  z3 := Try.sizeOf3
  v3 := Try.zeroValue3
  t4 := Try.underlying4
  a4 := Try.isAgg4
  z4 := Try.sizeOf4
  v4 := Try.zeroValue4
  t22 := Try.underlying22
  a22 := Try.isAgg22
  z22 := Try.sizeOf22
  v22 := Try.zeroValue22
  a24 := Try.isAgg3
  z24 := Try.sizeOf3
  t25 := Try.underlying46
  a25 := Try.isAgg46
  z25 := Try.sizeOf46
  v25 := Try.zeroValue46
  t70 := Try.underlying109
  a70 := Try.isAgg109
  z70 := Try.sizeOf109
  v70 := Try.zeroValue109 }
open Go.RowKit Go.Lib Go.Sort in
/-- slices.order2CmpFunc at elements of one cell. (LAID AT THE INSTANCE 'slices.order2CmpFunc[int]': no walk: one application.) -/
theorem Try.order2CmpFunc {α : Type} [Inhabited α] (enc : α → Value) (cf : α → α → Int) (g : Nat) (cb : Array Value) (blk off cap a b c s : Nat) (d0 d : Array α) (w0 W : World) (eg : ∀ args w, (callFunc g args).run Try.prog w = .ok (.enter g args) w) (hcmp : CmpLays1 Try.prog g cb enc cf blk off d0.size w0) (R : Row1 enc w0 blk off d0) (hs : d0.size = d.size) (C : Cnt1 enc w0 blk off d c s W) (ha : a < d.size) (hb : b < d.size) (hsz : d.size < 4611686018427387904) (hss : s < 4611686018427387904) :
    Calls Try.prog 99 #[.slice (some ⟨blk, off, none⟩) d.size cap, .int .i64 a, .int .i64 b, .pointer (some ⟨c, 0, none⟩), .func (.func g) #[] cb] W fun e w' =>
      e = .returned (.tuple #[.int .i64 (order2 (ltOf cf) d a b s).1, .int .i64 (order2 (ltOf cf) d a b s).2.1]) ∧ Cnt1 enc w0 blk off d c (order2 (ltOf cf) d a b s).2.2 w' := Any.order2CmpFunc Try.laysSlF57_f99 enc cf g cb blk off cap a b c s d0 d w0 W eg hcmp R hs C ha hb hsz hss
def Try.laysSlF50_f97_ren : Go.Shelf.Ren := ⟨fun | 50 => 97 | 57 => 99 | n => n, fun | 24 => 3 | 22 => 22 | 3 => 3 | 70 => 109 | 25 => 46 | 77 => 112 | 0 => 0 | 4 => 4 | n => n, fun | n => n⟩
theorem Try.laysSlF50_f97 : Go.Proofs.SlLaysF.n50 Try.prog Try.laysSlF50_f97_ren := {
  mixed := by kernel_rfl
  f50 := ⟨Try.f97.name, by decide, Try.func97.trans (congrArg some (by kernel_rfl))⟩
  f57 := ⟨Try.f99.name, by decide, Try.func99.trans (congrArg some (by kernel_rfl))⟩
  t0 := Try.underlying0
  a0 := Try.isAgg0
  z0 := Try.sizeOf0
  v0 := Try.zeroValue0
  t3 := Try.underlying3
  a3 := Try.isAgg3
  z3 := Try.sizeOf3
  v3 := Try.zeroValue3
  t4 := Try.underlying4
  a4 := Try.isAgg4
  z4 := Try.sizeOf4
  v4 := Try.zeroValue4
  t22 := Try.underlying22
  a22 := Try.isAgg22
  z22 := Try.sizeOf22
  v22 := Try.zeroValue22
  a24 := Try.isAgg3
  z24 := Try.sizeOf3
  t25 := Try.underlying46
  a25 := Try.isAgg46
  z25 := Try.sizeOf46
  v25 := Try.zeroValue46
  t70 := Try.underlying109
  a70 := Try.isAgg109
  z70 := Try.sizeOf109
  v70 := Try.zeroValue109
  t77 := Try.underlying112
  a77 := Try.isAgg112
  z77 := Try.sizeOf112
  v77 := Try.zeroValue112 }
open Go.RowKit Go.Lib Go.Sort in
/-- slices.medianCmpFunc at elements of one cell. (LAID AT THE INSTANCE 'slices.medianCmpFunc[int]': no walk: one application.) -/
theorem Try.medianCmpFunc {α : Type} [Inhabited α] (enc : α → Value) (cf : α → α → Int) (g : Nat) (cb : Array Value) (blk off cap a b c' c s : Nat) (d0 d : Array α) (w0 W : World) (eg : ∀ args w, (callFunc g args).run Try.prog w = .ok (.enter g args) w) (hcmp : CmpLays1 Try.prog g cb enc cf blk off d0.size w0) (R : Row1 enc w0 blk off d0) (hs : d0.size = d.size) (C : Cnt1 enc w0 blk off d c s W) (ha : a < d.size) (hb : b < d.size) (hc : c' < d.size) (hsz : d.size < 4611686018427387904) (hss : s + 3 < 4611686018427387904) :
    Calls Try.prog 97 #[.slice (some ⟨blk, off, none⟩) d.size cap, .int .i64 a, .int .i64 b, .int .i64 c', .pointer (some ⟨c, 0, none⟩), .func (.func g) #[] cb] W fun e w' =>
      e = .returned (.int .i64 (median (ltOf cf) d a b c' s).1) ∧ Cnt1 enc w0 blk off d c (median (ltOf cf) d a b c' s).2 w' := Any.medianCmpFunc Try.laysSlF50_f97 enc cf g cb blk off cap a b c' c s d0 d w0 W eg hcmp R hs C ha hb hc hsz hss
def Try.laysSlF49_f96_ren : Go.Shelf.Ren := ⟨fun | 49 => 96 | 50 => 97 | 57 => 99 | n => n, fun | 24 => 3 | 22 => 22 | 3 => 3 | 70 => 109 | 25 => 46 | 77 => 112 | 0 => 0 | 4 => 4 | n => n, fun | n => n⟩
theorem Try.laysSlF49_f96 : Go.Proofs.SlLaysF.n49 Try.prog Try.laysSlF49_f96_ren := {
  mixed := by kernel_rfl
  f49 := ⟨Try.f96.name, by decide, Try.func96.trans (congrArg some (by kernel_rfl))⟩
  f50 := ⟨Try.f97.name, by decide, Try.func97.trans (congrArg some (by kernel_rfl))⟩
  f57 := ⟨Try.f99.name, by decide, Try.func99.trans (congrArg some (by kernel_rfl))⟩
  t0 := Try.underlying0
  a0 := Try.isAgg0
  z0 := Try.sizeOf0
  v0 := Try.zeroValue0
  t3 := Try.underlying3
  a3 := Try.isAgg3
  z3 := Try.sizeOf3
  v3 := Try.zeroValue3
  t4 := Try.underlying4
  a4 := Try.isAgg4
  z4 := Try.sizeOf4
  v4 := Try.zeroValue4
  t22 := Try.underlying22
  a22 := Try.isAgg22
  z22 := Try.sizeOf22
  v22 := Try.zeroValue22
  a24 := Try.isAgg3
  z24 := Try.sizeOf3
  t25 := Try.underlying46
  a25 := Try.isAgg46
  z25 := Try.sizeOf46
  v25 := Try.zeroValue46
  t70 := Try.underlying109
  a70 := Try.isAgg109
  z70 := Try.sizeOf109
  v70 := Try.zeroValue109
  t77 := Try.underlying112
  a77 := Try.isAgg112
  z77 := Try.sizeOf112
  v77 := Try.zeroValue112 }
open Go.RowKit Go.Lib Go.Sort in
/-- slices.medianAdjacentCmpFunc at elements of one cell. (LAID AT THE INSTANCE 'slices.medianAdjacentCmpFunc[int]': no walk: one application.) -/
theorem Try.medianAdjacentCmpFunc {α : Type} [Inhabited α] (enc : α → Value) (cf : α → α → Int) (g : Nat) (cb : Array Value) (blk off cap a c s : Nat) (d0 d : Array α) (w0 W : World) (eg : ∀ args w, (callFunc g args).run Try.prog w = .ok (.enter g args) w) (hcmp : CmpLays1 Try.prog g cb enc cf blk off d0.size w0) (R : Row1 enc w0 blk off d0) (hs : d0.size = d.size) (C : Cnt1 enc w0 blk off d c s W) (ha1 : 1 ≤ a) (ha2 : a + 1 < d.size) (hsz : d.size < 4611686018427387904) (hss : s + 3 < 4611686018427387904) :
    Calls Try.prog 96 #[.slice (some ⟨blk, off, none⟩) d.size cap, .int .i64 a, .pointer (some ⟨c, 0, none⟩), .func (.func g) #[] cb] W fun e w' =>
      e = .returned (.int .i64 (medianAdjacent (ltOf cf) d a s).1) ∧ Cnt1 enc w0 blk off d c (medianAdjacent (ltOf cf) d a s).2 w' := Any.medianAdjacentCmpFunc Try.laysSlF49_f96 enc cf g cb blk off cap a c s d0 d w0 W eg hcmp R hs C ha1 ha2 hsz hss
def Try.laysSlF23_f83_ren : Go.Shelf.Ren := ⟨fun | 23 => 83 | 49 => 96 | 50 => 97 | 57 => 99 | n => n, fun | 24 => 3 | 22 => 22 | 3 => 3 | 25 => 46 | 45 => 95 | 0 => 0 | 4 => 4 | 70 => 109 | 77 => 112 | n => n, fun | n => n⟩
theorem Try.laysSlF23_f83 : Go.Proofs.SlLaysF.n23 Try.prog Try.laysSlF23_f83_ren := {
  mixed := by kernel_rfl
  f23 := ⟨Try.f83.name, by decide, Try.func83.trans (congrArg some (by kernel_rfl))⟩
  f49 := ⟨Try.f96.name, by decide, Try.func96.trans (congrArg some (by kernel_rfl))⟩
  f50 := ⟨Try.f97.name, by decide, Try.func97.trans (congrArg some (by kernel_rfl))⟩
  f57 := ⟨Try.f99.name, by decide, Try.func99.trans (congrArg some (by kernel_rfl))⟩
  t0 := Try.underlying0
  a0 := Try.isAgg0
  z0 := Try.sizeOf0
  v0 := Try.zeroValue0
  t3 := Try.underlying3
  a3 := Try.isAgg3
  z3 := Try.sizeOf3
  v3 := Try.zeroValue3
  t4 := Try.underlying4
  a4 := Try.isAgg4
  z4 := Try.sizeOf4
  v4 := Try.zeroValue4
  t22 := Try.underlying22
  a22 := Try.isAgg22
  z22 := Try.sizeOf22
  v22 := Try.zeroValue22
  a24 := Try.isAgg3
  z24 := Try.sizeOf3
  t25 := Try.underlying46
  a25 := Try.isAgg46
  z25 := Try.sizeOf46
  v25 := Try.zeroValue46
  t45 := Try.underlying95
  a45 := Try.isAgg95
  z45 := Try.sizeOf95
  v45 := Try.zeroValue95
  t70 := Try.underlying109
  a70 := Try.isAgg109
  z70 := Try.sizeOf109
  v70 := Try.zeroValue109
  t77 := Try.underlying112
  a77 := Try.isAgg112
  z77 := Try.sizeOf112
  v77 := Try.zeroValue112 }
open Go.RowKit Go.Lib Go.Sort in
/-- slices.choosePivotCmpFunc at elements of one cell: THE LIBRARY's OWN TEXT COMPUTES 'Sort.choosePivot (ltOf cf) d a b'; the row is not turned. (After Derived/Shelf/SlSortFuncK/PivotK.lean, row for row; the counter's world by 'CntK'.) (LAID AT THE INSTANCE 'slices.choosePivotCmpFunc[int]': no walk: one application.) -/
theorem Try.choosePivotCmpFunc {α : Type} [Inhabited α] (enc : α → Value) (cf : α → α → Int) (g : Nat) (cb : Array Value) (blk off cap a b : Nat) (d0 d : Array α) (w0 W : World) (eg : ∀ args w, (callFunc g args).run Try.prog w = .ok (.enter g args) w) (hcmp : CmpLays1 Try.prog g cb enc cf blk off d0.size w0) (R : Row1 enc w0 blk off d0) (hs : d0.size = d.size) (S : SW enc w0 blk off d W) (hab : a < b) (hb : b ≤ d.size) (hsz : d.size < 4611686018427387904) :
    Calls Try.prog 83 #[.slice (some ⟨blk, off, none⟩) d.size cap, .int .i64 a, .int .i64 b, .func (.func g) #[] cb] W fun e w' =>
      e = .returned (.tuple #[.int .i64 (choosePivot (ltOf cf) d a b).1, .int .i64 (hintCode (choosePivot (ltOf cf) d a b).2)]) ∧ SW enc w0 blk off d w' := Any.choosePivotCmpFunc Try.laysSlF23_f83 enc cf g cb blk off cap a b d0 d w0 W eg hcmp R hs S hab hb hsz
def Try.laysSlF24_f84_ren : Go.Shelf.Ren := ⟨fun | 24 => 84 | n => n, fun | 24 => 3 | 22 => 22 | 3 => 3 | 25 => 46 | 4 => 4 | 0 => 0 | n => n, fun | n => n⟩
theorem Try.laysSlF24_f84 : Go.Proofs.SlLaysF.n24 Try.prog Try.laysSlF24_f84_ren := {
  mixed := by kernel_rfl
  f24 := ⟨Try.f84.name, by decide, Try.func84.trans (congrArg some (by kernel_rfl))⟩
  t0 := Try.underlying0
  a0 := Try.isAgg0
  z0 := Try.sizeOf0
  v0 := Try.zeroValue0
  t3 := Try.underlying3
  a3 := Try.isAgg3
  z3 := Try.sizeOf3
  v3 := Try.zeroValue3
  t4 := Try.underlying4
  a4 := Try.isAgg4
  z4 := Try.sizeOf4
  v4 := Try.zeroValue4
  t22 := Try.underlying22
  a22 := Try.isAgg22
  z22 := Try.sizeOf22
  v22 := Try.zeroValue22
  a24 := Try.isAgg3
  z24 := Try.sizeOf3
  t25 := Try.underlying46
  a25 := Try.isAgg46
  z25 := Try.sizeOf46
  v25 := Try.zeroValue46 }
open Go.RowKit Go.Lib Go.Sort in
/-- slices.reverseRangeCmpFunc at elements of one cell: it exchanges and does not compare. (LAID AT THE INSTANCE 'slices.reverseRangeCmpFunc[int]': no walk: one application.) -/
theorem Try.reverseRangeCmpFunc {α : Type} [Inhabited α] (enc : α → Value) (g : Nat) (cb : Array Value) (blk off cap a b : Nat) (d0 d : Array α) (w0 w : World) (R : Row1 enc w0 blk off d0) (hs : d0.size = d.size) (S : SW enc w0 blk off d w) (hab : a ≤ b) (hb : b ≤ d.size) (hsz : d.size < 4611686018427387904) :
    Calls Try.prog 84 #[.slice (some ⟨blk, off, none⟩) d.size cap, .int .i64 a, .int .i64 b, .func (.func g) #[] cb] w fun e w' => e = .returned (.tuple #[]) ∧ SW enc w0 blk off (reverseRange d a b) w' := Any.reverseRangeCmpFunc Try.laysSlF24_f84 enc g cb blk off cap a b d0 d w0 w R hs S hab hb hsz
def Try.laysSlF25_f85_ren : Go.Shelf.Ren := ⟨fun | 25 => 85 | n => n, fun | 24 => 3 | 22 => 22 | 3 => 3 | 25 => 46 | 4 => 4 | 0 => 0 | n => n, fun | n => n⟩
theorem Try.laysSlF25_f85 : Go.Proofs.SlLaysF.n25 Try.prog Try.laysSlF25_f85_ren := {
  mixed := by kernel_rfl
  f25 := ⟨Try.f85.name, by decide, Try.func85.trans (congrArg some (by kernel_rfl))⟩
  t0 := Try.underlying0
  a0 := Try.isAgg0
  z0 := Try.sizeOf0
  v0 := Try.zeroValue0
  t3 := Try.underlying3
  a3 := Try.isAgg3
  z3 := Try.sizeOf3
  v3 := Try.zeroValue3
  t4 := Try.underlying4
  a4 := Try.isAgg4
  z4 := Try.sizeOf4
  v4 := Try.zeroValue4
  t22 := Try.underlying22
  a22 := Try.isAgg22
  z22 := Try.sizeOf22
  v22 := Try.zeroValue22
  a24 := Try.isAgg3
  z24 := Try.sizeOf3
  t25 := Try.underlying46
  a25 := Try.isAgg46
  z25 := Try.sizeOf46
  v25 := Try.zeroValue46 }
open Go.RowKit Go.Lib Go.Sort in
/-- slices.partialInsertionSortCmpFunc at elements of one cell. (LAID AT THE INSTANCE 'slices.partialInsertionSortCmpFunc[int]': no walk: one application.) -/
theorem Try.partialInsertionSortCmpFunc {α : Type} [Inhabited α] (enc : α → Value) (cf : α → α → Int) (g : Nat) (cb : Array Value) (blk off cap a b : Nat) (d0 d : Array α) (w0 w : World) (eg : ∀ args w, (callFunc g args).run Try.prog w = .ok (.enter g args) w) (hcmp : CmpLays1 Try.prog g cb enc cf blk off d0.size w0) (R : Row1 enc w0 blk off d0) (hs : d0.size = d.size) (S : SW enc w0 blk off d w) (hab : a < b) (hb : b ≤ d.size) (hsz : d.size < 4611686018427387904) :
    Calls Try.prog 85 #[.slice (some ⟨blk, off, none⟩) d.size cap, .int .i64 a, .int .i64 b, .func (.func g) #[] cb] w fun e w' =>
      e = .returned (.bool (Sort.partialInsertionSort (ltOf cf) d a b).2) ∧ SW enc w0 blk off (Sort.partialInsertionSort (ltOf cf) d a b).1 w' := Any.partialInsertionSortCmpFunc Try.laysSlF25_f85 enc cf g cb blk off cap a b d0 d w0 w eg hcmp R hs S hab hb hsz
def Try.laysSlF26_f86_ren : Go.Shelf.Ren := ⟨fun | 26 => 86 | n => n, fun | 24 => 3 | 22 => 22 | 3 => 3 | 25 => 46 | 0 => 0 | 4 => 4 | n => n, fun | n => n⟩
theorem Try.laysSlF26_f86 : Go.Proofs.SlLaysF.n26 Try.prog Try.laysSlF26_f86_ren := {
  mixed := by kernel_rfl
  f26 := ⟨Try.f86.name, by decide, Try.func86.trans (congrArg some (by kernel_rfl))⟩
  t0 := Try.underlying0
  a0 := Try.isAgg0
  z0 := Try.sizeOf0
  v0 := Try.zeroValue0
  t3 := Try.underlying3
  a3 := Try.isAgg3
  z3 := Try.sizeOf3
  v3 := Try.zeroValue3
  t4 := Try.underlying4
  a4 := Try.isAgg4
  z4 := Try.sizeOf4
  v4 := Try.zeroValue4
  t22 := Try.underlying22
  a22 := Try.isAgg22
  z22 := Try.sizeOf22
  v22 := Try.zeroValue22
  a24 := Try.isAgg3
  z24 := Try.sizeOf3
  t25 := Try.underlying46
  a25 := Try.isAgg46
  z25 := Try.sizeOf46
  v25 := Try.zeroValue46 }
open Go.RowKit Go.Lib Go.Sort in
/-- slices.partitionEqualCmpFunc at elements of one cell. (After Derived/Shelf/SlSortFuncK/PartitionK.lean, row for row.) (LAID AT THE INSTANCE 'slices.partitionEqualCmpFunc[int]': no walk: one application.) -/
theorem Try.partitionEqualCmpFunc {α : Type} [Inhabited α] (enc : α → Value) (cf : α → α → Int) (g : Nat) (cb : Array Value) (blk off cap a b pivot : Nat) (d0 d : Array α) (w0 w : World) (eg : ∀ args w, (callFunc g args).run Try.prog w = .ok (.enter g args) w) (hcmp : CmpLays1 Try.prog g cb enc cf blk off d0.size w0) (R : Row1 enc w0 blk off d0) (hs : d0.size = d.size) (S : SW enc w0 blk off d w) (hap : a ≤ pivot) (hpb : pivot < b) (hb : b ≤ d.size) (hsz : d.size < 4611686018427387904) :
    Calls Try.prog 86 #[.slice (some ⟨blk, off, none⟩) d.size cap, .int .i64 a, .int .i64 b, .int .i64 pivot, .func (.func g) #[] cb] w fun e w' =>
      e = .returned (.int .i64 (Sort.partitionEqual (ltOf cf) d a b pivot).1) ∧ SW enc w0 blk off (Sort.partitionEqual (ltOf cf) d a b pivot).2 w' := Any.partitionEqualCmpFunc Try.laysSlF26_f86 enc cf g cb blk off cap a b pivot d0 d w0 w eg hcmp R hs S hap hpb hb hsz
def Try.laysSlF27_f87_ren : Go.Shelf.Ren := ⟨fun | 27 => 87 | n => n, fun | 24 => 3 | 22 => 22 | 3 => 3 | 25 => 46 | 4 => 4 | 0 => 0 | n => n, fun | n => n⟩
theorem Try.laysSlF27_f87 : Go.Proofs.SlLaysF.n27 Try.prog Try.laysSlF27_f87_ren := {
  mixed := by kernel_rfl
  f27 := ⟨Try.f87.name, by decide, Try.func87.trans (congrArg some (by kernel_rfl))⟩
  t0 := Try.underlying0
  a0 := Try.isAgg0
  z0 := Try.sizeOf0
  v0 := Try.zeroValue0
  t3 := Try.underlying3
  a3 := Try.isAgg3
  z3 := Try.sizeOf3
  v3 := Try.zeroValue3
  t4 := Try.underlying4
  a4 := Try.isAgg4
  z4 := Try.sizeOf4
  v4 := Try.zeroValue4
  t22 := Try.underlying22
  a22 := Try.isAgg22
  z22 := Try.sizeOf22
  v22 := Try.zeroValue22
  a24 := Try.isAgg3
  z24 := Try.sizeOf3
  t25 := Try.underlying46
  a25 := Try.isAgg46
  z25 := Try.sizeOf46
  v25 := Try.zeroValue46 }
open Go.RowKit Go.Lib Go.Sort in
/-- slices.partitionCmpFunc at elements of one cell. (After Derived/Shelf/SlSortFuncK/PartitionK.lean, row for row.) (LAID AT THE INSTANCE 'slices.partitionCmpFunc[int]': no walk: one application.) -/
theorem Try.partitionCmpFunc {α : Type} [Inhabited α] (enc : α → Value) (cf : α → α → Int) (g : Nat) (cb : Array Value) (blk off cap a b pivot : Nat) (d0 d : Array α) (w0 w : World) (eg : ∀ args w, (callFunc g args).run Try.prog w = .ok (.enter g args) w) (hcmp : CmpLays1 Try.prog g cb enc cf blk off d0.size w0) (R : Row1 enc w0 blk off d0) (hs : d0.size = d.size) (S : SW enc w0 blk off d w) (hap : a ≤ pivot) (hpb : pivot < b) (hb : b ≤ d.size) (hsz : d.size < 4611686018427387904) :
    Calls Try.prog 87 #[.slice (some ⟨blk, off, none⟩) d.size cap, .int .i64 a, .int .i64 b, .int .i64 pivot, .func (.func g) #[] cb] w fun e w' =>
      e = .returned (.tuple #[.int .i64 (Sort.partition (ltOf cf) d a b pivot).1, .bool (Sort.partition (ltOf cf) d a b pivot).2.1]) ∧ SW enc w0 blk off (Sort.partition (ltOf cf) d a b pivot).2.2 w' := Any.partitionCmpFunc Try.laysSlF27_f87 enc cf g cb blk off cap a b pivot d0 d w0 w eg hcmp R hs S hap hpb hb hsz
def Try.laysSlF14_f75_ren : Go.Shelf.Ren := ⟨fun | 14 => 75 | 20 => 80 | 21 => 81 | 22 => 82 | 23 => 83 | 24 => 84 | 25 => 85 | 26 => 86 | 27 => 87 | 46 => 93 | 47 => 94 | 48 => 95 | 49 => 96 | 50 => 97 | 15 => 76 | 57 => 99 | 28 => 88 | 29 => 89 | n => n, fun | 24 => 3 | 22 => 22 | 3 => 3 | 25 => 46 | 4 => 4 | 0 => 0 | 46 => 96 | 45 => 95 | 50 => 42 | 66 => 105 | 39 => 51 | 55 => 104 | 70 => 109 | 76 => 111 | 77 => 112 | 53 => 102 | 5 => 5 | 9 => 9 | n => n, fun | n => n⟩
theorem Try.laysSlF14_f75 : Go.Proofs.SlLaysF.n14 Try.prog Try.laysSlF14_f75_ren := {
  mixed := by kernel_rfl
  f14 := ⟨Try.f75.name, by decide, Try.func75.trans (congrArg some (by kernel_rfl))⟩
  f15 := Try.func76.trans (congrArg some (by kernel_rfl))
  f20 := ⟨Try.f80.name, by decide, Try.func80.trans (congrArg some (by kernel_rfl))⟩
  f21 := ⟨Try.f81.name, by decide, Try.func81.trans (congrArg some (by kernel_rfl))⟩
  f22 := ⟨Try.f82.name, by decide, Try.func82.trans (congrArg some (by kernel_rfl))⟩
  f23 := ⟨Try.f83.name, by decide, Try.func83.trans (congrArg some (by kernel_rfl))⟩
  f24 := ⟨Try.f84.name, by decide, Try.func84.trans (congrArg some (by kernel_rfl))⟩
  f25 := ⟨Try.f85.name, by decide, Try.func85.trans (congrArg some (by kernel_rfl))⟩
  f26 := ⟨Try.f86.name, by decide, Try.func86.trans (congrArg some (by kernel_rfl))⟩
  f27 := ⟨Try.f87.name, by decide, Try.func87.trans (congrArg some (by kernel_rfl))⟩
  f28 := Try.func88.trans (congrArg some (by kernel_rfl))
  f29 := Try.func89.trans (congrArg some (by kernel_rfl))
  f46 := ⟨Try.f93.name, by decide, Try.func93.trans (congrArg some (by kernel_rfl))⟩
  f47 := Try.func94.trans (congrArg some (by kernel_rfl))
  f48 := Try.func95.trans (congrArg some (by kernel_rfl))
  f49 := ⟨Try.f96.name, by decide, Try.func96.trans (congrArg some (by kernel_rfl))⟩
  f50 := ⟨Try.f97.name, by decide, Try.func97.trans (congrArg some (by kernel_rfl))⟩
  f57 := ⟨Try.f99.name, by decide, Try.func99.trans (congrArg some (by kernel_rfl))⟩
  t0 := Try.underlying0
  a0 := Try.isAgg0
  z0 := Try.sizeOf0
  v0 := Try.zeroValue0
  t3 := Try.underlying3
  a3 := Try.isAgg3
  z3 := Try.sizeOf3
  v3 := Try.zeroValue3
  t4 := Try.underlying4
  a4 := Try.isAgg4
  z4 := Try.sizeOf4
  v4 := Try.zeroValue4
  t5 := Try.underlying5
  a5 := Try.isAgg5
  z5 := Try.sizeOf5
  v5 := Try.zeroValue5
  t9 := Try.underlying9
  a9 := Try.isAgg9
  z9 := Try.sizeOf9
  v9 := Try.zeroValue9
  t22 := Try.underlying22
  a22 := Try.isAgg22
  z22 := Try.sizeOf22
  v22 := Try.zeroValue22
  a24 := Try.isAgg3
  z24 := Try.sizeOf3
  t25 := Try.underlying46
  a25 := Try.isAgg46
  z25 := Try.sizeOf46
  v25 := Try.zeroValue46
  t39 := Try.underlying51
  a39 := Try.isAgg51
  z39 := Try.sizeOf51
  v39 := Try.zeroValue51
  t45 := Try.underlying95
  a45 := Try.isAgg95
  z45 := Try.sizeOf95
  v45 := Try.zeroValue95
  t46 := Try.underlying96
  a46 := Try.isAgg96
  z46 := Try.sizeOf96
  v46 := Try.zeroValue96
  t50 := Try.underlying42
  a50 := Try.isAgg42
  z50 := Try.sizeOf42
  v50 := Try.zeroValue42
  t53 := Try.underlying102
  a53 := Try.isAgg102
  z53 := Try.sizeOf102
  v53 := Try.zeroValue102
  t55 := Try.underlying104
  a55 := Try.isAgg104
  z55 := Try.sizeOf104
  v55 := Try.zeroValue104
  t66 := Try.underlying105
  a66 := Try.isAgg105
  z66 := Try.sizeOf105
  v66 := Try.zeroValue105
  t70 := Try.underlying109
  a70 := Try.isAgg109
  z70 := Try.sizeOf109
  v70 := Try.zeroValue109
  t76 := Try.underlying111
  a76 := Try.isAgg111
  z76 := Try.sizeOf111
  v76 := Try.zeroValue111
  t77 := Try.underlying112
  a77 := Try.isAgg112
  z77 := Try.sizeOf112
  v77 := Try.zeroValue112 }
open Go.RowKit Go.Lib Go.Sort in
/-- slices.pdqsortCmpFunc at elements of one cell, WHOLE. (After Derived/Shelf/SlSortFuncK/PdqK.lean, row for row: the slots and the regions' numbers are this body's.) (LAID AT THE INSTANCE 'slices.pdqsortCmpFunc[int]': no walk: one application.) -/
theorem Try.pdqsortCmpFunc_all {α : Type} [Inhabited α] (enc : α → Value) (cf : α → α → Int) (g : Nat) (cb : Array Value) (hO : SWO (ltOf cf)) (blk off cap : Nat) (d0 : Array α) (w0 : World) (eg : ∀ args w, (callFunc g args).run Try.prog w = .ok (.enter g args) w) (hcmp : CmpLays1 Try.prog g cb enc cf blk off d0.size w0) (R : Row1 enc w0 blk off d0) :
    ∀ (N a b limit : Nat) (d : Array α) (w : World), b - a < N → d0.size = d.size → SW enc w0 blk off d w → a ≤ b → b ≤ d.size → d.size < 4611686018427387904 → limit < 4611686018427387904 → Below (ltOf cf) a b d →
    Calls Try.prog 75 #[.slice (some ⟨blk, off, none⟩) d.size cap, .int .i64 a, .int .i64 b, .int .i64 limit, .func (.func g) #[] cb] w fun e w' => e = .returned (.tuple #[]) ∧ SW enc w0 blk off (pdq (ltOf cf) d a b limit true true) w' := Any.pdqsortCmpFunc_all Try.laysSlF14_f75 enc cf g cb hO blk off cap d0 w0 eg hcmp R
def Try.laysSlF6_f64_ren : Go.Shelf.Ren := ⟨fun | 6 => 64 | 15 => 76 | 14 => 75 | 28 => 88 | 29 => 89 | 20 => 80 | 21 => 81 | 22 => 82 | 23 => 83 | 24 => 84 | 25 => 85 | 26 => 86 | 27 => 87 | 46 => 93 | 47 => 94 | 48 => 95 | 49 => 96 | 50 => 97 | 57 => 99 | n => n, fun | 22 => 22 | 24 => 3 | 25 => 46 | 3 => 3 | 39 => 51 | 0 => 0 | 53 => 102 | 55 => 104 | 4 => 4 | 46 => 96 | 45 => 95 | 50 => 42 | 5 => 5 | 9 => 9 | 66 => 105 | 70 => 109 | 76 => 111 | 77 => 112 | n => n, fun | n => n⟩
theorem Try.laysSlF6_f64 : Go.Proofs.SlLaysF.n6 Try.prog Try.laysSlF6_f64_ren := {
  mixed := by kernel_rfl
  f6 := ⟨Try.f64.name, by decide, Try.func64.trans (congrArg some (by kernel_rfl))⟩
  f14 := ⟨Try.f75.name, by decide, Try.func75.trans (congrArg some (by kernel_rfl))⟩
  f15 := Try.func76.trans (congrArg some (by kernel_rfl))
  f20 := ⟨Try.f80.name, by decide, Try.func80.trans (congrArg some (by kernel_rfl))⟩
  f21 := ⟨Try.f81.name, by decide, Try.func81.trans (congrArg some (by kernel_rfl))⟩
  f22 := ⟨Try.f82.name, by decide, Try.func82.trans (congrArg some (by kernel_rfl))⟩
  f23 := ⟨Try.f83.name, by decide, Try.func83.trans (congrArg some (by kernel_rfl))⟩
  f24 := ⟨Try.f84.name, by decide, Try.func84.trans (congrArg some (by kernel_rfl))⟩
  f25 := ⟨Try.f85.name, by decide, Try.func85.trans (congrArg some (by kernel_rfl))⟩
  f26 := ⟨Try.f86.name, by decide, Try.func86.trans (congrArg some (by kernel_rfl))⟩
  f27 := ⟨Try.f87.name, by decide, Try.func87.trans (congrArg some (by kernel_rfl))⟩
  f28 := Try.func88.trans (congrArg some (by kernel_rfl))
  f29 := Try.func89.trans (congrArg some (by kernel_rfl))
  f46 := ⟨Try.f93.name, by decide, Try.func93.trans (congrArg some (by kernel_rfl))⟩
  f47 := Try.func94.trans (congrArg some (by kernel_rfl))
  f48 := Try.func95.trans (congrArg some (by kernel_rfl))
  f49 := ⟨Try.f96.name, by decide, Try.func96.trans (congrArg some (by kernel_rfl))⟩
  f50 := ⟨Try.f97.name, by decide, Try.func97.trans (congrArg some (by kernel_rfl))⟩
  f57 := ⟨Try.f99.name, by decide, Try.func99.trans (congrArg some (by kernel_rfl))⟩
  t0 := Try.underlying0
  a0 := Try.isAgg0
  z0 := Try.sizeOf0
  v0 := Try.zeroValue0
  t3 := Try.underlying3
  a3 := Try.isAgg3
  z3 := Try.sizeOf3
  v3 := Try.zeroValue3
  t4 := Try.underlying4
  a4 := Try.isAgg4
  z4 := Try.sizeOf4
  v4 := Try.zeroValue4
  t5 := Try.underlying5
  a5 := Try.isAgg5
  z5 := Try.sizeOf5
  v5 := Try.zeroValue5
  t9 := Try.underlying9
  a9 := Try.isAgg9
  z9 := Try.sizeOf9
  v9 := Try.zeroValue9
  t22 := Try.underlying22
  a22 := Try.isAgg22
  z22 := Try.sizeOf22
  v22 := Try.zeroValue22
  a24 := Try.isAgg3
  z24 := Try.sizeOf3
  t25 := Try.underlying46
  a25 := Try.isAgg46
  z25 := Try.sizeOf46
  v25 := Try.zeroValue46
  t39 := Try.underlying51
  a39 := Try.isAgg51
  z39 := Try.sizeOf51
  v39 := Try.zeroValue51
  t45 := Try.underlying95
  a45 := Try.isAgg95
  z45 := Try.sizeOf95
  v45 := Try.zeroValue95
  t46 := Try.underlying96
  a46 := Try.isAgg96
  z46 := Try.sizeOf96
  v46 := Try.zeroValue96
  t50 := Try.underlying42
  a50 := Try.isAgg42
  z50 := Try.sizeOf42
  v50 := Try.zeroValue42
  t53 := Try.underlying102
  a53 := Try.isAgg102
  z53 := Try.sizeOf102
  v53 := Try.zeroValue102
  t55 := Try.underlying104
  a55 := Try.isAgg104
  z55 := Try.sizeOf104
  v55 := Try.zeroValue104
  t66 := Try.underlying105
  a66 := Try.isAgg105
  z66 := Try.sizeOf105
  v66 := Try.zeroValue105
  t70 := Try.underlying109
  a70 := Try.isAgg109
  z70 := Try.sizeOf109
  v70 := Try.zeroValue109
  t76 := Try.underlying111
  a76 := Try.isAgg111
  z76 := Try.sizeOf111
  v76 := Try.zeroValue111
  t77 := Try.underlying112
  a77 := Try.isAgg112
  z77 := Try.sizeOf112
  v77 := Try.zeroValue112 }
open Go.RowKit Go.Lib Go.Sort in
/-- **slices.SortFunc: WHAT THE ROW HOLDS, TO THE ELEMENT.** (LAID AT THE INSTANCE 'slices.SortFunc[[]int,int]': no walk: one application.) -/
theorem Try.slices_SortFunc_eq {α : Type} [Inhabited α] (enc : α → Value) (h1 : OneCell enc) (cf : α → α → Int) (hO : SWO (ltOf cf)) (g : Nat) (cb : Array Value) (blk off cap : Nat) (d : Array α) (w : World) (eg : ∀ args w, (callFunc g args).run Try.prog w = .ok (.enter g args) w) (hcmp : CmpLays1 Try.prog g cb enc cf blk off d.size w) (hH : Holds enc w blk off d) (hblk : blk < w.heap.size) (hsz : d.size < 4611686018427387904) :
    Calls Try.prog 64 #[.slice (some ⟨blk, off, none⟩) d.size cap, .func (.func g) #[] cb] w fun e w' =>
      e = .returned (.tuple #[]) ∧ ∃ n os, w' = sortWorld enc w blk off n (pdq (ltOf cf) d 0 d.size (Lib.bitLen d.size) true true) os := Any.slices_SortFunc_eq Try.laysSlF6_f64 enc h1 cf hO g cb blk off cap d w eg hcmp hH hblk hsz
open Go.RowKit Go.Lib Go.Sort in
/-- **slices.SortFunc, IN THE DOCUMENTATION's OWN TERMS: A PERMUTATION OF WHAT THE ROW HELD, SORTED BY 'cmp(a, b) < 0'.** Which of two equals comes first is left open ("The sort is not guaranteed to be stable"). (LAID AT THE INSTANCE 'slices.SortFunc[[]int,int]': no walk: one application.) -/
theorem Try.slices_SortFunc {α : Type} [Inhabited α] (enc : α → Value) (h1 : OneCell enc) (cf : α → α → Int) (hO : SWO (ltOf cf)) (g : Nat) (cb : Array Value) (blk off cap : Nat) (d : Array α) (w : World) (eg : ∀ args w, (callFunc g args).run Try.prog w = .ok (.enter g args) w) (hcmp : CmpLays1 Try.prog g cb enc cf blk off d.size w) (hH : Holds enc w blk off d) (hblk : blk < w.heap.size) (hsz : d.size < 4611686018427387904) :
    Calls Try.prog 64 #[.slice (some ⟨blk, off, none⟩) d.size cap, .func (.func g) #[] cb] w fun e w' =>
      e = .returned (.tuple #[]) ∧ ∃ d' n os, PermIn 0 d.size d d' ∧ SortedIn (ltOf cf) 0 d.size d' ∧ w' = sortWorld enc w blk off n d' os := Any.slices_SortFunc Try.laysSlF6_f64 enc h1 cf hO g cb blk off cap d w eg hcmp hH hblk hsz
end Go.Proofs
end
