/- Proved here: a part of the proof of the law at hand, in one text: no condition. -/
import Derived.Test.YthalofddjlhcjaaDoorMCascadeText3
set_option linter.unusedVariables false
set_option linter.unusedSimpArgs false
section
/- Functions by value: program. -/
namespace Go.Proofs.YthalofddjlhcjaaDoor
open Go
set_option maxRecDepth 100000
set_option maxHeartbeats 1000000
set_option linter.unusedVariables false
set_option linter.unusedSimpArgs false

structure Runner where
  c : Casc
deriving Inhabited

-- semigroup/cascade.compareRows
def cascade_compareRows (a0 : List Int) (a1 : List Int) : Option (Int) :=
  (cmp_Compare_int (a0.length : Int) (a1.length : Int)).bind fun v4 =>
  (slices_Compare_Lint_int a0 a1).bind fun v5 =>
  (cmp_Or_int [v4, v5]).bind fun v6 =>
  some v6
theorem cascade_compareRows_ok {a0 : List Int} {a1 : List Int} {r : Int} (h0 : cascade_compareRows a0 a1 = some r) : L 58 [.sl a0.length (a0.map fun x0 => .sc (.int .i64 x0)), .sl a1.length (a1.map fun x0 => .sc (.int .i64 x0))] = some (.sc (.int .i64 r), [.dead, .dead]) := by
  simp only [cascade_compareRows] at h0
  refine L_run cfn58 fn58 (runF_of bd58 ⟨of_decide_eq_true rfl, of_decide_eq_true rfl⟩ ?_)
  simp only [entryF, entryT, entryO, entryE, isIo]
  refine zq rfl (zr rfl rfl rfl (by simp; rfl) ?_)
  refine thenC_n (zq rfl ?_)
  obtain ⟨v4, f4, h1⟩ := bnd_some h0
  have f4k := cmp_Compare_int_ok f4
  try simp at f4k
  obtain ⟨v5, f5, h2⟩ := bnd_some h1
  have f5k := slices_Compare_Lint_int_ok f5
  try simp at f5k
  obtain ⟨v6, f6, h3⟩ := bnd_some h2
  have f6k := cmp_Or_int_ok f6
  try simp at f6k
  refine zr rfl rfl rfl (by simp [f4k, f5k, f6k]; rfl) ?_
  refine thenC_n (q_ret rfl ?_)
  cases h3
  simp

-- semigroup/cascade.isTuple
def cascade_isTuple_b4 (a0 : List Int) (a1 : List Int) : Int → Option (Int ⊕ Bool)
  | w10 =>
  if w10 < (a1.length : Int) then
    (atI a1 w10).bind fun v13 =>
    if v13 < 0 then
      exitG <|
      some false
    else
      (atI a0 w10).bind fun v14 =>
      if v14 ≤ v13 then
        exitG <|
        some false
      else
        nextG (IntKind.i64.wrap (w10 + 1))
  else
    exitG <|
    some true
def cascade_isTuple_h4 (a0 : List Int) (a1 : List Int) : Int → Fr
  | w10 => ⟨30, [(0, .one (.t none (.sl a0.length (a0.map fun x0 => .sc (.int .i64 x0))))), (12, .one (.t none (.sl a1.length (a1.map fun x0 => .sc (.int .i64 x0))))), (13, .one (.t none (.sc (.int .i64 (a1.length : Int))))), (14, .one (.t none (.sc (.int .i64 w10))))], []⟩
def cascade_isTuple (a0 : List Int) (a1 : List Int) : Option (Bool) :=
  if (a1.length : Int) = (a0.length : Int) then
    loopG (cascade_isTuple_b4 a0 a1) LFm 0
  else
    some false
theorem cascade_isTuple_ok {a0 : List Int} {a1 : List Int} {r : Bool} (h0 : cascade_isTuple a0 a1 = some r) : L 31 [.sl a0.length (a0.map fun x0 => .sc (.int .i64 x0)), .sl a1.length (a1.map fun x0 => .sc (.int .i64 x0))] = some (.sc (.bool r), [.dead, .dead]) := by
  simp only [cascade_isTuple] at h0
  refine L_run cfn31 fn31 (runF_of bd31 ⟨of_decide_eq_true rfl, of_decide_eq_true rfl⟩ ?_)
  simp only [entryF, entryT, entryO, entryE, isIo]
  refine zq rfl (zr rfl rfl rfl (by simp; rfl) ?_)
  refine thenC_n (zq rfl (zq rfl (zr rfl rfl rfl (by simp; rfl) ?_)))
  refine thenC_n ?_
  by_cases c17 : (a1.length : Int) = (a0.length : Int)
  · rw [if_pos c17] at h0
    have c17e := eq_true c17
    refine q_ifF rfl (by simp [c17e]) (q_skip rfl (thenC_n (zq rfl (zq rfl (zr rfl rfl rfl (by simp; rfl) ?_)))))
    refine thenC_n (zb rfl (q_loopG h0 (cascade_isTuple_h4 a0 a1) rfl rfl (by simp [cascade_isTuple_h4]) fun s o1 h1 hr1 => ?_))
    obtain ⟨w10, hs1⟩ : ∃ y, y = s := ⟨_, rfl⟩
    subst hs1
    simp only [cascade_isTuple_b4] at h1
    simp only [cascade_isTuple_h4]
    refine zq rfl (zr rfl rfl rfl (by simp; rfl) ?_)
    refine thenC_n (zq rfl ?_)
    by_cases c28 : w10 < (a1.length : Int)
    · rw [if_pos c28] at h1
      refine q_ifT rfl (by simp [c28]) (q_skip rfl (thenC_n (zq rfl (zb rfl (zq rfl ?_)))))
      obtain ⟨v13, f29, h2⟩ := bnd_some h1
      obtain ⟨f29a, f29b, f29c, f29d, f29e⟩ := atI_some f29
      refine zr rfl rfl rfl (by simp [f29a, f29b, f29c, f29d, f29e]; rfl) ?_
      refine thenC_n (zq rfl ?_)
      by_cases c30 : v13 < 0
      · rw [if_pos c30] at h2
        refine zr rfl rfl rfl (by simp [c30]; rfl) ?_
        refine thenC_n (q_ifT rfl (by simp) (zq rfl (zr rfl rfl rfl (by simp; rfl) ?_)))
        refine thenC_n (q_ret rfl (blockC_r (thenC_r ?_)))
        obtain ⟨rr1, h3, ho1⟩ := exit_some h2
        have hs1 := hr1 _ ho1
        subst hs1
        refine roundC_r ho1 (blockC_r (thenC_r ?_))
        cases h3
        simp
      · rw [if_neg c30] at h2
        obtain ⟨v14, f31, h3⟩ := bnd_some h2
        obtain ⟨f31a, f31b, f31c, f31d, f31e⟩ := atI_some f31
        refine zr rfl rfl rfl (by simp [c30, f31a, f31b, f31c, f31d, f31e]; rfl) ?_
        refine thenC_n ?_
        by_cases c32 : v14 ≤ v13
        · rw [if_pos c32] at h3
          refine q_ifT rfl (by simp [c32]) (zq rfl (zr rfl rfl rfl (by simp; rfl) ?_))
          refine thenC_n (q_ret rfl (blockC_r (thenC_r ?_)))
          obtain ⟨rr1, h4, ho1⟩ := exit_some h3
          have hs1 := hr1 _ ho1
          subst hs1
          refine roundC_r ho1 (blockC_r (thenC_r ?_))
          cases h4
          simp
        · rw [if_neg c32] at h3
          refine q_ifF rfl (by simp [c32]) (q_skip rfl (blockC_n (thenC_n (zr rfl rfl rfl (by simp; rfl) ?_))))
          have ho := next_some h3
          refine roundC_n ho ?_
          simp [cascade_isTuple_h4]
    · rw [if_neg c28] at h1
      refine q_ifF rfl (by simp [c28]) (q_exit rfl (thenC_x ?_))
      obtain ⟨rr1, h2, ho1⟩ := exit_some h1
      have hs1 := hr1 _ ho1
      subst hs1
      refine roundC_x ho1 (blockC_hit2 rfl (thenC_n (zq rfl (zr rfl rfl rfl (by simp; rfl) ?_))))
      refine thenC_n (q_ret rfl ?_)
      cases h2
      simp
  · rw [if_neg c17] at h0
    have c17e := eq_false c17
    refine q_ifT rfl (by simp [c17e]) (zq rfl (zr rfl rfl rfl (by simp; rfl) ?_))
    refine thenC_n (q_ret rfl (thenC_r ?_))
    cases h0
    simp

-- semigroup/semigroupref26.in
def ref26_in_b2 (a0 : List Int) (a1 : List Int) : Int → Option (Int ⊕ Bool)
  | w10 =>
  if w10 < (a1.length : Int) then
    (atI a1 w10).bind fun v13 =>
    if v13 < 0 then
      exitG <|
      some false
    else
      (atI a0 w10).bind fun v14 =>
      if v14 ≤ v13 then
        exitG <|
        some false
      else
        nextG (IntKind.i64.wrap (w10 + 1))
  else
    exitG <|
    some true
def ref26_in_h2 (a0 : List Int) (a1 : List Int) : Int → Fr
  | w10 => ⟨25, [(0, .one (.t none (.sl a0.length (a0.map fun x0 => .sc (.int .i64 x0))))), (7, .one (.t none (.sl a1.length (a1.map fun x0 => .sc (.int .i64 x0))))), (8, .one (.t none (.sc (.int .i64 (a1.length : Int))))), (9, .one (.t none (.sc (.int .i64 w10))))], []⟩
def ref26_in (a0 : List Int) (a1 : List Int) : Option (Bool) :=
  loopG (ref26_in_b2 a0 a1) LFm 0
theorem ref26_in_ok {a0 : List Int} {a1 : List Int} {r : Bool} (h0 : ref26_in a0 a1 = some r) : L 59 [.sl a0.length (a0.map fun x0 => .sc (.int .i64 x0)), .sl a1.length (a1.map fun x0 => .sc (.int .i64 x0))] = some (.sc (.bool r), [.dead, .dead]) := by
  simp only [ref26_in] at h0
  refine L_run cfn59 fn59 (runF_of bd59 ⟨of_decide_eq_true rfl, of_decide_eq_true rfl⟩ ?_)
  simp only [entryF, entryT, entryO, entryE, isIo]
  refine zq rfl (zr rfl rfl rfl (by simp; rfl) ?_)
  refine thenC_n (zq rfl (zq rfl (zr rfl rfl rfl (by simp; rfl) ?_)))
  refine thenC_n (zb rfl (q_loopG h0 (ref26_in_h2 a0 a1) rfl rfl (by simp [ref26_in_h2]) fun s o1 h1 hr1 => ?_))
  obtain ⟨w10, hs1⟩ : ∃ y, y = s := ⟨_, rfl⟩
  subst hs1
  simp only [ref26_in_b2] at h1
  simp only [ref26_in_h2]
  refine zq rfl (zr rfl rfl rfl (by simp; rfl) ?_)
  refine thenC_n (zq rfl ?_)
  by_cases c26 : w10 < (a1.length : Int)
  · rw [if_pos c26] at h1
    refine q_ifT rfl (by simp [c26]) (q_skip rfl (thenC_n (zq rfl (zb rfl (zq rfl ?_)))))
    obtain ⟨v13, f27, h2⟩ := bnd_some h1
    obtain ⟨f27a, f27b, f27c, f27d, f27e⟩ := atI_some f27
    refine zr rfl rfl rfl (by simp [f27a, f27b, f27c, f27d, f27e]; rfl) ?_
    refine thenC_n (zq rfl ?_)
    by_cases c28 : v13 < 0
    · rw [if_pos c28] at h2
      refine zr rfl rfl rfl (by simp [c28]; rfl) ?_
      refine thenC_n (q_ifT rfl (by simp) (zq rfl (zr rfl rfl rfl (by simp; rfl) ?_)))
      refine thenC_n (q_ret rfl (blockC_r (thenC_r ?_)))
      obtain ⟨rr1, h3, ho1⟩ := exit_some h2
      have hs1 := hr1 _ ho1
      subst hs1
      refine roundC_r ho1 (blockC_r (thenC_r ?_))
      cases h3
      simp
    · rw [if_neg c28] at h2
      obtain ⟨v14, f29, h3⟩ := bnd_some h2
      obtain ⟨f29a, f29b, f29c, f29d, f29e⟩ := atI_some f29
      refine zr rfl rfl rfl (by simp [c28, f29a, f29b, f29c, f29d, f29e]; rfl) ?_
      refine thenC_n ?_
      by_cases c30 : v14 ≤ v13
      · rw [if_pos c30] at h3
        refine q_ifT rfl (by simp [c30]) (zq rfl (zr rfl rfl rfl (by simp; rfl) ?_))
        refine thenC_n (q_ret rfl (blockC_r (thenC_r ?_)))
        obtain ⟨rr1, h4, ho1⟩ := exit_some h3
        have hs1 := hr1 _ ho1
        subst hs1
        refine roundC_r ho1 (blockC_r (thenC_r ?_))
        cases h4
        simp
      · rw [if_neg c30] at h3
        refine q_ifF rfl (by simp [c30]) (q_skip rfl (blockC_n (thenC_n (zr rfl rfl rfl (by simp; rfl) ?_))))
        have ho := next_some h3
        refine roundC_n ho ?_
        simp [ref26_in_h2]
  · rw [if_neg c26] at h1
    refine q_ifF rfl (by simp [c26]) (q_exit rfl (thenC_x ?_))
    obtain ⟨rr1, h2, ho1⟩ := exit_some h1
    have hs1 := hr1 _ ho1
    subst hs1
    refine roundC_x ho1 (blockC_hit2 rfl (thenC_n (zq rfl (zr rfl rfl rfl (by simp; rfl) ?_))))
    refine thenC_n (q_ret rfl ?_)
    cases h2
    simp

-- semigroup/semigroupref26.IsTuple
def ref26_IsTuple (a0 : Casc) (a1 : List Int) : Option (Bool) :=
  if (a1.length : Int) = (a0.sizes.length : Int) then
    (ref26_in a0.sizes a1).bind fun v2 =>
    some v2
  else
    some false
theorem ref26_IsTuple_ok {a0 : Casc} {a1 : List Int} {r : Bool} (h0 : ref26_IsTuple a0 a1 = some r) : L 39 [.agg [.sc (.int .i64 a0.letters), .sl a0.sizes.length (a0.sizes.map fun x0 => .sc (.int .i64 x0)), .sl a0.rows.length (a0.rows.flatMap fun x0 => [.sl x0.pre.length (x0.pre.map fun x1 => .sc (.int .i64 x1)), .sl x0.maps.length (x0.maps.map fun x1 => .sl x1.length (x1.map fun x2 => .sc (.int .i64 x2)))])], .sl a1.length (a1.map fun x0 => .sc (.int .i64 x0))] = some (.sc (.bool r), [.dead, .dead]) := by
  simp only [ref26_IsTuple] at h0
  refine L_run cfn39 fn39 (runF_of bd39 ⟨of_decide_eq_true rfl, of_decide_eq_true rfl⟩ ?_)
  simp only [entryF, entryT, entryO, entryE, isIo]
  refine zq rfl (zr rfl rfl rfl (by simp; rfl) ?_)
  refine thenC_n (zq rfl ?_)
  by_cases c3 : (a1.length : Int) = (a0.sizes.length : Int)
  · rw [if_pos c3] at h0
    have c3e := eq_true c3
    obtain ⟨v2, f4, h1⟩ := bnd_some h0
    have f4k := ref26_in_ok f4
    try simp at f4k
    refine zr rfl rfl rfl (by simp [c3e, f4k]; rfl) ?_
    refine thenC_n (q_ret rfl ?_)
    cases h1
    simp
  · rw [if_neg c3] at h0
    have c3e := eq_false c3
    refine zr rfl rfl rfl (by simp [c3e]; rfl) ?_
    refine thenC_n (q_ret rfl ?_)
    cases h0
    simp

-- semigroup/semigroupref26.Less
def ref26_Less (a0 : List Int) (a1 : List Int) : Option (Bool) :=
  if (a0.length : Int) = (a1.length : Int) then
    (ref03_Less a0 a1).bind fun v2 =>
    some v2
  else
    some (decide (a0.length < a1.length))
theorem ref26_Less_ok {a0 : List Int} {a1 : List Int} {r : Bool} (h0 : ref26_Less a0 a1 = some r) : L 60 [.sl a0.length (a0.map fun x0 => .sc (.int .i64 x0)), .sl a1.length (a1.map fun x0 => .sc (.int .i64 x0))] = some (.sc (.bool r), [.dead, .dead]) := by
  simp only [ref26_Less] at h0
  refine L_run cfn60 fn60 (runF_of bd60 ⟨of_decide_eq_true rfl, of_decide_eq_true rfl⟩ ?_)
  simp only [entryF, entryT, entryO, entryE, isIo]
  refine zq rfl (zr rfl rfl rfl (by simp; rfl) ?_)
  refine thenC_n (zq rfl (zq rfl (zr rfl rfl rfl (by simp; rfl) ?_)))
  refine thenC_n ?_
  by_cases c3 : (a0.length : Int) = (a1.length : Int)
  · rw [if_pos c3] at h0
    have c3e := eq_true c3
    refine q_ifF rfl (by simp [c3e]) (q_skip rfl (thenC_n (zq rfl ?_)))
    obtain ⟨v2, f4, h1⟩ := bnd_some h0
    have f4k := ref03_Less_ok f4
    try simp at f4k
    refine zr rfl rfl rfl (by simp [f4k]; rfl) ?_
    refine thenC_n (q_ret rfl ?_)
    cases h1
    simp
  · rw [if_neg c3] at h0
    have c3e := eq_false c3
    refine q_ifT rfl (by simp [c3e]) (zq rfl (zr rfl rfl rfl (by simp; rfl) ?_))
    refine thenC_n (q_ret rfl (thenC_r ?_))
    cases h0
    simp

-- semigroup/semigroupref26.Find
def ref26_Find_b2 (a0 : List (List Int)) (a1 : List Int) : Int → Option (Int ⊕ Int)
  | w10 =>
  if w10 < (a0.length : Int) then
    (atI a0 w10).bind fun v13 =>
    (ref03_Same a1 v13).bind fun v14 =>
    if v14 = true then
      exitG <|
      some w10
    else
      nextG (IntKind.i64.wrap (w10 + 1))
  else
    exitG <|
    some (-1)
def ref26_Find_h2 (a0 : List (List Int)) (a1 : List Int) : Int → Fr
  | w10 => ⟨19, [(1, .one (.t none (.sl a1.length (a1.map fun x0 => .sc (.int .i64 x0))))), (7, .one (.t none (.sl a0.length (a0.map fun x0 => .sl x0.length (x0.map fun x1 => .sc (.int .i64 x1)))))), (8, .one (.t none (.sc (.int .i64 (a0.length : Int))))), (9, .one (.t none (.sc (.int .i64 w10))))], []⟩
def ref26_Find (a0 : List (List Int)) (a1 : List Int) : Option (Int) :=
  loopG (ref26_Find_b2 a0 a1) LFm 0
theorem ref26_Find_ok {a0 : List (List Int)} {a1 : List Int} {r : Int} (h0 : ref26_Find a0 a1 = some r) : L 41 [.sl a0.length (a0.map fun x0 => .sl x0.length (x0.map fun x1 => .sc (.int .i64 x1))), .sl a1.length (a1.map fun x0 => .sc (.int .i64 x0))] = some (.sc (.int .i64 r), [.dead, .dead]) := by
  simp only [ref26_Find] at h0
  refine L_run cfn41 fn41 (runF_of bd41 ⟨of_decide_eq_true rfl, of_decide_eq_true rfl⟩ ?_)
  simp only [entryF, entryT, entryO, entryE, isIo]
  refine zq rfl (zr rfl rfl rfl (by simp; rfl) ?_)
  refine thenC_n (zq rfl (zq rfl (zr rfl rfl rfl (by simp; rfl) ?_)))
  refine thenC_n (zb rfl (q_loopG h0 (ref26_Find_h2 a0 a1) rfl rfl (by simp [ref26_Find_h2]) fun s o1 h1 hr1 => ?_))
  obtain ⟨w10, hs1⟩ : ∃ y, y = s := ⟨_, rfl⟩
  subst hs1
  simp only [ref26_Find_b2] at h1
  simp only [ref26_Find_h2]
  refine zq rfl (zr rfl rfl rfl (by simp; rfl) ?_)
  refine thenC_n (zq rfl ?_)
  by_cases c21 : w10 < (a0.length : Int)
  · rw [if_pos c21] at h1
    refine q_ifT rfl (by simp [c21]) (q_skip rfl (thenC_n (zq rfl (zb rfl (zq rfl ?_)))))
    obtain ⟨v13, f22, h2⟩ := bnd_some h1
    obtain ⟨f22a, f22b, f22c, f22d, f22e⟩ := atI_some f22
    refine zr rfl rfl rfl (by simp [f22a, f22b, f22c, f22d, f22e]; rfl) ?_
    refine thenC_n (zq rfl ?_)
    obtain ⟨v14, f23, h3⟩ := bnd_some h2
    have f23k := ref03_Same_ok f23
    try simp at f23k
    refine zr rfl rfl rfl (by simp [f23k]; rfl) ?_
    refine thenC_n ?_
    by_cases c24 : v14 = true
    · rw [if_pos c24] at h3
      refine q_ifT rfl (by simp [c24]) (zq rfl (zr rfl rfl rfl (by simp; rfl) ?_))
      refine thenC_n (q_ret rfl (blockC_r (thenC_r ?_)))
      obtain ⟨rr1, h4, ho1⟩ := exit_some h3
      have hs1 := hr1 _ ho1
      subst hs1
      refine roundC_r ho1 (blockC_r (thenC_r ?_))
      cases h4
      simp [c24]
    · rw [if_neg c24] at h3
      refine q_ifF rfl (by simp [c24]) (q_skip rfl (blockC_n (thenC_n (zr rfl rfl rfl (by simp; rfl) ?_))))
      have ho := next_some h3
      refine roundC_n ho ?_
      simp [ref26_Find_h2, c24]
  · rw [if_neg c21] at h1
    refine q_ifF rfl (by simp [c21]) (q_exit rfl (thenC_x ?_))
    obtain ⟨rr1, h2, ho1⟩ := exit_some h1
    have hs1 := hr1 _ ho1
    subst hs1
    refine roundC_x ho1 (blockC_hit2 rfl (thenC_n (zq rfl (zr rfl rfl rfl (by simp; rfl) ?_))))
    refine thenC_n (q_ret rfl ?_)
    cases h2
    simp

-- semigroup/semigroupref26.Row
def ref26_Row_b2 (a0 : Casc) (a1 : List Int) : Int → Option (Int ⊕ Int)
  | w10 =>
  if w10 < (a0.rows.length : Int) then
    (atI a0.rows w10).bind fun v13 =>
    (ref03_Same v13.pre a1).bind fun v14 =>
    if v14 = true then
      exitG <|
      some w10
    else
      nextG (IntKind.i64.wrap (w10 + 1))
  else
    exitG <|
    some (-1)
def ref26_Row_h2 (a0 : Casc) (a1 : List Int) : Int → Fr
  | w10 => ⟨21, [(1, .one (.t none (.sl a1.length (a1.map fun x0 => .sc (.int .i64 x0))))), (8, .one (.t none (.sl a0.rows.length (a0.rows.flatMap fun x0 => [.sl x0.pre.length (x0.pre.map fun x1 => .sc (.int .i64 x1)), .sl x0.maps.length (x0.maps.map fun x1 => .sl x1.length (x1.map fun x2 => .sc (.int .i64 x2)))])))), (9, .one (.t none (.sc (.int .i64 (a0.rows.length : Int))))), (10, .one (.t none (.sc (.int .i64 w10))))], []⟩
def ref26_Row (a0 : Casc) (a1 : List Int) : Option (Int) :=
  loopG (ref26_Row_b2 a0 a1) LFm 0
theorem ref26_Row_ok {a0 : Casc} {a1 : List Int} {r : Int} (h0 : ref26_Row a0 a1 = some r) : L 61 [.agg [.sc (.int .i64 a0.letters), .sl a0.sizes.length (a0.sizes.map fun x0 => .sc (.int .i64 x0)), .sl a0.rows.length (a0.rows.flatMap fun x0 => [.sl x0.pre.length (x0.pre.map fun x1 => .sc (.int .i64 x1)), .sl x0.maps.length (x0.maps.map fun x1 => .sl x1.length (x1.map fun x2 => .sc (.int .i64 x2)))])], .sl a1.length (a1.map fun x0 => .sc (.int .i64 x0))] = some (.sc (.int .i64 r), [.dead, .dead]) := by
  simp only [ref26_Row] at h0
  refine L_run cfn61 fn61 (runF_of bd61 ⟨of_decide_eq_true rfl, of_decide_eq_true rfl⟩ ?_)
  simp only [entryF, entryT, entryO, entryE, isIo]
  refine zq rfl (zr rfl rfl rfl (by simp; rfl) ?_)
  refine thenC_n (zq rfl (zq rfl (zr rfl rfl rfl (by simp; rfl) ?_)))
  refine thenC_n (zb rfl (q_loopG h0 (ref26_Row_h2 a0 a1) rfl rfl (by simp [ref26_Row_h2]) fun s o1 h1 hr1 => ?_))
  obtain ⟨w10, hs1⟩ : ∃ y, y = s := ⟨_, rfl⟩
  subst hs1
  simp only [ref26_Row_b2] at h1
  simp only [ref26_Row_h2]
  refine zq rfl (zr rfl rfl rfl (by simp; rfl) ?_)
  refine thenC_n (zq rfl ?_)
  by_cases c21 : w10 < (a0.rows.length : Int)
  · rw [if_pos c21] at h1
    refine q_ifT rfl (by simp [c21]) (q_skip rfl (thenC_n (zq rfl (zb rfl (zq rfl ?_)))))
    obtain ⟨v13, f22, h2⟩ := bnd_some h1
    obtain ⟨f22a, f22b, f22c, f22d, f22e⟩ := atI_some f22
    have f22g := flat_some (g := fun x : CRow => ([.sl x.pre.length (x.pre.map fun x0 => .sc (.int .i64 x0)), .sl x.maps.length (x.maps.map fun x0 => .sl x0.length (x0.map fun x1 => .sc (.int .i64 x1)))] : List T)) (m := 2) (fun _ => rfl) f22d
    have f22h := flat_len (g := fun x : CRow => ([.sl x.pre.length (x.pre.map fun x0 => .sc (.int .i64 x0)), .sl x.maps.length (x.maps.map fun x0 => .sl x0.length (x0.map fun x1 => .sc (.int .i64 x1)))] : List T)) (m := 2) (fun _ => rfl) a0.rows
    have f22k0 := f22g.2.2.1 0 (by decide)
    have f22m0 := f22g.2.2.2 0 _ rfl
    have f22k1 := f22g.2.2.1 1 (by decide)
    have f22m1 := f22g.2.2.2 1 _ rfl
    obtain ⟨f22g, f22i, -⟩ := f22g
    try simp at f22i f22h f22k0 f22m0 f22k1 f22m1
    refine zr rfl rfl rfl (by simp [f22a, f22b, f22c, f22d, f22e, f22g, f22i, f22h, f22k0, f22k1, f22m0, f22m1]; rfl) ?_
    refine thenC_n (zq rfl ?_)
    obtain ⟨v14, f23, h3⟩ := bnd_some h2
    have f23k := ref03_Same_ok f23
    try simp at f23k
    refine zr rfl rfl rfl (by simp [f23k]; rfl) ?_
    refine thenC_n ?_
    by_cases c24 : v14 = true
    · rw [if_pos c24] at h3
      refine q_ifT rfl (by simp [c24]) (zq rfl (zr rfl rfl rfl (by simp; rfl) ?_))
      refine thenC_n (q_ret rfl (blockC_r (thenC_r ?_)))
      obtain ⟨rr1, h4, ho1⟩ := exit_some h3
      have hs1 := hr1 _ ho1
      subst hs1
      refine roundC_r ho1 (blockC_r (thenC_r ?_))
      cases h4
      simp [c24]
    · rw [if_neg c24] at h3
      refine q_ifF rfl (by simp [c24]) (q_skip rfl (blockC_n (thenC_n (zr rfl rfl rfl (by simp; rfl) ?_))))
      have ho := next_some h3
      refine roundC_n ho ?_
      simp [ref26_Row_h2, c24]
  · rw [if_neg c21] at h1
    refine q_ifF rfl (by simp [c21]) (q_exit rfl (thenC_x ?_))
    obtain ⟨rr1, h2, ho1⟩ := exit_some h1
    have hs1 := hr1 _ ho1
    subst hs1
    refine roundC_x ho1 (blockC_hit2 rfl (thenC_n (zq rfl (zr rfl rfl rfl (by simp; rfl) ?_))))
    refine thenC_n (q_ret rfl ?_)
    cases h2
    simp

-- semigroup/cascade.validRow
def cascade_validRow_b10 (a0 : Casc) (a1 : CRow) (w42 : Int) (v52 : List Int) : Int → Option (Int ⊕ (Int ⊕ Bool))
  | w56 =>
  if w56 < (v52.length : Int) then
    (atI v52 w56).bind fun v59 =>
    if v59 < 0 then
      exitG <|
      exitG <|
      some false
    else
      (atI a0.sizes (a1.pre.length : Int)).bind fun v60 =>
      if v60 ≤ v59 then
        exitG <|
        exitG <|
        some false
      else
        nextG (IntKind.i64.wrap (w56 + 1))
  else
    exitG <|
    nextG (IntKind.i64.wrap (w42 + 1))
def cascade_validRow_h10 (a0 : Casc) (a1 : CRow) (w42 : Int) (v52 : List Int) : Int → Fr
  | w56 => ⟨70, [(2, .one (.a 2 [] (0))), (5, .one (.t none (.sc (.int .i64 (a1.pre.length : Int))))), (37, .one (.t none (.sl a1.maps.length (a1.maps.map fun x0 => .sl x0.length (x0.map fun x1 => .sc (.int .i64 x1)))))), (38, .one (.t none (.sc (.int .i64 (a1.maps.length : Int))))), (39, .one (.t none (.sc (.int .i64 w42)))), (51, .one (.t none (.sl v52.length (v52.map fun x0 => .sc (.int .i64 x0))))), (52, .one (.t none (.sc (.int .i64 (v52.length : Int))))), (53, .one (.t none (.sc (.int .i64 w56))))], [(2, .vr [.sc (.int .i64 a0.letters), .sl a0.sizes.length (a0.sizes.map fun x0 => .sc (.int .i64 x0)), .sl a0.rows.length (a0.rows.flatMap fun x0 => [.sl x0.pre.length (x0.pre.map fun x1 => .sc (.int .i64 x1)), .sl x0.maps.length (x0.maps.map fun x1 => .sl x1.length (x1.map fun x2 => .sc (.int .i64 x2)))])])]⟩
def cascade_validRow_b5 (a0 : Casc) (a1 : CRow) : Int → Option (Int ⊕ Bool)
  | w42 =>
  if w42 < (a1.maps.length : Int) then
    (atI a1.maps w42).bind fun v52 =>
    (atI a0.sizes (a1.pre.length : Int)).bind fun v53 =>
    if (v52.length : Int) = v53 then
      loopG (cascade_validRow_b10 a0 a1 w42 v52) LFm 0
    else
      exitG <|
      some false
  else
    exitG <|
    some true
def cascade_validRow_h5 (a0 : Casc) (a1 : CRow) : Int → Fr
  | w42 => ⟨70, [(2, .one (.a 2 [] (0))), (5, .one (.t none (.sc (.int .i64 (a1.pre.length : Int))))), (37, .one (.t none (.sl a1.maps.length (a1.maps.map fun x0 => .sl x0.length (x0.map fun x1 => .sc (.int .i64 x1)))))), (38, .one (.t none (.sc (.int .i64 (a1.maps.length : Int))))), (39, .one (.t none (.sc (.int .i64 w42))))], [(2, .vr [.sc (.int .i64 a0.letters), .sl a0.sizes.length (a0.sizes.map fun x0 => .sc (.int .i64 x0)), .sl a0.rows.length (a0.rows.flatMap fun x0 => [.sl x0.pre.length (x0.pre.map fun x1 => .sc (.int .i64 x1)), .sl x0.maps.length (x0.maps.map fun x1 => .sl x1.length (x1.map fun x2 => .sc (.int .i64 x2)))])])]⟩
def cascade_validRow (a0 : Casc) (a1 : CRow) : Option (Bool) :=
  if a0.sizes.length ≤ a1.pre.length then
    some false
  else
    (pieceL a0.sizes 0 (a1.pre.length : Int)).bind fun v31 =>
    (cascade_isTuple v31 a1.pre).bind fun v32 =>
    if v32 = true then
      if (a1.maps.length : Int) = a0.letters then
        loopG (cascade_validRow_b5 a0 a1) LFm 0
      else
        some false
    else
      some false
theorem cascade_validRow_ok {a0 : Casc} {a1 : CRow} {r : Bool} (h0 : cascade_validRow a0 a1 = some r) : L 62 [.agg [.sc (.int .i64 a0.letters), .sl a0.sizes.length (a0.sizes.map fun x0 => .sc (.int .i64 x0)), .sl a0.rows.length (a0.rows.flatMap fun x0 => [.sl x0.pre.length (x0.pre.map fun x1 => .sc (.int .i64 x1)), .sl x0.maps.length (x0.maps.map fun x1 => .sl x1.length (x1.map fun x2 => .sc (.int .i64 x2)))])], .agg [.sl a1.pre.length (a1.pre.map fun x0 => .sc (.int .i64 x0)), .sl a1.maps.length (a1.maps.map fun x0 => .sl x0.length (x0.map fun x1 => .sc (.int .i64 x1)))]] = some (.sc (.bool r), [.dead, .dead]) := by
  simp only [cascade_validRow] at h0
  refine L_run cfn62 fn62 (runF_of bd62 ⟨of_decide_eq_true rfl, of_decide_eq_true rfl⟩ ?_)
  simp only [entryF, entryT, entryO, entryE, isIo]
  refine zq rfl (zr rfl rfl rfl (by simp; rfl) ?_)
  refine thenC_n (zq rfl (zr rfl rfl rfl (by simp; rfl) ?_))
  refine thenC_n (zq rfl (zq rfl ?_))
  by_cases c60 : a0.sizes.length ≤ a1.pre.length
  · rw [if_pos c60] at h0
    refine q_drawW rfl rfl rfl rfl ?_; repeat' (first | (refine q_drawW_op rfl rfl fun Q' hQ => ?_; simp [c60]; refine hQ.out _ ?_; clear hQ; clear Q') | (refine q_drawW_guard rfl rfl fun Q1 Q2 h1 h2 => ?_; simp [c60, twoB_some]; (first | refine h1.out ?_ | refine h2.out ?_); clear h1 h2; clear Q1 Q2; intro Q' hQ; simp [c60]; refine hQ.out _ ?_; clear hQ; clear Q') | (refine q_drawW_nil rfl fun Q' hQ => ?_; simp [c60]; refine hQ.out _ ?_; clear hQ; clear Q'))
    refine thenC_n (q_ifT rfl (by simp) (zq rfl (zr rfl rfl rfl (by simp; rfl) ?_)))
    refine thenC_n (q_ret rfl (thenC_r ?_))
    cases h0
    simp
  · rw [if_neg c60] at h0
    obtain ⟨v31, f61, h1⟩ := bnd_some h0
    obtain ⟨f61a, f61b, f61c, -⟩ := pieceL_some f61
    obtain ⟨f61d, f61g⟩ := piece_hi f61a f61b
    have f61e := pieceL_map (g := fun x : Int => (.sc (.int .i64 x) : T)) f61
    try simp at f61e
    have f61f := pieceL_slm f61
    try simp only [Int.reduceToNat, Int.toNat_natCast, Nat.sub_zero] at f61f
    obtain ⟨v32, f62, h2⟩ := bnd_some h1
    have f62k := cascade_isTuple_ok f62
    try simp at f62k
    by_cases c63 : v32 = true
    · rw [if_pos c63] at h2
      refine q_drawW rfl rfl rfl rfl ?_; repeat' (first | (refine q_drawW_op rfl rfl fun Q' hQ => ?_; simp [c60, f61a, f61b, f61c, f61d, f61g, f61e, f61f, f62k, c63]; refine hQ.out _ ?_; clear hQ; clear Q') | (refine q_drawW_guard rfl rfl fun Q1 Q2 h1 h2 => ?_; simp [c60, f61a, f61b, f61c, f61d, f61g, f61e, f61f, f62k, c63, twoB_some]; (first | refine h1.out ?_ | refine h2.out ?_); clear h1 h2; clear Q1 Q2; intro Q' hQ; simp [c60, f61a, f61b, f61c, f61d, f61g, f61e, f61f, f62k, c63]; refine hQ.out _ ?_; clear hQ; clear Q') | (refine q_drawW_nil rfl fun Q' hQ => ?_; simp [c60, f61a, f61b, f61c, f61d, f61g, f61e, f61f, f62k, c63]; refine hQ.out _ ?_; clear hQ; clear Q'))
      refine thenC_n ?_
      by_cases c64 : (a1.maps.length : Int) = a0.letters
      · rw [if_pos c64] at h2
        have c64e := eq_true c64
        refine q_ifF rfl (by simp [c64e]) (q_skip rfl (thenC_n (zq rfl (zq rfl (zr rfl rfl rfl (by simp; rfl) ?_)))))
        refine thenC_n (zb rfl (q_loopG h2 (cascade_validRow_h5 a0 a1) rfl rfl (by simp [cascade_validRow_h5]) fun s o1 h3 hr1 => ?_))
        obtain ⟨w42, hs1⟩ : ∃ y, y = s := ⟨_, rfl⟩
        subst hs1
        simp only [cascade_validRow_b5] at h3
        simp only [cascade_validRow_h5]
        refine zq rfl (zr rfl rfl rfl (by simp; rfl) ?_)
        refine thenC_n (zq rfl ?_)
        by_cases c101 : w42 < (a1.maps.length : Int)
        · rw [if_pos c101] at h3
          refine q_ifT rfl (by simp [c101]) (q_skip rfl (thenC_n (zq rfl (zb rfl (zq rfl ?_)))))
          obtain ⟨v52, f102, h4⟩ := bnd_some h3
          obtain ⟨f102a, f102b, f102c, f102d, f102e⟩ := atI_some f102
          refine zr rfl rfl rfl (by simp [f102a, f102b, f102c, f102d, f102e]; rfl) ?_
          refine thenC_n (zq rfl (zq rfl ?_))
          obtain ⟨v53, f103, h5⟩ := bnd_some h4
          obtain ⟨f103a, f103b, f103c, f103d, f103e⟩ := atI_some f103
          simp only [Int.toNat_natCast] at f103c f103d f103e
          have f103l : a1.pre.length < a0.sizes.length := by omega
          refine zr rfl rfl rfl (by simp [f103a, f103b, f103c, f103d, f103e, f103l]; rfl) ?_
          refine thenC_n ?_
          by_cases c104 : (v52.length : Int) = v53
          · rw [if_pos c104] at h5
            have c104e := eq_true c104
            refine q_ifF rfl (by simp [c104e]) (q_skip rfl (thenC_n (zq rfl (zr rfl rfl rfl (by simp; rfl) ?_))))
            refine thenC_n (zb rfl (q_loopG h5 (cascade_validRow_h10 a0 a1 w42 v52) rfl rfl (by simp [cascade_validRow_h10]) fun s o2 h6 hr2 => ?_))
            obtain ⟨w56, hs2⟩ : ∃ y, y = s := ⟨_, rfl⟩
            subst hs2
            simp only [cascade_validRow_b10] at h6
            simp only [cascade_validRow_h10]
            refine zq rfl (zr rfl rfl rfl (by simp; rfl) ?_)
            refine thenC_n (zq rfl ?_)
            by_cases c115 : w56 < (v52.length : Int)
            · rw [if_pos c115] at h6
              refine q_ifT rfl (by simp [c115]) (q_skip rfl (thenC_n (zq rfl (zb rfl (zq rfl ?_)))))
              obtain ⟨v59, f116, h7⟩ := bnd_some h6
              obtain ⟨f116a, f116b, f116c, f116d, f116e⟩ := atI_some f116
              refine zr rfl rfl rfl (by simp [f116a, f116b, f116c, f116d, f116e]; rfl) ?_
              refine thenC_n (zq rfl ?_)
              by_cases c117 : v59 < 0
              · rw [if_pos c117] at h7
                refine zr rfl rfl rfl (by simp [c117]; rfl) ?_
                refine thenC_n (q_ifT rfl (by simp) (zq rfl (zr rfl rfl rfl (by simp; rfl) ?_)))
                refine thenC_n (q_ret rfl (blockC_r (thenC_r ?_)))
                obtain ⟨rr2, h8, ho2⟩ := exit_some h7
                have hs2 := hr2 _ ho2
                subst hs2
                refine roundC_r ho2 (blockC_r (blockC_r (thenC_r ?_)))
                obtain ⟨rr1, h9, ho1⟩ := exit_some h8
                have hs1 := hr1 _ ho1
                subst hs1
                refine roundC_r ho1 (blockC_r (thenC_r ?_))
                cases h9
                simp
              · rw [if_neg c117] at h7
                obtain ⟨v60, f118, h8⟩ := bnd_some h7
                obtain ⟨f118a, f118b, f118c, f118d, f118e⟩ := atI_some f118
                simp only [Int.toNat_natCast] at f118c f118d f118e
                have f118l : a1.pre.length < a0.sizes.length := by omega
                refine zr rfl rfl rfl (by simp [c117, f118a, f118b, f118c, f118d, f118e, f118l]; rfl) ?_
                refine thenC_n ?_
                by_cases c119 : v60 ≤ v59
                · rw [if_pos c119] at h8
                  refine q_ifT rfl (by simp [c119]) (zq rfl (zr rfl rfl rfl (by simp; rfl) ?_))
                  refine thenC_n (q_ret rfl (blockC_r (thenC_r ?_)))
                  obtain ⟨rr2, h9, ho2⟩ := exit_some h8
                  have hs2 := hr2 _ ho2
                  subst hs2
                  refine roundC_r ho2 (blockC_r (blockC_r (thenC_r ?_)))
                  obtain ⟨rr1, h10, ho1⟩ := exit_some h9
                  have hs1 := hr1 _ ho1
                  subst hs1
                  refine roundC_r ho1 (blockC_r (thenC_r ?_))
                  cases h10
                  simp
                · rw [if_neg c119] at h8
                  refine q_ifF rfl (by simp [c119]) (q_skip rfl (blockC_n (thenC_n (zr rfl rfl rfl (by simp; rfl) ?_))))
                  have ho := next_some h8
                  refine roundC_n ho ?_
                  simp [cascade_validRow_h10]
            · rw [if_neg c115] at h6
              refine q_ifF rfl (by simp [c115]) (q_exit rfl (thenC_x ?_))
              obtain ⟨rr2, h7, ho2⟩ := exit_some h6
              have hs2 := hr2 _ ho2
              subst hs2
              refine roundC_x ho2 (blockC_hit2 rfl (blockC_n (thenC_n (zr rfl rfl rfl (by simp; rfl) ?_))))
              have ho := next_some h7
              refine roundC_n ho ?_
              simp [cascade_validRow_h5]
          · rw [if_neg c104] at h5
            have c104e := eq_false c104
            refine q_ifT rfl (by simp [c104e]) (zq rfl (zr rfl rfl rfl (by simp; rfl) ?_))
            refine thenC_n (q_ret rfl (thenC_r (blockC_r (thenC_r ?_))))
            obtain ⟨rr1, h6, ho1⟩ := exit_some h5
            have hs1 := hr1 _ ho1
            subst hs1
            refine roundC_r ho1 (blockC_r (thenC_r ?_))
            cases h6
            simp
        · rw [if_neg c101] at h3
          refine q_ifF rfl (by simp [c101]) (q_exit rfl (thenC_x ?_))
          obtain ⟨rr1, h4, ho1⟩ := exit_some h3
          have hs1 := hr1 _ ho1
          subst hs1
          refine roundC_x ho1 (blockC_hit2 rfl (thenC_n (zq rfl (zr rfl rfl rfl (by simp; rfl) ?_))))
          refine thenC_n (q_ret rfl ?_)
          cases h4
          simp
      · rw [if_neg c64] at h2
        have c64e := eq_false c64
        refine q_ifT rfl (by simp [c64e]) (zq rfl (zr rfl rfl rfl (by simp; rfl) ?_))
        refine thenC_n (q_ret rfl (thenC_r ?_))
        cases h2
        simp [c63]
    · rw [if_neg c63] at h2
      refine q_drawW rfl rfl rfl rfl ?_; repeat' (first | (refine q_drawW_op rfl rfl fun Q' hQ => ?_; simp [c60, f61a, f61b, f61c, f61d, f61g, f61e, f61f, f62k, c63]; refine hQ.out _ ?_; clear hQ; clear Q') | (refine q_drawW_guard rfl rfl fun Q1 Q2 h1 h2 => ?_; simp [c60, f61a, f61b, f61c, f61d, f61g, f61e, f61f, f62k, c63, twoB_some]; (first | refine h1.out ?_ | refine h2.out ?_); clear h1 h2; clear Q1 Q2; intro Q' hQ; simp [c60, f61a, f61b, f61c, f61d, f61g, f61e, f61f, f62k, c63]; refine hQ.out _ ?_; clear hQ; clear Q') | (refine q_drawW_nil rfl fun Q' hQ => ?_; simp [c60, f61a, f61b, f61c, f61d, f61g, f61e, f61f, f62k, c63]; refine hQ.out _ ?_; clear hQ; clear Q'))
      refine thenC_n (q_ifT rfl (by simp) (zq rfl (zr rfl rfl rfl (by simp; rfl) ?_)))
      refine thenC_n (q_ret rfl (thenC_r ?_))
      cases h2
      simp [c63]

-- semigroup/cascade.Validate
def cascade_Validate_b12 (a0 : Casc) : Int → Option (Int ⊕ Int)
  | w26 =>
  if w26 < (a0.rows.length : Int) then
    (atI a0.rows w26).bind fun v31 =>
    (cascade_validRow a0 v31).bind fun v32 =>
    if v32 = true then
      if 0 < w26 then
        (atI a0.rows (IntKind.i64.wrap (w26 - 1))).bind fun v33 =>
        (cascade_compareRows v33.pre v31.pre).bind fun v34 =>
        if 0 ≤ v34 then
          exitG <|
          some 23
        else
          nextG (IntKind.i64.wrap (w26 + 1))
      else
        nextG (IntKind.i64.wrap (w26 + 1))
    else
      exitG <|
      some 23
  else
    exitG <|
    some 0
def cascade_Validate_h12 (a0 : Casc) : Int → Fr
  | w26 => ⟨69, [(1, .one (.a 1 [] (0))), (40, .one (.t none (.sl a0.rows.length (a0.rows.flatMap fun x0 => [.sl x0.pre.length (x0.pre.map fun x1 => .sc (.int .i64 x1)), .sl x0.maps.length (x0.maps.map fun x1 => .sl x1.length (x1.map fun x2 => .sc (.int .i64 x2)))])))), (41, .one (.t none (.sc (.int .i64 (a0.rows.length : Int))))), (42, .one (.t none (.sc (.int .i64 w26))))], [(1, .vr [.sc (.int .i64 a0.letters), .sl a0.sizes.length (a0.sizes.map fun x0 => .sc (.int .i64 x0)), .sl a0.rows.length (a0.rows.flatMap fun x0 => [.sl x0.pre.length (x0.pre.map fun x1 => .sc (.int .i64 x1)), .sl x0.maps.length (x0.maps.map fun x1 => .sl x1.length (x1.map fun x2 => .sc (.int .i64 x2)))])])]⟩
def cascade_Validate_b6 (a0 : Casc) : Int → Option (Int ⊕ Int)
  | w19 =>
  if w19 < (a0.sizes.length : Int) then
    (atI a0.sizes w19).bind fun v21 =>
    if v21 < 1 then
      exitG <|
      some 23
    else
      if 32 < v21 then
        exitG <|
        some 23
      else
        nextG (IntKind.i64.wrap (w19 + 1))
  else
    exitG <|
    loopG (cascade_Validate_b12 a0) LFm 0
def cascade_Validate_h6 (a0 : Casc) : Int → Fr
  | w19 => ⟨69, [(1, .one (.a 1 [] (0))), (26, .one (.t none (.sl a0.sizes.length (a0.sizes.map fun x0 => .sc (.int .i64 x0))))), (27, .one (.t none (.sc (.int .i64 (a0.sizes.length : Int))))), (28, .one (.t none (.sc (.int .i64 w19))))], [(1, .vr [.sc (.int .i64 a0.letters), .sl a0.sizes.length (a0.sizes.map fun x0 => .sc (.int .i64 x0)), .sl a0.rows.length (a0.rows.flatMap fun x0 => [.sl x0.pre.length (x0.pre.map fun x1 => .sc (.int .i64 x1)), .sl x0.maps.length (x0.maps.map fun x1 => .sl x1.length (x1.map fun x2 => .sc (.int .i64 x2)))])])]⟩
def cascade_Validate (a0 : Casc) : Option (Int) :=
  if a0.letters < 1 then
    some 1
  else
    if 6 < a0.letters then
      some 1
    else
      if 24 < (a0.sizes.length : Int) then
        some 3
      else
        if 48000 < (a0.rows.length : Int) then
          some 3
        else
          loopG (cascade_Validate_b6 a0) LFm 0
theorem cascade_Validate_ok {a0 : Casc} {r : Int} (h0 : cascade_Validate a0 = some r) : L 43 [.agg [.sc (.int .i64 a0.letters), .sl a0.sizes.length (a0.sizes.map fun x0 => .sc (.int .i64 x0)), .sl a0.rows.length (a0.rows.flatMap fun x0 => [.sl x0.pre.length (x0.pre.map fun x1 => .sc (.int .i64 x1)), .sl x0.maps.length (x0.maps.map fun x1 => .sl x1.length (x1.map fun x2 => .sc (.int .i64 x2)))])]] = some (.sc (.int .i64 r), [.dead]) := by
  simp only [cascade_Validate] at h0
  refine L_run cfn43 fn43 (runF_of bd43 ⟨of_decide_eq_true rfl, of_decide_eq_true rfl⟩ ?_)
  simp only [entryF, entryT, entryO, entryE, isIo]
  refine zq rfl (zr rfl rfl rfl (by simp; rfl) ?_)
  refine thenC_n (zq rfl (zq rfl ?_))
  by_cases c41 : a0.letters < 1
  · rw [if_pos c41] at h0
    refine zr rfl rfl rfl (by simp [c41]; rfl) ?_
    refine thenC_n (q_ifT rfl (by simp) (zq rfl (zr rfl rfl rfl (by simp; rfl) ?_)))
    refine thenC_n (q_ret rfl (thenC_r ?_))
    cases h0
    simp
  · rw [if_neg c41] at h0
    refine zr rfl rfl rfl (by simp [c41]; rfl) ?_
    refine thenC_n ?_
    by_cases c42 : 6 < a0.letters
    · rw [if_pos c42] at h0
      refine q_ifT rfl (by simp [c42]) (zq rfl (zr rfl rfl rfl (by simp; rfl) ?_))
      refine thenC_n (q_ret rfl (thenC_r ?_))
      cases h0
      simp
    · rw [if_neg c42] at h0
      refine q_ifF rfl (by simp [c42]) (q_skip rfl (thenC_n (zq rfl (zq rfl ?_))))
      by_cases c43 : 24 < (a0.sizes.length : Int)
      · rw [if_pos c43] at h0
        refine zr rfl rfl rfl (by simp [c43]; rfl) ?_
        refine thenC_n (q_ifT rfl (by simp) (zq rfl (zr rfl rfl rfl (by simp; rfl) ?_)))
        refine thenC_n (q_ret rfl (thenC_r ?_))
        cases h0
        simp
      · rw [if_neg c43] at h0
        refine zr rfl rfl rfl (by simp [c43]; rfl) ?_
        refine thenC_n ?_
        by_cases c44 : 48000 < (a0.rows.length : Int)
        · rw [if_pos c44] at h0
          refine q_ifT rfl (by simp [c44]) (zq rfl (zr rfl rfl rfl (by simp; rfl) ?_))
          refine thenC_n (q_ret rfl (thenC_r ?_))
          cases h0
          simp
        · rw [if_neg c44] at h0
          refine q_ifF rfl (by simp [c44]) (q_skip rfl (thenC_n (zq rfl (zq rfl (zr rfl rfl rfl (by simp; rfl) ?_)))))
          refine thenC_n (zb rfl (q_loopG h0 (cascade_Validate_h6 a0) rfl rfl (by simp [cascade_Validate_h6]) fun s o1 h1 hr1 => ?_))
          obtain ⟨w19, hs1⟩ : ∃ y, y = s := ⟨_, rfl⟩
          subst hs1
          simp only [cascade_Validate_b6] at h1
          simp only [cascade_Validate_h6]
          refine zq rfl (zr rfl rfl rfl (by simp; rfl) ?_)
          refine thenC_n (zq rfl ?_)
          by_cases c53 : w19 < (a0.sizes.length : Int)
          · rw [if_pos c53] at h1
            refine q_ifT rfl (by simp [c53]) (q_skip rfl (thenC_n (zq rfl (zb rfl (zq rfl ?_)))))
            obtain ⟨v21, f54, h2⟩ := bnd_some h1
            obtain ⟨f54a, f54b, f54c, f54d, f54e⟩ := atI_some f54
            refine zr rfl rfl rfl (by simp [f54a, f54b, f54c, f54d, f54e]; rfl) ?_
            refine thenC_n (zq rfl ?_)
            by_cases c55 : v21 < 1
            · rw [if_pos c55] at h2
              refine zr rfl rfl rfl (by simp [c55]; rfl) ?_
              refine thenC_n (q_ifT rfl (by simp) (zq rfl (zr rfl rfl rfl (by simp; rfl) ?_)))
              refine thenC_n (q_ret rfl (blockC_r (thenC_r ?_)))
              obtain ⟨rr1, h3, ho1⟩ := exit_some h2
              have hs1 := hr1 _ ho1
              subst hs1
              refine roundC_r ho1 (blockC_r (thenC_r ?_))
              cases h3
              simp
            · rw [if_neg c55] at h2
              refine zr rfl rfl rfl (by simp [c55]; rfl) ?_
              refine thenC_n ?_
              by_cases c56 : 32 < v21
              · rw [if_pos c56] at h2
                refine q_ifT rfl (by simp [c56]) (zq rfl (zr rfl rfl rfl (by simp; rfl) ?_))
                refine thenC_n (q_ret rfl (blockC_r (thenC_r ?_)))
                obtain ⟨rr1, h3, ho1⟩ := exit_some h2
                have hs1 := hr1 _ ho1
                subst hs1
                refine roundC_r ho1 (blockC_r (thenC_r ?_))
                cases h3
                simp
              · rw [if_neg c56] at h2
                refine q_ifF rfl (by simp [c56]) (q_skip rfl (blockC_n (thenC_n (zr rfl rfl rfl (by simp; rfl) ?_))))
                have ho := next_some h2
                refine roundC_n ho ?_
                simp [cascade_Validate_h6]
          · rw [if_neg c53] at h1
            refine q_ifF rfl (by simp [c53]) (q_exit rfl (thenC_x ?_))
            obtain ⟨rr1, h2, ho1⟩ := exit_some h1
            have hs1 := hr1 _ ho1
            subst hs1
            refine roundC_x ho1 (blockC_hit2 rfl (thenC_n (zq rfl (zq rfl (zr rfl rfl rfl (by simp; rfl) ?_)))))
            refine thenC_n (zb rfl (q_loopG h2 (cascade_Validate_h12 a0) rfl rfl (by simp [cascade_Validate_h12]) fun s o2 h3 hr2 => ?_))
            obtain ⟨w26, hs2⟩ : ∃ y, y = s := ⟨_, rfl⟩
            subst hs2
            simp only [cascade_Validate_b12] at h3
            simp only [cascade_Validate_h12]
            refine zq rfl (zr rfl rfl rfl (by simp; rfl) ?_)
            refine thenC_n (zq rfl ?_)
            by_cases c73 : w26 < (a0.rows.length : Int)
            · rw [if_pos c73] at h3
              refine q_ifT rfl (by simp [c73]) (q_skip rfl (thenC_n (zq rfl (zb rfl (zq rfl ?_)))))
              obtain ⟨v31, f74, h4⟩ := bnd_some h3
              obtain ⟨f74a, f74b, f74c, f74d, f74e⟩ := atI_some f74
              have f74g := flat_some (g := fun x : CRow => ([.sl x.pre.length (x.pre.map fun x0 => .sc (.int .i64 x0)), .sl x.maps.length (x.maps.map fun x0 => .sl x0.length (x0.map fun x1 => .sc (.int .i64 x1)))] : List T)) (m := 2) (fun _ => rfl) f74d
              have f74h := flat_len (g := fun x : CRow => ([.sl x.pre.length (x.pre.map fun x0 => .sc (.int .i64 x0)), .sl x.maps.length (x.maps.map fun x0 => .sl x0.length (x0.map fun x1 => .sc (.int .i64 x1)))] : List T)) (m := 2) (fun _ => rfl) a0.rows
              have f74k0 := f74g.2.2.1 0 (by decide)
              have f74m0 := f74g.2.2.2 0 _ rfl
              have f74k1 := f74g.2.2.1 1 (by decide)
              have f74m1 := f74g.2.2.2 1 _ rfl
              obtain ⟨f74g, f74i, -⟩ := f74g
              try simp at f74i f74h f74k0 f74m0 f74k1 f74m1
              refine zr rfl rfl rfl (by simp [f74a, f74b, f74c, f74d, f74e, f74g, f74i, f74h, f74k0, f74k1, f74m0, f74m1]; rfl) ?_
              refine thenC_n (zq rfl ?_)
              obtain ⟨v32, f75, h5⟩ := bnd_some h4
              have f75k := cascade_validRow_ok f75
              try simp at f75k
              by_cases c76 : v32 = true
              · rw [if_pos c76] at h5
                by_cases c77 : 0 < w26
                · rw [if_pos c77] at h5
                  obtain ⟨v33, f78, h6⟩ := bnd_some h5
                  obtain ⟨f78a, f78b, f78c, f78d, f78e⟩ := atI_some f78
                  have f78g := flat_some (g := fun x : CRow => ([.sl x.pre.length (x.pre.map fun x0 => .sc (.int .i64 x0)), .sl x.maps.length (x.maps.map fun x0 => .sl x0.length (x0.map fun x1 => .sc (.int .i64 x1)))] : List T)) (m := 2) (fun _ => rfl) f78d
                  have f78h := flat_len (g := fun x : CRow => ([.sl x.pre.length (x.pre.map fun x0 => .sc (.int .i64 x0)), .sl x.maps.length (x.maps.map fun x0 => .sl x0.length (x0.map fun x1 => .sc (.int .i64 x1)))] : List T)) (m := 2) (fun _ => rfl) a0.rows
                  have f78k0 := f78g.2.2.1 0 (by decide)
                  have f78m0 := f78g.2.2.2 0 _ rfl
                  have f78k1 := f78g.2.2.1 1 (by decide)
                  have f78m1 := f78g.2.2.2 1 _ rfl
                  obtain ⟨f78g, f78i, -⟩ := f78g
                  try simp at f78i f78h f78k0 f78m0 f78k1 f78m1
                  obtain ⟨v34, f79, h7⟩ := bnd_some h6
                  have f79k := cascade_compareRows_ok f79
                  try simp at f79k
                  refine q_drawW rfl rfl rfl rfl ?_; repeat' (first | (refine q_drawW_op rfl rfl fun Q' hQ => ?_; simp [f75k, c76, c77, f78a, f78b, f78c, f78d, f78e, f78g, f78i, f78h, f78k0, f78k1, f78m0, f78m1, f79k]; refine hQ.out _ ?_; clear hQ; clear Q') | (refine q_drawW_guard rfl rfl fun Q1 Q2 h1 h2 => ?_; simp [f75k, c76, c77, f78a, f78b, f78c, f78d, f78e, f78g, f78i, f78h, f78k0, f78k1, f78m0, f78m1, f79k, twoB_some]; (first | refine h1.out ?_ | refine h2.out ?_); clear h1 h2; clear Q1 Q2; intro Q' hQ; simp [f75k, c76, c77, f78a, f78b, f78c, f78d, f78e, f78g, f78i, f78h, f78k0, f78k1, f78m0, f78m1, f79k]; refine hQ.out _ ?_; clear hQ; clear Q') | (refine q_drawW_nil rfl fun Q' hQ => ?_; simp [f75k, c76, c77, f78a, f78b, f78c, f78d, f78e, f78g, f78i, f78h, f78k0, f78k1, f78m0, f78m1, f79k]; refine hQ.out _ ?_; clear hQ; clear Q'))
                  refine thenC_n ?_
                  by_cases c80 : 0 ≤ v34
                  · rw [if_pos c80] at h7
                    refine q_ifT rfl (by simp [c80]) (zq rfl (zr rfl rfl rfl (by simp; rfl) ?_))
                    refine thenC_n (q_ret rfl (blockC_r (thenC_r ?_)))
                    obtain ⟨rr2, h8, ho2⟩ := exit_some h7
                    have hs2 := hr2 _ ho2
                    subst hs2
                    refine roundC_r ho2 (blockC_r (thenC_r ?_))
                    cases h8
                    simp [c76]
                  · rw [if_neg c80] at h7
                    refine q_ifF rfl (by simp [c80]) (q_skip rfl (blockC_n (thenC_n (zr rfl rfl rfl (by simp; rfl) ?_))))
                    have ho := next_some h7
                    refine roundC_n ho ?_
                    simp [cascade_Validate_h12, c76]
                · rw [if_neg c77] at h5
                  refine q_drawW rfl rfl rfl rfl ?_; repeat' (first | (refine q_drawW_op rfl rfl fun Q' hQ => ?_; simp [f75k, c76, c77]; refine hQ.out _ ?_; clear hQ; clear Q') | (refine q_drawW_guard rfl rfl fun Q1 Q2 h1 h2 => ?_; simp [f75k, c76, c77, twoB_some]; (first | refine h1.out ?_ | refine h2.out ?_); clear h1 h2; clear Q1 Q2; intro Q' hQ; simp [f75k, c76, c77]; refine hQ.out _ ?_; clear hQ; clear Q') | (refine q_drawW_nil rfl fun Q' hQ => ?_; simp [f75k, c76, c77]; refine hQ.out _ ?_; clear hQ; clear Q'))
                  refine thenC_n (q_ifF rfl (by simp) (q_skip rfl (blockC_n (thenC_n (zr rfl rfl rfl (by simp; rfl) ?_)))))
                  have ho := next_some h5
                  refine roundC_n ho ?_
                  simp [cascade_Validate_h12, c76]
              · rw [if_neg c76] at h5
                refine q_drawW rfl rfl rfl rfl ?_; repeat' (first | (refine q_drawW_op rfl rfl fun Q' hQ => ?_; simp [f75k, c76]; refine hQ.out _ ?_; clear hQ; clear Q') | (refine q_drawW_guard rfl rfl fun Q1 Q2 h1 h2 => ?_; simp [f75k, c76, twoB_some]; (first | refine h1.out ?_ | refine h2.out ?_); clear h1 h2; clear Q1 Q2; intro Q' hQ; simp [f75k, c76]; refine hQ.out _ ?_; clear hQ; clear Q') | (refine q_drawW_nil rfl fun Q' hQ => ?_; simp [f75k, c76]; refine hQ.out _ ?_; clear hQ; clear Q'))
                refine thenC_n (q_ifT rfl (by simp) (zq rfl (zr rfl rfl rfl (by simp; rfl) ?_)))
                refine thenC_n (q_ret rfl (blockC_r (thenC_r ?_)))
                obtain ⟨rr2, h6, ho2⟩ := exit_some h5
                have hs2 := hr2 _ ho2
                subst hs2
                refine roundC_r ho2 (blockC_r (thenC_r ?_))
                cases h6
                simp [c76]
            · rw [if_neg c73] at h3
              refine q_ifF rfl (by simp [c73]) (q_exit rfl (thenC_x ?_))
              obtain ⟨rr2, h4, ho2⟩ := exit_some h3
              have hs2 := hr2 _ ho2
              subst hs2
              refine roundC_x ho2 (blockC_hit2 rfl (thenC_n (zq rfl (zr rfl rfl rfl (by simp; rfl) ?_))))
              refine thenC_n (q_ret rfl ?_)
              cases h4
              simp

-- semigroup/semigroupref26.Validate
def ref26_Validate_b23 (v205 : Int) (w211 : Int) (v217 : List Int) : Int → Option (Int ⊕ (Int ⊕ (Int ⊕ Int)))
  | w219 =>
  if w219 < (v217.length : Int) then
    (atI v217 w219).bind fun v221 =>
    if v221 < 0 then
      exitG <|
      exitG <|
      exitG <|
      some 23
    else
      if v205 ≤ v221 then
        exitG <|
        exitG <|
        exitG <|
        some 23
      else
        nextG (IntKind.i64.wrap (w219 + 1))
  else
    exitG <|
    nextG (IntKind.i64.wrap (w211 + 1))
def ref26_Validate_h23 (a0 : Casc) (w162 : Int) (v201 : CRow) (v205 : Int) (w211 : Int) (v217 : List Int) : Int → Fr
  | w219 => ⟨126, [(1, .one (.a 1 [] (0))), (7, .one (.t none (.sc (.int .i64 v205)))), (45, .one (.t none (.sl a0.rows.length (a0.rows.flatMap fun x0 => [.sl x0.pre.length (x0.pre.map fun x1 => .sc (.int .i64 x1)), .sl x0.maps.length (x0.maps.map fun x1 => .sl x1.length (x1.map fun x2 => .sc (.int .i64 x2)))])))), (46, .one (.t none (.sc (.int .i64 (a0.rows.length : Int))))), (47, .one (.t none (.sc (.int .i64 w162)))), (100, .one (.t none (.sl v201.maps.length (v201.maps.map fun x0 => .sl x0.length (x0.map fun x1 => .sc (.int .i64 x1)))))), (101, .one (.t none (.sc (.int .i64 (v201.maps.length : Int))))), (102, .one (.t none (.sc (.int .i64 w211)))), (110, .one (.t none (.sl v217.length (v217.map fun x0 => .sc (.int .i64 x0))))), (111, .one (.t none (.sc (.int .i64 (v217.length : Int))))), (112, .one (.t none (.sc (.int .i64 w219))))], [(1, .vr [.sc (.int .i64 a0.letters), .sl a0.sizes.length (a0.sizes.map fun x0 => .sc (.int .i64 x0)), .sl a0.rows.length (a0.rows.flatMap fun x0 => [.sl x0.pre.length (x0.pre.map fun x1 => .sc (.int .i64 x1)), .sl x0.maps.length (x0.maps.map fun x1 => .sl x1.length (x1.map fun x2 => .sc (.int .i64 x2)))])])]⟩
def ref26_Validate_b18 (w162 : Int) (v201 : CRow) (v205 : Int) : Int → Option (Int ⊕ (Int ⊕ Int))
  | w211 =>
  if w211 < (v201.maps.length : Int) then
    (atI v201.maps w211).bind fun v217 =>
    if (v217.length : Int) = v205 then
      loopG (ref26_Validate_b23 v205 w211 v217) LFm 0
    else
      exitG <|
      exitG <|
      some 23
  else
    exitG <|
    nextG (IntKind.i64.wrap (w162 + 1))
def ref26_Validate_h18 (a0 : Casc) (w162 : Int) (v201 : CRow) (v205 : Int) : Int → Fr
  | w211 => ⟨126, [(1, .one (.a 1 [] (0))), (7, .one (.t none (.sc (.int .i64 v205)))), (45, .one (.t none (.sl a0.rows.length (a0.rows.flatMap fun x0 => [.sl x0.pre.length (x0.pre.map fun x1 => .sc (.int .i64 x1)), .sl x0.maps.length (x0.maps.map fun x1 => .sl x1.length (x1.map fun x2 => .sc (.int .i64 x2)))])))), (46, .one (.t none (.sc (.int .i64 (a0.rows.length : Int))))), (47, .one (.t none (.sc (.int .i64 w162)))), (100, .one (.t none (.sl v201.maps.length (v201.maps.map fun x0 => .sl x0.length (x0.map fun x1 => .sc (.int .i64 x1)))))), (101, .one (.t none (.sc (.int .i64 (v201.maps.length : Int))))), (102, .one (.t none (.sc (.int .i64 w211))))], [(1, .vr [.sc (.int .i64 a0.letters), .sl a0.sizes.length (a0.sizes.map fun x0 => .sc (.int .i64 x0)), .sl a0.rows.length (a0.rows.flatMap fun x0 => [.sl x0.pre.length (x0.pre.map fun x1 => .sc (.int .i64 x1)), .sl x0.maps.length (x0.maps.map fun x1 => .sl x1.length (x1.map fun x2 => .sc (.int .i64 x2)))])])]⟩
def ref26_Validate_b23a (v222 : Int) (w228 : Int) (v234 : List Int) : Int → Option (Int ⊕ (Int ⊕ (Int ⊕ Int)))
  | w236 =>
  if w236 < (v234.length : Int) then
    (atI v234 w236).bind fun v238 =>
    if v238 < 0 then
      exitG <|
      exitG <|
      exitG <|
      some 23
    else
      if v222 ≤ v238 then
        exitG <|
        exitG <|
        exitG <|
        some 23
      else
        nextG (IntKind.i64.wrap (w236 + 1))
  else
    exitG <|
    nextG (IntKind.i64.wrap (w228 + 1))
def ref26_Validate_h23a (a0 : Casc) (w162 : Int) (v201 : CRow) (v222 : Int) (w228 : Int) (v234 : List Int) : Int → Fr
  | w236 => ⟨126, [(1, .one (.a 1 [] (0))), (7, .one (.t none (.sc (.int .i64 v222)))), (45, .one (.t none (.sl a0.rows.length (a0.rows.flatMap fun x0 => [.sl x0.pre.length (x0.pre.map fun x1 => .sc (.int .i64 x1)), .sl x0.maps.length (x0.maps.map fun x1 => .sl x1.length (x1.map fun x2 => .sc (.int .i64 x2)))])))), (46, .one (.t none (.sc (.int .i64 (a0.rows.length : Int))))), (47, .one (.t none (.sc (.int .i64 w162)))), (100, .one (.t none (.sl v201.maps.length (v201.maps.map fun x0 => .sl x0.length (x0.map fun x1 => .sc (.int .i64 x1)))))), (101, .one (.t none (.sc (.int .i64 (v201.maps.length : Int))))), (102, .one (.t none (.sc (.int .i64 w228)))), (110, .one (.t none (.sl v234.length (v234.map fun x0 => .sc (.int .i64 x0))))), (111, .one (.t none (.sc (.int .i64 (v234.length : Int))))), (112, .one (.t none (.sc (.int .i64 w236))))], [(1, .vr [.sc (.int .i64 a0.letters), .sl a0.sizes.length (a0.sizes.map fun x0 => .sc (.int .i64 x0)), .sl a0.rows.length (a0.rows.flatMap fun x0 => [.sl x0.pre.length (x0.pre.map fun x1 => .sc (.int .i64 x1)), .sl x0.maps.length (x0.maps.map fun x1 => .sl x1.length (x1.map fun x2 => .sc (.int .i64 x2)))])])]⟩
def ref26_Validate_b18a (w162 : Int) (v201 : CRow) (v222 : Int) : Int → Option (Int ⊕ (Int ⊕ Int))
  | w228 =>
  if w228 < (v201.maps.length : Int) then
    (atI v201.maps w228).bind fun v234 =>
    if (v234.length : Int) = v222 then
      loopG (ref26_Validate_b23a v222 w228 v234) LFm 0
    else
      exitG <|
      exitG <|
      some 23
  else
    exitG <|
    nextG (IntKind.i64.wrap (w162 + 1))
def ref26_Validate_h18a (a0 : Casc) (w162 : Int) (v201 : CRow) (v222 : Int) : Int → Fr
  | w228 => ⟨126, [(1, .one (.a 1 [] (0))), (7, .one (.t none (.sc (.int .i64 v222)))), (45, .one (.t none (.sl a0.rows.length (a0.rows.flatMap fun x0 => [.sl x0.pre.length (x0.pre.map fun x1 => .sc (.int .i64 x1)), .sl x0.maps.length (x0.maps.map fun x1 => .sl x1.length (x1.map fun x2 => .sc (.int .i64 x2)))])))), (46, .one (.t none (.sc (.int .i64 (a0.rows.length : Int))))), (47, .one (.t none (.sc (.int .i64 w162)))), (100, .one (.t none (.sl v201.maps.length (v201.maps.map fun x0 => .sl x0.length (x0.map fun x1 => .sc (.int .i64 x1)))))), (101, .one (.t none (.sc (.int .i64 (v201.maps.length : Int))))), (102, .one (.t none (.sc (.int .i64 w228))))], [(1, .vr [.sc (.int .i64 a0.letters), .sl a0.sizes.length (a0.sizes.map fun x0 => .sc (.int .i64 x0)), .sl a0.rows.length (a0.rows.flatMap fun x0 => [.sl x0.pre.length (x0.pre.map fun x1 => .sc (.int .i64 x1)), .sl x0.maps.length (x0.maps.map fun x1 => .sl x1.length (x1.map fun x2 => .sc (.int .i64 x2)))])])]⟩
def ref26_Validate_b12 (a0 : Casc) : Int → Option (Int ⊕ Int)
  | w162 =>
  if w162 < (a0.rows.length : Int) then
    (atI a0.rows w162).bind fun v201 =>
    if a0.sizes.length ≤ v201.pre.length then
      exitG <|
      some 23
    else
      (ref26_in a0.sizes v201.pre).bind fun v202 =>
      if v202 = true then
        if 0 < w162 then
          (atI a0.rows (IntKind.i64.wrap (w162 - 1))).bind fun v203 =>
          (ref26_Less v203.pre v201.pre).bind fun v204 =>
          if v204 = true then
            if (v201.maps.length : Int) = a0.letters then
              (atI a0.sizes (v201.pre.length : Int)).bind fun v205 =>
              loopG (ref26_Validate_b18 w162 v201 v205) LFm 0
            else
              exitG <|
              some 23
          else
            exitG <|
            some 23
        else
          if (v201.maps.length : Int) = a0.letters then
            (atI a0.sizes (v201.pre.length : Int)).bind fun v222 =>
            loopG (ref26_Validate_b18a w162 v201 v222) LFm 0
          else
            exitG <|
            some 23
      else
        exitG <|
        some 23
  else
    exitG <|
    some 0
def ref26_Validate_h12 (a0 : Casc) : Int → Fr
  | w162 => ⟨126, [(1, .one (.a 1 [] (0))), (45, .one (.t none (.sl a0.rows.length (a0.rows.flatMap fun x0 => [.sl x0.pre.length (x0.pre.map fun x1 => .sc (.int .i64 x1)), .sl x0.maps.length (x0.maps.map fun x1 => .sl x1.length (x1.map fun x2 => .sc (.int .i64 x2)))])))), (46, .one (.t none (.sc (.int .i64 (a0.rows.length : Int))))), (47, .one (.t none (.sc (.int .i64 w162))))], [(1, .vr [.sc (.int .i64 a0.letters), .sl a0.sizes.length (a0.sizes.map fun x0 => .sc (.int .i64 x0)), .sl a0.rows.length (a0.rows.flatMap fun x0 => [.sl x0.pre.length (x0.pre.map fun x1 => .sc (.int .i64 x1)), .sl x0.maps.length (x0.maps.map fun x1 => .sl x1.length (x1.map fun x2 => .sc (.int .i64 x2)))])])]⟩
def ref26_Validate_b6 (a0 : Casc) : Int → Option (Int ⊕ Int)
  | w121 =>
  if w121 < (a0.sizes.length : Int) then
    (atI a0.sizes w121).bind fun v123 =>
    if v123 < 1 then
      exitG <|
      some 23
    else
      if 32 < v123 then
        exitG <|
        some 23
      else
        nextG (IntKind.i64.wrap (w121 + 1))
  else
    exitG <|
    loopG (ref26_Validate_b12 a0) LFm 0
def ref26_Validate_h6 (a0 : Casc) : Int → Fr
  | w121 => ⟨126, [(1, .one (.a 1 [] (0))), (31, .one (.t none (.sl a0.sizes.length (a0.sizes.map fun x0 => .sc (.int .i64 x0))))), (32, .one (.t none (.sc (.int .i64 (a0.sizes.length : Int))))), (33, .one (.t none (.sc (.int .i64 w121))))], [(1, .vr [.sc (.int .i64 a0.letters), .sl a0.sizes.length (a0.sizes.map fun x0 => .sc (.int .i64 x0)), .sl a0.rows.length (a0.rows.flatMap fun x0 => [.sl x0.pre.length (x0.pre.map fun x1 => .sc (.int .i64 x1)), .sl x0.maps.length (x0.maps.map fun x1 => .sl x1.length (x1.map fun x2 => .sc (.int .i64 x2)))])])]⟩
def ref26_Validate (a0 : Casc) : Option (Int) :=
  if a0.letters < 1 then
    some 1
  else
    if 6 < a0.letters then
      some 1
    else
      if 24 < (a0.sizes.length : Int) then
        some 3
      else
        if 48000 < (a0.rows.length : Int) then
          some 3
        else
          loopG (ref26_Validate_b6 a0) LFm 0
theorem ref26_Validate_ok {a0 : Casc} {r : Int} (h0 : ref26_Validate a0 = some r) : L 38 [.agg [.sc (.int .i64 a0.letters), .sl a0.sizes.length (a0.sizes.map fun x0 => .sc (.int .i64 x0)), .sl a0.rows.length (a0.rows.flatMap fun x0 => [.sl x0.pre.length (x0.pre.map fun x1 => .sc (.int .i64 x1)), .sl x0.maps.length (x0.maps.map fun x1 => .sl x1.length (x1.map fun x2 => .sc (.int .i64 x2)))])]] = some (.sc (.int .i64 r), [.dead]) := by
  simp only [ref26_Validate] at h0
  refine L_run cfn38 fn38 (runF_of bd38 ⟨of_decide_eq_true rfl, of_decide_eq_true rfl⟩ ?_)
  simp only [entryF, entryT, entryO, entryE, isIo]
  refine zq rfl (zr rfl rfl rfl (by simp; rfl) ?_)
  refine thenC_n (zq rfl (zq rfl ?_))
  by_cases c326 : a0.letters < 1
  · rw [if_pos c326] at h0
    refine zr rfl rfl rfl (by simp [c326]; rfl) ?_
    refine thenC_n (q_ifT rfl (by simp) (zq rfl (zr rfl rfl rfl (by simp; rfl) ?_)))
    refine thenC_n (q_ret rfl (thenC_r ?_))
    cases h0
    simp
  · rw [if_neg c326] at h0
    refine zr rfl rfl rfl (by simp [c326]; rfl) ?_
    refine thenC_n ?_
    by_cases c327 : 6 < a0.letters
    · rw [if_pos c327] at h0
      refine q_ifT rfl (by simp [c327]) (zq rfl (zr rfl rfl rfl (by simp; rfl) ?_))
      refine thenC_n (q_ret rfl (thenC_r ?_))
      cases h0
      simp
    · rw [if_neg c327] at h0
      refine q_ifF rfl (by simp [c327]) (q_skip rfl (thenC_n (zq rfl (zq rfl ?_))))
      by_cases c328 : 24 < (a0.sizes.length : Int)
      · rw [if_pos c328] at h0
        refine zr rfl rfl rfl (by simp [c328]; rfl) ?_
        refine thenC_n (q_ifT rfl (by simp) (zq rfl (zr rfl rfl rfl (by simp; rfl) ?_)))
        refine thenC_n (q_ret rfl (thenC_r ?_))
        cases h0
        simp
      · rw [if_neg c328] at h0
        refine zr rfl rfl rfl (by simp [c328]; rfl) ?_
        refine thenC_n ?_
        by_cases c329 : 48000 < (a0.rows.length : Int)
        · rw [if_pos c329] at h0
          refine q_ifT rfl (by simp [c329]) (zq rfl (zr rfl rfl rfl (by simp; rfl) ?_))
          refine thenC_n (q_ret rfl (thenC_r ?_))
          cases h0
          simp
        · rw [if_neg c329] at h0
          refine q_ifF rfl (by simp [c329]) (q_skip rfl (thenC_n (zq rfl (zq rfl (zr rfl rfl rfl (by simp; rfl) ?_)))))
          refine thenC_n (zb rfl (q_loopG h0 (ref26_Validate_h6 a0) rfl rfl (by simp [ref26_Validate_h6]) fun s o1 h1 hr1 => ?_))
          obtain ⟨w121, hs1⟩ : ∃ y, y = s := ⟨_, rfl⟩
          subst hs1
          simp only [ref26_Validate_b6] at h1
          simp only [ref26_Validate_h6]
          refine zq rfl (zr rfl rfl rfl (by simp; rfl) ?_)
          refine thenC_n (zq rfl ?_)
          by_cases c338 : w121 < (a0.sizes.length : Int)
          · rw [if_pos c338] at h1
            refine q_ifT rfl (by simp [c338]) (q_skip rfl (thenC_n (zq rfl (zb rfl (zq rfl ?_)))))
            obtain ⟨v123, f339, h2⟩ := bnd_some h1
            obtain ⟨f339a, f339b, f339c, f339d, f339e⟩ := atI_some f339
            refine zr rfl rfl rfl (by simp [f339a, f339b, f339c, f339d, f339e]; rfl) ?_
            refine thenC_n (zq rfl ?_)
            by_cases c340 : v123 < 1
            · rw [if_pos c340] at h2
              refine zr rfl rfl rfl (by simp [c340]; rfl) ?_
              refine thenC_n (q_ifT rfl (by simp) (zq rfl (zr rfl rfl rfl (by simp; rfl) ?_)))
              refine thenC_n (q_ret rfl (blockC_r (thenC_r ?_)))
              obtain ⟨rr1, h3, ho1⟩ := exit_some h2
              have hs1 := hr1 _ ho1
              subst hs1
              refine roundC_r ho1 (blockC_r (thenC_r ?_))
              cases h3
              simp
            · rw [if_neg c340] at h2
              refine zr rfl rfl rfl (by simp [c340]; rfl) ?_
              refine thenC_n ?_
              by_cases c341 : 32 < v123
              · rw [if_pos c341] at h2
                refine q_ifT rfl (by simp [c341]) (zq rfl (zr rfl rfl rfl (by simp; rfl) ?_))
                refine thenC_n (q_ret rfl (blockC_r (thenC_r ?_)))
                obtain ⟨rr1, h3, ho1⟩ := exit_some h2
                have hs1 := hr1 _ ho1
                subst hs1
                refine roundC_r ho1 (blockC_r (thenC_r ?_))
                cases h3
                simp
              · rw [if_neg c341] at h2
                refine q_ifF rfl (by simp [c341]) (q_skip rfl (blockC_n (thenC_n (zr rfl rfl rfl (by simp; rfl) ?_))))
                have ho := next_some h2
                refine roundC_n ho ?_
                simp [ref26_Validate_h6]
          · rw [if_neg c338] at h1
            refine q_ifF rfl (by simp [c338]) (q_exit rfl (thenC_x ?_))
            obtain ⟨rr1, h2, ho1⟩ := exit_some h1
            have hs1 := hr1 _ ho1
            subst hs1
            refine roundC_x ho1 (blockC_hit2 rfl (thenC_n (zq rfl (zq rfl (zr rfl rfl rfl (by simp; rfl) ?_)))))
            refine thenC_n (zb rfl (q_loopG h2 (ref26_Validate_h12 a0) rfl rfl (by simp [ref26_Validate_h12]) fun s o2 h3 hr2 => ?_))
            obtain ⟨w162, hs2⟩ : ∃ y, y = s := ⟨_, rfl⟩
            subst hs2
            simp only [ref26_Validate_b12] at h3
            simp only [ref26_Validate_h12]
            refine zq rfl (zr rfl rfl rfl (by simp; rfl) ?_)
            refine thenC_n (zq rfl ?_)
            by_cases c548 : w162 < (a0.rows.length : Int)
            · rw [if_pos c548] at h3
              refine q_ifT rfl (by simp [c548]) (q_skip rfl (thenC_n (zq rfl (zb rfl (zq rfl ?_)))))
              obtain ⟨v201, f549, h4⟩ := bnd_some h3
              obtain ⟨f549a, f549b, f549c, f549d, f549e⟩ := atI_some f549
              have f549g := flat_some (g := fun x : CRow => ([.sl x.pre.length (x.pre.map fun x0 => .sc (.int .i64 x0)), .sl x.maps.length (x.maps.map fun x0 => .sl x0.length (x0.map fun x1 => .sc (.int .i64 x1)))] : List T)) (m := 2) (fun _ => rfl) f549d
              have f549h := flat_len (g := fun x : CRow => ([.sl x.pre.length (x.pre.map fun x0 => .sc (.int .i64 x0)), .sl x.maps.length (x.maps.map fun x0 => .sl x0.length (x0.map fun x1 => .sc (.int .i64 x1)))] : List T)) (m := 2) (fun _ => rfl) a0.rows
              have f549k0 := f549g.2.2.1 0 (by decide)
              have f549m0 := f549g.2.2.2 0 _ rfl
              have f549k1 := f549g.2.2.1 1 (by decide)
              have f549m1 := f549g.2.2.2 1 _ rfl
              obtain ⟨f549g, f549i, -⟩ := f549g
              try simp at f549i f549h f549k0 f549m0 f549k1 f549m1
              refine zr rfl rfl rfl (by simp [f549a, f549b, f549c, f549d, f549e, f549g, f549i, f549h, f549k0, f549k1, f549m0, f549m1]; rfl) ?_
              refine thenC_n (zq rfl (zq rfl ?_))
              by_cases c550 : a0.sizes.length ≤ v201.pre.length
              · rw [if_pos c550] at h4
                refine q_drawW rfl rfl rfl rfl ?_; repeat' (first | (refine q_drawW_op rfl rfl fun Q' hQ => ?_; simp [c550]; refine hQ.out _ ?_; clear hQ; clear Q') | (refine q_drawW_guard rfl rfl fun Q1 Q2 h1 h2 => ?_; simp [c550, twoB_some]; (first | refine h1.out ?_ | refine h2.out ?_); clear h1 h2; clear Q1 Q2; intro Q' hQ; simp [c550]; refine hQ.out _ ?_; clear hQ; clear Q') | (refine q_drawW_nil rfl fun Q' hQ => ?_; simp [c550]; refine hQ.out _ ?_; clear hQ; clear Q'))
                refine thenC_n (q_ifT rfl (by simp) (zq rfl (zr rfl rfl rfl (by simp; rfl) ?_)))
                refine thenC_n (q_ret rfl (thenC_r (blockC_r (thenC_r ?_))))
                obtain ⟨rr2, h5, ho2⟩ := exit_some h4
                have hs2 := hr2 _ ho2
                subst hs2
                refine roundC_r ho2 (blockC_r (thenC_r ?_))
                cases h5
                simp
              · rw [if_neg c550] at h4
                obtain ⟨v202, f551, h5⟩ := bnd_some h4
                have f551k := ref26_in_ok f551
                try simp at f551k
                by_cases c552 : v202 = true
                · rw [if_pos c552] at h5
                  by_cases c553 : 0 < w162
                  · rw [if_pos c553] at h5
                    obtain ⟨v203, f554, h6⟩ := bnd_some h5
                    obtain ⟨f554a, f554b, f554c, f554d, f554e⟩ := atI_some f554
                    have f554g := flat_some (g := fun x : CRow => ([.sl x.pre.length (x.pre.map fun x0 => .sc (.int .i64 x0)), .sl x.maps.length (x.maps.map fun x0 => .sl x0.length (x0.map fun x1 => .sc (.int .i64 x1)))] : List T)) (m := 2) (fun _ => rfl) f554d
                    have f554h := flat_len (g := fun x : CRow => ([.sl x.pre.length (x.pre.map fun x0 => .sc (.int .i64 x0)), .sl x.maps.length (x.maps.map fun x0 => .sl x0.length (x0.map fun x1 => .sc (.int .i64 x1)))] : List T)) (m := 2) (fun _ => rfl) a0.rows
                    have f554k0 := f554g.2.2.1 0 (by decide)
                    have f554m0 := f554g.2.2.2 0 _ rfl
                    have f554k1 := f554g.2.2.1 1 (by decide)
                    have f554m1 := f554g.2.2.2 1 _ rfl
                    obtain ⟨f554g, f554i, -⟩ := f554g
                    try simp at f554i f554h f554k0 f554m0 f554k1 f554m1
                    obtain ⟨v204, f555, h7⟩ := bnd_some h6
                    have f555k := ref26_Less_ok f555
                    try simp at f555k
                    by_cases c556 : v204 = true
                    · rw [if_pos c556] at h7
                      refine q_drawW rfl rfl rfl rfl ?_; repeat' (first | (refine q_drawW_op rfl rfl fun Q' hQ => ?_; simp [c550, f551k, c552, c553, f554a, f554b, f554c, f554d, f554e, f554g, f554i, f554h, f554k0, f554k1, f554m0, f554m1, f555k, c556]; refine hQ.out _ ?_; clear hQ; clear Q') | (refine q_drawW_guard rfl rfl fun Q1 Q2 h1 h2 => ?_; simp [c550, f551k, c552, c553, f554a, f554b, f554c, f554d, f554e, f554g, f554i, f554h, f554k0, f554k1, f554m0, f554m1, f555k, c556, twoB_some]; (first | refine h1.out ?_ | refine h2.out ?_); clear h1 h2; clear Q1 Q2; intro Q' hQ; simp [c550, f551k, c552, c553, f554a, f554b, f554c, f554d, f554e, f554g, f554i, f554h, f554k0, f554k1, f554m0, f554m1, f555k, c556]; refine hQ.out _ ?_; clear hQ; clear Q') | (refine q_drawW_nil rfl fun Q' hQ => ?_; simp [c550, f551k, c552, c553, f554a, f554b, f554c, f554d, f554e, f554g, f554i, f554h, f554k0, f554k1, f554m0, f554m1, f555k, c556]; refine hQ.out _ ?_; clear hQ; clear Q'))
                      refine thenC_n ?_
                      by_cases c557 : (v201.maps.length : Int) = a0.letters
                      · rw [if_pos c557] at h7
                        have c557e := eq_true c557
                        refine q_ifF rfl (by simp [c557e]) (q_skip rfl (thenC_n (zq rfl ?_)))
                        obtain ⟨v205, f558, h8⟩ := bnd_some h7
                        obtain ⟨f558a, f558b, f558c, f558d, f558e⟩ := atI_some f558
                        simp only [Int.toNat_natCast] at f558c f558d f558e
                        have f558l : v201.pre.length < a0.sizes.length := by omega
                        refine zr rfl rfl rfl (by simp [f558a, f558b, f558c, f558d, f558e, f558l]; rfl) ?_
                        refine thenC_n (zq rfl (zr rfl rfl rfl (by simp; rfl) ?_))
                        refine thenC_n (zb rfl (q_loopG h8 (ref26_Validate_h18 a0 w162 v201 v205) rfl rfl (by simp [ref26_Validate_h18]) fun s o3 h9 hr3 => ?_))
                        obtain ⟨w211, hs3⟩ : ∃ y, y = s := ⟨_, rfl⟩
                        subst hs3
                        simp only [ref26_Validate_b18] at h9
                        simp only [ref26_Validate_h18]
                        refine zq rfl (zr rfl rfl rfl (by simp; rfl) ?_)
                        refine thenC_n (zq rfl ?_)
                        by_cases c589 : w211 < (v201.maps.length : Int)
                        · rw [if_pos c589] at h9
                          refine q_ifT rfl (by simp [c589]) (q_skip rfl (thenC_n (zq rfl (zb rfl (zq rfl ?_)))))
                          obtain ⟨v217, f590, h10⟩ := bnd_some h9
                          obtain ⟨f590a, f590b, f590c, f590d, f590e⟩ := atI_some f590
                          refine zr rfl rfl rfl (by simp [f590a, f590b, f590c, f590d, f590e]; rfl) ?_
                          refine thenC_n (zq rfl (zq rfl (zr rfl rfl rfl (by simp; rfl) ?_)))
                          refine thenC_n ?_
                          by_cases c591 : (v217.length : Int) = v205
                          · rw [if_pos c591] at h10
                            have c591e := eq_true c591
                            refine q_ifF rfl (by simp [c591e]) (q_skip rfl (thenC_n (zq rfl (zr rfl rfl rfl (by simp; rfl) ?_))))
                            refine thenC_n (zb rfl (q_loopG h10 (ref26_Validate_h23 a0 w162 v201 v205 w211 v217) rfl rfl (by simp [ref26_Validate_h23]) fun s o4 h11 hr4 => ?_))
                            obtain ⟨w219, hs4⟩ : ∃ y, y = s := ⟨_, rfl⟩
                            subst hs4
                            simp only [ref26_Validate_b23] at h11
                            simp only [ref26_Validate_h23]
                            refine zq rfl (zr rfl rfl rfl (by simp; rfl) ?_)
                            refine thenC_n (zq rfl ?_)
                            by_cases c600 : w219 < (v217.length : Int)
                            · rw [if_pos c600] at h11
                              refine q_ifT rfl (by simp [c600]) (q_skip rfl (thenC_n (zq rfl (zb rfl (zq rfl ?_)))))
                              obtain ⟨v221, f601, h12⟩ := bnd_some h11
                              obtain ⟨f601a, f601b, f601c, f601d, f601e⟩ := atI_some f601
                              refine zr rfl rfl rfl (by simp [f601a, f601b, f601c, f601d, f601e]; rfl) ?_
                              refine thenC_n (zq rfl ?_)
                              by_cases c602 : v221 < 0
                              · rw [if_pos c602] at h12
                                refine zr rfl rfl rfl (by simp [c602]; rfl) ?_
                                refine thenC_n (q_ifT rfl (by simp) (zq rfl (zr rfl rfl rfl (by simp; rfl) ?_)))
                                refine thenC_n (q_ret rfl (blockC_r (thenC_r ?_)))
                                obtain ⟨rr4, h13, ho4⟩ := exit_some h12
                                have hs4 := hr4 _ ho4
                                subst hs4
                                refine roundC_r ho4 (blockC_r (blockC_r (thenC_r ?_)))
                                obtain ⟨rr3, h14, ho3⟩ := exit_some h13
                                have hs3 := hr3 _ ho3
                                subst hs3
                                refine roundC_r ho3 (blockC_r (blockC_r (thenC_r ?_)))
                                obtain ⟨rr2, h15, ho2⟩ := exit_some h14
                                have hs2 := hr2 _ ho2
                                subst hs2
                                refine roundC_r ho2 (blockC_r (thenC_r ?_))
                                cases h15
                                simp
                              · rw [if_neg c602] at h12
                                refine zr rfl rfl rfl (by simp [c602]; rfl) ?_
                                refine thenC_n ?_
                                by_cases c603 : v205 ≤ v221
                                · rw [if_pos c603] at h12
                                  refine q_ifT rfl (by simp [c603]) (zq rfl (zr rfl rfl rfl (by simp; rfl) ?_))
                                  refine thenC_n (q_ret rfl (blockC_r (thenC_r ?_)))
                                  obtain ⟨rr4, h13, ho4⟩ := exit_some h12
                                  have hs4 := hr4 _ ho4
                                  subst hs4
                                  refine roundC_r ho4 (blockC_r (blockC_r (thenC_r ?_)))
                                  obtain ⟨rr3, h14, ho3⟩ := exit_some h13
                                  have hs3 := hr3 _ ho3
                                  subst hs3
                                  refine roundC_r ho3 (blockC_r (blockC_r (thenC_r ?_)))
                                  obtain ⟨rr2, h15, ho2⟩ := exit_some h14
                                  have hs2 := hr2 _ ho2
                                  subst hs2
                                  refine roundC_r ho2 (blockC_r (thenC_r ?_))
                                  cases h15
                                  simp
                                · rw [if_neg c603] at h12
                                  refine q_ifF rfl (by simp [c603]) (q_skip rfl (blockC_n (thenC_n (zr rfl rfl rfl (by simp; rfl) ?_))))
                                  have ho := next_some h12
                                  refine roundC_n ho ?_
                                  simp [ref26_Validate_h23]
                            · rw [if_neg c600] at h11
                              refine q_ifF rfl (by simp [c600]) (q_exit rfl (thenC_x ?_))
                              obtain ⟨rr4, h12, ho4⟩ := exit_some h11
                              have hs4 := hr4 _ ho4
                              subst hs4
                              refine roundC_x ho4 (blockC_hit2 rfl (blockC_n (thenC_n (zr rfl rfl rfl (by simp; rfl) ?_))))
                              have ho := next_some h12
                              refine roundC_n ho ?_
                              simp [ref26_Validate_h18]
                          · rw [if_neg c591] at h10
                            have c591e := eq_false c591
                            refine q_ifT rfl (by simp [c591e]) (zq rfl (zr rfl rfl rfl (by simp; rfl) ?_))
                            refine thenC_n (q_ret rfl (thenC_r (blockC_r (thenC_r ?_))))
                            obtain ⟨rr3, h11, ho3⟩ := exit_some h10
                            have hs3 := hr3 _ ho3
                            subst hs3
                            refine roundC_r ho3 (blockC_r (blockC_r (thenC_r ?_)))
                            obtain ⟨rr2, h12, ho2⟩ := exit_some h11
                            have hs2 := hr2 _ ho2
                            subst hs2
                            refine roundC_r ho2 (blockC_r (thenC_r ?_))
                            cases h12
                            simp
                        · rw [if_neg c589] at h9
                          refine q_ifF rfl (by simp [c589]) (q_exit rfl (thenC_x ?_))
                          obtain ⟨rr3, h10, ho3⟩ := exit_some h9
                          have hs3 := hr3 _ ho3
                          subst hs3
                          refine roundC_x ho3 (blockC_hit2 rfl (blockC_n (thenC_n (zr rfl rfl rfl (by simp; rfl) ?_))))
                          have ho := next_some h10
                          refine roundC_n ho ?_
                          simp [ref26_Validate_h12]
                      · rw [if_neg c557] at h7
                        have c557e := eq_false c557
                        refine q_ifT rfl (by simp [c557e]) (zq rfl (zr rfl rfl rfl (by simp; rfl) ?_))
                        refine thenC_n (q_ret rfl (thenC_r (blockC_r (thenC_r ?_))))
                        obtain ⟨rr2, h8, ho2⟩ := exit_some h7
                        have hs2 := hr2 _ ho2
                        subst hs2
                        refine roundC_r ho2 (blockC_r (thenC_r ?_))
                        cases h8
                        simp [c552, c556]
                    · rw [if_neg c556] at h7
                      refine q_drawW rfl rfl rfl rfl ?_; repeat' (first | (refine q_drawW_op rfl rfl fun Q' hQ => ?_; simp [c550, f551k, c552, c553, f554a, f554b, f554c, f554d, f554e, f554g, f554i, f554h, f554k0, f554k1, f554m0, f554m1, f555k, c556]; refine hQ.out _ ?_; clear hQ; clear Q') | (refine q_drawW_guard rfl rfl fun Q1 Q2 h1 h2 => ?_; simp [c550, f551k, c552, c553, f554a, f554b, f554c, f554d, f554e, f554g, f554i, f554h, f554k0, f554k1, f554m0, f554m1, f555k, c556, twoB_some]; (first | refine h1.out ?_ | refine h2.out ?_); clear h1 h2; clear Q1 Q2; intro Q' hQ; simp [c550, f551k, c552, c553, f554a, f554b, f554c, f554d, f554e, f554g, f554i, f554h, f554k0, f554k1, f554m0, f554m1, f555k, c556]; refine hQ.out _ ?_; clear hQ; clear Q') | (refine q_drawW_nil rfl fun Q' hQ => ?_; simp [c550, f551k, c552, c553, f554a, f554b, f554c, f554d, f554e, f554g, f554i, f554h, f554k0, f554k1, f554m0, f554m1, f555k, c556]; refine hQ.out _ ?_; clear hQ; clear Q'))
                      refine thenC_n (q_ifT rfl (by simp) (zq rfl (zr rfl rfl rfl (by simp; rfl) ?_)))
                      refine thenC_n (q_ret rfl (thenC_r (blockC_r (thenC_r ?_))))
                      obtain ⟨rr2, h8, ho2⟩ := exit_some h7
                      have hs2 := hr2 _ ho2
                      subst hs2
                      refine roundC_r ho2 (blockC_r (thenC_r ?_))
                      cases h8
                      simp [c552, c556]
                  · rw [if_neg c553] at h5
                    refine q_drawW rfl rfl rfl rfl ?_; repeat' (first | (refine q_drawW_op rfl rfl fun Q' hQ => ?_; simp [c550, f551k, c552, c553]; refine hQ.out _ ?_; clear hQ; clear Q') | (refine q_drawW_guard rfl rfl fun Q1 Q2 h1 h2 => ?_; simp [c550, f551k, c552, c553, twoB_some]; (first | refine h1.out ?_ | refine h2.out ?_); clear h1 h2; clear Q1 Q2; intro Q' hQ; simp [c550, f551k, c552, c553]; refine hQ.out _ ?_; clear hQ; clear Q') | (refine q_drawW_nil rfl fun Q' hQ => ?_; simp [c550, f551k, c552, c553]; refine hQ.out _ ?_; clear hQ; clear Q'))
                    refine thenC_n ?_
                    by_cases c604 : (v201.maps.length : Int) = a0.letters
                    · rw [if_pos c604] at h5
                      have c604e := eq_true c604
                      refine q_ifF rfl (by simp [c604e]) (q_skip rfl (thenC_n (zq rfl ?_)))
                      obtain ⟨v222, f605, h6⟩ := bnd_some h5
                      obtain ⟨f605a, f605b, f605c, f605d, f605e⟩ := atI_some f605
                      simp only [Int.toNat_natCast] at f605c f605d f605e
                      have f605l : v201.pre.length < a0.sizes.length := by omega
                      refine zr rfl rfl rfl (by simp [f605a, f605b, f605c, f605d, f605e, f605l]; rfl) ?_
                      refine thenC_n (zq rfl (zr rfl rfl rfl (by simp; rfl) ?_))
                      refine thenC_n (zb rfl (q_loopG h6 (ref26_Validate_h18a a0 w162 v201 v222) rfl rfl (by simp [ref26_Validate_h18a]) fun s o5 h7 hr5 => ?_))
                      obtain ⟨w228, hs5⟩ : ∃ y, y = s := ⟨_, rfl⟩
                      subst hs5
                      simp only [ref26_Validate_b18a] at h7
                      simp only [ref26_Validate_h18a]
                      refine zq rfl (zr rfl rfl rfl (by simp; rfl) ?_)
                      refine thenC_n (zq rfl ?_)
                      by_cases c636 : w228 < (v201.maps.length : Int)
                      · rw [if_pos c636] at h7
                        refine q_ifT rfl (by simp [c636]) (q_skip rfl (thenC_n (zq rfl (zb rfl (zq rfl ?_)))))
                        obtain ⟨v234, f637, h8⟩ := bnd_some h7
                        obtain ⟨f637a, f637b, f637c, f637d, f637e⟩ := atI_some f637
                        refine zr rfl rfl rfl (by simp [f637a, f637b, f637c, f637d, f637e]; rfl) ?_
                        refine thenC_n (zq rfl (zq rfl (zr rfl rfl rfl (by simp; rfl) ?_)))
                        refine thenC_n ?_
                        by_cases c638 : (v234.length : Int) = v222
                        · rw [if_pos c638] at h8
                          have c638e := eq_true c638
                          refine q_ifF rfl (by simp [c638e]) (q_skip rfl (thenC_n (zq rfl (zr rfl rfl rfl (by simp; rfl) ?_))))
                          refine thenC_n (zb rfl (q_loopG h8 (ref26_Validate_h23a a0 w162 v201 v222 w228 v234) rfl rfl (by simp [ref26_Validate_h23a]) fun s o6 h9 hr6 => ?_))
                          obtain ⟨w236, hs6⟩ : ∃ y, y = s := ⟨_, rfl⟩
                          subst hs6
                          simp only [ref26_Validate_b23a] at h9
                          simp only [ref26_Validate_h23a]
                          refine zq rfl (zr rfl rfl rfl (by simp; rfl) ?_)
                          refine thenC_n (zq rfl ?_)
                          by_cases c647 : w236 < (v234.length : Int)
                          · rw [if_pos c647] at h9
                            refine q_ifT rfl (by simp [c647]) (q_skip rfl (thenC_n (zq rfl (zb rfl (zq rfl ?_)))))
                            obtain ⟨v238, f648, h10⟩ := bnd_some h9
                            obtain ⟨f648a, f648b, f648c, f648d, f648e⟩ := atI_some f648
                            refine zr rfl rfl rfl (by simp [f648a, f648b, f648c, f648d, f648e]; rfl) ?_
                            refine thenC_n (zq rfl ?_)
                            by_cases c649 : v238 < 0
                            · rw [if_pos c649] at h10
                              refine zr rfl rfl rfl (by simp [c649]; rfl) ?_
                              refine thenC_n (q_ifT rfl (by simp) (zq rfl (zr rfl rfl rfl (by simp; rfl) ?_)))
                              refine thenC_n (q_ret rfl (blockC_r (thenC_r ?_)))
                              obtain ⟨rr6, h11, ho6⟩ := exit_some h10
                              have hs6 := hr6 _ ho6
                              subst hs6
                              refine roundC_r ho6 (blockC_r (blockC_r (thenC_r ?_)))
                              obtain ⟨rr5, h12, ho5⟩ := exit_some h11
                              have hs5 := hr5 _ ho5
                              subst hs5
                              refine roundC_r ho5 (blockC_r (blockC_r (thenC_r ?_)))
                              obtain ⟨rr2, h13, ho2⟩ := exit_some h12
                              have hs2 := hr2 _ ho2
                              subst hs2
                              refine roundC_r ho2 (blockC_r (thenC_r ?_))
                              cases h13
                              simp
                            · rw [if_neg c649] at h10
                              refine zr rfl rfl rfl (by simp [c649]; rfl) ?_
                              refine thenC_n ?_
                              by_cases c650 : v222 ≤ v238
                              · rw [if_pos c650] at h10
                                refine q_ifT rfl (by simp [c650]) (zq rfl (zr rfl rfl rfl (by simp; rfl) ?_))
                                refine thenC_n (q_ret rfl (blockC_r (thenC_r ?_)))
                                obtain ⟨rr6, h11, ho6⟩ := exit_some h10
                                have hs6 := hr6 _ ho6
                                subst hs6
                                refine roundC_r ho6 (blockC_r (blockC_r (thenC_r ?_)))
                                obtain ⟨rr5, h12, ho5⟩ := exit_some h11
                                have hs5 := hr5 _ ho5
                                subst hs5
                                refine roundC_r ho5 (blockC_r (blockC_r (thenC_r ?_)))
                                obtain ⟨rr2, h13, ho2⟩ := exit_some h12
                                have hs2 := hr2 _ ho2
                                subst hs2
                                refine roundC_r ho2 (blockC_r (thenC_r ?_))
                                cases h13
                                simp
                              · rw [if_neg c650] at h10
                                refine q_ifF rfl (by simp [c650]) (q_skip rfl (blockC_n (thenC_n (zr rfl rfl rfl (by simp; rfl) ?_))))
                                have ho := next_some h10
                                refine roundC_n ho ?_
                                simp [ref26_Validate_h23a]
                          · rw [if_neg c647] at h9
                            refine q_ifF rfl (by simp [c647]) (q_exit rfl (thenC_x ?_))
                            obtain ⟨rr6, h10, ho6⟩ := exit_some h9
                            have hs6 := hr6 _ ho6
                            subst hs6
                            refine roundC_x ho6 (blockC_hit2 rfl (blockC_n (thenC_n (zr rfl rfl rfl (by simp; rfl) ?_))))
                            have ho := next_some h10
                            refine roundC_n ho ?_
                            simp [ref26_Validate_h18a]
                        · rw [if_neg c638] at h8
                          have c638e := eq_false c638
                          refine q_ifT rfl (by simp [c638e]) (zq rfl (zr rfl rfl rfl (by simp; rfl) ?_))
                          refine thenC_n (q_ret rfl (thenC_r (blockC_r (thenC_r ?_))))
                          obtain ⟨rr5, h9, ho5⟩ := exit_some h8
                          have hs5 := hr5 _ ho5
                          subst hs5
                          refine roundC_r ho5 (blockC_r (blockC_r (thenC_r ?_)))
                          obtain ⟨rr2, h10, ho2⟩ := exit_some h9
                          have hs2 := hr2 _ ho2
                          subst hs2
                          refine roundC_r ho2 (blockC_r (thenC_r ?_))
                          cases h10
                          simp
                      · rw [if_neg c636] at h7
                        refine q_ifF rfl (by simp [c636]) (q_exit rfl (thenC_x ?_))
                        obtain ⟨rr5, h8, ho5⟩ := exit_some h7
                        have hs5 := hr5 _ ho5
                        subst hs5
                        refine roundC_x ho5 (blockC_hit2 rfl (blockC_n (thenC_n (zr rfl rfl rfl (by simp; rfl) ?_))))
                        have ho := next_some h8
                        refine roundC_n ho ?_
                        simp [ref26_Validate_h12]
                    · rw [if_neg c604] at h5
                      have c604e := eq_false c604
                      refine q_ifT rfl (by simp [c604e]) (zq rfl (zr rfl rfl rfl (by simp; rfl) ?_))
                      refine thenC_n (q_ret rfl (thenC_r (blockC_r (thenC_r ?_))))
                      obtain ⟨rr2, h6, ho2⟩ := exit_some h5
                      have hs2 := hr2 _ ho2
                      subst hs2
                      refine roundC_r ho2 (blockC_r (thenC_r ?_))
                      cases h6
                      simp [c552]
                · rw [if_neg c552] at h5
                  refine q_drawW rfl rfl rfl rfl ?_; repeat' (first | (refine q_drawW_op rfl rfl fun Q' hQ => ?_; simp [c550, f551k, c552]; refine hQ.out _ ?_; clear hQ; clear Q') | (refine q_drawW_guard rfl rfl fun Q1 Q2 h1 h2 => ?_; simp [c550, f551k, c552, twoB_some]; (first | refine h1.out ?_ | refine h2.out ?_); clear h1 h2; clear Q1 Q2; intro Q' hQ; simp [c550, f551k, c552]; refine hQ.out _ ?_; clear hQ; clear Q') | (refine q_drawW_nil rfl fun Q' hQ => ?_; simp [c550, f551k, c552]; refine hQ.out _ ?_; clear hQ; clear Q'))
                  refine thenC_n (q_ifT rfl (by simp) (zq rfl (zr rfl rfl rfl (by simp; rfl) ?_)))
                  refine thenC_n (q_ret rfl (thenC_r (blockC_r (thenC_r ?_))))
                  obtain ⟨rr2, h6, ho2⟩ := exit_some h5
                  have hs2 := hr2 _ ho2
                  subst hs2
                  refine roundC_r ho2 (blockC_r (thenC_r ?_))
                  cases h6
                  simp [c552]
            · rw [if_neg c548] at h3
              refine q_ifF rfl (by simp [c548]) (q_exit rfl (thenC_x ?_))
              obtain ⟨rr2, h4, ho2⟩ := exit_some h3
              have hs2 := hr2 _ ho2
              subst hs2
              refine roundC_x ho2 (blockC_hit2 rfl (thenC_n (zq rfl (zr rfl rfl rfl (by simp; rfl) ?_))))
              refine thenC_n (q_ret rfl ?_)
              cases h4
              simp

-- semigroup/cascade.NewRunner
def cascade_NewRunner (a0 : Casc) : Option ((Runner × Int) ⊕ (Runner × Int)) :=
  (cascade_Validate a0).bind fun v2 =>
  if v2 = 0 then
    some (.inl ((⟨⟨a0.letters, a0.sizes, a0.rows⟩⟩ : Runner), 0))
  else
    some (.inr ((⟨⟨0, [], []⟩⟩ : Runner), v2))
theorem cascade_NewRunner_ok {a0 : Casc} {r : (Runner × Int) ⊕ (Runner × Int)} (h0 : cascade_NewRunner a0 = some r) : L 30 [.agg [.sc (.int .i64 a0.letters), .sl a0.sizes.length (a0.sizes.map fun x0 => .sc (.int .i64 x0)), .sl a0.rows.length (a0.rows.flatMap fun x0 => [.sl x0.pre.length (x0.pre.map fun x1 => .sc (.int .i64 x1)), .sl x0.maps.length (x0.maps.map fun x1 => .sl x1.length (x1.map fun x2 => .sc (.int .i64 x2)))])]] = some (match r with | (.inl r) => (.tup [.agg [.sc (.int .i64 r.1.c.letters), .sl r.1.c.sizes.length (r.1.c.sizes.map fun x0 => .sc (.int .i64 x0)), .sl r.1.c.rows.length (r.1.c.rows.flatMap fun x0 => [.sl x0.pre.length (x0.pre.map fun x1 => .sc (.int .i64 x1)), .sl x0.maps.length (x0.maps.map fun x1 => .sl x1.length (x1.map fun x2 => .sc (.int .i64 x2)))])], .sc (.int .i64 r.2)], [.dead]) | (.inr r) => (.tup [.agg [.sc (.int .i64 r.1.c.letters), .os 1 0 [], .os 2 0 []], .sc (.int .i64 r.2)], [.dead])) := by
  simp only [cascade_NewRunner] at h0
  refine L_run cfn30 fn30 (runF_of bd30 ⟨of_decide_eq_true rfl, of_decide_eq_true rfl⟩ ?_)
  simp only [entryF, entryT, entryO, entryE, isIo]
  refine zq rfl (zr rfl rfl rfl (by simp; rfl) ?_)
  refine thenC_n (zq rfl (zq rfl ?_))
  obtain ⟨v2, f3, h1⟩ := bnd_some h0
  have f3k := cascade_Validate_ok f3
  try simp at f3k
  refine zr rfl rfl rfl (by simp [f3k]; rfl) ?_
  refine thenC_n (zq rfl (zr rfl rfl rfl (by simp; rfl) ?_))
  refine thenC_n ?_
  by_cases c4 : v2 = 0
  · rw [if_pos c4] at h1
    have c4e := eq_true c4
    refine q_ifF rfl (by simp [c4e]) (q_skip rfl (thenC_n (zq rfl (zr rfl rfl rfl (by simp; rfl) ?_))))
    refine thenC_n (q_ret rfl ?_)
    cases h1
    simp
  · rw [if_neg c4] at h1
    have c4e := eq_false c4
    refine q_ifT rfl (by simp [c4e]) (zq rfl (zr rfl rfl rfl (by simp; rfl) ?_))
    refine thenC_n (q_ret rfl (thenC_r ?_))
    cases h1
    simp

-- (semigroup/cascade.Runner).Step$1
def cascade_Runner_Step_1 (a0 : CRow) (a1 : List Int) : Option (Int) :=
  (cascade_compareRows a0.pre a1).bind fun v2 =>
  some v2
theorem cascade_Runner_Step_1_ok {a0 : CRow} {a1 : List Int} {r : Int} (h0 : cascade_Runner_Step_1 a0 a1 = some r) : L 57 [.agg [.sl a0.pre.length (a0.pre.map fun x0 => .sc (.int .i64 x0)), .sl a0.maps.length (a0.maps.map fun x0 => .sl x0.length (x0.map fun x1 => .sc (.int .i64 x1)))], .sl a1.length (a1.map fun x0 => .sc (.int .i64 x0))] = some (.sc (.int .i64 r), [.dead, .dead]) := by
  simp only [cascade_Runner_Step_1] at h0
  refine L_run cfn57 fn57 (runF_of bd57 ⟨of_decide_eq_true rfl, of_decide_eq_true rfl⟩ ?_)
  simp only [entryF, entryT, entryO, entryE, isIo]
  refine zq rfl (zr rfl rfl rfl (by simp; rfl) ?_)
  refine thenC_n (zq rfl ?_)
  obtain ⟨v2, f2, h1⟩ := bnd_some h0
  have f2k := cascade_compareRows_ok f2
  try simp at f2k
  refine zr rfl rfl rfl (by simp [f2k]; rfl) ?_
  refine thenC_n (q_ret rfl ?_)
  cases h1
  simp

-- slices.BinarySearchFunc[[]semigroup/api.CascadeRow,semigroup/api.CascadeRow,[]int]
def slices_BinarySearchFunc_Lapi_CascadeRow_api_CascadeRow_Lint_cascade_Runner_Step_1_b3 (a0 : List CRow) (a1 : List Int) : Int × Int → Option ((Int × Int) ⊕ (Int × Bool))
  | (w13, w14) =>
  if w13 < w14 then
    chk (¬ 1 < 0) <|
    (atI a0 (IntKind.i64.wrap (shrI .u64 (IntKind.u64.wrap (IntKind.i64.wrap (w13 + w14))) 1))).bind fun v17 =>
    (cascade_Runner_Step_1 v17 a1).bind fun v18 =>
    if v18 < 0 then
      nextG (IntKind.i64.wrap ((IntKind.i64.wrap (shrI .u64 (IntKind.u64.wrap (IntKind.i64.wrap (w13 + w14))) 1)) + 1), w14)
    else
      nextG (w13, IntKind.i64.wrap (shrI .u64 (IntKind.u64.wrap (IntKind.i64.wrap (w13 + w14))) 1))
  else
    exitG <|
    if w13 < (a0.length : Int) then
      (atI a0 w13).bind fun v19 =>
      (cascade_Runner_Step_1 v19 a1).bind fun v20 =>
      some (w13, decide (v20 = 0))
    else
      some (w13, false)
def slices_BinarySearchFunc_Lapi_CascadeRow_api_CascadeRow_Lint_cascade_Runner_Step_1_h3 (a0 : List CRow) (a1 : List Int) : Int × Int → Fr
  | (w13, w14) => ⟨49, [(0, .one (.t none (.sl a0.length (a0.flatMap fun x0 => [.sl x0.pre.length (x0.pre.map fun x1 => .sc (.int .i64 x1)), .sl x0.maps.length (x0.maps.map fun x1 => .sl x1.length (x1.map fun x2 => .sc (.int .i64 x2)))])))), (1, .one (.t none (.sl a1.length (a1.map fun x0 => .sc (.int .i64 x0))))), (2, .one (.t none (.sc (.func (.func 57) #[] #[])))), (8, .one (.t none (.sc (.int .i64 (a0.length : Int))))), (9, .one (.t none (.sc (.int .i64 w13)))), (10, .one (.t none (.sc (.int .i64 w14))))], []⟩
def slices_BinarySearchFunc_Lapi_CascadeRow_api_CascadeRow_Lint_cascade_Runner_Step_1 (a0 : List CRow) (a1 : List Int) : Option (Int × Bool) :=
  loopG (slices_BinarySearchFunc_Lapi_CascadeRow_api_CascadeRow_Lint_cascade_Runner_Step_1_b3 a0 a1) LFm (0, (a0.length : Int))
theorem slices_BinarySearchFunc_Lapi_CascadeRow_api_CascadeRow_Lint_cascade_Runner_Step_1_ok {a0 : List CRow} {a1 : List Int} {r : Int × Bool} (h0 : slices_BinarySearchFunc_Lapi_CascadeRow_api_CascadeRow_Lint_cascade_Runner_Step_1 a0 a1 = some r) : L 56 [.sl a0.length (a0.flatMap fun x0 => [.sl x0.pre.length (x0.pre.map fun x1 => .sc (.int .i64 x1)), .sl x0.maps.length (x0.maps.map fun x1 => .sl x1.length (x1.map fun x2 => .sc (.int .i64 x2)))]), .sl a1.length (a1.map fun x0 => .sc (.int .i64 x0)), .sc (.func (.func 57) #[] #[])] = some (.tup [.sc (.int .i64 r.1), .sc (.bool r.2)], [.dead, .dead, .dead]) := by
  simp only [slices_BinarySearchFunc_Lapi_CascadeRow_api_CascadeRow_Lint_cascade_Runner_Step_1] at h0
  refine L_run cfn56 fn56 (runF_of bd56 ⟨of_decide_eq_true rfl, of_decide_eq_true rfl⟩ ?_)
  simp only [entryF, entryT, entryO, entryE, isIo]
  refine zq rfl (zr rfl rfl rfl (by simp; rfl) ?_)
  refine thenC_n (zq rfl (zr rfl rfl rfl (by simp; rfl) ?_))
  refine thenC_n (zq rfl (zr rfl rfl rfl (by simp; rfl) ?_))
  refine thenC_n (zq rfl (zb rfl (q_loopG h0 (slices_BinarySearchFunc_Lapi_CascadeRow_api_CascadeRow_Lint_cascade_Runner_Step_1_h3 a0 a1) rfl rfl (by simp [slices_BinarySearchFunc_Lapi_CascadeRow_api_CascadeRow_Lint_cascade_Runner_Step_1_h3]) fun s o1 h1 hr1 => ?_)))
  obtain ⟨w13, w14⟩ := s
  simp only [slices_BinarySearchFunc_Lapi_CascadeRow_api_CascadeRow_Lint_cascade_Runner_Step_1_b3] at h1
  simp only [slices_BinarySearchFunc_Lapi_CascadeRow_api_CascadeRow_Lint_cascade_Runner_Step_1_h3]
  refine zq rfl (zq rfl (zr rfl rfl rfl (by simp; rfl) ?_))
  refine thenC_n ?_
  by_cases c29 : w13 < w14
  · rw [if_pos c29] at h1
    refine q_ifT rfl (by simp [c29]) (q_skip rfl (thenC_n (zb rfl (zq rfl ?_))))
    obtain ⟨f30, h2⟩ := chk_some h1
    refine zr rfl rfl rfl (by simp [f30]; rfl) ?_
    refine thenC_n (zq rfl ?_)
    obtain ⟨v17, f31, h3⟩ := bnd_some h2
    obtain ⟨f31a, f31b, f31c, f31d, f31e⟩ := atI_some f31
    have f31g := flat_some (g := fun x : CRow => ([.sl x.pre.length (x.pre.map fun x0 => .sc (.int .i64 x0)), .sl x.maps.length (x.maps.map fun x0 => .sl x0.length (x0.map fun x1 => .sc (.int .i64 x1)))] : List T)) (m := 2) (fun _ => rfl) f31d
    have f31h := flat_len (g := fun x : CRow => ([.sl x.pre.length (x.pre.map fun x0 => .sc (.int .i64 x0)), .sl x.maps.length (x.maps.map fun x0 => .sl x0.length (x0.map fun x1 => .sc (.int .i64 x1)))] : List T)) (m := 2) (fun _ => rfl) a0
    have f31k0 := f31g.2.2.1 0 (by decide)
    have f31m0 := f31g.2.2.2 0 _ rfl
    have f31k1 := f31g.2.2.1 1 (by decide)
    have f31m1 := f31g.2.2.2 1 _ rfl
    obtain ⟨f31g, f31i, -⟩ := f31g
    try simp at f31i f31h f31k0 f31m0 f31k1 f31m1
    obtain ⟨v18, f32, h4⟩ := bnd_some h3
    have f32k := cascade_Runner_Step_1_ok f32
    try simp at f32k
    refine zr rfl rfl rfl (by simp [f31a, f31b, f31c, f31d, f31e, f31g, f31i, f31h, f31k0, f31k1, f31m0, f31m1, f32k]; rfl) ?_
    refine thenC_n ?_
    by_cases c33 : v18 < 0
    · rw [if_pos c33] at h4
      refine q_ifT rfl (by simp [c33]) (zr rfl rfl rfl (by simp; rfl) ?_)
      refine blockC_n ?_
      have ho := next_some h4
      refine roundC_n ho ?_
      simp [slices_BinarySearchFunc_Lapi_CascadeRow_api_CascadeRow_Lint_cascade_Runner_Step_1_h3]
    · rw [if_neg c33] at h4
      refine q_ifF rfl (by simp [c33]) (zr rfl rfl rfl (by simp; rfl) ?_)
      refine blockC_n ?_
      have ho := next_some h4
      refine roundC_n ho ?_
      simp [slices_BinarySearchFunc_Lapi_CascadeRow_api_CascadeRow_Lint_cascade_Runner_Step_1_h3]
  · rw [if_neg c29] at h1
    refine q_ifF rfl (by simp [c29]) (q_exit rfl (thenC_x ?_))
    obtain ⟨rr1, h2, ho1⟩ := exit_some h1
    have hs1 := hr1 _ ho1
    subst hs1
    refine roundC_x ho1 (blockC_hit2 rfl (thenC_n (zq rfl ?_)))
    by_cases c34 : w13 < (a0.length : Int)
    · rw [if_pos c34] at h2
      obtain ⟨v19, f35, h3⟩ := bnd_some h2
      obtain ⟨f35a, f35b, f35c, f35d, f35e⟩ := atI_some f35
      have f35g := flat_some (g := fun x : CRow => ([.sl x.pre.length (x.pre.map fun x0 => .sc (.int .i64 x0)), .sl x.maps.length (x.maps.map fun x0 => .sl x0.length (x0.map fun x1 => .sc (.int .i64 x1)))] : List T)) (m := 2) (fun _ => rfl) f35d
      have f35h := flat_len (g := fun x : CRow => ([.sl x.pre.length (x.pre.map fun x0 => .sc (.int .i64 x0)), .sl x.maps.length (x.maps.map fun x0 => .sl x0.length (x0.map fun x1 => .sc (.int .i64 x1)))] : List T)) (m := 2) (fun _ => rfl) a0
      have f35k0 := f35g.2.2.1 0 (by decide)
      have f35m0 := f35g.2.2.2 0 _ rfl
      have f35k1 := f35g.2.2.1 1 (by decide)
      have f35m1 := f35g.2.2.2 1 _ rfl
      obtain ⟨f35g, f35i, -⟩ := f35g
      try simp at f35i f35h f35k0 f35m0 f35k1 f35m1
      obtain ⟨v20, f36, h4⟩ := bnd_some h3
      have f36k := cascade_Runner_Step_1_ok f36
      try simp at f36k
      refine zr rfl rfl rfl (by simp [c34, f35a, f35b, f35c, f35d, f35e, f35g, f35i, f35h, f35k0, f35k1, f35m0, f35m1, f36k]; rfl) ?_
      refine thenC_n (q_ret rfl ?_)
      cases h4
      simp
    · rw [if_neg c34] at h2
      refine zr rfl rfl rfl (by simp [c34]; rfl) ?_
      refine thenC_n (q_ret rfl ?_)
      cases h2
      simp

-- (semigroup/cascade.Runner).Step
def cascade_Runner_Step_b5 (a0 : Runner) (a1 : List Int) (a2 : Int) : Int × List Int → Option ((Int × List Int) ⊕ (List Int × Int))
  | (w33, w34) =>
  if w33 < (a1.length : Int) then
    (atI a1 w33).bind fun v42 =>
    (pieceL a1 0 w33).bind fun v43 =>
    (slices_BinarySearchFunc_Lapi_CascadeRow_api_CascadeRow_Lint_cascade_Runner_Step_1 a0.c.rows v43).bind fun v44 =>
    if v44.2 = true then
      (atI a0.c.rows v44.1).bind fun v45 =>
      (atI v45.maps a2).bind fun v46 =>
      (atI v46 v42).bind fun v47 =>
      (atI w34 w33).bind fun v48 =>
      nextG (IntKind.i64.wrap (w33 + 1), (w34.set w33.toNat v47))
    else
      exitG <|
      some ([], 23)
  else
    exitG <|
    some (w34, 0)
def cascade_Runner_Step_h5 (a0 : Runner) (a1 : List Int) (a2 : Int) : Int × List Int → Fr
  | (w33, w34) => ⟨70, [(1, .one (.t none (.sl a1.length (a1.map fun x0 => .sc (.int .i64 x0))))), (2, .one (.t none (.sc (.int .i64 a2)))), (3, .one (.a 3 [] (0))), (8, .one (.h 8 [])), (33, .one (.t none (.sl a1.length (a1.map fun x0 => .sc (.int .i64 x0))))), (34, .one (.t none (.sc (.int .i64 (a1.length : Int))))), (35, .one (.t none (.sc (.int .i64 w33))))], [(3, .vr [.sc (.int .i64 a0.c.letters), .sl a0.c.sizes.length (a0.c.sizes.map fun x0 => .sc (.int .i64 x0)), .sl a0.c.rows.length (a0.c.rows.flatMap fun x0 => [.sl x0.pre.length (x0.pre.map fun x1 => .sc (.int .i64 x1)), .sl x0.maps.length (x0.maps.map fun x1 => .sl x1.length (x1.map fun x2 => .sc (.int .i64 x2)))])]), (8, .os 1 w34.length (w34.map fun x0 => .sc (.int .i64 x0)))]⟩
def cascade_Runner_Step (a0 : Runner) (a1 : List Int) (a2 : Int) : Option (List Int × Int) :=
  (cascade_isTuple a0.c.sizes a1).bind fun v25 =>
  if v25 = true then
    if a2 < 0 then
      some ([], 1)
    else
      if a0.c.letters ≤ a2 then
        some ([], 1)
      else
        chk (makeOk 8 (a1.length : Int)) <|
        loopG (cascade_Runner_Step_b5 a0 a1 a2) LFm (0, List.replicate (a1.length : Int).toNat (0 : Int))
  else
    some ([], 1)
theorem cascade_Runner_Step_ok {a0 : Runner} {a1 : List Int} {a2 : Int} {r : List Int × Int} (h0 : cascade_Runner_Step a0 a1 a2 = some r) : L 34 [.agg [.sc (.int .i64 a0.c.letters), .sl a0.c.sizes.length (a0.c.sizes.map fun x0 => .sc (.int .i64 x0)), .sl a0.c.rows.length (a0.c.rows.flatMap fun x0 => [.sl x0.pre.length (x0.pre.map fun x1 => .sc (.int .i64 x1)), .sl x0.maps.length (x0.maps.map fun x1 => .sl x1.length (x1.map fun x2 => .sc (.int .i64 x2)))])], .sl a1.length (a1.map fun x0 => .sc (.int .i64 x0)), .sc (.int .i64 a2)] = some (.tup [.os 1 r.1.length (r.1.map fun x0 => .sc (.int .i64 x0)), .sc (.int .i64 r.2)], [.dead, .dead, .dead]) := by
  simp only [cascade_Runner_Step] at h0
  refine L_run cfn34 fn34 (runF_of bd34 ⟨of_decide_eq_true rfl, of_decide_eq_true rfl⟩ ?_)
  simp only [entryF, entryT, entryO, entryE, isIo]
  refine zq rfl (zr rfl rfl rfl (by simp; rfl) ?_)
  refine thenC_n (zq rfl (zq rfl ?_))
  obtain ⟨v25, f33, h1⟩ := bnd_some h0
  have f33k := cascade_isTuple_ok f33
  try simp at f33k
  by_cases c34 : v25 = true
  · rw [if_pos c34] at h1
    by_cases c35 : a2 < 0
    · rw [if_pos c35] at h1
      refine zr rfl rfl rfl (by simp [f33k, c34, c35]; rfl) ?_
      refine thenC_n (q_ifT rfl (by simp) (zq rfl (zr rfl rfl rfl (by simp; rfl) ?_)))
      refine thenC_n (q_ret rfl (thenC_r ?_))
      cases h1
      simp [c34]
    · rw [if_neg c35] at h1
      refine zr rfl rfl rfl (by simp [f33k, c34, c35]; rfl) ?_
      refine thenC_n ?_
      by_cases c36 : a0.c.letters ≤ a2
      · rw [if_pos c36] at h1
        refine q_ifT rfl (by simp [c36]) (zq rfl (zr rfl rfl rfl (by simp; rfl) ?_))
        refine thenC_n (q_ret rfl (thenC_r ?_))
        cases h1
        simp [c34]
      · rw [if_neg c36] at h1
        refine q_ifF rfl (by simp [c36]) (q_skip rfl (thenC_n (zq rfl ?_)))
        obtain ⟨f37, h2⟩ := chk_some h1
        obtain ⟨f37a, f37b, f37c⟩ := f37
        refine zr rfl rfl rfl (by simp [f37a, f37b, f37c]; rfl) ?_
        refine thenC_n (zq rfl (zq rfl (zr rfl rfl rfl (by simp; rfl) ?_)))
        refine thenC_n (zb rfl (q_loopG h2 (cascade_Runner_Step_h5 a0 a1 a2) rfl rfl (by simp [cascade_Runner_Step_h5]) fun s o1 h3 hr1 => ?_))
        obtain ⟨w33, w34⟩ := s
        simp only [cascade_Runner_Step_b5] at h3
        simp only [cascade_Runner_Step_h5]
        refine zq rfl (zr rfl rfl rfl (by simp; rfl) ?_)
        refine thenC_n (zq rfl ?_)
        by_cases c56 : w33 < (a1.length : Int)
        · rw [if_pos c56] at h3
          refine q_ifT rfl (by simp [c56]) (q_skip rfl (thenC_n (zq rfl (zb rfl (zq rfl ?_)))))
          obtain ⟨v42, f57, h4⟩ := bnd_some h3
          obtain ⟨f57a, f57b, f57c, f57d, f57e⟩ := atI_some f57
          refine zr rfl rfl rfl (by simp [f57a, f57b, f57c, f57d, f57e]; rfl) ?_
          refine thenC_n (zq rfl ?_)
          obtain ⟨v43, f58, h5⟩ := bnd_some h4
          obtain ⟨f58a, f58b, f58c, -⟩ := pieceL_some f58
          obtain ⟨f58d, f58g⟩ := piece_hi f58a f58b
          have f58e := pieceL_map (g := fun x : Int => (.sc (.int .i64 x) : T)) f58
          try simp at f58e
          have f58f := pieceL_slm f58
          try simp only [Int.reduceToNat, Int.toNat_natCast, Nat.sub_zero] at f58f
          obtain ⟨v44, f59, h6⟩ := bnd_some h5
          have f59k := slices_BinarySearchFunc_Lapi_CascadeRow_api_CascadeRow_Lint_cascade_Runner_Step_1_ok f59
          try simp at f59k
          refine q_drawW rfl rfl rfl rfl ?_; repeat' (first | (refine q_drawW_op rfl rfl fun Q' hQ => ?_; simp [f58a, f58b, f58c, f58d, f58g, f58e, f58f, f59k]; refine hQ.out _ ?_; clear hQ; clear Q') | (refine q_drawW_guard rfl rfl fun Q1 Q2 h1 h2 => ?_; simp [f58a, f58b, f58c, f58d, f58g, f58e, f58f, f59k, twoB_some]; (first | refine h1.out ?_ | refine h2.out ?_); clear h1 h2; clear Q1 Q2; intro Q' hQ; simp [f58a, f58b, f58c, f58d, f58g, f58e, f58f, f59k]; refine hQ.out _ ?_; clear hQ; clear Q') | (refine q_drawW_nil rfl fun Q' hQ => ?_; simp [f58a, f58b, f58c, f58d, f58g, f58e, f58f, f59k]; refine hQ.out _ ?_; clear hQ; clear Q'))
          refine thenC_n (zq rfl (zq rfl (zr rfl rfl rfl (by simp; rfl) ?_)))
          refine thenC_n ?_
          by_cases c60 : v44.2 = true
          · rw [if_pos c60] at h6
            refine q_ifF rfl (by simp [c60]) (q_skip rfl (thenC_n ?_))
            obtain ⟨v45, f61, h7⟩ := bnd_some h6
            obtain ⟨f61a, f61b, f61c, f61d, f61e⟩ := atI_some f61
            have f61g := flat_some (g := fun x : CRow => ([.sl x.pre.length (x.pre.map fun x0 => .sc (.int .i64 x0)), .sl x.maps.length (x.maps.map fun x0 => .sl x0.length (x0.map fun x1 => .sc (.int .i64 x1)))] : List T)) (m := 2) (fun _ => rfl) f61d
            have f61h := flat_len (g := fun x : CRow => ([.sl x.pre.length (x.pre.map fun x0 => .sc (.int .i64 x0)), .sl x.maps.length (x.maps.map fun x0 => .sl x0.length (x0.map fun x1 => .sc (.int .i64 x1)))] : List T)) (m := 2) (fun _ => rfl) a0.c.rows
            have f61k0 := f61g.2.2.1 0 (by decide)
            have f61m0 := f61g.2.2.2 0 _ rfl
            have f61k1 := f61g.2.2.1 1 (by decide)
            have f61m1 := f61g.2.2.2 1 _ rfl
            obtain ⟨f61g, f61i, -⟩ := f61g
            try simp at f61i f61h f61k0 f61m0 f61k1 f61m1
            obtain ⟨v46, f62, h8⟩ := bnd_some h7
            obtain ⟨f62a, f62b, f62c, f62d, f62e⟩ := atI_some f62
            obtain ⟨v47, f63, h9⟩ := bnd_some h8
            obtain ⟨f63a, f63b, f63c, f63d, f63e⟩ := atI_some f63
            obtain ⟨v48, f64, h10⟩ := bnd_some h9
            obtain ⟨f64a, f64b, f64c, f64d, f64e⟩ := atI_some f64
            refine zr rfl rfl rfl (by simp [f61a, f61b, f61c, f61d, f61e, f61g, f61i, f61h, f61k0, f61k1, f61m0, f61m1, f62a, f62b, f62c, f62d, f62e, f63a, f63b, f63c, f63d, f63e, f64a, f64b, f64c, f64d, f64e]; rfl) ?_
            refine blockC_n (thenC_n (zr rfl rfl rfl (by simp; rfl) ?_))
            have ho := next_some h10
            refine roundC_n ho ?_
            simp [cascade_Runner_Step_h5, c60]
          · rw [if_neg c60] at h6
            refine q_ifT rfl (by simp [c60]) (zq rfl (zr rfl rfl rfl (by simp; rfl) ?_))
            refine thenC_n (q_ret rfl (thenC_r (blockC_r (thenC_r ?_))))
            obtain ⟨rr1, h7, ho1⟩ := exit_some h6
            have hs1 := hr1 _ ho1
            subst hs1
            refine roundC_r ho1 (blockC_r (thenC_r ?_))
            cases h7
            simp [c60]
        · rw [if_neg c56] at h3
          refine q_ifF rfl (by simp [c56]) (q_exit rfl (thenC_x ?_))
          obtain ⟨rr1, h4, ho1⟩ := exit_some h3
          have hs1 := hr1 _ ho1
          subst hs1
          refine roundC_x ho1 (blockC_hit2 rfl (thenC_n (zq rfl (zr rfl rfl rfl (by simp; rfl) ?_))))
          refine thenC_n (q_ret rfl ?_)
          cases h4
          simp
  · rw [if_neg c34] at h1
    refine zr rfl rfl rfl (by simp [f33k, c34]; rfl) ?_
    refine thenC_n (q_ifT rfl (by simp) (zq rfl (zr rfl rfl rfl (by simp; rfl) ?_)))
    refine thenC_n (q_ret rfl (thenC_r ?_))
    cases h1
    simp [c34]

-- semigroup/semigroupref26.step
def ref26_step_b3 (a0 : Casc) (a1 : List Int) (a2 : Int) : Int × List Int → Option ((Int × List Int) ⊕ (List Int × Int))
  | (w27, w28) =>
  if w27 < (a1.length : Int) then
    (pieceL a1 0 w27).bind fun v35 =>
    (ref26_Row a0 v35).bind fun v36 =>
    if v36 = (-1) then
      exitG <|
      some ([], 23)
    else
      (atI a0.rows v36).bind fun v37 =>
      (atI v37.maps a2).bind fun v38 =>
      (atI a1 w27).bind fun v39 =>
      (atI v38 v39).bind fun v40 =>
      chk (capOk 8 (w28.length + 1)) <|
      nextG (IntKind.i64.wrap (w27 + 1), w28 ++ [v40])
  else
    exitG <|
    some (w28, 0)
def ref26_step_h3 (a0 : Casc) (a1 : List Int) (a2 : Int) : Int × List Int → Fr
  | (w27, w28) => ⟨44, [(1, .one (.t none (.sl a1.length (a1.map fun x0 => .sc (.int .i64 x0))))), (2, .one (.t none (.sc (.int .i64 a2)))), (3, .one (.a 3 [] (0))), (8, .one (.h 8 [])), (13, .one (.t none (.sc (.int .i64 (a1.length : Int))))), (14, .one (.t none (.sc (.int .i64 w27))))], [(3, .vr [.sc (.int .i64 a0.letters), .sl a0.sizes.length (a0.sizes.map fun x0 => .sc (.int .i64 x0)), .sl a0.rows.length (a0.rows.flatMap fun x0 => [.sl x0.pre.length (x0.pre.map fun x1 => .sc (.int .i64 x1)), .sl x0.maps.length (x0.maps.map fun x1 => .sl x1.length (x1.map fun x2 => .sc (.int .i64 x2)))])]), (8, .os 1 w28.length (w28.map fun x0 => .sc (.int .i64 x0)))]⟩
def ref26_step (a0 : Casc) (a1 : List Int) (a2 : Int) : Option (List Int × Int) :=
  loopG (ref26_step_b3 a0 a1 a2) LFm (0, [])
theorem ref26_step_ok {a0 : Casc} {a1 : List Int} {a2 : Int} {r : List Int × Int} (h0 : ref26_step a0 a1 a2 = some r) : L 40 [.agg [.sc (.int .i64 a0.letters), .sl a0.sizes.length (a0.sizes.map fun x0 => .sc (.int .i64 x0)), .sl a0.rows.length (a0.rows.flatMap fun x0 => [.sl x0.pre.length (x0.pre.map fun x1 => .sc (.int .i64 x1)), .sl x0.maps.length (x0.maps.map fun x1 => .sl x1.length (x1.map fun x2 => .sc (.int .i64 x2)))])], .sl a1.length (a1.map fun x0 => .sc (.int .i64 x0)), .sc (.int .i64 a2)] = some (.tup [.os 1 r.1.length (r.1.map fun x0 => .sc (.int .i64 x0)), .sc (.int .i64 r.2)], [.dead, .dead, .dead]) := by
  simp only [ref26_step] at h0
  refine L_run cfn40 fn40 (runF_of bd40 ⟨of_decide_eq_true rfl, of_decide_eq_true rfl⟩ ?_)
  simp only [entryF, entryT, entryO, entryE, isIo]
  refine zq rfl (zr rfl rfl rfl (by simp; rfl) ?_)
  refine thenC_n (zq rfl (zr rfl rfl rfl (by simp; rfl) ?_))
  refine thenC_n (zq rfl (zq rfl (zr rfl rfl rfl (by simp; rfl) ?_)))
  refine thenC_n (zb rfl (q_loopG h0 (ref26_step_h3 a0 a1 a2) rfl rfl (by simp [ref26_step_h3]) fun s o1 h1 hr1 => ?_))
  obtain ⟨w27, w28⟩ := s
  simp only [ref26_step_b3] at h1
  simp only [ref26_step_h3]
  refine zq rfl (zr rfl rfl rfl (by simp; rfl) ?_)
  refine thenC_n (zq rfl ?_)
  by_cases c44 : w27 < (a1.length : Int)
  · rw [if_pos c44] at h1
    refine q_ifT rfl (by simp [c44]) (q_skip rfl (thenC_n (zq rfl (zb rfl (zq rfl (zr rfl rfl rfl (by simp; rfl) ?_))))))
    refine thenC_n (zq rfl ?_)
    obtain ⟨v35, f45, h2⟩ := bnd_some h1
    obtain ⟨f45a, f45b, f45c, -⟩ := pieceL_some f45
    obtain ⟨f45d, f45g⟩ := piece_hi f45a f45b
    have f45e := pieceL_map (g := fun x : Int => (.sc (.int .i64 x) : T)) f45
    try simp at f45e
    have f45f := pieceL_slm f45
    try simp only [Int.reduceToNat, Int.toNat_natCast, Nat.sub_zero] at f45f
    obtain ⟨v36, f46, h3⟩ := bnd_some h2
    have f46k := ref26_Row_ok f46
    try simp at f46k
    refine q_drawW rfl rfl rfl rfl ?_; repeat' (first | (refine q_drawW_op rfl rfl fun Q' hQ => ?_; simp [f45a, f45b, f45c, f45d, f45g, f45e, f45f, f46k]; refine hQ.out _ ?_; clear hQ; clear Q') | (refine q_drawW_guard rfl rfl fun Q1 Q2 h1 h2 => ?_; simp [f45a, f45b, f45c, f45d, f45g, f45e, f45f, f46k, twoB_some]; (first | refine h1.out ?_ | refine h2.out ?_); clear h1 h2; clear Q1 Q2; intro Q' hQ; simp [f45a, f45b, f45c, f45d, f45g, f45e, f45f, f46k]; refine hQ.out _ ?_; clear hQ; clear Q') | (refine q_drawW_nil rfl fun Q' hQ => ?_; simp [f45a, f45b, f45c, f45d, f45g, f45e, f45f, f46k]; refine hQ.out _ ?_; clear hQ; clear Q'))
    refine thenC_n (zq rfl (zq rfl (zr rfl rfl rfl (by simp; rfl) ?_)))
    refine thenC_n ?_
    by_cases c47 : v36 = (-1)
    · rw [if_pos c47] at h3
      have c47e := eq_true c47
      refine q_ifT rfl (by simp [c47e]) (zq rfl (zr rfl rfl rfl (by simp; rfl) ?_))
      refine thenC_n (q_ret rfl (thenC_r (blockC_r (thenC_r ?_))))
      obtain ⟨rr1, h4, ho1⟩ := exit_some h3
      have hs1 := hr1 _ ho1
      subst hs1
      refine roundC_r ho1 (blockC_r (thenC_r ?_))
      cases h4
      simp
    · rw [if_neg c47] at h3
      have c47e := eq_false c47
      refine q_ifF rfl (by simp [c47e]) (q_skip rfl (thenC_n ?_))
      obtain ⟨v37, f48, h4⟩ := bnd_some h3
      obtain ⟨f48a, f48b, f48c, f48d, f48e⟩ := atI_some f48
      have f48g := flat_some (g := fun x : CRow => ([.sl x.pre.length (x.pre.map fun x0 => .sc (.int .i64 x0)), .sl x.maps.length (x.maps.map fun x0 => .sl x0.length (x0.map fun x1 => .sc (.int .i64 x1)))] : List T)) (m := 2) (fun _ => rfl) f48d
      have f48h := flat_len (g := fun x : CRow => ([.sl x.pre.length (x.pre.map fun x0 => .sc (.int .i64 x0)), .sl x.maps.length (x.maps.map fun x0 => .sl x0.length (x0.map fun x1 => .sc (.int .i64 x1)))] : List T)) (m := 2) (fun _ => rfl) a0.rows
      have f48k0 := f48g.2.2.1 0 (by decide)
      have f48m0 := f48g.2.2.2 0 _ rfl
      have f48k1 := f48g.2.2.1 1 (by decide)
      have f48m1 := f48g.2.2.2 1 _ rfl
      obtain ⟨f48g, f48i, -⟩ := f48g
      try simp at f48i f48h f48k0 f48m0 f48k1 f48m1
      obtain ⟨v38, f49, h5⟩ := bnd_some h4
      obtain ⟨f49a, f49b, f49c, f49d, f49e⟩ := atI_some f49
      obtain ⟨v39, f50, h6⟩ := bnd_some h5
      obtain ⟨f50a, f50b, f50c, f50d, f50e⟩ := atI_some f50
      obtain ⟨v40, f51, h7⟩ := bnd_some h6
      obtain ⟨f51a, f51b, f51c, f51d, f51e⟩ := atI_some f51
      obtain ⟨f52, h8⟩ := chk_some h7
      obtain ⟨f52a, f52b⟩ := f52
      refine q_drawW rfl rfl rfl rfl ?_; repeat' (first | (refine q_drawW_op rfl rfl fun Q' hQ => ?_; simp [f48a, f48b, f48c, f48d, f48e, f48g, f48i, f48h, f48k0, f48k1, f48m0, f48m1, f49a, f49b, f49c, f49d, f49e, f50a, f50b, f50c, f50d, f50e, f51a, f51b, f51c, f51d, f51e, f52a, f52b]; refine hQ.out _ ?_; clear hQ; clear Q') | (refine q_drawW_guard rfl rfl fun Q1 Q2 h1 h2 => ?_; simp [f48a, f48b, f48c, f48d, f48e, f48g, f48i, f48h, f48k0, f48k1, f48m0, f48m1, f49a, f49b, f49c, f49d, f49e, f50a, f50b, f50c, f50d, f50e, f51a, f51b, f51c, f51d, f51e, f52a, f52b, twoB_some]; (first | refine h1.out ?_ | refine h2.out ?_); clear h1 h2; clear Q1 Q2; intro Q' hQ; simp [f48a, f48b, f48c, f48d, f48e, f48g, f48i, f48h, f48k0, f48k1, f48m0, f48m1, f49a, f49b, f49c, f49d, f49e, f50a, f50b, f50c, f50d, f50e, f51a, f51b, f51c, f51d, f51e, f52a, f52b]; refine hQ.out _ ?_; clear hQ; clear Q') | (refine q_drawW_nil rfl fun Q' hQ => ?_; simp [f48a, f48b, f48c, f48d, f48e, f48g, f48i, f48h, f48k0, f48k1, f48m0, f48m1, f49a, f49b, f49c, f49d, f49e, f50a, f50b, f50c, f50d, f50e, f51a, f51b, f51c, f51d, f51e, f52a, f52b]; refine hQ.out _ ?_; clear hQ; clear Q'))
      refine blockC_n (thenC_n (zr rfl rfl rfl (by simp; rfl) ?_))
      have ho := next_some h8
      refine roundC_n ho ?_
      simp [ref26_step_h3]
  · rw [if_neg c44] at h1
    refine q_ifF rfl (by simp [c44]) (q_exit rfl (thenC_x ?_))
    obtain ⟨rr1, h2, ho1⟩ := exit_some h1
    have hs1 := hr1 _ ho1
    subst hs1
    refine roundC_x ho1 (blockC_hit2 rfl (thenC_n (zq rfl (zr rfl rfl rfl (by simp; rfl) ?_))))
    refine thenC_n (q_ret rfl ?_)
    cases h2
    simp

-- semigroup/semigrouplaw26.tuple
def law26_tuple_b3 (a1 : Casc) : Int × List Int × Int × List Int → Option ((Int × List Int × Int × List Int) ⊕ (List Int × Tape))
  | (w13, w14, w15, w16) =>
  if w13 < (a1.sizes.length : Int) then
    (atI a1.sizes w13).bind fun v19 =>
    (made_Tape_Next (⟨w14, w15⟩ : Tape) v19).bind fun v20 =>
    chk (capOk 8 (w16.length + 1)) <|
    nextG (IntKind.i64.wrap (w13 + 1), v20.2.l, v20.2.at_, w16 ++ [v20.1])
  else
    exitG <|
    some (w16, (⟨w14, w15⟩ : Tape))
def law26_tuple_h3 (a1 : Casc) : Int × List Int × Int × List Int → Fr
  | (w13, w14, w15, w16) => ⟨24, [(0, .one (.a 0 [] (0))), (5, .one (.h 5 [])), (10, .one (.t none (.sl a1.sizes.length (a1.sizes.map fun x0 => .sc (.int .i64 x0))))), (11, .one (.t none (.sc (.int .i64 (a1.sizes.length : Int))))), (12, .one (.t none (.sc (.int .i64 w13)))), (1024, .one (.a 0 [] (0)))], [(0, .vr [.sl w14.length (w14.map fun x0 => .sc (.int .i64 x0)), .sc (.int .i64 w15)]), (5, .os 1 w16.length (w16.map fun x0 => .sc (.int .i64 x0)))]⟩
def law26_tuple (a0 : Tape) (a1 : Casc) : Option (List Int × Tape) :=
  loopG (law26_tuple_b3 a1) LFm (0, a0.l, a0.at_, [])
theorem law26_tuple_ok {a0 : Tape} {a1 : Casc} {r : List Int × Tape} (h0 : law26_tuple a0 a1 = some r) : L 13 [.vr [.sl a0.l.length (a0.l.map fun x0 => .sc (.int .i64 x0)), .sc (.int .i64 a0.at_)], .agg [.sc (.int .i64 a1.letters), .sl a1.sizes.length (a1.sizes.map fun x0 => .sc (.int .i64 x0)), .sl a1.rows.length (a1.rows.flatMap fun x0 => [.sl x0.pre.length (x0.pre.map fun x1 => .sc (.int .i64 x1)), .sl x0.maps.length (x0.maps.map fun x1 => .sl x1.length (x1.map fun x2 => .sc (.int .i64 x2)))])]] = some (.os 1 r.1.length (r.1.map fun x0 => .sc (.int .i64 x0)), [.vr [.sl r.2.l.length (r.2.l.map fun x0 => .sc (.int .i64 x0)), .sc (.int .i64 r.2.at_)], .dead]) := by
  simp only [law26_tuple] at h0
  refine L_run cfn13 fn13 (runF_of bd13 ⟨of_decide_eq_true rfl, of_decide_eq_true rfl⟩ ?_)
  simp only [entryF, entryT, entryO, entryE, isIo]
  refine zq rfl (zr rfl rfl rfl (by simp; rfl) ?_)
  refine thenC_n (zq rfl (zr rfl rfl rfl (by simp; rfl) ?_))
  refine thenC_n (zq rfl (zq rfl (zr rfl rfl rfl (by simp; rfl) ?_)))
  refine thenC_n (zb rfl (q_loopG h0 (law26_tuple_h3 a1) rfl rfl (by simp [law26_tuple_h3]) fun s o1 h1 hr1 => ?_))
  obtain ⟨w13, w14, w15, w16⟩ := s
  simp only [law26_tuple_b3] at h1
  simp only [law26_tuple_h3]
  refine zq rfl (zr rfl rfl rfl (by simp; rfl) ?_)
  refine thenC_n (zq rfl ?_)
  by_cases c19 : w13 < (a1.sizes.length : Int)
  · rw [if_pos c19] at h1
    refine q_ifT rfl (by simp [c19]) (q_skip rfl (thenC_n (zq rfl (zb rfl (zq rfl ?_)))))
    obtain ⟨v19, f20, h2⟩ := bnd_some h1
    obtain ⟨f20a, f20b, f20c, f20d, f20e⟩ := atI_some f20
    refine zr rfl rfl rfl (by simp [f20a, f20b, f20c, f20d, f20e]; rfl) ?_
    refine thenC_n ?_
    obtain ⟨v20, f21, h3⟩ := bnd_some h2
    have f21k := made_Tape_Next_ok f21
    try simp at f21k
    obtain ⟨f22, h4⟩ := chk_some h3
    obtain ⟨f22a, f22b⟩ := f22
    refine zr rfl rfl rfl (by simp [f21k, f22a, f22b]; rfl) ?_
    refine blockC_n (thenC_n (zr rfl rfl rfl (by simp; rfl) ?_))
    have ho := next_some h4
    refine roundC_n ho ?_
    simp [law26_tuple_h3]
  · rw [if_neg c19] at h1
    refine q_ifF rfl (by simp [c19]) (q_exit rfl (thenC_x ?_))
    obtain ⟨rr1, h2, ho1⟩ := exit_some h1
    have hs1 := hr1 _ ho1
    subst hs1
    refine roundC_x ho1 (blockC_hit2 rfl (thenC_n (zq rfl (zr rfl rfl rfl (by simp; rfl) ?_))))
    refine thenC_n (q_ret rfl ?_)
    cases h2
    simp

-- semigroup/semigrouplaw26.build
def law26_build_b31 (v600 : Int × Tape) (w638 : Int) (w642 : List CRow) (v680 : List Int) (v681 : Int × Tape) : Int × List (List Int) → Option ((Int × List (List Int)) ⊕ ((Int × List Int × Int × List CRow × List (List Int)) ⊕ ((Int × List Int × Int × List Int × List CRow × List (List Int)) ⊕ (Casc × Tape))))
  | (w682, w683) =>
  if w682 < (IntKind.i64.wrap (1 + v600.1)) then
    chk (capOk 8 (v680.length)) <|
    chk (capOk 8 (v680.length + 1)) <|
    chk (capOk 24 (w683.length + 1)) <|
    nextG (IntKind.i64.wrap (w682 + 1), w683 ++ [v680 ++ [w682]])
  else
    exitG <|
    nextG (IntKind.i64.wrap (w638 + 1), v681.2.l, v681.2.at_, w642, w683)
def law26_build_h31 (v359 : Int × Tape) (w477 : Int) (w480 : List Int) (w482 : List (List Int)) (v600 : Int × Tape) (w638 : Int) (w642 : List CRow) (v680 : List Int) (v681 : Int × Tape) : Int × List (List Int) → Fr
  | (w682, w683) => ⟨117, [(0, .one (.a 0 [] (0))), (2, .one (.a 2 [] (0))), (3, .one (.a 3 [] (0))), (5, .one (.t none (.sc (.int .i64 w477)))), (6, .one (.t none (.sc (.int .i64 (IntKind.i64.wrap (1 + v600.1)))))), (7, .one (.h 7 [])), (9, .one (.t none (.sl v680.length (v680.map fun x0 => .sc (.int .i64 x0))))), (16, .one (.t none (.sc (.int .i64 w682)))), (38, .one (.t none (.sl w482.length (w482.map fun x0 => .sl x0.length (x0.map fun x1 => .sc (.int .i64 x1)))))), (39, .one (.t none (.sc (.int .i64 (w482.length : Int))))), (40, .one (.t none (.sc (.int .i64 w638)))), (1117, .one (.a 0 [] (0)))], [(0, .vr [.sl v681.2.l.length (v681.2.l.map fun x0 => .sc (.int .i64 x0)), .sc (.int .i64 v681.2.at_)]), (2, .vr [.sc (.int .i64 0), .os 1 0 [], .os 2 0 []]), (3, .vr [.sc (.int .i64 (IntKind.i64.wrap (1 + v359.1))), .os 1 (w480 ++ [IntKind.i64.wrap (1 + v600.1)]).length ((w480 ++ [IntKind.i64.wrap (1 + v600.1)]).map fun x0 => .sc (.int .i64 x0)), .os 2 w642.length (w642.flatMap fun x0 => [.sl x0.pre.length (x0.pre.map fun x1 => .sc (.int .i64 x1)), .sl x0.maps.length (x0.maps.map fun x1 => .sl x1.length (x1.map fun x2 => .sc (.int .i64 x2)))])]), (7, .os 1 w683.length (w683.map fun x0 => .os 1 x0.length (x0.map fun x1 => .sc (.int .i64 x1))))]⟩
def law26_build_b20 (v600 : Int × Tape) (w693 : Int) (w696 : List (List Int)) (v706 : Int × Tape) (v707 : Int × Tape) : Int × List Int × Int × List Int → Option ((Int × List Int × Int × List Int) ⊕ ((Int × List Int × Int × List (List Int)) ⊕ ((Int × List Int × Int × List CRow × List (List Int)) ⊕ ((Int × List Int × Int × List Int × List CRow × List (List Int)) ⊕ (Casc × Tape)))))
  | (w709, w711, w712, w710) =>
  if w709 < (IntKind.i64.wrap (1 + v600.1)) then
    if v706.1 = 0 then
      chk (¬ (IntKind.i64.wrap (1 + v600.1)) = 0) <|
      chk (capOk 8 (w710.length + 1)) <|
      nextG (IntKind.i64.wrap (w709 + 1), w711, w712, w710 ++ [Int.tmod (IntKind.i64.wrap (w709 + v707.1)) (IntKind.i64.wrap (1 + v600.1))])
    else
      if v706.1 = 1 then
        chk (capOk 8 (w710.length + 1)) <|
        nextG (IntKind.i64.wrap (w709 + 1), w711, w712, w710 ++ [v707.1])
      else
        (made_Tape_Next (⟨w711, w712⟩ : Tape) (IntKind.i64.wrap (1 + v600.1))).bind fun v714 =>
        chk (capOk 8 (w710.length + 1)) <|
        nextG (IntKind.i64.wrap (w709 + 1), v714.2.l, v714.2.at_, w710 ++ [v714.1])
  else
    exitG <|
    chk (capOk 24 (w696.length + 1)) <|
    nextG (IntKind.i64.wrap (w693 + 1), w711, w712, w696 ++ [w710])
def law26_build_h20 (v359 : Int × Tape) (w477 : Int) (w480 : List Int) (w482 : List (List Int)) (v600 : Int × Tape) (w638 : Int) (w641 : List (List Int)) (w642 : List CRow) (v680 : List Int) (w693 : Int) (w696 : List (List Int)) (v706 : Int × Tape) (v707 : Int × Tape) : Int × List Int × Int × List Int → Fr
  | (w709, w711, w712, w710) => ⟨117, [(0, .one (.a 0 [] (0))), (2, .one (.a 2 [] (0))), (3, .one (.a 3 [] (0))), (5, .one (.t none (.sc (.int .i64 w477)))), (6, .one (.t none (.sc (.int .i64 (IntKind.i64.wrap (1 + v600.1)))))), (7, .one (.h 7 [])), (9, .one (.t none (.sl v680.length (v680.map fun x0 => .sc (.int .i64 x0))))), (10, .one (.a 10 [] (0))), (11, .one (.t none (.sc (.int .i64 w693)))), (12, .one (.h 12 [])), (13, .one (.t none (.sc (.int .i64 v706.1)))), (14, .one (.t none (.sc (.int .i64 v707.1)))), (15, .one (.t none (.sc (.int .i64 w709)))), (38, .one (.t none (.sl w482.length (w482.map fun x0 => .sl x0.length (x0.map fun x1 => .sc (.int .i64 x1)))))), (39, .one (.t none (.sc (.int .i64 (w482.length : Int))))), (40, .one (.t none (.sc (.int .i64 w638)))), (1117, .one (.a 0 [] (0)))], [(0, .vr [.sl w711.length (w711.map fun x0 => .sc (.int .i64 x0)), .sc (.int .i64 w712)]), (2, .vr [.sc (.int .i64 0), .os 1 0 [], .os 2 0 []]), (3, .vr [.sc (.int .i64 (IntKind.i64.wrap (1 + v359.1))), .os 1 (w480 ++ [IntKind.i64.wrap (1 + v600.1)]).length ((w480 ++ [IntKind.i64.wrap (1 + v600.1)]).map fun x0 => .sc (.int .i64 x0)), .os 2 w642.length (w642.flatMap fun x0 => [.sl x0.pre.length (x0.pre.map fun x1 => .sc (.int .i64 x1)), .sl x0.maps.length (x0.maps.map fun x1 => .sl x1.length (x1.map fun x2 => .sc (.int .i64 x2)))])]), (7, .os 1 w641.length (w641.map fun x0 => .os 1 x0.length (x0.map fun x1 => .sc (.int .i64 x1)))), (10, .vr [.sl v680.length (v680.map fun x0 => .sc (.int .i64 x0)), .os 1 w696.length (w696.map fun x0 => .os 1 x0.length (x0.map fun x1 => .sc (.int .i64 x1)))]), (12, .os 1 w710.length (w710.map fun x0 => .sc (.int .i64 x0)))]⟩
def law26_build_b31a (v600 : Int × Tape) (w638 : Int) (w642 : List CRow) (v680 : List Int) (w694 : List Int) (w695 : Int) (w696 : List (List Int)) : Int × List (List Int) → Option ((Int × List (List Int)) ⊕ ((Int × List Int × Int × List CRow × List (List Int)) ⊕ ((Int × List Int × Int × List Int × List CRow × List (List Int)) ⊕ (Casc × Tape))))
  | (w715, w716) =>
  if w715 < (IntKind.i64.wrap (1 + v600.1)) then
    chk (capOk 8 (v680.length)) <|
    chk (capOk 8 (v680.length + 1)) <|
    chk (capOk 24 (w716.length + 1)) <|
    nextG (IntKind.i64.wrap (w715 + 1), w716 ++ [v680 ++ [w715]])
  else
    exitG <|
    nextG (IntKind.i64.wrap (w638 + 1), w694, w695, w642 ++ [(⟨v680, w696⟩ : CRow)], w716)
def law26_build_h31a (v359 : Int × Tape) (w477 : Int) (w480 : List Int) (w482 : List (List Int)) (v600 : Int × Tape) (w638 : Int) (w642 : List CRow) (v680 : List Int) (w694 : List Int) (w695 : Int) (w696 : List (List Int)) : Int × List (List Int) → Fr
  | (w715, w716) => ⟨117, [(0, .one (.a 0 [] (0))), (2, .one (.a 2 [] (0))), (3, .one (.a 3 [] (0))), (5, .one (.t none (.sc (.int .i64 w477)))), (6, .one (.t none (.sc (.int .i64 (IntKind.i64.wrap (1 + v600.1)))))), (7, .one (.h 7 [])), (9, .one (.t none (.sl v680.length (v680.map fun x0 => .sc (.int .i64 x0))))), (16, .one (.t none (.sc (.int .i64 w715)))), (38, .one (.t none (.sl w482.length (w482.map fun x0 => .sl x0.length (x0.map fun x1 => .sc (.int .i64 x1)))))), (39, .one (.t none (.sc (.int .i64 (w482.length : Int))))), (40, .one (.t none (.sc (.int .i64 w638)))), (1117, .one (.a 0 [] (0)))], [(0, .vr [.sl w694.length (w694.map fun x0 => .sc (.int .i64 x0)), .sc (.int .i64 w695)]), (2, .vr [.sc (.int .i64 0), .os 1 0 [], .os 2 0 []]), (3, .vr [.sc (.int .i64 (IntKind.i64.wrap (1 + v359.1))), .os 1 (w480 ++ [IntKind.i64.wrap (1 + v600.1)]).length ((w480 ++ [IntKind.i64.wrap (1 + v600.1)]).map fun x0 => .sc (.int .i64 x0)), .os 2 (w642 ++ [(⟨v680, w696⟩ : CRow)]).length ((w642 ++ [(⟨v680, w696⟩ : CRow)]).flatMap fun x0 => [.sl x0.pre.length (x0.pre.map fun x1 => .sc (.int .i64 x1)), .sl x0.maps.length (x0.maps.map fun x1 => .sl x1.length (x1.map fun x2 => .sc (.int .i64 x2)))])]), (7, .os 1 w716.length (w716.map fun x0 => .os 1 x0.length (x0.map fun x1 => .sc (.int .i64 x1))))]⟩
def law26_build_b15 (v359 : Int × Tape) (v600 : Int × Tape) (w638 : Int) (w641 : List (List Int)) (w642 : List CRow) (v680 : List Int) : Int × List Int × Int × List (List Int) → Option ((Int × List Int × Int × List (List Int)) ⊕ ((Int × List Int × Int × List CRow × List (List Int)) ⊕ ((Int × List Int × Int × List Int × List CRow × List (List Int)) ⊕ (Casc × Tape))))
  | (w693, w694, w695, w696) =>
  if w693 < (IntKind.i64.wrap (1 + v359.1)) then
    (made_Tape_Next (⟨w694, w695⟩ : Tape) 3).bind fun v706 =>
    (made_Tape_Next v706.2 (IntKind.i64.wrap (1 + v600.1))).bind fun v707 =>
    loopG (law26_build_b20 v600 w693 w696 v706 v707) LFm (0, v707.2.l, v707.2.at_, [])
  else
    exitG <|
    chk (capOk 48 (w642.length + 1)) <|
    loopG (law26_build_b31a v600 w638 w642 v680 w694 w695 w696) LFm (0, w641)
def law26_build_h15 (v359 : Int × Tape) (w477 : Int) (w480 : List Int) (w482 : List (List Int)) (v600 : Int × Tape) (w638 : Int) (w641 : List (List Int)) (w642 : List CRow) (v680 : List Int) : Int × List Int × Int × List (List Int) → Fr
  | (w693, w694, w695, w696) => ⟨117, [(0, .one (.a 0 [] (0))), (2, .one (.a 2 [] (0))), (3, .one (.a 3 [] (0))), (5, .one (.t none (.sc (.int .i64 w477)))), (6, .one (.t none (.sc (.int .i64 (IntKind.i64.wrap (1 + v600.1)))))), (7, .one (.h 7 [])), (9, .one (.t none (.sl v680.length (v680.map fun x0 => .sc (.int .i64 x0))))), (10, .one (.a 10 [] (0))), (11, .one (.t none (.sc (.int .i64 w693)))), (38, .one (.t none (.sl w482.length (w482.map fun x0 => .sl x0.length (x0.map fun x1 => .sc (.int .i64 x1)))))), (39, .one (.t none (.sc (.int .i64 (w482.length : Int))))), (40, .one (.t none (.sc (.int .i64 w638)))), (1117, .one (.a 0 [] (0)))], [(0, .vr [.sl w694.length (w694.map fun x0 => .sc (.int .i64 x0)), .sc (.int .i64 w695)]), (2, .vr [.sc (.int .i64 0), .os 1 0 [], .os 2 0 []]), (3, .vr [.sc (.int .i64 (IntKind.i64.wrap (1 + v359.1))), .os 1 (w480 ++ [IntKind.i64.wrap (1 + v600.1)]).length ((w480 ++ [IntKind.i64.wrap (1 + v600.1)]).map fun x0 => .sc (.int .i64 x0)), .os 2 w642.length (w642.flatMap fun x0 => [.sl x0.pre.length (x0.pre.map fun x1 => .sc (.int .i64 x1)), .sl x0.maps.length (x0.maps.map fun x1 => .sl x1.length (x1.map fun x2 => .sc (.int .i64 x2)))])]), (7, .os 1 w641.length (w641.map fun x0 => .os 1 x0.length (x0.map fun x1 => .sc (.int .i64 x1)))), (10, .vr [.sl v680.length (v680.map fun x0 => .sc (.int .i64 x0)), .os 1 w696.length (w696.map fun x0 => .os 1 x0.length (x0.map fun x1 => .sc (.int .i64 x1)))])]⟩
def law26_build_b10 (v359 : Int × Tape) (w477 : Int) (w480 : List Int) (w482 : List (List Int)) (v600 : Int × Tape) : Int × List Int × Int × List CRow × List (List Int) → Option ((Int × List Int × Int × List CRow × List (List Int)) ⊕ ((Int × List Int × Int × List Int × List CRow × List (List Int)) ⊕ (Casc × Tape)))
  | (w638, w639, w640, w642, w641) =>
  if w638 < (w482.length : Int) then
    (atI w482 w638).bind fun v680 =>
    (made_Tape_Next (⟨w639, w640⟩ : Tape) 12).bind fun v681 =>
    if v681.1 = 11 then
      loopG (law26_build_b31 v600 w638 w642 v680 v681) LFm (0, w641)
    else
      loopG (law26_build_b15 v359 v600 w638 w641 w642 v680) LFm (0, v681.2.l, v681.2.at_, [])
  else
    exitG <|
    nextG (IntKind.i64.wrap (w477 - 1), w639, w640, w480 ++ [IntKind.i64.wrap (1 + v600.1)], w642, w641)
def law26_build_h10 (v359 : Int × Tape) (w477 : Int) (w480 : List Int) (w482 : List (List Int)) (v600 : Int × Tape) : Int × List Int × Int × List CRow × List (List Int) → Fr
  | (w638, w639, w640, w642, w641) => ⟨117, [(0, .one (.a 0 [] (0))), (2, .one (.a 2 [] (0))), (3, .one (.a 3 [] (0))), (5, .one (.t none (.sc (.int .i64 w477)))), (6, .one (.t none (.sc (.int .i64 (IntKind.i64.wrap (1 + v600.1)))))), (7, .one (.h 7 [])), (38, .one (.t none (.sl w482.length (w482.map fun x0 => .sl x0.length (x0.map fun x1 => .sc (.int .i64 x1)))))), (39, .one (.t none (.sc (.int .i64 (w482.length : Int))))), (40, .one (.t none (.sc (.int .i64 w638)))), (1117, .one (.a 0 [] (0)))], [(0, .vr [.sl w639.length (w639.map fun x0 => .sc (.int .i64 x0)), .sc (.int .i64 w640)]), (2, .vr [.sc (.int .i64 0), .os 1 0 [], .os 2 0 []]), (3, .vr [.sc (.int .i64 (IntKind.i64.wrap (1 + v359.1))), .os 1 (w480 ++ [IntKind.i64.wrap (1 + v600.1)]).length ((w480 ++ [IntKind.i64.wrap (1 + v600.1)]).map fun x0 => .sc (.int .i64 x0)), .os 2 w642.length (w642.flatMap fun x0 => [.sl x0.pre.length (x0.pre.map fun x1 => .sc (.int .i64 x1)), .sl x0.maps.length (x0.maps.map fun x1 => .sl x1.length (x1.map fun x2 => .sc (.int .i64 x2)))])]), (7, .os 1 w641.length (w641.map fun x0 => .os 1 x0.length (x0.map fun x1 => .sc (.int .i64 x1))))]⟩
def law26_build_b4 (v359 : Int × Tape) : Int × List Int × Int × List Int × List CRow × List (List Int) → Option ((Int × List Int × Int × List Int × List CRow × List (List Int)) ⊕ (Casc × Tape))
  | (w477, w478, w479, w480, w481, w482) =>
  if 0 < w477 then
    (made_Tape_Next (⟨w478, w479⟩ : Tape) 3).bind fun v600 =>
    chk (capOk 8 (w480.length + 1)) <|
    loopG (law26_build_b10 v359 w477 w480 w482 v600) LFm (0, v600.2.l, v600.2.at_, w481, [])
  else
    exitG <|
    some ((⟨IntKind.i64.wrap (1 + v359.1), w480, w481⟩ : Casc), (⟨w478, w479⟩ : Tape))
def law26_build_h4 (v359 : Int × Tape) : Int × List Int × Int × List Int × List CRow × List (List Int) → Fr
  | (w477, w478, w479, w480, w481, w482) => ⟨117, [(0, .one (.a 0 [] (0))), (2, .one (.a 2 [] (0))), (3, .one (.a 3 [] (0))), (4, .one (.h 4 [])), (5, .one (.t none (.sc (.int .i64 w477)))), (1117, .one (.a 0 [] (0)))], [(0, .vr [.sl w478.length (w478.map fun x0 => .sc (.int .i64 x0)), .sc (.int .i64 w479)]), (2, .vr [.sc (.int .i64 0), .os 1 0 [], .os 2 0 []]), (3, .vr [.sc (.int .i64 (IntKind.i64.wrap (1 + v359.1))), .os 1 w480.length (w480.map fun x0 => .sc (.int .i64 x0)), .os 2 w481.length (w481.flatMap fun x0 => [.sl x0.pre.length (x0.pre.map fun x1 => .sc (.int .i64 x1)), .sl x0.maps.length (x0.maps.map fun x1 => .sl x1.length (x1.map fun x2 => .sc (.int .i64 x2)))])]), (4, .os 1 w482.length (w482.map fun x0 => .os 1 x0.length (x0.map fun x1 => .sc (.int .i64 x1))))]⟩
def law26_build (a0 : Tape) : Option (Casc × Tape) :=
  (made_Tape_Next a0 2).bind fun v359 =>
  (made_Tape_Next v359.2 4).bind fun v360 =>
  loopG (law26_build_b4 v359) LFm (v360.1, v360.2.l, v360.2.at_, [], [], [[]])
theorem law26_build_ok {a0 : Tape} {r : Casc × Tape} (h0 : law26_build a0 = some r) : L 12 [.vr [.sl a0.l.length (a0.l.map fun x0 => .sc (.int .i64 x0)), .sc (.int .i64 a0.at_)]] = some (.agg [.sc (.int .i64 r.1.letters), .sl r.1.sizes.length (r.1.sizes.map fun x0 => .sc (.int .i64 x0)), .sl r.1.rows.length (r.1.rows.flatMap fun x0 => [.sl x0.pre.length (x0.pre.map fun x1 => .sc (.int .i64 x1)), .sl x0.maps.length (x0.maps.map fun x1 => .sl x1.length (x1.map fun x2 => .sc (.int .i64 x2)))])], [.vr [.sl r.2.l.length (r.2.l.map fun x0 => .sc (.int .i64 x0)), .sc (.int .i64 r.2.at_)]]) := by
  simp only [law26_build] at h0
  refine L_run cfn12 fn12 (runF_of bd12 ⟨of_decide_eq_true rfl, of_decide_eq_true rfl⟩ ?_)
  simp only [entryF, entryT, entryO, entryE, isIo]
  refine zq rfl (zr rfl rfl rfl (by simp; rfl) ?_)
  refine thenC_n (zq rfl ?_)
  obtain ⟨v359, f918, h1⟩ := bnd_some h0
  have f918k := made_Tape_Next_ok f918
  try simp at f918k
  refine zr rfl rfl rfl (by simp [f918k]; rfl) ?_
  refine thenC_n (zq rfl (zr rfl rfl rfl (by simp; rfl) ?_))
  refine thenC_n (zq rfl (zq rfl ?_))
  obtain ⟨v360, f919, h2⟩ := bnd_some h1
  have f919k := made_Tape_Next_ok f919
  try simp at f919k
  refine zr rfl rfl rfl (by simp [f919k]; rfl) ?_
  refine thenC_n (zb rfl (q_loopG h2 (law26_build_h4 v359) rfl rfl (by simp [law26_build_h4]) fun s o1 h3 hr1 => ?_))
  obtain ⟨w477, w478, w479, w480, w481, w482⟩ := s
  simp only [law26_build_b4] at h3
  simp only [law26_build_h4]
  refine zq rfl (zq rfl (zr rfl rfl rfl (by simp; rfl) ?_))
  refine thenC_n ?_
  by_cases c1525 : 0 < w477
  · rw [if_pos c1525] at h3
    refine q_ifT rfl (by simp [c1525]) (q_skip rfl (thenC_n (zq rfl (zb rfl (zq rfl ?_)))))
    obtain ⟨v600, f1526, h4⟩ := bnd_some h3
    have f1526k := made_Tape_Next_ok f1526
    try simp at f1526k
    refine zr rfl rfl rfl (by simp [f1526k]; rfl) ?_
    refine thenC_n (zq rfl ?_)
    obtain ⟨f1527, h5⟩ := chk_some h4
    obtain ⟨f1527a, f1527b⟩ := f1527
    refine zr rfl rfl rfl (by simp [f1527a, f1527b]; rfl) ?_
    refine thenC_n (zq rfl (zr rfl rfl rfl (by simp; rfl) ?_))
    refine thenC_n (zq rfl (zq rfl (q_frz rfl rfl (by simp; rfl) (zr rfl rfl rfl (by simp; rfl) ?_))))
    refine thenC_n (zb rfl (q_loopG h5 (law26_build_h10 v359 w477 w480 w482 v600) rfl rfl (by simp [law26_build_h10]) fun s o2 h6 hr2 => ?_))
    obtain ⟨w638, w639, w640, w642, w641⟩ := s
    simp only [law26_build_b10] at h6
    simp only [law26_build_h10]
    refine zq rfl (zr rfl rfl rfl (by simp; rfl) ?_)
    refine thenC_n (zq rfl ?_)
    by_cases c1732 : w638 < (w482.length : Int)
    · rw [if_pos c1732] at h6
      refine q_ifT rfl (by simp [c1732]) (q_skip rfl (thenC_n (zq rfl (zb rfl (zq rfl ?_)))))
      obtain ⟨v680, f1733, h7⟩ := bnd_some h6
      obtain ⟨f1733a, f1733b, f1733c, f1733d, f1733e⟩ := atI_some f1733
      refine zr rfl rfl rfl (by simp [f1733a, f1733b, f1733c, f1733d, f1733e]; rfl) ?_
      refine thenC_n (zq rfl (zq rfl ?_))
      obtain ⟨v681, f1734, h8⟩ := bnd_some h7
      have f1734k := made_Tape_Next_ok f1734
      try simp at f1734k
      refine zr rfl rfl rfl (by simp [f1734k]; rfl) ?_
      refine thenC_n ?_
      by_cases c1735 : v681.1 = 11
      · rw [if_pos c1735] at h8
        have c1735e := eq_true c1735
        refine q_ifF rfl (by simp [c1735e]) (q_skip rfl (thenC_n (zq rfl (zr rfl rfl rfl (by simp; rfl) ?_))))
        refine thenC_n (zb rfl (q_loopG h8 (law26_build_h31 v359 w477 w480 w482 v600 w638 w642 v680 v681) rfl rfl (by simp [law26_build_h31]) fun s o3 h9 hr3 => ?_))
        obtain ⟨w682, w683⟩ := s
        simp only [law26_build_b31] at h9
        simp only [law26_build_h31]
        refine zq rfl (zq rfl (zr rfl rfl rfl (by simp; rfl) ?_))
        refine thenC_n ?_
        by_cases c1744 : w682 < (IntKind.i64.wrap (1 + v600.1))
        · rw [if_pos c1744] at h9
          refine q_ifT rfl (by simp [c1744]) (q_skip rfl (thenC_n (zq rfl (zb rfl ?_))))
          obtain ⟨f1745, h10⟩ := chk_some h9
          obtain ⟨f1745a, f1745b⟩ := f1745
          obtain ⟨f1746, h11⟩ := chk_some h10
          obtain ⟨f1746a, f1746b⟩ := f1746
          obtain ⟨f1747, h12⟩ := chk_some h11
          obtain ⟨f1747a, f1747b⟩ := f1747
          refine zr rfl rfl rfl (by simp [f1745a, f1745b, f1746a, f1746b, f1747a, f1747b]; rfl) ?_
          refine blockC_n (thenC_n (zr rfl rfl rfl (by simp; rfl) ?_))
          have ho := next_some h12
          refine roundC_n ho ?_
          simp [law26_build_h31]
        · rw [if_neg c1744] at h9
          refine q_ifF rfl (by simp [c1744]) (q_exit rfl (thenC_x ?_))
          obtain ⟨rr3, h10, ho3⟩ := exit_some h9
          have hs3 := hr3 _ ho3
          subst hs3
          refine roundC_x ho3 (blockC_hit2 rfl (blockC_n (thenC_n (zr rfl rfl rfl (by simp; rfl) ?_))))
          have ho := next_some h10
          refine roundC_n ho ?_
          simp [law26_build_h10]
      · rw [if_neg c1735] at h8
        have c1735e := eq_false c1735
        refine q_ifT rfl (by simp [c1735e]) (zq rfl (zr rfl rfl rfl (by simp; rfl) ?_))
        refine thenC_n (zq rfl (zq rfl (zr rfl rfl rfl (by simp; rfl) ?_)))
        refine thenC_n (zb rfl (q_loopG h8 (law26_build_h15 v359 w477 w480 w482 v600 w638 w641 w642 v680) rfl rfl (by simp [law26_build_h15]) fun s o4 h9 hr4 => ?_))
        obtain ⟨w693, w694, w695, w696⟩ := s
        simp only [law26_build_b15] at h9
        simp only [law26_build_h15]
        refine zq rfl (zq rfl (zr rfl rfl rfl (by simp; rfl) ?_))
        refine thenC_n ?_
        by_cases c1797 : w693 < (IntKind.i64.wrap (1 + v359.1))
        · rw [if_pos c1797] at h9
          refine q_ifT rfl (by simp [c1797]) (q_skip rfl (thenC_n (zq rfl (zb rfl (zq rfl (zr rfl rfl rfl (by simp; rfl) ?_))))))
          refine thenC_n (zq rfl ?_)
          obtain ⟨v706, f1798, h10⟩ := bnd_some h9
          have f1798k := made_Tape_Next_ok f1798
          try simp at f1798k
          obtain ⟨v707, f1799, h11⟩ := bnd_some h10
          have f1799k := made_Tape_Next_ok f1799
          try simp at f1799k
          refine zr rfl rfl rfl (by simp [f1798k, f1799k]; rfl) ?_
          refine thenC_n (zq rfl (zq rfl (zr rfl rfl rfl (by simp; rfl) ?_)))
          refine thenC_n (zb rfl (q_loopG h11 (law26_build_h20 v359 w477 w480 w482 v600 w638 w641 w642 v680 w693 w696 v706 v707) rfl rfl (by simp [law26_build_h20]) fun s o5 h12 hr5 => ?_))
          obtain ⟨w709, w711, w712, w710⟩ := s
          simp only [law26_build_b20] at h12
          simp only [law26_build_h20]
          refine zq rfl (zq rfl (zr rfl rfl rfl (by simp; rfl) ?_))
          refine thenC_n ?_
          by_cases c1813 : w709 < (IntKind.i64.wrap (1 + v600.1))
          · rw [if_pos c1813] at h12
            refine q_ifT rfl (by simp [c1813]) (q_skip rfl (thenC_n (zq rfl (zb rfl (zq rfl (zr rfl rfl rfl (by simp; rfl) ?_))))))
            refine thenC_n (zb rfl (zq rfl (zr rfl rfl rfl (by simp; rfl) ?_)))
            refine thenC_n ?_
            by_cases c1814 : v706.1 = 0
            · rw [if_pos c1814] at h12
              have c1814e := eq_true c1814
              refine q_ifT rfl (by simp [c1814e]) ?_
              obtain ⟨f1815, h13⟩ := chk_some h12
              obtain ⟨f1816, h14⟩ := chk_some h13
              obtain ⟨f1816a, f1816b⟩ := f1816
              refine zr rfl rfl rfl (by simp [f1815, f1816a, f1816b]; rfl) ?_
              refine blockC_n (blockC_n (thenC_n (zr rfl rfl rfl (by simp; rfl) ?_)))
              have ho := next_some h14
              refine roundC_n ho ?_
              simp [law26_build_h20]
            · rw [if_neg c1814] at h12
              have c1814e := eq_false c1814
              refine q_ifF rfl (by simp [c1814e]) (zq rfl (zr rfl rfl rfl (by simp; rfl) ?_))
              refine thenC_n ?_
              by_cases c1817 : v706.1 = 1
              · rw [if_pos c1817] at h12
                have c1817e := eq_true c1817
                refine q_ifT rfl (by simp [c1817e]) ?_
                obtain ⟨f1818, h13⟩ := chk_some h12
                obtain ⟨f1818a, f1818b⟩ := f1818
                refine zr rfl rfl rfl (by simp [f1818a, f1818b]; rfl) ?_
                refine blockC_n (blockC_n (thenC_n (zr rfl rfl rfl (by simp; rfl) ?_)))
                have ho := next_some h13
                refine roundC_n ho ?_
                simp [law26_build_h20]
              · rw [if_neg c1817] at h12
                have c1817e := eq_false c1817
                refine q_ifF rfl (by simp [c1817e]) ?_
                obtain ⟨v714, f1819, h13⟩ := bnd_some h12
                have f1819k := made_Tape_Next_ok f1819
                try simp at f1819k
                obtain ⟨f1820, h14⟩ := chk_some h13
                obtain ⟨f1820a, f1820b⟩ := f1820
                refine zr rfl rfl rfl (by simp [f1819k, f1820a, f1820b]; rfl) ?_
                refine blockC_n (blockC_n (thenC_n (zr rfl rfl rfl (by simp; rfl) ?_)))
                have ho := next_some h14
                refine roundC_n ho ?_
                simp [law26_build_h20]
          · rw [if_neg c1813] at h12
            refine q_ifF rfl (by simp [c1813]) (q_exit rfl (thenC_x ?_))
            obtain ⟨rr5, h13, ho5⟩ := exit_some h12
            have hs5 := hr5 _ ho5
            subst hs5
            refine roundC_x ho5 (blockC_hit2 rfl (thenC_n ?_))
            obtain ⟨f1821, h14⟩ := chk_some h13
            obtain ⟨f1821a, f1821b⟩ := f1821
            refine zr rfl rfl rfl (by simp [f1821a, f1821b]; rfl) ?_
            refine blockC_n (thenC_n (zr rfl rfl rfl (by simp; rfl) ?_))
            have ho := next_some h14
            refine roundC_n ho ?_
            simp [law26_build_h15]
        · rw [if_neg c1797] at h9
          refine q_ifF rfl (by simp [c1797]) (q_exit rfl (thenC_x ?_))
          obtain ⟨rr4, h10, ho4⟩ := exit_some h9
          have hs4 := hr4 _ ho4
          subst hs4
          refine roundC_x ho4 (blockC_hit2 rfl (thenC_n ?_))
          obtain ⟨f1822, h11⟩ := chk_some h10
          obtain ⟨f1822a, f1822b⟩ := f1822
          refine zr rfl rfl rfl (by simp [f1822a, f1822b]; rfl) ?_
          refine thenC_n (zq rfl (zr rfl rfl rfl (by simp; rfl) ?_))
          refine thenC_n (zb rfl (q_loopG h11 (law26_build_h31a v359 w477 w480 w482 v600 w638 w642 v680 w694 w695 w696) rfl rfl (by simp [law26_build_h31a]) fun s o6 h12 hr6 => ?_))
          obtain ⟨w715, w716⟩ := s
          simp only [law26_build_b31a] at h12
          simp only [law26_build_h31a]
          refine zq rfl (zq rfl (zr rfl rfl rfl (by simp; rfl) ?_))
          refine thenC_n ?_
          by_cases c1831 : w715 < (IntKind.i64.wrap (1 + v600.1))
          · rw [if_pos c1831] at h12
            refine q_ifT rfl (by simp [c1831]) (q_skip rfl (thenC_n (zq rfl (zb rfl ?_))))
            obtain ⟨f1832, h13⟩ := chk_some h12
            obtain ⟨f1832a, f1832b⟩ := f1832
            obtain ⟨f1833, h14⟩ := chk_some h13
            obtain ⟨f1833a, f1833b⟩ := f1833
            obtain ⟨f1834, h15⟩ := chk_some h14
            obtain ⟨f1834a, f1834b⟩ := f1834
            refine zr rfl rfl rfl (by simp [f1832a, f1832b, f1833a, f1833b, f1834a, f1834b]; rfl) ?_
            refine blockC_n (thenC_n (zr rfl rfl rfl (by simp; rfl) ?_))
            have ho := next_some h15
            refine roundC_n ho ?_
            simp [law26_build_h31a]
          · rw [if_neg c1831] at h12
            refine q_ifF rfl (by simp [c1831]) (q_exit rfl (thenC_x ?_))
            obtain ⟨rr6, h13, ho6⟩ := exit_some h12
            have hs6 := hr6 _ ho6
            subst hs6
            refine roundC_x ho6 (blockC_hit2 rfl (blockC_n (thenC_n (zr rfl rfl rfl (by simp; rfl) ?_))))
            have ho := next_some h13
            refine roundC_n ho ?_
            simp [law26_build_h10]
    · rw [if_neg c1732] at h6
      refine q_ifF rfl (by simp [c1732]) (q_exit rfl (thenC_x ?_))
      obtain ⟨rr2, h7, ho2⟩ := exit_some h6
      have hs2 := hr2 _ ho2
      subst hs2
      refine roundC_x ho2 (blockC_hit2 rfl (thenC_n (zr rfl rfl rfl (by simp; rfl) ?_)))
      refine blockC_n (thenC_n (zr rfl rfl rfl (by simp; rfl) ?_))
      have ho := next_some h7
      refine roundC_n ho ?_
      simp [law26_build_h4]
  · rw [if_neg c1525] at h3
    refine q_ifF rfl (by simp [c1525]) (q_exit rfl (thenC_x ?_))
    obtain ⟨rr1, h4, ho1⟩ := exit_some h3
    have hs1 := hr1 _ ho1
    subst hs1
    refine roundC_x ho1 (blockC_hit2 rfl (thenC_n (zq rfl (zr rfl rfl rfl (by simp; rfl) ?_))))
    refine thenC_n (q_ret rfl ?_)
    cases h4
    simp
end Go.Proofs.YthalofddjlhcjaaDoor
end
section
/- Functions by value: program. -/
namespace Go.Proofs.YthalofddjlhcjaaDoor
open Go
set_option maxRecDepth 100000
set_option maxHeartbeats 1000000
set_option linter.unusedVariables false
set_option linter.unusedSimpArgs false



-- internal/strconv.small
def i_strconv_small (a0 : Int) : Option (ByteArray) :=
  if a0 < 10 then
    (pieceS ⟨#[48, 49, 50, 51, 52, 53, 54, 55, 56, 57, 97, 98, 99, 100, 101, 102, 103, 104, 105, 106, 107, 108, 109, 110, 111, 112, 113, 114, 115, 116, 117, 118, 119, 120, 121, 122]⟩ a0 (IntKind.i64.wrap (a0 + 1))).bind fun v3 =>
    some v3
  else
    (pieceS ⟨#[48, 48, 48, 49, 48, 50, 48, 51, 48, 52, 48, 53, 48, 54, 48, 55, 48, 56, 48, 57, 49, 48, 49, 49, 49, 50, 49, 51, 49, 52, 49, 53, 49, 54, 49, 55, 49, 56, 49, 57, 50, 48, 50, 49, 50, 50, 50, 51, 50, 52, 50, 53, 50, 54, 50, 55, 50, 56, 50, 57, 51, 48, 51, 49, 51, 50, 51, 51, 51, 52, 51, 53, 51, 54, 51, 55, 51, 56, 51, 57, 52, 48, 52, 49, 52, 50, 52, 51, 52, 52, 52, 53, 52, 54, 52, 55, 52, 56, 52, 57, 53, 48, 53, 49, 53, 50, 53, 51, 53, 52, 53, 53, 53, 54, 53, 55, 53, 56, 53, 57, 54, 48, 54, 49, 54, 50, 54, 51, 54, 52, 54, 53, 54, 54, 54, 55, 54, 56, 54, 57, 55, 48, 55, 49, 55, 50, 55, 51, 55, 52, 55, 53, 55, 54, 55, 55, 55, 56, 55, 57, 56, 48, 56, 49, 56, 50, 56, 51, 56, 52, 56, 53, 56, 54, 56, 55, 56, 56, 56, 57, 57, 48, 57, 49, 57, 50, 57, 51, 57, 52, 57, 53, 57, 54, 57, 55, 57, 56, 57, 57]⟩ (IntKind.i64.wrap (a0 * 2)) (IntKind.i64.wrap ((IntKind.i64.wrap (a0 * 2)) + 2))).bind fun v4 =>
    some v4
theorem i_strconv_small_ok {a0 : Int} {r : ByteArray} (h0 : i_strconv_small a0 = some r) : L 93 [.sc (.int .i64 a0)] = some (.sc (.string r), [.dead]) := by
  simp only [i_strconv_small] at h0
  refine L_run cfn93 fn93 (runF_of bd93 ⟨of_decide_eq_true rfl, of_decide_eq_true rfl⟩ ?_)
  simp only [entryF, entryT, entryO, entryE, isIo]
  refine zq rfl (zr rfl rfl rfl (by simp; rfl) ?_)
  refine thenC_n (zq rfl (zq rfl (zr rfl rfl rfl (by simp; rfl) ?_)))
  refine thenC_n ?_
  by_cases c4 : a0 < 10
  · rw [if_pos c4] at h0
    refine q_ifT rfl (by simp [c4]) (zq rfl ?_)
    obtain ⟨v3, f5, h1⟩ := bnd_some h0
    obtain ⟨f5a, f5b, f5c, f5d⟩ := pieceS_some f5
    obtain ⟨f5e, f5f⟩ := piece_hi f5a f5b
    have f5d := f5d.symm
    have f5z : ∀ a : Array UInt8, ByteArray.size ⟨a⟩ = a.size := fun _ => rfl
    simp [f5z] at f5c
    have f5g : a0 ≤ max (IntKind.i64.wrap (a0 + 1)) 0 := by omega
    refine zr rfl rfl rfl (by simp [f5a, f5b, f5c, f5d, f5e, f5f, f5z, f5g]; rfl) ?_
    refine thenC_n (q_ret rfl (thenC_r ?_))
    cases h1
    simp
  · rw [if_neg c4] at h0
    refine q_ifF rfl (by simp [c4]) (q_skip rfl (thenC_n (zq rfl ?_)))
    obtain ⟨v4, f6, h1⟩ := bnd_some h0
    obtain ⟨f6a, f6b, f6c, f6d⟩ := pieceS_some f6
    obtain ⟨f6e, f6f⟩ := piece_hi f6a f6b
    have f6d := f6d.symm
    have f6z : ∀ a : Array UInt8, ByteArray.size ⟨a⟩ = a.size := fun _ => rfl
    simp [f6z] at f6c
    have f6g : (IntKind.i64.wrap (a0 * 2)) ≤ max (IntKind.i64.wrap ((IntKind.i64.wrap (a0 * 2)) + 2)) 0 := by omega
    refine zr rfl rfl rfl (by simp [f6a, f6b, f6c, f6d, f6e, f6f, f6z, f6g]; rfl) ?_
    refine thenC_n (q_ret rfl ?_)
    cases h1
    simp

-- internal/strconv.AppendUint
def i_strconv_AppendUint (a0 : List Int) (a1 : Int) (a2 : Int) : Option (List Int) :=
  if a2 = 10 then
    if a1 < 100 then
      (i_strconv_small (IntKind.i64.wrap a1)).bind fun v2 =>
      chk (capOk 1 (a0.length + v2.size)) <|
      some (a0 ++ (intsOf v2))
    else
      none
  else
    none
theorem i_strconv_AppendUint_ok {a0 : List Int} {a1 : Int} {a2 : Int} {r : List Int} (h0 : i_strconv_AppendUint a0 a1 a2 = some r) : L 89 [.os 1 a0.length (a0.map fun x0 => .sc (.int .u8 x0)), .sc (.int .u64 a1), .sc (.int .i64 a2)] = some (.os 1 r.length (r.map fun x0 => .sc (.int .u8 x0)), [.dead, .dead, .dead]) := by
  simp only [i_strconv_AppendUint] at h0
  refine L_run cfn89 fn89 (runF_of bd89 ⟨of_decide_eq_true rfl, of_decide_eq_true rfl⟩ ?_)
  simp only [entryF, entryT, entryO, entryE, isIo]
  refine zq rfl (zr rfl rfl rfl (by simp; rfl) ?_)
  refine thenC_n (zq rfl (zq rfl (zr rfl rfl rfl (by simp; rfl) ?_)))
  refine thenC_n ?_
  by_cases c5 : a2 = 10
  · rw [if_pos c5] at h0
    have c5e := eq_true c5
    refine q_ifT rfl (by simp [c5e]) (zq rfl (zq rfl (zr rfl rfl rfl (by simp; rfl) ?_)))
    refine thenC_n ?_
    by_cases c6 : a1 < 100
    · rw [if_pos c6] at h0
      refine q_ifT rfl (by simp [c6]) (zq rfl ?_)
      obtain ⟨v2, f7, h1⟩ := bnd_some h0
      have f7k := i_strconv_small_ok f7
      try simp at f7k
      obtain ⟨f8, h2⟩ := chk_some h1
      obtain ⟨f8a, f8b⟩ := f8
      simp only [Nat.mul_one] at f8a
      refine zr rfl rfl rfl (by simp [f7k, f8a, f8b]; rfl) ?_
      refine thenC_n (q_ret rfl (thenC_r (thenC_r ?_)))
      cases h2
      simp
    · rw [if_neg c6] at h0
      refine q_ifF rfl (by simp [c6]) (q_skip rfl (thenC_n (zq rfl (zr rfl rfl rfl (by simp; rfl) ?_))))
      refine thenC_n (zq rfl ?_)
      cases h0
  · rw [if_neg c5] at h0
    have c5e := eq_false c5
    refine q_ifF rfl (by simp [c5e]) (q_skip rfl (thenC_n (zq rfl ?_)))
    cases h0

-- internal/strconv.AppendInt
def i_strconv_AppendInt (a0 : List Int) (a1 : Int) (a2 : Int) : Option (List Int) :=
  if a1 < 0 then
    chk (capOk 1 (a0.length + 1)) <|
    (i_strconv_AppendUint (a0 ++ [45]) (IntKind.u64.wrap (0 - (IntKind.u64.wrap a1))) a2).bind fun v3 =>
    some v3
  else
    (i_strconv_AppendUint a0 (IntKind.u64.wrap a1) a2).bind fun v4 =>
    some v4
theorem i_strconv_AppendInt_ok {a0 : List Int} {a1 : Int} {a2 : Int} {r : List Int} (h0 : i_strconv_AppendInt a0 a1 a2 = some r) : L 80 [.os 1 a0.length (a0.map fun x0 => .sc (.int .u8 x0)), .sc (.int .i64 a1), .sc (.int .i64 a2)] = some (.os 1 r.length (r.map fun x0 => .sc (.int .u8 x0)), [.dead, .dead, .dead]) := by
  simp only [i_strconv_AppendInt] at h0
  refine L_run cfn80 fn80 (runF_of bd80 ⟨of_decide_eq_true rfl, of_decide_eq_true rfl⟩ ?_)
  simp only [entryF, entryT, entryO, entryE, isIo]
  refine zq rfl (zr rfl rfl rfl (by simp; rfl) ?_)
  refine thenC_n (zq rfl (zr rfl rfl rfl (by simp; rfl) ?_))
  refine thenC_n (zq rfl (zq rfl (zr rfl rfl rfl (by simp; rfl) ?_)))
  refine thenC_n ?_
  by_cases c5 : a1 < 0
  · rw [if_pos c5] at h0
    refine q_ifT rfl (by simp [c5]) (zq rfl ?_)
    obtain ⟨f6, h1⟩ := chk_some h0
    obtain ⟨f6a, f6b⟩ := f6
    simp only [Nat.mul_one] at f6a
    refine zr rfl rfl rfl (by simp [f6a, f6b]; rfl) ?_
    refine thenC_n (zr rfl rfl rfl (by simp; rfl) ?_)
    refine thenC_n (zq rfl ?_)
    obtain ⟨v3, f7, h2⟩ := bnd_some h1
    have f7k := i_strconv_AppendUint_ok f7
    try simp at f7k
    refine zr rfl rfl rfl (by simp [f7k]; rfl) ?_
    refine thenC_n (q_ret rfl ?_)
    cases h2
    simp
  · rw [if_neg c5] at h0
    refine q_ifF rfl (by simp [c5]) (q_skip rfl (thenC_n (zq rfl ?_)))
    obtain ⟨v4, f8, h1⟩ := bnd_some h0
    have f8k := i_strconv_AppendUint_ok f8
    try simp at f8k
    refine zr rfl rfl rfl (by simp [f8k]; rfl) ?_
    refine thenC_n (q_ret rfl ?_)
    cases h1
    simp

-- strconv.AppendInt
def strconv_AppendInt (a0 : List Int) (a1 : Int) (a2 : Int) : Option (List Int) :=
  (i_strconv_AppendInt a0 a1 a2).bind fun v2 =>
  some v2
theorem strconv_AppendInt_ok {a0 : List Int} {a1 : Int} {a2 : Int} {r : List Int} (h0 : strconv_AppendInt a0 a1 a2 = some r) : L 70 [.os 1 a0.length (a0.map fun x0 => .sc (.int .u8 x0)), .sc (.int .i64 a1), .sc (.int .i64 a2)] = some (.os 1 r.length (r.map fun x0 => .sc (.int .u8 x0)), [.dead, .dead, .dead]) := by
  simp only [strconv_AppendInt] at h0
  refine L_run cfn70 fn70 (runF_of bd70 ⟨of_decide_eq_true rfl, of_decide_eq_true rfl⟩ ?_)
  simp only [entryF, entryT, entryO, entryE, isIo]
  refine zq rfl (zr rfl rfl rfl (by simp; rfl) ?_)
  refine thenC_n (zq rfl ?_)
  obtain ⟨v2, f2, h1⟩ := bnd_some h0
  have f2k := i_strconv_AppendInt_ok f2
  try simp at f2k
  refine zr rfl rfl rfl (by simp [f2k]; rfl) ?_
  refine thenC_n (q_ret rfl ?_)
  cases h1
  simp

-- semigroup/cascade.appendNumbers
def cascade_appendNumbers_b2 (a1 : List Int) : Int × List Int → Option ((Int × List Int) ⊕ List Int)
  | (w11, w12) =>
  if w11 < (a1.length : Int) then
    (atI a1 w11).bind fun v15 =>
    chk (capOk 1 (w12.length + 1)) <|
    (strconv_AppendInt (w12 ++ [32]) v15 10).bind fun v16 =>
    nextG (IntKind.i64.wrap (w11 + 1), v16)
  else
    exitG <|
    some w12
def cascade_appendNumbers_h2 (a1 : List Int) : Int × List Int → Fr
  | (w11, w12) => ⟨21, [(0, .one (.h 0 [])), (7, .one (.t none (.sl a1.length (a1.map fun x0 => .sc (.int .i64 x0))))), (8, .one (.t none (.sc (.int .i64 (a1.length : Int))))), (9, .one (.t none (.sc (.int .i64 w11)))), (999999, .one (.dead))], [(0, .os 1 w12.length (w12.map fun x0 => .sc (.int .u8 x0)))]⟩
def cascade_appendNumbers (a0 : List Int) (a1 : List Int) : Option (List Int) :=
  loopG (cascade_appendNumbers_b2 a1) LFm (0, a0)
theorem cascade_appendNumbers_ok {a0 : List Int} {a1 : List Int} {r : List Int} (h0 : cascade_appendNumbers a0 a1 = some r) : L 55 [.os 1 a0.length (a0.map fun x0 => .sc (.int .u8 x0)), .sl a1.length (a1.map fun x0 => .sc (.int .i64 x0))] = some (.os 1 r.length (r.map fun x0 => .sc (.int .u8 x0)), [.dead, .dead]) := by
  simp only [cascade_appendNumbers] at h0
  refine L_run cfn55 fn55 (runF_of bd55 ⟨of_decide_eq_true rfl, of_decide_eq_true rfl⟩ ?_)
  simp only [entryF, entryT, entryO, entryE, isIo]
  refine zq rfl (zr rfl rfl rfl (by simp; rfl) ?_)
  refine thenC_n (zq rfl (zq rfl (zr rfl rfl rfl (by simp; rfl) ?_)))
  refine thenC_n (zb rfl (q_loopG h0 (cascade_appendNumbers_h2 a1) rfl rfl (by simp [cascade_appendNumbers_h2]) fun s o1 h1 hr1 => ?_))
  obtain ⟨w11, w12⟩ := s
  simp only [cascade_appendNumbers_b2] at h1
  simp only [cascade_appendNumbers_h2]
  refine zq rfl (zr rfl rfl rfl (by simp; rfl) ?_)
  refine thenC_n (zq rfl ?_)
  by_cases c21 : w11 < (a1.length : Int)
  · rw [if_pos c21] at h1
    refine q_ifT rfl (by simp [c21]) (q_skip rfl (thenC_n (zq rfl (zb rfl (zq rfl ?_)))))
    obtain ⟨v15, f22, h2⟩ := bnd_some h1
    obtain ⟨f22a, f22b, f22c, f22d, f22e⟩ := atI_some f22
    refine zr rfl rfl rfl (by simp [f22a, f22b, f22c, f22d, f22e]; rfl) ?_
    refine thenC_n (zq rfl ?_)
    obtain ⟨f23, h3⟩ := chk_some h2
    obtain ⟨f23a, f23b⟩ := f23
    simp only [Nat.mul_one] at f23a
    refine zr rfl rfl rfl (by simp [f23a, f23b]; rfl) ?_
    refine thenC_n ?_
    obtain ⟨v16, f24, h4⟩ := bnd_some h3
    have f24k := strconv_AppendInt_ok f24
    try simp at f24k
    refine zr rfl rfl rfl (by simp [f24k]; rfl) ?_
    refine blockC_n (thenC_n (zr rfl rfl rfl (by simp; rfl) ?_))
    have ho := next_some h4
    refine roundC_n ho ?_
    simp [cascade_appendNumbers_h2]
  · rw [if_neg c21] at h1
    refine q_ifF rfl (by simp [c21]) (q_exit rfl (thenC_x ?_))
    obtain ⟨rr1, h2, ho1⟩ := exit_some h1
    have hs1 := hr1 _ ho1
    subst hs1
    refine roundC_x ho1 (blockC_hit2 rfl (thenC_n (zq rfl (zr rfl rfl rfl (by simp; rfl) ?_))))
    refine thenC_n (q_ret rfl ?_)
    cases h2
    simp
end Go.Proofs.YthalofddjlhcjaaDoor
end
section
/- Functions by value: program. -/
namespace Go.Proofs.YthalofddjlhcjaaDoor
open Go
set_option maxRecDepth 100000
set_option maxHeartbeats 1000000
set_option linter.unusedVariables false
set_option linter.unusedSimpArgs false



-- semigroup/semigroupref26.digits
def ref26_digits_r (rf : Int → Option (ByteArray)) (a0 : Int) : Option (ByteArray) :=
  if a0 < 10 then
    some ⟨#[UInt8.ofNat (IntKind.u8.wrap (IntKind.i64.wrap (48 + a0))).toNat]⟩
  else
    (rf (quoI .i64 a0 10)).bind fun v2 =>
    chk (catOk v2 ⟨#[UInt8.ofNat (IntKind.u8.wrap (IntKind.i64.wrap (48 + (Int.tmod a0 10)))).toNat]⟩) <|
    some (v2 ++ ⟨#[UInt8.ofNat (IntKind.u8.wrap (IntKind.i64.wrap (48 + (Int.tmod a0 10)))).toNat]⟩)
theorem ref26_digits_rok {rf : Int → Option (ByteArray)} (ih : ∀ {a0 : Int} {r : ByteArray}, rf a0 = some r → L 54 [.sc (.int .i64 a0)] = some (.sc (.string r), [.dead])) {a0 : Int} {r : ByteArray} (h0 : ref26_digits_r rf a0 = some r) : L 54 [.sc (.int .i64 a0)] = some (.sc (.string r), [.dead]) := by
  simp only [ref26_digits_r] at h0
  refine L_run cfn54 fn54 (runF_of bd54 ⟨of_decide_eq_true rfl, of_decide_eq_true rfl⟩ ?_)
  simp only [entryF, entryT, entryO, entryE, isIo]
  refine zq rfl (zr rfl rfl rfl (by simp; rfl) ?_)
  refine thenC_n (zq rfl (zq rfl (zr rfl rfl rfl (by simp; rfl) ?_)))
  refine thenC_n ?_
  by_cases c4 : a0 < 10
  · rw [if_pos c4] at h0
    refine q_ifT rfl (by simp [c4]) (zq rfl (zr rfl rfl rfl (by simp; rfl) ?_))
    refine thenC_n (q_ret rfl (thenC_r ?_))
    cases h0
    simp
  · rw [if_neg c4] at h0
    refine q_ifF rfl (by simp [c4]) (q_skip rfl (thenC_n (zq rfl ?_)))
    obtain ⟨v2, f5, h1⟩ := bnd_some h0
    have f5k := ih f5
    try simp at f5k
    obtain ⟨f6, h2⟩ := chk_some h1
    refine q_tree rfl rfl rfl rfl ?_
    refine tp_op rfl rfl (by simp [stepZ, f5k, f6]; rfl) ?_
    refine tp_op rfl rfl (by simp [stepZ, f5k, f6]; rfl) ?_
    refine tp_op rfl rfl (by simp [stepZ, f5k, f6]; rfl) ?_
    refine tp_op rfl rfl (by simp [stepZ, f5k, f6]; rfl) ?_
    refine tp_op rfl rfl (by simp [stepZ, f5k, f6]; rfl) ?_
    refine tp_op rfl rfl (by simp [stepZ, f5k, f6]; rfl) ?_
    refine tp_alt2 ?_
    refine tp_op rfl rfl (by simp [stepZ, f5k, f6]; rfl) ?_
    refine tp_op rfl rfl (by simp [stepZ, f5k, f6]; rfl) ?_
    refine tp_op rfl rfl (by simp [stepZ, f5k, f6]; rfl) ?_
    refine tp_op rfl rfl (by simp [stepZ, f5k, f6]; rfl) ?_
    refine tp_op rfl rfl (by simp [stepZ, f5k, f6]; rfl) ?_
    refine tp_nil ?_
    refine ⟨?_, ?_⟩
    · refine tp_op rfl rfl (by simp [stepZ, f5k, f6]; rfl) ?_
      refine tp_op rfl rfl (by simp [stepZ, f5k, f6]; rfl) ?_
      refine tp_op rfl rfl (by simp [stepZ, f5k, f6]; rfl) ?_
      refine tp_op rfl rfl (by simp [stepZ, f5k, f6]; rfl) ?_
      refine tp_op rfl rfl (by simp [stepZ, f5k, f6]; rfl) ?_
      refine tp_nil ?_
      simp [sameF, f5k, f6]
    refine tp_end rfl (by simp [f5k, f6]; rfl) ?_
    refine thenC_n (q_ret rfl ?_)
    cases h2
    simp
def ref26_digits : Nat → Int → Option (ByteArray)
  | 0 => fun _ => none
  | k + 1 => ref26_digits_r (ref26_digits k)
theorem ref26_digits_ok : ∀ {k : Nat} {a0 : Int} {r : ByteArray}, ref26_digits k a0 = some r → L 54 [.sc (.int .i64 a0)] = some (.sc (.string r), [.dead]) := by
  intro k
  induction k with
  | zero => intro a0 r h; cases h
  | succ k ih => intro a0 r h; exact ref26_digits_rok ih h
end Go.Proofs.YthalofddjlhcjaaDoor
end
section
/- Functions by value: program. -/
namespace Go.Proofs.YthalofddjlhcjaaDoor
open Go
set_option maxRecDepth 100000
set_option maxHeartbeats 1000000
set_option linter.unusedVariables false
set_option linter.unusedSimpArgs false



-- semigroup/cascade.Format
def cascade_Format_b11 (w49 : Int) (v61 : CRow) : Int × List Int → Option ((Int × List Int) ⊕ ((Int × List Int) ⊕ (ByteArray × Int)))
  | (w65, w66) =>
  if w65 < (v61.maps.length : Int) then
    (atI v61.maps w65).bind fun v69 =>
    chk (capOk 1 (w66.length + 2)) <|
    (cascade_appendNumbers (w66 ++ (intsOf ⟨#[32, 59]⟩)) v69).bind fun v70 =>
    nextG (IntKind.i64.wrap (w65 + 1), v70)
  else
    exitG <|
    chk (capOk 1 (w66.length + 1)) <|
    if 1048576 < ((w66.length : Int) + 1) then
      exitG <|
      some (ByteArray.empty, 3)
    else
      nextG (IntKind.i64.wrap (w49 + 1), w66 ++ [10])
def cascade_Format_h11 (a0 : Casc) (w49 : Int) (v61 : CRow) : Int × List Int → Fr
  | (w65, w66) => ⟨60, [(5, .one (.h 5 [])), (28, .one (.t none (.sl a0.rows.length (a0.rows.flatMap fun x0 => [.sl x0.pre.length (x0.pre.map fun x1 => .sc (.int .i64 x1)), .sl x0.maps.length (x0.maps.map fun x1 => .sl x1.length (x1.map fun x2 => .sc (.int .i64 x2)))])))), (29, .one (.t none (.sc (.int .i64 (a0.rows.length : Int))))), (30, .one (.t none (.sc (.int .i64 w49)))), (40, .one (.t none (.sl v61.maps.length (v61.maps.map fun x0 => .sl x0.length (x0.map fun x1 => .sc (.int .i64 x1)))))), (41, .one (.t none (.sc (.int .i64 (v61.maps.length : Int))))), (42, .one (.t none (.sc (.int .i64 w65))))], [(5, .os 1 w66.length (w66.map fun x0 => .sc (.int .u8 x0)))]⟩
def cascade_Format_b7 (a0 : Casc) : Int × List Int → Option ((Int × List Int) ⊕ (ByteArray × Int))
  | (w49, w50) =>
  if w49 < (a0.rows.length : Int) then
    (atI a0.rows w49).bind fun v61 =>
    chk (capOk 1 (w50.length + 3)) <|
    (cascade_appendNumbers (w50 ++ (intsOf ⟨#[114, 111, 119]⟩)) v61.pre).bind fun v62 =>
    loopG (cascade_Format_b11 w49 v61) LFm (0, v62)
  else
    exitG <|
    some (bytesOf w50, 0)
def cascade_Format_h7 (a0 : Casc) : Int × List Int → Fr
  | (w49, w50) => ⟨60, [(5, .one (.h 5 [])), (28, .one (.t none (.sl a0.rows.length (a0.rows.flatMap fun x0 => [.sl x0.pre.length (x0.pre.map fun x1 => .sc (.int .i64 x1)), .sl x0.maps.length (x0.maps.map fun x1 => .sl x1.length (x1.map fun x2 => .sc (.int .i64 x2)))])))), (29, .one (.t none (.sc (.int .i64 (a0.rows.length : Int))))), (30, .one (.t none (.sc (.int .i64 w49))))], [(5, .os 1 w50.length (w50.map fun x0 => .sc (.int .u8 x0)))]⟩
def cascade_Format (a0 : Casc) : Option (ByteArray × Int) :=
  (cascade_Validate a0).bind fun v36 =>
  if v36 = 0 then
    (cascade_appendNumbers [99, 97, 115, 99, 97, 100, 101] [a0.letters]).bind fun v37 =>
    (cascade_appendNumbers v37 a0.sizes).bind fun v38 =>
    chk (capOk 1 (v38.length + 1)) <|
    loopG (cascade_Format_b7 a0) LFm (0, v38 ++ [10])
  else
    some (ByteArray.empty, v36)
theorem cascade_Format_ok {a0 : Casc} {r : ByteArray × Int} (h0 : cascade_Format a0 = some r) : L 29 [.agg [.sc (.int .i64 a0.letters), .sl a0.sizes.length (a0.sizes.map fun x0 => .sc (.int .i64 x0)), .sl a0.rows.length (a0.rows.flatMap fun x0 => [.sl x0.pre.length (x0.pre.map fun x1 => .sc (.int .i64 x1)), .sl x0.maps.length (x0.maps.map fun x1 => .sl x1.length (x1.map fun x2 => .sc (.int .i64 x2)))])]] = some (.tup [.sc (.string r.1), .sc (.int .i64 r.2)], [.dead]) := by
  simp only [cascade_Format] at h0
  refine L_run cfn29 fn29 (runF_of bd29 ⟨of_decide_eq_true rfl, of_decide_eq_true rfl⟩ ?_)
  simp only [entryF, entryT, entryO, entryE, isIo]
  refine zq rfl (zr rfl rfl rfl (by simp; rfl) ?_)
  refine thenC_n (zq rfl (zq rfl ?_))
  obtain ⟨v36, f60, h1⟩ := bnd_some h0
  have f60k := cascade_Validate_ok f60
  try simp at f60k
  refine zr rfl rfl rfl (by simp [f60k]; rfl) ?_
  refine thenC_n (zq rfl (zr rfl rfl rfl (by simp; rfl) ?_))
  refine thenC_n ?_
  by_cases c61 : v36 = 0
  · rw [if_pos c61] at h1
    have c61e := eq_true c61
    refine q_ifF rfl (by simp [c61e]) (q_skip rfl (thenC_n (zq rfl ?_)))
    obtain ⟨v37, f62, h2⟩ := bnd_some h1
    have f62k := cascade_appendNumbers_ok f62
    try simp at f62k
    refine zr rfl rfl rfl (by simp [f62k]; rfl) ?_
    refine thenC_n (zq rfl ?_)
    obtain ⟨v38, f63, h3⟩ := bnd_some h2
    have f63k := cascade_appendNumbers_ok f63
    try simp at f63k
    obtain ⟨f64, h4⟩ := chk_some h3
    obtain ⟨f64a, f64b⟩ := f64
    simp only [Nat.mul_one] at f64a
    refine zr rfl rfl rfl (by simp [f63k, f64a, f64b]; rfl) ?_
    refine thenC_n (zq rfl (zq rfl (zr rfl rfl rfl (by simp; rfl) ?_)))
    refine thenC_n (zb rfl (q_loopG h4 (cascade_Format_h7 a0) rfl rfl (by simp [cascade_Format_h7]) fun s o1 h5 hr1 => ?_))
    obtain ⟨w49, w50⟩ := s
    simp only [cascade_Format_b7] at h5
    simp only [cascade_Format_h7]
    refine zq rfl (zr rfl rfl rfl (by simp; rfl) ?_)
    refine thenC_n (zq rfl ?_)
    by_cases c101 : w49 < (a0.rows.length : Int)
    · rw [if_pos c101] at h5
      refine q_ifT rfl (by simp [c101]) (q_skip rfl (thenC_n (zq rfl (zb rfl (zq rfl ?_)))))
      obtain ⟨v61, f102, h6⟩ := bnd_some h5
      obtain ⟨f102a, f102b, f102c, f102d, f102e⟩ := atI_some f102
      have f102g := flat_some (g := fun x : CRow => ([.sl x.pre.length (x.pre.map fun x0 => .sc (.int .i64 x0)), .sl x.maps.length (x.maps.map fun x0 => .sl x0.length (x0.map fun x1 => .sc (.int .i64 x1)))] : List T)) (m := 2) (fun _ => rfl) f102d
      have f102h := flat_len (g := fun x : CRow => ([.sl x.pre.length (x.pre.map fun x0 => .sc (.int .i64 x0)), .sl x.maps.length (x.maps.map fun x0 => .sl x0.length (x0.map fun x1 => .sc (.int .i64 x1)))] : List T)) (m := 2) (fun _ => rfl) a0.rows
      have f102k0 := f102g.2.2.1 0 (by decide)
      have f102m0 := f102g.2.2.2 0 _ rfl
      have f102k1 := f102g.2.2.1 1 (by decide)
      have f102m1 := f102g.2.2.2 1 _ rfl
      obtain ⟨f102g, f102i, -⟩ := f102g
      try simp at f102i f102h f102k0 f102m0 f102k1 f102m1
      refine zr rfl rfl rfl (by simp [f102a, f102b, f102c, f102d, f102e, f102g, f102i, f102h, f102k0, f102k1, f102m0, f102m1]; rfl) ?_
      refine thenC_n (zq rfl (q_frz rfl rfl (by simp; rfl) ?_))
      obtain ⟨f103, h7⟩ := chk_some h6
      obtain ⟨f103a, f103b⟩ := f103
      simp only [Nat.mul_one] at f103a
      obtain ⟨v62, f104, h8⟩ := bnd_some h7
      have f104k := cascade_appendNumbers_ok f104
      try simp at f104k
      refine q_drawW rfl rfl rfl rfl ?_; repeat' (first | (refine q_drawW_op rfl rfl fun Q' hQ => ?_; simp [f103a, f103b, f104k]; refine hQ.out _ ?_; clear hQ; clear Q') | (refine q_drawW_guard rfl rfl fun Q1 Q2 h1 h2 => ?_; simp [f103a, f103b, f104k, twoB_some]; (first | refine h1.out ?_ | refine h2.out ?_); clear h1 h2; clear Q1 Q2; intro Q' hQ; simp [f103a, f103b, f104k]; refine hQ.out _ ?_; clear hQ; clear Q') | (refine q_drawW_nil rfl fun Q' hQ => ?_; simp [f103a, f103b, f104k]; refine hQ.out _ ?_; clear hQ; clear Q'))
      refine thenC_n (zq rfl (zq rfl (zr rfl rfl rfl (by simp; rfl) ?_)))
      refine thenC_n (zb rfl (q_loopG h8 (cascade_Format_h11 a0 w49 v61) rfl rfl (by simp [cascade_Format_h11]) fun s o2 h9 hr2 => ?_))
      obtain ⟨w65, w66⟩ := s
      simp only [cascade_Format_b11] at h9
      simp only [cascade_Format_h11]
      refine zq rfl (zr rfl rfl rfl (by simp; rfl) ?_)
      refine thenC_n (zq rfl ?_)
      by_cases c113 : w65 < (v61.maps.length : Int)
      · rw [if_pos c113] at h9
        refine q_ifT rfl (by simp [c113]) (q_skip rfl (thenC_n (zq rfl (zb rfl (zq rfl ?_)))))
        obtain ⟨v69, f114, h10⟩ := bnd_some h9
        obtain ⟨f114a, f114b, f114c, f114d, f114e⟩ := atI_some f114
        refine zr rfl rfl rfl (by simp [f114a, f114b, f114c, f114d, f114e]; rfl) ?_
        refine thenC_n ?_
        obtain ⟨f115, h11⟩ := chk_some h10
        obtain ⟨f115a, f115b⟩ := f115
        simp only [Nat.mul_one] at f115a
        obtain ⟨v70, f116, h12⟩ := bnd_some h11
        have f116k := cascade_appendNumbers_ok f116
        try simp at f116k
        refine zr rfl rfl rfl (by simp [f115a, f115b, f116k]; rfl) ?_
        refine blockC_n (thenC_n (zr rfl rfl rfl (by simp; rfl) ?_))
        have ho := next_some h12
        refine roundC_n ho ?_
        simp [cascade_Format_h11]
      · rw [if_neg c113] at h9
        refine q_ifF rfl (by simp [c113]) (q_exit rfl (thenC_x ?_))
        obtain ⟨rr2, h10, ho2⟩ := exit_some h9
        have hs2 := hr2 _ ho2
        subst hs2
        refine roundC_x ho2 (blockC_hit2 rfl (thenC_n (zq rfl ?_)))
        obtain ⟨f117, h11⟩ := chk_some h10
        obtain ⟨f117a, f117b⟩ := f117
        simp only [Nat.mul_one] at f117a
        refine zr rfl rfl rfl (by simp [f117a, f117b]; rfl) ?_
        refine thenC_n (zq rfl (zr rfl rfl rfl (by simp; rfl) ?_))
        refine thenC_n ?_
        by_cases c118 : 1048576 < ((w66.length : Int) + 1)
        · rw [if_pos c118] at h11
          refine q_ifT rfl (by simp [c118]) (zq rfl (zr rfl rfl rfl (by simp; rfl) ?_))
          refine thenC_n (q_ret rfl (blockC_r (thenC_r ?_)))
          obtain ⟨rr1, h12, ho1⟩ := exit_some h11
          have hs1 := hr1 _ ho1
          subst hs1
          refine roundC_r ho1 (blockC_r (thenC_r ?_))
          cases h12
          simp
        · rw [if_neg c118] at h11
          refine q_ifF rfl (by simp [c118]) (q_skip rfl (blockC_n (thenC_n (zr rfl rfl rfl (by simp; rfl) ?_))))
          have ho := next_some h11
          refine roundC_n ho ?_
          simp [cascade_Format_h7]
    · rw [if_neg c101] at h5
      refine q_ifF rfl (by simp [c101]) (q_exit rfl (thenC_x ?_))
      obtain ⟨rr1, h6, ho1⟩ := exit_some h5
      have hs1 := hr1 _ ho1
      subst hs1
      refine roundC_x ho1 (blockC_hit2 rfl (thenC_n (zq rfl (zr rfl rfl rfl (by simp; rfl) ?_))))
      refine thenC_n (q_ret rfl ?_)
      cases h6
      simp
  · rw [if_neg c61] at h1
    have c61e := eq_false c61
    refine q_ifT rfl (by simp [c61e]) (zq rfl (zr rfl rfl rfl (by simp; rfl) ?_))
    refine thenC_n (q_ret rfl (thenC_r ?_))
    cases h1
    simp

-- semigroup/semigroupref26.Format
def ref26_Format_b25 (w234 : Int) (v244 : List Int) : ByteArray × Int → Option ((ByteArray × Int) ⊕ ((ByteArray × Int) ⊕ ((ByteArray × Int) ⊕ (ByteArray × Int))))
  | (w247, w248) =>
  if w248 < (v244.length : Int) then
    (atI v244 w248).bind fun v251 =>
    (ref26_digits 12 v251).bind fun v252 =>
    chk (catOk ⟨#[32]⟩ v252) <|
    chk (catOk w247 (⟨#[32]⟩ ++ v252)) <|
    nextG (w247 ++ (⟨#[32]⟩ ++ v252), IntKind.i64.wrap (w248 + 1))
  else
    exitG <|
    nextG (w247, IntKind.i64.wrap (w234 + 1))
def ref26_Format_h25 (a0 : Casc) (w176 : Int) (v215 : CRow) (w234 : Int) (v244 : List Int) : ByteArray × Int → Fr
  | (w247, w248) => ⟨91, [(5, .one (.t none (.sc (.string w247)))), (41, .one (.t none (.sl a0.rows.length (a0.rows.flatMap fun x0 => [.sl x0.pre.length (x0.pre.map fun x1 => .sc (.int .i64 x1)), .sl x0.maps.length (x0.maps.map fun x1 => .sl x1.length (x1.map fun x2 => .sc (.int .i64 x2)))])))), (42, .one (.t none (.sc (.int .i64 (a0.rows.length : Int))))), (43, .one (.t none (.sc (.int .i64 w176)))), (63, .one (.t none (.sl v215.maps.length (v215.maps.map fun x0 => .sl x0.length (x0.map fun x1 => .sc (.int .i64 x1)))))), (64, .one (.t none (.sc (.int .i64 (v215.maps.length : Int))))), (65, .one (.t none (.sc (.int .i64 w234)))), (71, .one (.t none (.sl v244.length (v244.map fun x0 => .sc (.int .i64 x0))))), (72, .one (.t none (.sc (.int .i64 (v244.length : Int))))), (73, .one (.t none (.sc (.int .i64 w248))))], []⟩
def ref26_Format_b21 (w176 : Int) (v215 : CRow) : ByteArray × Int → Option ((ByteArray × Int) ⊕ ((ByteArray × Int) ⊕ (ByteArray × Int)))
  | (w233, w234) =>
  if w234 < (v215.maps.length : Int) then
    (atI v215.maps w234).bind fun v244 =>
    chk (catOk w233 ⟨#[32, 59]⟩) <|
    loopG (ref26_Format_b25 w234 v244) LFm (w233 ++ ⟨#[32, 59]⟩, 0)
  else
    exitG <|
    chk (catOk w233 ⟨#[10]⟩) <|
    if 1048576 < ((w233.size : Int) + 1) then
      exitG <|
      some (ByteArray.empty, 3)
    else
      nextG (w233 ++ ⟨#[10]⟩, IntKind.i64.wrap (w176 + 1))
def ref26_Format_h21 (a0 : Casc) (w176 : Int) (v215 : CRow) : ByteArray × Int → Fr
  | (w233, w234) => ⟨91, [(5, .one (.t none (.sc (.string w233)))), (41, .one (.t none (.sl a0.rows.length (a0.rows.flatMap fun x0 => [.sl x0.pre.length (x0.pre.map fun x1 => .sc (.int .i64 x1)), .sl x0.maps.length (x0.maps.map fun x1 => .sl x1.length (x1.map fun x2 => .sc (.int .i64 x2)))])))), (42, .one (.t none (.sc (.int .i64 (a0.rows.length : Int))))), (43, .one (.t none (.sc (.int .i64 w176)))), (63, .one (.t none (.sl v215.maps.length (v215.maps.map fun x0 => .sl x0.length (x0.map fun x1 => .sc (.int .i64 x1)))))), (64, .one (.t none (.sc (.int .i64 (v215.maps.length : Int))))), (65, .one (.t none (.sc (.int .i64 w234))))], []⟩
def ref26_Format_b16 (w176 : Int) (v215 : CRow) : ByteArray × Int → Option ((ByteArray × Int) ⊕ ((ByteArray × Int) ⊕ (ByteArray × Int)))
  | (w218, w219) =>
  if w219 < (v215.pre.length : Int) then
    (atI v215.pre w219).bind fun v222 =>
    (ref26_digits 12 v222).bind fun v223 =>
    chk (catOk ⟨#[32]⟩ v223) <|
    chk (catOk w218 (⟨#[32]⟩ ++ v223)) <|
    nextG (w218 ++ (⟨#[32]⟩ ++ v223), IntKind.i64.wrap (w219 + 1))
  else
    exitG <|
    loopG (ref26_Format_b21 w176 v215) LFm (w218, 0)
def ref26_Format_h16 (a0 : Casc) (w176 : Int) (v215 : CRow) : ByteArray × Int → Fr
  | (w218, w219) => ⟨91, [(5, .one (.t none (.sc (.string w218)))), (9, .one (.a 9 [] (0))), (41, .one (.t none (.sl a0.rows.length (a0.rows.flatMap fun x0 => [.sl x0.pre.length (x0.pre.map fun x1 => .sc (.int .i64 x1)), .sl x0.maps.length (x0.maps.map fun x1 => .sl x1.length (x1.map fun x2 => .sc (.int .i64 x2)))])))), (42, .one (.t none (.sc (.int .i64 (a0.rows.length : Int))))), (43, .one (.t none (.sc (.int .i64 w176)))), (50, .one (.t none (.sl v215.pre.length (v215.pre.map fun x0 => .sc (.int .i64 x0))))), (51, .one (.t none (.sc (.int .i64 (v215.pre.length : Int))))), (52, .one (.t none (.sc (.int .i64 w219))))], [(9, .vr [.sl v215.pre.length (v215.pre.map fun x0 => .sc (.int .i64 x0)), .sl v215.maps.length (v215.maps.map fun x0 => .sl x0.length (x0.map fun x1 => .sc (.int .i64 x1)))])]⟩
def ref26_Format_b12 (a0 : Casc) : ByteArray × Int → Option ((ByteArray × Int) ⊕ (ByteArray × Int))
  | (w175, w176) =>
  if w176 < (a0.rows.length : Int) then
    (atI a0.rows w176).bind fun v215 =>
    chk (catOk w175 ⟨#[114, 111, 119]⟩) <|
    loopG (ref26_Format_b16 w176 v215) LFm (w175 ++ ⟨#[114, 111, 119]⟩, 0)
  else
    exitG <|
    some (w175, 0)
def ref26_Format_h12 (a0 : Casc) : ByteArray × Int → Fr
  | (w175, w176) => ⟨91, [(5, .one (.t none (.sc (.string w175)))), (41, .one (.t none (.sl a0.rows.length (a0.rows.flatMap fun x0 => [.sl x0.pre.length (x0.pre.map fun x1 => .sc (.int .i64 x1)), .sl x0.maps.length (x0.maps.map fun x1 => .sl x1.length (x1.map fun x2 => .sc (.int .i64 x2)))])))), (42, .one (.t none (.sc (.int .i64 (a0.rows.length : Int))))), (43, .one (.t none (.sc (.int .i64 w176))))], []⟩
def ref26_Format_b6 (a0 : Casc) : ByteArray × Int → Option ((ByteArray × Int) ⊕ (ByteArray × Int))
  | (w131, w132) =>
  if w132 < (a0.sizes.length : Int) then
    (atI a0.sizes w132).bind fun v135 =>
    (ref26_digits 12 v135).bind fun v136 =>
    chk (catOk ⟨#[32]⟩ v136) <|
    chk (catOk w131 (⟨#[32]⟩ ++ v136)) <|
    nextG (w131 ++ (⟨#[32]⟩ ++ v136), IntKind.i64.wrap (w132 + 1))
  else
    exitG <|
    chk (catOk w131 ⟨#[10]⟩) <|
    loopG (ref26_Format_b12 a0) LFm (w131 ++ ⟨#[10]⟩, 0)
def ref26_Format_h6 (a0 : Casc) : ByteArray × Int → Fr
  | (w131, w132) => ⟨91, [(1, .one (.a 1 [] (0))), (5, .one (.t none (.sc (.string w131)))), (26, .one (.t none (.sl a0.sizes.length (a0.sizes.map fun x0 => .sc (.int .i64 x0))))), (27, .one (.t none (.sc (.int .i64 (a0.sizes.length : Int))))), (28, .one (.t none (.sc (.int .i64 w132))))], [(1, .vr [.sc (.int .i64 a0.letters), .sl a0.sizes.length (a0.sizes.map fun x0 => .sc (.int .i64 x0)), .sl a0.rows.length (a0.rows.flatMap fun x0 => [.sl x0.pre.length (x0.pre.map fun x1 => .sc (.int .i64 x1)), .sl x0.maps.length (x0.maps.map fun x1 => .sl x1.length (x1.map fun x2 => .sc (.int .i64 x2)))])])]⟩
def ref26_Format (a0 : Casc) : Option (ByteArray × Int) :=
  (ref26_Validate a0).bind fun v127 =>
  if v127 = 0 then
    (ref26_digits 12 a0.letters).bind fun v128 =>
    chk (catOk ⟨#[99, 97, 115, 99, 97, 100, 101, 32]⟩ v128) <|
    loopG (ref26_Format_b6 a0) LFm (⟨#[99, 97, 115, 99, 97, 100, 101, 32]⟩ ++ v128, 0)
  else
    some (ByteArray.empty, v127)
theorem ref26_Format_ok {a0 : Casc} {r : ByteArray × Int} (h0 : ref26_Format a0 = some r) : L 28 [.agg [.sc (.int .i64 a0.letters), .sl a0.sizes.length (a0.sizes.map fun x0 => .sc (.int .i64 x0)), .sl a0.rows.length (a0.rows.flatMap fun x0 => [.sl x0.pre.length (x0.pre.map fun x1 => .sc (.int .i64 x1)), .sl x0.maps.length (x0.maps.map fun x1 => .sl x1.length (x1.map fun x2 => .sc (.int .i64 x2)))])]] = some (.tup [.sc (.string r.1), .sc (.int .i64 r.2)], [.dead]) := by
  simp only [ref26_Format] at h0
  refine L_run cfn28 fn28 (runF_of bd28 ⟨of_decide_eq_true rfl, of_decide_eq_true rfl⟩ ?_)
  simp only [entryF, entryT, entryO, entryE, isIo]
  refine zq rfl (zr rfl rfl rfl (by simp; rfl) ?_)
  refine thenC_n (zq rfl (zq rfl ?_))
  obtain ⟨v127, f243, h1⟩ := bnd_some h0
  have f243k := ref26_Validate_ok f243
  try simp at f243k
  refine zr rfl rfl rfl (by simp [f243k]; rfl) ?_
  refine thenC_n (zq rfl (zr rfl rfl rfl (by simp; rfl) ?_))
  refine thenC_n ?_
  by_cases c244 : v127 = 0
  · rw [if_pos c244] at h1
    have c244e := eq_true c244
    refine q_ifF rfl (by simp [c244e]) (q_skip rfl (thenC_n (zq rfl ?_)))
    obtain ⟨v128, f245, h2⟩ := bnd_some h1
    have f245k := ref26_digits_ok f245
    try simp at f245k
    obtain ⟨f246, h3⟩ := chk_some h2
    refine zr rfl rfl rfl (by simp [f245k, f246]; rfl) ?_
    refine thenC_n (zq rfl (zq rfl (zr rfl rfl rfl (by simp; rfl) ?_)))
    refine thenC_n (zb rfl (q_loopG h3 (ref26_Format_h6 a0) rfl rfl (by simp [ref26_Format_h6]) fun s o1 h4 hr1 => ?_))
    obtain ⟨w131, w132⟩ := s
    simp only [ref26_Format_b6] at h4
    simp only [ref26_Format_h6]
    refine zq rfl (zr rfl rfl rfl (by simp; rfl) ?_)
    refine thenC_n (zq rfl ?_)
    by_cases c257 : w132 < (a0.sizes.length : Int)
    · rw [if_pos c257] at h4
      refine q_ifT rfl (by simp [c257]) (q_skip rfl (thenC_n (zq rfl (zb rfl (zq rfl ?_)))))
      obtain ⟨v135, f258, h5⟩ := bnd_some h4
      obtain ⟨f258a, f258b, f258c, f258d, f258e⟩ := atI_some f258
      refine zr rfl rfl rfl (by simp [f258a, f258b, f258c, f258d, f258e]; rfl) ?_
      refine thenC_n ?_
      obtain ⟨v136, f259, h6⟩ := bnd_some h5
      have f259k := ref26_digits_ok f259
      try simp at f259k
      obtain ⟨f260, h7⟩ := chk_some h6
      obtain ⟨f261, h8⟩ := chk_some h7
      refine zr rfl rfl rfl (by simp [f259k, f260, f261]; rfl) ?_
      refine blockC_n (thenC_n (zr rfl rfl rfl (by simp; rfl) ?_))
      have ho := next_some h8
      refine roundC_n ho ?_
      simp [ref26_Format_h6]
    · rw [if_neg c257] at h4
      refine q_ifF rfl (by simp [c257]) (q_exit rfl (thenC_x ?_))
      obtain ⟨rr1, h5, ho1⟩ := exit_some h4
      have hs1 := hr1 _ ho1
      subst hs1
      refine roundC_x ho1 (blockC_hit2 rfl (thenC_n (zq rfl ?_)))
      obtain ⟨f262, h6⟩ := chk_some h5
      refine zr rfl rfl rfl (by simp [f262]; rfl) ?_
      refine thenC_n (zq rfl (zq rfl (zr rfl rfl rfl (by simp; rfl) ?_)))
      refine thenC_n (zb rfl (q_loopG h6 (ref26_Format_h12 a0) rfl rfl (by simp [ref26_Format_h12]) fun s o2 h7 hr2 => ?_))
      obtain ⟨w175, w176⟩ := s
      simp only [ref26_Format_b12] at h7
      simp only [ref26_Format_h12]
      refine zq rfl (zr rfl rfl rfl (by simp; rfl) ?_)
      refine thenC_n (zq rfl ?_)
      by_cases c411 : w176 < (a0.rows.length : Int)
      · rw [if_pos c411] at h7
        refine q_ifT rfl (by simp [c411]) (q_skip rfl (thenC_n (zq rfl (zb rfl (zq rfl ?_)))))
        obtain ⟨v215, f412, h8⟩ := bnd_some h7
        obtain ⟨f412a, f412b, f412c, f412d, f412e⟩ := atI_some f412
        have f412g := flat_some (g := fun x : CRow => ([.sl x.pre.length (x.pre.map fun x0 => .sc (.int .i64 x0)), .sl x.maps.length (x.maps.map fun x0 => .sl x0.length (x0.map fun x1 => .sc (.int .i64 x1)))] : List T)) (m := 2) (fun _ => rfl) f412d
        have f412h := flat_len (g := fun x : CRow => ([.sl x.pre.length (x.pre.map fun x0 => .sc (.int .i64 x0)), .sl x.maps.length (x.maps.map fun x0 => .sl x0.length (x0.map fun x1 => .sc (.int .i64 x1)))] : List T)) (m := 2) (fun _ => rfl) a0.rows
        have f412k0 := f412g.2.2.1 0 (by decide)
        have f412m0 := f412g.2.2.2 0 _ rfl
        have f412k1 := f412g.2.2.1 1 (by decide)
        have f412m1 := f412g.2.2.2 1 _ rfl
        obtain ⟨f412g, f412i, -⟩ := f412g
        try simp at f412i f412h f412k0 f412m0 f412k1 f412m1
        refine zr rfl rfl rfl (by simp [f412a, f412b, f412c, f412d, f412e, f412g, f412i, f412h, f412k0, f412k1, f412m0, f412m1]; rfl) ?_
        refine thenC_n (zq rfl ?_)
        obtain ⟨f413, h9⟩ := chk_some h8
        refine zr rfl rfl rfl (by simp [f413]; rfl) ?_
        refine thenC_n (zq rfl (zq rfl (zr rfl rfl rfl (by simp; rfl) ?_)))
        refine thenC_n (zb rfl (q_loopG h9 (ref26_Format_h16 a0 w176 v215) rfl rfl (by simp [ref26_Format_h16]) fun s o3 h10 hr3 => ?_))
        obtain ⟨w218, w219⟩ := s
        simp only [ref26_Format_b16] at h10
        simp only [ref26_Format_h16]
        refine zq rfl (zr rfl rfl rfl (by simp; rfl) ?_)
        refine thenC_n (zq rfl ?_)
        by_cases c424 : w219 < (v215.pre.length : Int)
        · rw [if_pos c424] at h10
          refine q_ifT rfl (by simp [c424]) (q_skip rfl (thenC_n (zq rfl (zb rfl (zq rfl ?_)))))
          obtain ⟨v222, f425, h11⟩ := bnd_some h10
          obtain ⟨f425a, f425b, f425c, f425d, f425e⟩ := atI_some f425
          refine zr rfl rfl rfl (by simp [f425a, f425b, f425c, f425d, f425e]; rfl) ?_
          refine thenC_n ?_
          obtain ⟨v223, f426, h12⟩ := bnd_some h11
          have f426k := ref26_digits_ok f426
          try simp at f426k
          obtain ⟨f427, h13⟩ := chk_some h12
          obtain ⟨f428, h14⟩ := chk_some h13
          refine zr rfl rfl rfl (by simp [f426k, f427, f428]; rfl) ?_
          refine blockC_n (thenC_n (zr rfl rfl rfl (by simp; rfl) ?_))
          have ho := next_some h14
          refine roundC_n ho ?_
          simp [ref26_Format_h16]
        · rw [if_neg c424] at h10
          refine q_ifF rfl (by simp [c424]) (q_exit rfl (thenC_x ?_))
          obtain ⟨rr3, h11, ho3⟩ := exit_some h10
          have hs3 := hr3 _ ho3
          subst hs3
          refine roundC_x ho3 (blockC_hit2 rfl (thenC_n (zq rfl (zq rfl (zr rfl rfl rfl (by simp; rfl) ?_)))))
          refine thenC_n (zb rfl (q_loopG h11 (ref26_Format_h21 a0 w176 v215) rfl rfl (by simp [ref26_Format_h21]) fun s o4 h12 hr4 => ?_))
          obtain ⟨w233, w234⟩ := s
          simp only [ref26_Format_b21] at h12
          simp only [ref26_Format_h21]
          refine zq rfl (zr rfl rfl rfl (by simp; rfl) ?_)
          refine thenC_n (zq rfl ?_)
          by_cases c465 : w234 < (v215.maps.length : Int)
          · rw [if_pos c465] at h12
            refine q_ifT rfl (by simp [c465]) (q_skip rfl (thenC_n (zq rfl (zb rfl (zq rfl ?_)))))
            obtain ⟨v244, f466, h13⟩ := bnd_some h12
            obtain ⟨f466a, f466b, f466c, f466d, f466e⟩ := atI_some f466
            refine zr rfl rfl rfl (by simp [f466a, f466b, f466c, f466d, f466e]; rfl) ?_
            refine thenC_n (zq rfl ?_)
            obtain ⟨f467, h14⟩ := chk_some h13
            refine zr rfl rfl rfl (by simp [f467]; rfl) ?_
            refine thenC_n (zq rfl (zr rfl rfl rfl (by simp; rfl) ?_))
            refine thenC_n (zb rfl (q_loopG h14 (ref26_Format_h25 a0 w176 v215 w234 v244) rfl rfl (by simp [ref26_Format_h25]) fun s o5 h15 hr5 => ?_))
            obtain ⟨w247, w248⟩ := s
            simp only [ref26_Format_b25] at h15
            simp only [ref26_Format_h25]
            refine zq rfl (zr rfl rfl rfl (by simp; rfl) ?_)
            refine thenC_n (zq rfl ?_)
            by_cases c478 : w248 < (v244.length : Int)
            · rw [if_pos c478] at h15
              refine q_ifT rfl (by simp [c478]) (q_skip rfl (thenC_n (zq rfl (zb rfl (zq rfl ?_)))))
              obtain ⟨v251, f479, h16⟩ := bnd_some h15
              obtain ⟨f479a, f479b, f479c, f479d, f479e⟩ := atI_some f479
              refine zr rfl rfl rfl (by simp [f479a, f479b, f479c, f479d, f479e]; rfl) ?_
              refine thenC_n ?_
              obtain ⟨v252, f480, h17⟩ := bnd_some h16
              have f480k := ref26_digits_ok f480
              try simp at f480k
              obtain ⟨f481, h18⟩ := chk_some h17
              obtain ⟨f482, h19⟩ := chk_some h18
              refine zr rfl rfl rfl (by simp [f480k, f481, f482]; rfl) ?_
              refine blockC_n (thenC_n (zr rfl rfl rfl (by simp; rfl) ?_))
              have ho := next_some h19
              refine roundC_n ho ?_
              simp [ref26_Format_h25]
            · rw [if_neg c478] at h15
              refine q_ifF rfl (by simp [c478]) (q_exit rfl (thenC_x ?_))
              obtain ⟨rr5, h16, ho5⟩ := exit_some h15
              have hs5 := hr5 _ ho5
              subst hs5
              refine roundC_x ho5 (blockC_hit2 rfl (blockC_n (thenC_n (zr rfl rfl rfl (by simp; rfl) ?_))))
              have ho := next_some h16
              refine roundC_n ho ?_
              simp [ref26_Format_h21]
          · rw [if_neg c465] at h12
            refine q_ifF rfl (by simp [c465]) (q_exit rfl (thenC_x ?_))
            obtain ⟨rr4, h13, ho4⟩ := exit_some h12
            have hs4 := hr4 _ ho4
            subst hs4
            refine roundC_x ho4 (blockC_hit2 rfl (thenC_n (zq rfl ?_)))
            obtain ⟨f483, h14⟩ := chk_some h13
            refine zr rfl rfl rfl (by simp [f483]; rfl) ?_
            refine thenC_n (zq rfl (zr rfl rfl rfl (by simp; rfl) ?_))
            refine thenC_n ?_
            by_cases c484 : 1048576 < ((w233.size : Int) + 1)
            · rw [if_pos c484] at h14
              refine q_ifT rfl (by simp [c484]) (zq rfl (zr rfl rfl rfl (by simp; rfl) ?_))
              refine thenC_n (q_ret rfl (blockC_r (thenC_r ?_)))
              obtain ⟨rr2, h15, ho2⟩ := exit_some h14
              have hs2 := hr2 _ ho2
              subst hs2
              refine roundC_r ho2 (blockC_r (thenC_r ?_))
              cases h15
              simp
            · rw [if_neg c484] at h14
              refine q_ifF rfl (by simp [c484]) (q_skip rfl (blockC_n (thenC_n (zr rfl rfl rfl (by simp; rfl) ?_))))
              have ho := next_some h14
              refine roundC_n ho ?_
              simp [ref26_Format_h12]
      · rw [if_neg c411] at h7
        refine q_ifF rfl (by simp [c411]) (q_exit rfl (thenC_x ?_))
        obtain ⟨rr2, h8, ho2⟩ := exit_some h7
        have hs2 := hr2 _ ho2
        subst hs2
        refine roundC_x ho2 (blockC_hit2 rfl (thenC_n (zq rfl (zr rfl rfl rfl (by simp; rfl) ?_))))
        refine thenC_n (q_ret rfl ?_)
        cases h8
        simp
  · rw [if_neg c244] at h1
    have c244e := eq_false c244
    refine q_ifT rfl (by simp [c244e]) (zq rfl (zr rfl rfl rfl (by simp; rfl) ?_))
    refine thenC_n (q_ret rfl (thenC_r ?_))
    cases h1
    simp

-- semigroup/semigroupref01.MayLetters
def ref01_MayLetters (a0 : Int) : Option (Bool) :=
  if 1 ≤ a0 then
    some (decide (a0 ≤ 6))
  else
    some false
theorem ref01_MayLetters_ok {a0 : Int} {r : Bool} (h0 : ref01_MayLetters a0 = some r) : L 75 [.sc (.int .i64 a0)] = some (.sc (.bool r), [.dead]) := by
  simp only [ref01_MayLetters] at h0
  refine L_run cfn75 fn75 (runF_of bd75 ⟨of_decide_eq_true rfl, of_decide_eq_true rfl⟩ ?_)
  simp only [entryF, entryT, entryO, entryE, isIo]
  refine zq rfl (zr rfl rfl rfl (by simp; rfl) ?_)
  refine thenC_n (zq rfl ?_)
  by_cases c2 : 1 ≤ a0
  · rw [if_pos c2] at h0
    refine zr rfl rfl rfl (by simp [c2]; rfl) ?_
    refine thenC_n (q_ret rfl ?_)
    cases h0
    simp
  · rw [if_neg c2] at h0
    refine zr rfl rfl rfl (by simp [c2]; rfl) ?_
    refine thenC_n (q_ret rfl ?_)
    cases h0
    simp

-- semigroup/semigroupref01.Valid
def ref01_Valid_b4 (a0 : ByteArray) (a1 : Int) : Int → Option (Int ⊕ Bool)
  | w12 =>
  if w12 < (a0.size : Int) then
    (byteI a0 w12).bind fun v15 =>
    if v15 < 97 then
      exitG <|
      some false
    else
      if a1 ≤ (IntKind.i64.wrap (IntKind.u8.wrap (v15 - 97))) then
        exitG <|
        some false
      else
        nextG (IntKind.i64.wrap (w12 + 1))
  else
    exitG <|
    some true
def ref01_Valid_h4 (a0 : ByteArray) (a1 : Int) : Int → Fr
  | w12 => ⟨33, [(0, .one (.t none (.sc (.string a0)))), (1, .one (.t none (.sc (.int .i64 a1)))), (5, .one (.t none (.sc (.int .i64 w12))))], []⟩
def ref01_Valid (a0 : ByteArray) (a1 : Int) : Option (Bool) :=
  (ref01_MayLetters a1).bind fun v9 =>
  if v9 = true then
    if 2048 < (a0.size : Int) then
      some false
    else
      loopG (ref01_Valid_b4 a0 a1) LFm 0
  else
    some false
theorem ref01_Valid_ok {a0 : ByteArray} {a1 : Int} {r : Bool} (h0 : ref01_Valid a0 a1 = some r) : L 66 [.sc (.string a0), .sc (.int .i64 a1)] = some (.sc (.bool r), [.dead, .dead]) := by
  simp only [ref01_Valid] at h0
  refine L_run cfn66 fn66 (runF_of bd66 ⟨of_decide_eq_true rfl, of_decide_eq_true rfl⟩ ?_)
  simp only [entryF, entryT, entryO, entryE, isIo]
  refine zq rfl (zr rfl rfl rfl (by simp; rfl) ?_)
  refine thenC_n (zq rfl (zq rfl ?_))
  obtain ⟨v9, f16, h1⟩ := bnd_some h0
  have f16k := ref01_MayLetters_ok f16
  try simp at f16k
  by_cases c17 : v9 = true
  · rw [if_pos c17] at h1
    refine zr rfl rfl rfl (by simp [f16k, c17]; rfl) ?_
    refine thenC_n ?_
    by_cases c18 : 2048 < (a0.size : Int)
    · rw [if_pos c18] at h1
      refine q_ifT rfl (by simp [c18]) (zq rfl (zr rfl rfl rfl (by simp; rfl) ?_))
      refine thenC_n (q_ret rfl (thenC_r ?_))
      cases h1
      simp [c17]
    · rw [if_neg c18] at h1
      refine q_ifF rfl (by simp [c18]) (q_skip rfl (thenC_n (zq rfl (zq rfl (zr rfl rfl rfl (by simp; rfl) ?_)))))
      refine thenC_n (zb rfl (q_loopG h1 (ref01_Valid_h4 a0 a1) rfl rfl (by simp [ref01_Valid_h4]) fun s o1 h2 hr1 => ?_))
      obtain ⟨w12, hs1⟩ : ∃ y, y = s := ⟨_, rfl⟩
      subst hs1
      simp only [ref01_Valid_b4] at h2
      simp only [ref01_Valid_h4]
      refine zq rfl (zq rfl (zr rfl rfl rfl (by simp; rfl) ?_))
      refine thenC_n ?_
      by_cases c27 : w12 < (a0.size : Int)
      · rw [if_pos c27] at h2
        refine q_ifT rfl (by simp [c27]) (q_skip rfl (thenC_n (zq rfl (zb rfl (zq rfl ?_)))))
        obtain ⟨v15, f28, h3⟩ := bnd_some h2
        obtain ⟨f28a, f28b, f28w, f28c, f28d, f28g⟩ := byteI_some f28
        have f28d := f28d.symm
        by_cases c29 : v15 < 97
        · rw [if_pos c29] at h3
          refine zr rfl rfl rfl (by simp [f28a, f28b, f28c, f28d, f28g, c29]; rfl) ?_
          refine thenC_n (q_ifT rfl (by simp) (zq rfl (zr rfl rfl rfl (by simp; rfl) ?_)))
          refine thenC_n (q_ret rfl (blockC_r (thenC_r ?_)))
          obtain ⟨rr1, h4, ho1⟩ := exit_some h3
          have hs1 := hr1 _ ho1
          subst hs1
          refine roundC_r ho1 (blockC_r (thenC_r ?_))
          cases h4
          simp
        · rw [if_neg c29] at h3
          refine zr rfl rfl rfl (by simp [f28a, f28b, f28c, f28d, f28g, c29]; rfl) ?_
          refine thenC_n ?_
          by_cases c30 : a1 ≤ (IntKind.i64.wrap (IntKind.u8.wrap (v15 - 97)))
          · rw [if_pos c30] at h3
            refine q_ifT rfl (by simp [c30]) (zq rfl (zr rfl rfl rfl (by simp; rfl) ?_))
            refine thenC_n (q_ret rfl (blockC_r (thenC_r ?_)))
            obtain ⟨rr1, h4, ho1⟩ := exit_some h3
            have hs1 := hr1 _ ho1
            subst hs1
            refine roundC_r ho1 (blockC_r (thenC_r ?_))
            cases h4
            simp
          · rw [if_neg c30] at h3
            refine q_ifF rfl (by simp [c30]) (q_skip rfl (blockC_n (thenC_n (zr rfl rfl rfl (by simp; rfl) ?_))))
            have ho := next_some h3
            refine roundC_n ho ?_
            simp [ref01_Valid_h4]
      · rw [if_neg c27] at h2
        refine q_ifF rfl (by simp [c27]) (q_exit rfl (thenC_x ?_))
        obtain ⟨rr1, h3, ho1⟩ := exit_some h2
        have hs1 := hr1 _ ho1
        subst hs1
        refine roundC_x ho1 (blockC_hit2 rfl (thenC_n (zq rfl (zr rfl rfl rfl (by simp; rfl) ?_))))
        refine thenC_n (q_ret rfl ?_)
        cases h3
        simp
  · rw [if_neg c17] at h1
    refine zr rfl rfl rfl (by simp [f16k, c17]; rfl) ?_
    refine thenC_n (q_ifT rfl (by simp) (zq rfl (zr rfl rfl rfl (by simp; rfl) ?_)))
    refine thenC_n (q_ret rfl (thenC_r ?_))
    cases h1
    simp [c17]
end Go.Proofs.YthalofddjlhcjaaDoor
end
section
/- Functions by value: program. -/
namespace Go.Proofs.YthalofddjlhcjaaDoor
open Go
set_option maxRecDepth 100000
set_option maxHeartbeats 1000000
set_option linter.unusedVariables false
set_option linter.unusedSimpArgs false



-- semigroup/cascade.parseNumber
def cascade_parseNumber_b5 (a0 : ByteArray) : Int × Int → Option ((Int × Int) ⊕ (Int × Bool))
  | (w28, w29) =>
  if w29 < (a0.size : Int) then
    (byteI a0 w29).bind fun v33 =>
    if v33 < 48 then
      exitG <|
      some (0, false)
    else
      if 57 < v33 then
        exitG <|
        some (0, false)
      else
        nextG (IntKind.i64.wrap ((IntKind.i64.wrap (10 * w28)) + (IntKind.i64.wrap (IntKind.u8.wrap (v33 - 48)))), IntKind.i64.wrap (w29 + 1))
  else
    exitG <|
    some (w28, decide (w28 ≤ 1000000000))
def cascade_parseNumber_h5 (a0 : ByteArray) : Int × Int → Fr
  | (w28, w29) => ⟨50, [(0, .one (.t none (.sc (.string a0)))), (4, .one (.t none (.sc (.int .i64 w28)))), (24, .one (.t none (.sc (.int .i64 (a0.size : Int))))), (25, .one (.t none (.sc (.int .i64 w29))))], []⟩
def cascade_parseNumber_b5a (a0 : ByteArray) : Int × Int → Option ((Int × Int) ⊕ (Int × Bool))
  | (w39, w40) =>
  if w40 < (a0.size : Int) then
    (byteI a0 w40).bind fun v44 =>
    if v44 < 48 then
      exitG <|
      some (0, false)
    else
      if 57 < v44 then
        exitG <|
        some (0, false)
      else
        nextG (IntKind.i64.wrap ((IntKind.i64.wrap (10 * w39)) + (IntKind.i64.wrap (IntKind.u8.wrap (v44 - 48)))), IntKind.i64.wrap (w40 + 1))
  else
    exitG <|
    some (w39, decide (w39 ≤ 1000000000))
def cascade_parseNumber_h5a (a0 : ByteArray) : Int × Int → Fr
  | (w39, w40) => ⟨50, [(0, .one (.t none (.sc (.string a0)))), (4, .one (.t none (.sc (.int .i64 w39)))), (24, .one (.t none (.sc (.int .i64 (a0.size : Int))))), (25, .one (.t none (.sc (.int .i64 w40))))], []⟩
def cascade_parseNumber (a0 : ByteArray) : Option (Int × Bool) :=
  if a0 = ByteArray.empty then
    some (0, false)
  else
    if 10 < (a0.size : Int) then
      some (0, false)
    else
      (byteI a0 0).bind fun v24 =>
      if v24 = 48 then
        if 1 < (a0.size : Int) then
          some (0, false)
        else
          loopG (cascade_parseNumber_b5 a0) LFm (0, 0)
      else
        loopG (cascade_parseNumber_b5a a0) LFm (0, 0)
theorem cascade_parseNumber_ok {a0 : ByteArray} {r : Int × Bool} (h0 : cascade_parseNumber a0 = some r) : L 69 [.sc (.string a0)] = some (.tup [.sc (.int .i64 r.1), .sc (.bool r.2)], [.dead]) := by
  simp only [cascade_parseNumber] at h0
  refine L_run cfn69 fn69 (runF_of bd69 ⟨of_decide_eq_true rfl, of_decide_eq_true rfl⟩ ?_)
  simp only [entryF, entryT, entryO, entryE, isIo]
  refine zq rfl (zr rfl rfl rfl (by simp; rfl) ?_)
  refine thenC_n (zq rfl (zq rfl ?_))
  by_cases c30 : a0 = ByteArray.empty
  · rw [if_pos c30] at h0
    have c30e := eq_true c30
    refine zr rfl rfl rfl (by simp [c30e]; rfl) ?_
    refine thenC_n (q_ifT rfl (by simp) (zq rfl (zr rfl rfl rfl (by simp; rfl) ?_)))
    refine thenC_n (q_ret rfl (thenC_r ?_))
    cases h0
    simp
  · rw [if_neg c30] at h0
    have c30e := eq_false c30
    by_cases c31 : 10 < (a0.size : Int)
    · rw [if_pos c31] at h0
      refine zr rfl rfl rfl (by simp [c30e, c31]; rfl) ?_
      refine thenC_n (q_ifT rfl (by simp) (zq rfl (zr rfl rfl rfl (by simp; rfl) ?_)))
      refine thenC_n (q_ret rfl (thenC_r ?_))
      cases h0
      simp
    · rw [if_neg c31] at h0
      obtain ⟨v24, f32, h1⟩ := bnd_some h0
      obtain ⟨f32a, f32b, f32w, f32c, f32d, f32g⟩ := byteI_some f32
      have f32d := f32d.symm
      have f32g := f32g (by omega)
      simp only [Int.reduceToNat] at f32g
      simp only [Int.reduceToNat, Int.toNat_natCast] at f32c
      have f32e := f32b
      try simp at f32e
      by_cases c33 : v24 = 48
      · rw [if_pos c33] at h1
        have c33e := eq_true c33
        refine zr rfl rfl rfl (by simp [c30e, c31, f32a, f32b, f32c, f32d, f32g, f32e, c33e]; rfl) ?_
        refine thenC_n ?_
        by_cases c34 : 1 < (a0.size : Int)
        · rw [if_pos c34] at h1
          refine q_ifT rfl (by simp [c34]) (zq rfl (zr rfl rfl rfl (by simp; rfl) ?_))
          refine thenC_n (q_ret rfl (thenC_r ?_))
          cases h1
          simp
        · rw [if_neg c34] at h1
          refine q_ifF rfl (by simp [c34]) (q_skip rfl (thenC_n (zq rfl (zr rfl rfl rfl (by simp; rfl) ?_))))
          refine thenC_n (zq rfl (zq rfl (zr rfl rfl rfl (by simp; rfl) ?_)))
          refine thenC_n (zb rfl (q_loopG h1 (cascade_parseNumber_h5 a0) rfl rfl (by simp [cascade_parseNumber_h5]) fun s o1 h2 hr1 => ?_))
          obtain ⟨w28, w29⟩ := s
          simp only [cascade_parseNumber_b5] at h2
          simp only [cascade_parseNumber_h5]
          refine zq rfl (zr rfl rfl rfl (by simp; rfl) ?_)
          refine thenC_n (zq rfl ?_)
          by_cases c43 : w29 < (a0.size : Int)
          · rw [if_pos c43] at h2
            refine q_ifT rfl (by simp [c43]) (q_skip rfl (thenC_n (zq rfl (zb rfl (zq rfl (zr rfl rfl rfl (by simp; rfl) ?_))))))
            refine thenC_n (zq rfl (zq rfl ?_))
            obtain ⟨v33, f44, h3⟩ := bnd_some h2
            obtain ⟨f44a, f44b, f44w, f44c, f44d, f44g⟩ := byteI_some f44
            have f44d := f44d.symm
            by_cases c45 : v33 < 48
            · rw [if_pos c45] at h3
              refine zr rfl rfl rfl (by simp [f44a, f44b, f44c, f44d, f44g, c45]; rfl) ?_
              refine thenC_n (q_ifT rfl (by simp) (zq rfl (zr rfl rfl rfl (by simp; rfl) ?_)))
              refine thenC_n (q_ret rfl (thenC_r (blockC_r (thenC_r ?_))))
              obtain ⟨rr1, h4, ho1⟩ := exit_some h3
              have hs1 := hr1 _ ho1
              subst hs1
              refine roundC_r ho1 (blockC_r (thenC_r ?_))
              cases h4
              simp
            · rw [if_neg c45] at h3
              refine zr rfl rfl rfl (by simp [f44a, f44b, f44c, f44d, f44g, c45]; rfl) ?_
              refine thenC_n ?_
              by_cases c46 : 57 < v33
              · rw [if_pos c46] at h3
                refine q_ifT rfl (by simp [c46]) (zq rfl (zr rfl rfl rfl (by simp; rfl) ?_))
                refine thenC_n (q_ret rfl (thenC_r (blockC_r (thenC_r ?_))))
                obtain ⟨rr1, h4, ho1⟩ := exit_some h3
                have hs1 := hr1 _ ho1
                subst hs1
                refine roundC_r ho1 (blockC_r (thenC_r ?_))
                cases h4
                simp
              · rw [if_neg c46] at h3
                refine q_ifF rfl (by simp [c46]) (q_skip rfl (thenC_n (zr rfl rfl rfl (by simp [f44a, f44b, f44c, f44d, f44g]; rfl) ?_)))
                refine blockC_n (thenC_n (zr rfl rfl rfl (by simp; rfl) ?_))
                have ho := next_some h3
                refine roundC_n ho ?_
                simp [cascade_parseNumber_h5]
          · rw [if_neg c43] at h2
            refine q_ifF rfl (by simp [c43]) (q_exit rfl (thenC_x ?_))
            obtain ⟨rr1, h3, ho1⟩ := exit_some h2
            have hs1 := hr1 _ ho1
            subst hs1
            refine roundC_x ho1 (blockC_hit2 rfl (thenC_n (zq rfl (zr rfl rfl rfl (by simp; rfl) ?_))))
            refine thenC_n (q_ret rfl ?_)
            cases h3
            simp
      · rw [if_neg c33] at h1
        have c33e := eq_false c33
        refine zr rfl rfl rfl (by simp [c30e, c31, f32a, f32b, f32c, f32d, f32g, f32e, c33e]; rfl) ?_
        refine thenC_n (q_ifF rfl (by simp) (q_skip rfl (thenC_n (zq rfl (zr rfl rfl rfl (by simp; rfl) ?_)))))
        refine thenC_n (zq rfl (zq rfl (zr rfl rfl rfl (by simp; rfl) ?_)))
        refine thenC_n (zb rfl (q_loopG h1 (cascade_parseNumber_h5a a0) rfl rfl (by simp [cascade_parseNumber_h5a]) fun s o2 h2 hr2 => ?_))
        obtain ⟨w39, w40⟩ := s
        simp only [cascade_parseNumber_b5a] at h2
        simp only [cascade_parseNumber_h5a]
        refine zq rfl (zr rfl rfl rfl (by simp; rfl) ?_)
        refine thenC_n (zq rfl ?_)
        by_cases c55 : w40 < (a0.size : Int)
        · rw [if_pos c55] at h2
          refine q_ifT rfl (by simp [c55]) (q_skip rfl (thenC_n (zq rfl (zb rfl (zq rfl (zr rfl rfl rfl (by simp; rfl) ?_))))))
          refine thenC_n (zq rfl (zq rfl ?_))
          obtain ⟨v44, f56, h3⟩ := bnd_some h2
          obtain ⟨f56a, f56b, f56w, f56c, f56d, f56g⟩ := byteI_some f56
          have f56d := f56d.symm
          by_cases c57 : v44 < 48
          · rw [if_pos c57] at h3
            refine zr rfl rfl rfl (by simp [f56a, f56b, f56c, f56d, f56g, c57]; rfl) ?_
            refine thenC_n (q_ifT rfl (by simp) (zq rfl (zr rfl rfl rfl (by simp; rfl) ?_)))
            refine thenC_n (q_ret rfl (thenC_r (blockC_r (thenC_r ?_))))
            obtain ⟨rr2, h4, ho2⟩ := exit_some h3
            have hs2 := hr2 _ ho2
            subst hs2
            refine roundC_r ho2 (blockC_r (thenC_r ?_))
            cases h4
            simp
          · rw [if_neg c57] at h3
            refine zr rfl rfl rfl (by simp [f56a, f56b, f56c, f56d, f56g, c57]; rfl) ?_
            refine thenC_n ?_
            by_cases c58 : 57 < v44
            · rw [if_pos c58] at h3
              refine q_ifT rfl (by simp [c58]) (zq rfl (zr rfl rfl rfl (by simp; rfl) ?_))
              refine thenC_n (q_ret rfl (thenC_r (blockC_r (thenC_r ?_))))
              obtain ⟨rr2, h4, ho2⟩ := exit_some h3
              have hs2 := hr2 _ ho2
              subst hs2
              refine roundC_r ho2 (blockC_r (thenC_r ?_))
              cases h4
              simp
            · rw [if_neg c58] at h3
              refine q_ifF rfl (by simp [c58]) (q_skip rfl (thenC_n (zr rfl rfl rfl (by simp [f56a, f56b, f56c, f56d, f56g]; rfl) ?_)))
              refine blockC_n (thenC_n (zr rfl rfl rfl (by simp; rfl) ?_))
              have ho := next_some h3
              refine roundC_n ho ?_
              simp [cascade_parseNumber_h5a]
        · rw [if_neg c55] at h2
          refine q_ifF rfl (by simp [c55]) (q_exit rfl (thenC_x ?_))
          obtain ⟨rr2, h3, ho2⟩ := exit_some h2
          have hs2 := hr2 _ ho2
          subst hs2
          refine roundC_x ho2 (blockC_hit2 rfl (thenC_n (zq rfl (zr rfl rfl rfl (by simp; rfl) ?_))))
          refine thenC_n (q_ret rfl ?_)
          cases h3
          simp

-- semigroup/cascade.parseNumbers
def cascade_parseNumbers_b3 (a0 : List ByteArray) : Int × List Int → Option ((Int × List Int) ⊕ (List Int × Bool))
  | (w11, w12) =>
  if w11 < (a0.length : Int) then
    (atI a0 w11).bind fun v15 =>
    (cascade_parseNumber v15).bind fun v16 =>
    if v16.2 = true then
      chk (capOk 8 (w12.length + 1)) <|
      nextG (IntKind.i64.wrap (w11 + 1), w12 ++ [v16.1])
    else
      exitG <|
      some ([], false)
  else
    exitG <|
    some (w12, true)
def cascade_parseNumbers_h3 (a0 : List ByteArray) : Int × List Int → Fr
  | (w11, w12) => ⟨28, [(4, .one (.h 4 [])), (9, .one (.t none (.sl a0.length (a0.map fun x0 => .sc (.string x0))))), (10, .one (.t none (.sc (.int .i64 (a0.length : Int))))), (11, .one (.t none (.sc (.int .i64 w11))))], [(4, .os 1 w12.length (w12.map fun x0 => .sc (.int .i64 x0)))]⟩
def cascade_parseNumbers (a0 : List ByteArray) : Option (List Int × Bool) :=
  loopG (cascade_parseNumbers_b3 a0) LFm (0, [])
theorem cascade_parseNumbers_ok {a0 : List ByteArray} {r : List Int × Bool} (h0 : cascade_parseNumbers a0 = some r) : L 51 [.sl a0.length (a0.map fun x0 => .sc (.string x0))] = some (.tup [.os 1 r.1.length (r.1.map fun x0 => .sc (.int .i64 x0)), .sc (.bool r.2)], [.dead]) := by
  simp only [cascade_parseNumbers] at h0
  refine L_run cfn51 fn51 (runF_of bd51 ⟨of_decide_eq_true rfl, of_decide_eq_true rfl⟩ ?_)
  simp only [entryF, entryT, entryO, entryE, isIo]
  refine zq rfl (zr rfl rfl rfl (by simp; rfl) ?_)
  refine thenC_n (zq rfl (zr rfl rfl rfl (by simp; rfl) ?_))
  refine thenC_n (zq rfl (zq rfl (zr rfl rfl rfl (by simp; rfl) ?_)))
  refine thenC_n (zb rfl (q_loopG h0 (cascade_parseNumbers_h3 a0) rfl rfl (by simp [cascade_parseNumbers_h3]) fun s o1 h1 hr1 => ?_))
  obtain ⟨w11, w12⟩ := s
  simp only [cascade_parseNumbers_b3] at h1
  simp only [cascade_parseNumbers_h3]
  refine zq rfl (zr rfl rfl rfl (by simp; rfl) ?_)
  refine thenC_n (zq rfl ?_)
  by_cases c24 : w11 < (a0.length : Int)
  · rw [if_pos c24] at h1
    refine q_ifT rfl (by simp [c24]) (q_skip rfl (thenC_n (zq rfl (zb rfl (zq rfl ?_)))))
    obtain ⟨v15, f25, h2⟩ := bnd_some h1
    obtain ⟨f25a, f25b, f25c, f25d, f25e⟩ := atI_some f25
    refine zr rfl rfl rfl (by simp [f25a, f25b, f25c, f25d, f25e]; rfl) ?_
    refine thenC_n (zq rfl ?_)
    obtain ⟨v16, f26, h3⟩ := bnd_some h2
    have f26k := cascade_parseNumber_ok f26
    try simp at f26k
    refine zr rfl rfl rfl (by simp [f26k]; rfl) ?_
    refine thenC_n (zq rfl (zq rfl (zr rfl rfl rfl (by simp; rfl) ?_)))
    refine thenC_n ?_
    by_cases c27 : v16.2 = true
    · rw [if_pos c27] at h3
      refine q_ifF rfl (by simp [c27]) (q_skip rfl (thenC_n ?_))
      obtain ⟨f28, h4⟩ := chk_some h3
      obtain ⟨f28a, f28b⟩ := f28
      refine zr rfl rfl rfl (by simp [f28a, f28b]; rfl) ?_
      refine blockC_n (thenC_n (zr rfl rfl rfl (by simp; rfl) ?_))
      have ho := next_some h4
      refine roundC_n ho ?_
      simp [cascade_parseNumbers_h3, c27]
    · rw [if_neg c27] at h3
      refine q_ifT rfl (by simp [c27]) (zq rfl (zr rfl rfl rfl (by simp; rfl) ?_))
      refine thenC_n (q_ret rfl (thenC_r (blockC_r (thenC_r ?_))))
      obtain ⟨rr1, h4, ho1⟩ := exit_some h3
      have hs1 := hr1 _ ho1
      subst hs1
      refine roundC_r ho1 (blockC_r (thenC_r ?_))
      cases h4
      simp [c27]
  · rw [if_neg c24] at h1
    refine q_ifF rfl (by simp [c24]) (q_exit rfl (thenC_x ?_))
    obtain ⟨rr1, h2, ho1⟩ := exit_some h1
    have hs1 := hr1 _ ho1
    subst hs1
    refine roundC_x ho1 (blockC_hit2 rfl (thenC_n (zq rfl (zr rfl rfl rfl (by simp; rfl) ?_))))
    refine thenC_n (q_ret rfl ?_)
    cases h2
    simp

-- semigroup/cascade.parseRow
def cascade_parseRow_b6 (a0 : List ByteArray) : Int × Int × List Int × List (List Int) → Option ((Int × Int × List Int × List (List Int)) ⊕ (CRow × Bool))
  | (w27, w28, w29, w30) =>
  if w28 ≤ (a0.length : Int) then
    if w28 < (a0.length : Int) then
      (atI a0 w28).bind fun v36 =>
      if v36 = ⟨#[59]⟩ then
        (pieceL a0 w27 w28).bind fun v37 =>
        (cascade_parseNumbers v37).bind fun v38 =>
        if v38.2 = true then
          if w27 = 1 then
            nextG (IntKind.i64.wrap (w28 + 1), IntKind.i64.wrap (w28 + 1), v38.1, w30)
          else
            chk (capOk 24 (w30.length + 1)) <|
            nextG (IntKind.i64.wrap (w28 + 1), IntKind.i64.wrap (w28 + 1), w29, w30 ++ [v38.1])
        else
          exitG <|
          some ((⟨w29, w30⟩ : CRow), false)
      else
        nextG (w27, IntKind.i64.wrap (w28 + 1), w29, w30)
    else
      (pieceL a0 w27 w28).bind fun v39 =>
      (cascade_parseNumbers v39).bind fun v40 =>
      if v40.2 = true then
        if w27 = 1 then
          nextG (IntKind.i64.wrap (w28 + 1), IntKind.i64.wrap (w28 + 1), v40.1, w30)
        else
          chk (capOk 24 (w30.length + 1)) <|
          nextG (IntKind.i64.wrap (w28 + 1), IntKind.i64.wrap (w28 + 1), w29, w30 ++ [v40.1])
      else
        exitG <|
        some ((⟨w29, w30⟩ : CRow), false)
  else
    exitG <|
    some ((⟨w29, w30⟩ : CRow), true)
def cascade_parseRow_h6 (a0 : List ByteArray) : Int × Int × List Int × List (List Int) → Fr
  | (w27, w28, w29, w30) => ⟨55, [(0, .one (.t none (.sl a0.length (a0.map fun x0 => .sc (.string x0))))), (2, .one (.a 2 [] (0))), (4, .one (.a 4 [] (0))), (5, .one (.t none (.sc (.int .i64 w27)))), (6, .one (.t none (.sc (.int .i64 w28))))], [(2, .vr [.os 1 0 [], .os 1 0 []]), (4, .vr [.os 1 w29.length (w29.map fun x0 => .sc (.int .i64 x0)), .os 1 w30.length (w30.map fun x0 => .os 1 x0.length (x0.map fun x1 => .sc (.int .i64 x1)))])]⟩
def cascade_parseRow (a0 : List ByteArray) : Option (CRow × Bool) :=
  (atI a0 0).bind fun v21 =>
  if v21 = ⟨#[114, 111, 119]⟩ then
    loopG (cascade_parseRow_b6 a0) LFm (1, 1, [], [])
  else
    some ((⟨[], []⟩ : CRow), false)
theorem cascade_parseRow_ok {a0 : List ByteArray} {r : CRow × Bool} (h0 : cascade_parseRow a0 = some r) : L 50 [.sl a0.length (a0.map fun x0 => .sc (.string x0))] = some (.tup [.agg [.sl r.1.pre.length (r.1.pre.map fun x0 => .sc (.int .i64 x0)), .sl r.1.maps.length (r.1.maps.map fun x0 => .sl x0.length (x0.map fun x1 => .sc (.int .i64 x1)))], .sc (.bool r.2)], [.dead]) := by
  simp only [cascade_parseRow] at h0
  refine L_run cfn50 fn50 (runF_of bd50 ⟨of_decide_eq_true rfl, of_decide_eq_true rfl⟩ ?_)
  simp only [entryF, entryT, entryO, entryE, isIo]
  refine zq rfl (zr rfl rfl rfl (by simp; rfl) ?_)
  refine thenC_n (zq rfl (zr rfl rfl rfl (by simp; rfl) ?_))
  refine thenC_n (zq rfl (zq rfl ?_))
  obtain ⟨v21, f43, h1⟩ := bnd_some h0
  obtain ⟨f43a, f43b, f43c, f43d, f43e⟩ := atI_some f43
  simp only [Int.reduceToNat, Int.toNat_natCast] at f43c f43d f43e
  have f43j : a0 ≠ [] := by intro hh; rw [hh] at f43c; simp at f43c
  have f43l : 0 < a0.length := by omega
  refine zr rfl rfl rfl (by simp [f43a, f43b, f43c, f43d, f43e, f43j, f43l]; rfl) ?_
  refine thenC_n ?_
  by_cases c44 : v21 = ⟨#[114, 111, 119]⟩
  · rw [if_pos c44] at h1
    have c44e := eq_true c44
    refine q_ifF rfl (by simp [c44e]) (q_skip rfl (thenC_n (zq rfl (zr rfl rfl rfl (by simp; rfl) ?_))))
    refine thenC_n (zq rfl (zq rfl (zr rfl rfl rfl (by simp; rfl) ?_)))
    refine thenC_n (zb rfl (q_loopG h1 (cascade_parseRow_h6 a0) rfl rfl (by simp [cascade_parseRow_h6]) fun s o1 h2 hr1 => ?_))
    obtain ⟨w27, w28, w29, w30⟩ := s
    simp only [cascade_parseRow_b6] at h2
    simp only [cascade_parseRow_h6]
    refine zq rfl (zq rfl (zr rfl rfl rfl (by simp; rfl) ?_))
    refine thenC_n ?_
    by_cases c71 : w28 ≤ (a0.length : Int)
    · rw [if_pos c71] at h2
      refine q_ifT rfl (by simp [c71]) (q_skip rfl (thenC_n (zq rfl (zb rfl (zq rfl (zq rfl ?_))))))
      by_cases c72 : w28 < (a0.length : Int)
      · rw [if_pos c72] at h2
        obtain ⟨v36, f73, h3⟩ := bnd_some h2
        obtain ⟨f73a, f73b, f73c, f73d, f73e⟩ := atI_some f73
        refine zr rfl rfl rfl (by simp [c72, f73a, f73b, f73c, f73d, f73e]; rfl) ?_
        refine thenC_n ?_
        by_cases c74 : v36 = ⟨#[59]⟩
        · rw [if_pos c74] at h3
          have c74e := eq_true c74
          refine q_ifF rfl (by simp [c74e]) (q_skip rfl (thenC_n (zq rfl ?_)))
          obtain ⟨v37, f75, h4⟩ := bnd_some h3
          obtain ⟨f75a, f75b, f75c, -⟩ := pieceL_some f75
          obtain ⟨f75d, f75g⟩ := piece_hi f75a f75b
          have f75e := pieceL_map (g := fun x : ByteArray => (.sc (.string x) : T)) f75
          try simp at f75e
          have f75f := pieceL_slm f75
          try simp only [Int.reduceToNat, Int.toNat_natCast, Nat.sub_zero] at f75f
          have f75m : w27 ≤ max w28 0 := by omega
          obtain ⟨v38, f76, h5⟩ := bnd_some h4
          have f76k := cascade_parseNumbers_ok f76
          try simp at f76k
          refine zr rfl rfl rfl (by simp [f75a, f75b, f75c, f75d, f75g, f75e, f75f, f75m, f76k]; rfl) ?_
          refine thenC_n (zq rfl (zq rfl (zr rfl rfl rfl (by simp; rfl) ?_)))
          refine thenC_n ?_
          by_cases c77 : v38.2 = true
          · rw [if_pos c77] at h5
            refine q_ifF rfl (by simp [c77]) (q_skip rfl (thenC_n (zq rfl (zq rfl (zr rfl rfl rfl (by simp; rfl) ?_)))))
            refine thenC_n ?_
            by_cases c78 : w27 = 1
            · rw [if_pos c78] at h5
              have c78e := eq_true c78
              refine q_ifT rfl (by simp [c78e]) (zr rfl rfl rfl (by simp; rfl) ?_)
              refine thenC_n (zr rfl rfl rfl (by simp; rfl) ?_)
              refine blockC_n (thenC_n (zr rfl rfl rfl (by simp; rfl) ?_))
              have ho := next_some h5
              refine roundC_n ho ?_
              simp [cascade_parseRow_h6, c77]
            · rw [if_neg c78] at h5
              have c78e := eq_false c78
              refine q_ifF rfl (by simp [c78e]) ?_
              obtain ⟨f79, h6⟩ := chk_some h5
              obtain ⟨f79a, f79b⟩ := f79
              refine zr rfl rfl rfl (by simp [f79a, f79b]; rfl) ?_
              refine thenC_n (zr rfl rfl rfl (by simp; rfl) ?_)
              refine blockC_n (thenC_n (zr rfl rfl rfl (by simp; rfl) ?_))
              have ho := next_some h6
              refine roundC_n ho ?_
              simp [cascade_parseRow_h6, c77]
          · rw [if_neg c77] at h5
            refine q_ifT rfl (by simp [c77]) (zq rfl (zr rfl rfl rfl (by simp; rfl) ?_))
            refine thenC_n (q_ret rfl (thenC_r (blockC_r (thenC_r ?_))))
            obtain ⟨rr1, h6, ho1⟩ := exit_some h5
            have hs1 := hr1 _ ho1
            subst hs1
            refine roundC_r ho1 (blockC_r (thenC_r ?_))
            cases h6
            simp [c77]
        · rw [if_neg c74] at h3
          have c74e := eq_false c74
          refine q_ifT rfl (by simp [c74e]) (q_exit rfl (thenC_x (blockC_hit2 rfl (thenC_n (zr rfl rfl rfl (by simp; rfl) ?_)))))
          have ho := next_some h3
          refine roundC_n ho ?_
          simp [cascade_parseRow_h6]
      · rw [if_neg c72] at h2
        refine zr rfl rfl rfl (by simp [c72]; rfl) ?_
        refine thenC_n (q_ifF rfl (by simp) (q_skip rfl (thenC_n (zq rfl ?_))))
        obtain ⟨v39, f80, h3⟩ := bnd_some h2
        obtain ⟨f80a, f80b, f80c, -⟩ := pieceL_some f80
        obtain ⟨f80d, f80g⟩ := piece_hi f80a f80b
        have f80e := pieceL_map (g := fun x : ByteArray => (.sc (.string x) : T)) f80
        try simp at f80e
        have f80f := pieceL_slm f80
        try simp only [Int.reduceToNat, Int.toNat_natCast, Nat.sub_zero] at f80f
        have f80m : w27 ≤ max w28 0 := by omega
        obtain ⟨v40, f81, h4⟩ := bnd_some h3
        have f81k := cascade_parseNumbers_ok f81
        try simp at f81k
        refine zr rfl rfl rfl (by simp [f80a, f80b, f80c, f80d, f80g, f80e, f80f, f80m, f81k]; rfl) ?_
        refine thenC_n (zq rfl (zq rfl (zr rfl rfl rfl (by simp; rfl) ?_)))
        refine thenC_n ?_
        by_cases c82 : v40.2 = true
        · rw [if_pos c82] at h4
          refine q_ifF rfl (by simp [c82]) (q_skip rfl (thenC_n (zq rfl (zq rfl (zr rfl rfl rfl (by simp; rfl) ?_)))))
          refine thenC_n ?_
          by_cases c83 : w27 = 1
          · rw [if_pos c83] at h4
            have c83e := eq_true c83
            refine q_ifT rfl (by simp [c83e]) (zr rfl rfl rfl (by simp; rfl) ?_)
            refine thenC_n (zr rfl rfl rfl (by simp; rfl) ?_)
            refine blockC_n (thenC_n (zr rfl rfl rfl (by simp; rfl) ?_))
            have ho := next_some h4
            refine roundC_n ho ?_
            simp [cascade_parseRow_h6, c82]
          · rw [if_neg c83] at h4
            have c83e := eq_false c83
            refine q_ifF rfl (by simp [c83e]) ?_
            obtain ⟨f84, h5⟩ := chk_some h4
            obtain ⟨f84a, f84b⟩ := f84
            refine zr rfl rfl rfl (by simp [f84a, f84b]; rfl) ?_
            refine thenC_n (zr rfl rfl rfl (by simp; rfl) ?_)
            refine blockC_n (thenC_n (zr rfl rfl rfl (by simp; rfl) ?_))
            have ho := next_some h5
            refine roundC_n ho ?_
            simp [cascade_parseRow_h6, c82]
        · rw [if_neg c82] at h4
          refine q_ifT rfl (by simp [c82]) (zq rfl (zr rfl rfl rfl (by simp; rfl) ?_))
          refine thenC_n (q_ret rfl (thenC_r (blockC_r (thenC_r ?_))))
          obtain ⟨rr1, h5, ho1⟩ := exit_some h4
          have hs1 := hr1 _ ho1
          subst hs1
          refine roundC_r ho1 (blockC_r (thenC_r ?_))
          cases h5
          simp [c82]
    · rw [if_neg c71] at h2
      refine q_ifF rfl (by simp [c71]) (q_exit rfl (thenC_x ?_))
      obtain ⟨rr1, h3, ho1⟩ := exit_some h2
      have hs1 := hr1 _ ho1
      subst hs1
      refine roundC_x ho1 (blockC_hit2 rfl (thenC_n (zq rfl (zr rfl rfl rfl (by simp; rfl) ?_))))
      refine thenC_n (q_ret rfl ?_)
      cases h3
      simp
  · rw [if_neg c44] at h1
    have c44e := eq_false c44
    refine q_ifT rfl (by simp [c44e]) (zq rfl (zr rfl rfl rfl (by simp; rfl) ?_))
    refine thenC_n (q_ret rfl (thenC_r ?_))
    cases h1
    simp

-- semigroup/semigroupref26.split
def ref26_split_b4 (a0 : ByteArray) : ByteArray × Int × List ByteArray → Option ((ByteArray × Int × List ByteArray) ⊕ List ByteArray)
  | (w14, w12, w13) =>
  if w12 < (a0.size : Int) then
    (byteI a0 w12).bind fun v17 =>
    if v17 = 32 then
      chk (capOk 16 (w13.length + 1)) <|
      nextG (ByteArray.empty, IntKind.i64.wrap (w12 + 1), w13 ++ [w14])
    else
      (pieceS a0 w12 (IntKind.i64.wrap (w12 + 1))).bind fun v18 =>
      chk (catOk w14 v18) <|
      nextG (w14 ++ v18, IntKind.i64.wrap (w12 + 1), w13)
  else
    exitG <|
    chk (capOk 16 (w13.length + 1)) <|
    some (w13 ++ [w14])
def ref26_split_h4 (a0 : ByteArray) : ByteArray × Int × List ByteArray → Fr
  | (w14, w12, w13) => ⟨31, [(0, .one (.t none (.sc (.string a0)))), (3, .one (.h 3 [])), (4, .one (.t none (.sc (.string w14)))), (5, .one (.t none (.sc (.int .i64 w12))))], [(3, .os 1 w13.length (w13.map fun x0 => .sc (.string x0)))]⟩
def ref26_split (a0 : ByteArray) : Option (List ByteArray) :=
  loopG (ref26_split_b4 a0) LFm (ByteArray.empty, 0, [])
theorem ref26_split_ok {a0 : ByteArray} {r : List ByteArray} (h0 : ref26_split a0 = some r) : L 52 [.sc (.string a0)] = some (.os 1 r.length (r.map fun x0 => .sc (.string x0)), [.dead]) := by
  simp only [ref26_split] at h0
  refine L_run cfn52 fn52 (runF_of bd52 ⟨of_decide_eq_true rfl, of_decide_eq_true rfl⟩ ?_)
  simp only [entryF, entryT, entryO, entryE, isIo]
  refine zq rfl (zr rfl rfl rfl (by simp; rfl) ?_)
  refine thenC_n (zq rfl (zr rfl rfl rfl (by simp; rfl) ?_))
  refine thenC_n (zq rfl (zr rfl rfl rfl (by simp; rfl) ?_))
  refine thenC_n (zq rfl (zq rfl (zr rfl rfl rfl (by simp; rfl) ?_)))
  refine thenC_n (zb rfl (q_loopG h0 (ref26_split_h4 a0) rfl rfl (by simp [ref26_split_h4]) fun s o1 h1 hr1 => ?_))
  obtain ⟨w14, w12, w13⟩ := s
  simp only [ref26_split_b4] at h1
  simp only [ref26_split_h4]
  refine zq rfl (zq rfl (zr rfl rfl rfl (by simp; rfl) ?_))
  refine thenC_n ?_
  by_cases c30 : w12 < (a0.size : Int)
  · rw [if_pos c30] at h1
    refine q_ifT rfl (by simp [c30]) (q_skip rfl (thenC_n (zq rfl (zb rfl (zq rfl (zq rfl ?_))))))
    obtain ⟨v17, f31, h2⟩ := bnd_some h1
    obtain ⟨f31a, f31b, f31w, f31c, f31d, f31g⟩ := byteI_some f31
    have f31d := f31d.symm
    refine zr rfl rfl rfl (by simp [f31a, f31b, f31c, f31d, f31g]; rfl) ?_
    refine thenC_n ?_
    by_cases c32 : v17 = 32
    · rw [if_pos c32] at h2
      have c32e := eq_true c32
      refine q_ifT rfl (by simp [c32e]) (zq rfl ?_)
      obtain ⟨f33, h3⟩ := chk_some h2
      obtain ⟨f33a, f33b⟩ := f33
      refine zr rfl rfl rfl (by simp [f33a, f33b]; rfl) ?_
      refine thenC_n (zq rfl (zr rfl rfl rfl (by simp; rfl) ?_))
      refine thenC_n (q_exit rfl (thenC_x (blockC_hit2 rfl (thenC_n (zr rfl rfl rfl (by simp; rfl) ?_)))))
      have ho := next_some h3
      refine roundC_n ho ?_
      simp [ref26_split_h4]
    · rw [if_neg c32] at h2
      have c32e := eq_false c32
      refine q_ifF rfl (by simp [c32e]) (q_skip rfl (thenC_n ?_))
      obtain ⟨v18, f34, h3⟩ := bnd_some h2
      obtain ⟨f34a, f34b, f34c, f34d⟩ := pieceS_some f34
      obtain ⟨f34e, f34f⟩ := piece_hi f34a f34b
      have f34d := f34d.symm
      have f34g : w12 ≤ max (IntKind.i64.wrap (w12 + 1)) 0 := by omega
      obtain ⟨f35, h4⟩ := chk_some h3
      refine zr rfl rfl rfl (by simp [f34a, f34b, f34c, f34d, f34e, f34f, f34g, f35]; rfl) ?_
      refine blockC_n (thenC_n (zr rfl rfl rfl (by simp; rfl) ?_))
      have ho := next_some h4
      refine roundC_n ho ?_
      simp [ref26_split_h4]
  · rw [if_neg c30] at h1
    refine q_ifF rfl (by simp [c30]) (q_exit rfl (thenC_x ?_))
    obtain ⟨rr1, h2, ho1⟩ := exit_some h1
    have hs1 := hr1 _ ho1
    subst hs1
    refine roundC_x ho1 (blockC_hit2 rfl (thenC_n (zq rfl ?_)))
    obtain ⟨f36, h3⟩ := chk_some h2
    obtain ⟨f36a, f36b⟩ := f36
    refine zr rfl rfl rfl (by simp [f36a, f36b]; rfl) ?_
    refine thenC_n (q_ret rfl ?_)
    cases h3
    simp

-- semigroup/semigroupref26.number
def ref26_number_b5 (a0 : ByteArray) : Int × Int → Option ((Int × Int) ⊕ Int)
  | (w28, w29) =>
  if w29 < (a0.size : Int) then
    (byteI a0 w29).bind fun v33 =>
    if v33 < 48 then
      exitG <|
      some (-1)
    else
      if 57 < v33 then
        exitG <|
        some (-1)
      else
        nextG (IntKind.i64.wrap ((IntKind.i64.wrap (10 * w28)) + (IntKind.i64.wrap (IntKind.u8.wrap (v33 - 48)))), IntKind.i64.wrap (w29 + 1))
  else
    exitG <|
    if 1000000000 < w28 then
      some (-1)
    else
      some w28
def ref26_number_h5 (a0 : ByteArray) : Int × Int → Fr
  | (w28, w29) => ⟨49, [(0, .one (.t none (.sc (.string a0)))), (3, .one (.t none (.sc (.int .i64 w28)))), (4, .one (.t none (.sc (.int .i64 w29))))], []⟩
def ref26_number_b5a (a0 : ByteArray) : Int × Int → Option ((Int × Int) ⊕ Int)
  | (w39, w40) =>
  if w40 < (a0.size : Int) then
    (byteI a0 w40).bind fun v44 =>
    if v44 < 48 then
      exitG <|
      some (-1)
    else
      if 57 < v44 then
        exitG <|
        some (-1)
      else
        nextG (IntKind.i64.wrap ((IntKind.i64.wrap (10 * w39)) + (IntKind.i64.wrap (IntKind.u8.wrap (v44 - 48)))), IntKind.i64.wrap (w40 + 1))
  else
    exitG <|
    if 1000000000 < w39 then
      some (-1)
    else
      some w39
def ref26_number_h5a (a0 : ByteArray) : Int × Int → Fr
  | (w39, w40) => ⟨49, [(0, .one (.t none (.sc (.string a0)))), (3, .one (.t none (.sc (.int .i64 w39)))), (4, .one (.t none (.sc (.int .i64 w40))))], []⟩
def ref26_number (a0 : ByteArray) : Option (Int) :=
  if a0 = ByteArray.empty then
    some (-1)
  else
    if 10 < (a0.size : Int) then
      some (-1)
    else
      if 1 < (a0.size : Int) then
        (byteI a0 0).bind fun v24 =>
        if v24 = 48 then
          some (-1)
        else
          loopG (ref26_number_b5 a0) LFm (0, 0)
      else
        loopG (ref26_number_b5a a0) LFm (0, 0)
theorem ref26_number_ok {a0 : ByteArray} {r : Int} (h0 : ref26_number a0 = some r) : L 53 [.sc (.string a0)] = some (.sc (.int .i64 r), [.dead]) := by
  simp only [ref26_number] at h0
  refine L_run cfn53 fn53 (runF_of bd53 ⟨of_decide_eq_true rfl, of_decide_eq_true rfl⟩ ?_)
  simp only [entryF, entryT, entryO, entryE, isIo]
  refine zq rfl (zr rfl rfl rfl (by simp; rfl) ?_)
  refine thenC_n (zq rfl (zq rfl ?_))
  by_cases c32 : a0 = ByteArray.empty
  · rw [if_pos c32] at h0
    have c32e := eq_true c32
    refine zr rfl rfl rfl (by simp [c32e]; rfl) ?_
    refine thenC_n (q_ifT rfl (by simp) (zq rfl (zr rfl rfl rfl (by simp; rfl) ?_)))
    refine thenC_n (q_ret rfl (thenC_r ?_))
    cases h0
    simp
  · rw [if_neg c32] at h0
    have c32e := eq_false c32
    by_cases c33 : 10 < (a0.size : Int)
    · rw [if_pos c33] at h0
      refine zr rfl rfl rfl (by simp [c32e, c33]; rfl) ?_
      refine thenC_n (q_ifT rfl (by simp) (zq rfl (zr rfl rfl rfl (by simp; rfl) ?_)))
      refine thenC_n (q_ret rfl (thenC_r ?_))
      cases h0
      simp
    · rw [if_neg c33] at h0
      by_cases c34 : 1 < (a0.size : Int)
      · rw [if_pos c34] at h0
        obtain ⟨v24, f35, h1⟩ := bnd_some h0
        obtain ⟨f35a, f35b, f35w, f35c, f35d, f35g⟩ := byteI_some f35
        have f35d := f35d.symm
        have f35g := f35g (by omega)
        simp only [Int.reduceToNat] at f35g
        simp only [Int.reduceToNat, Int.toNat_natCast] at f35c
        have f35e := f35b
        try simp at f35e
        refine zr rfl rfl rfl (by simp [c32e, c33, c34, f35a, f35b, f35c, f35d, f35g, f35e]; rfl) ?_
        refine thenC_n ?_
        by_cases c36 : v24 = 48
        · rw [if_pos c36] at h1
          have c36e := eq_true c36
          refine q_ifT rfl (by simp [c36e]) (zq rfl (zr rfl rfl rfl (by simp; rfl) ?_))
          refine thenC_n (q_ret rfl (thenC_r ?_))
          cases h1
          simp
        · rw [if_neg c36] at h1
          have c36e := eq_false c36
          refine q_ifF rfl (by simp [c36e]) (q_skip rfl (thenC_n (zq rfl (zr rfl rfl rfl (by simp; rfl) ?_))))
          refine thenC_n (zq rfl (zq rfl (zr rfl rfl rfl (by simp; rfl) ?_)))
          refine thenC_n (zb rfl (q_loopG h1 (ref26_number_h5 a0) rfl rfl (by simp [ref26_number_h5]) fun s o1 h2 hr1 => ?_))
          obtain ⟨w28, w29⟩ := s
          simp only [ref26_number_b5] at h2
          simp only [ref26_number_h5]
          refine zq rfl (zq rfl (zr rfl rfl rfl (by simp; rfl) ?_))
          refine thenC_n ?_
          by_cases c45 : w29 < (a0.size : Int)
          · rw [if_pos c45] at h2
            refine q_ifT rfl (by simp [c45]) (q_skip rfl (thenC_n (zq rfl (zb rfl (zq rfl (zq rfl ?_))))))
            obtain ⟨v33, f46, h3⟩ := bnd_some h2
            obtain ⟨f46a, f46b, f46w, f46c, f46d, f46g⟩ := byteI_some f46
            have f46d := f46d.symm
            by_cases c47 : v33 < 48
            · rw [if_pos c47] at h3
              refine zr rfl rfl rfl (by simp [f46a, f46b, f46c, f46d, f46g, c47]; rfl) ?_
              refine thenC_n (q_ifT rfl (by simp) (zq rfl (zr rfl rfl rfl (by simp; rfl) ?_)))
              refine thenC_n (q_ret rfl (thenC_r (blockC_r (thenC_r ?_))))
              obtain ⟨rr1, h4, ho1⟩ := exit_some h3
              have hs1 := hr1 _ ho1
              subst hs1
              refine roundC_r ho1 (blockC_r (thenC_r ?_))
              cases h4
              simp
            · rw [if_neg c47] at h3
              refine zr rfl rfl rfl (by simp [f46a, f46b, f46c, f46d, f46g, c47]; rfl) ?_
              refine thenC_n ?_
              by_cases c48 : 57 < v33
              · rw [if_pos c48] at h3
                refine q_ifT rfl (by simp [c48]) (zq rfl (zr rfl rfl rfl (by simp; rfl) ?_))
                refine thenC_n (q_ret rfl (thenC_r (blockC_r (thenC_r ?_))))
                obtain ⟨rr1, h4, ho1⟩ := exit_some h3
                have hs1 := hr1 _ ho1
                subst hs1
                refine roundC_r ho1 (blockC_r (thenC_r ?_))
                cases h4
                simp
              · rw [if_neg c48] at h3
                refine q_ifF rfl (by simp [c48]) (q_skip rfl (thenC_n (zr rfl rfl rfl (by simp [f46a, f46b, f46c, f46d, f46g]; rfl) ?_)))
                refine blockC_n (thenC_n (zr rfl rfl rfl (by simp; rfl) ?_))
                have ho := next_some h3
                refine roundC_n ho ?_
                simp [ref26_number_h5]
          · rw [if_neg c45] at h2
            refine q_ifF rfl (by simp [c45]) (q_exit rfl (thenC_x ?_))
            obtain ⟨rr1, h3, ho1⟩ := exit_some h2
            have hs1 := hr1 _ ho1
            subst hs1
            refine roundC_x ho1 (blockC_hit2 rfl (thenC_n (zq rfl (zq rfl (zr rfl rfl rfl (by simp; rfl) ?_)))))
            refine thenC_n ?_
            by_cases c49 : 1000000000 < w28
            · rw [if_pos c49] at h3
              refine q_ifT rfl (by simp [c49]) (zq rfl (zr rfl rfl rfl (by simp; rfl) ?_))
              refine thenC_n (q_ret rfl (thenC_r ?_))
              cases h3
              simp
            · rw [if_neg c49] at h3
              refine q_ifF rfl (by simp [c49]) (q_skip rfl (thenC_n (zq rfl (zr rfl rfl rfl (by simp; rfl) ?_))))
              refine thenC_n (q_ret rfl ?_)
              cases h3
              simp
      · rw [if_neg c34] at h0
        refine zr rfl rfl rfl (by simp [c32e, c33, c34]; rfl) ?_
        refine thenC_n (q_ifF rfl (by simp) (q_skip rfl (thenC_n (zq rfl (zr rfl rfl rfl (by simp; rfl) ?_)))))
        refine thenC_n (zq rfl (zq rfl (zr rfl rfl rfl (by simp; rfl) ?_)))
        refine thenC_n (zb rfl (q_loopG h0 (ref26_number_h5a a0) rfl rfl (by simp [ref26_number_h5a]) fun s o2 h1 hr2 => ?_))
        obtain ⟨w39, w40⟩ := s
        simp only [ref26_number_b5a] at h1
        simp only [ref26_number_h5a]
        refine zq rfl (zq rfl (zr rfl rfl rfl (by simp; rfl) ?_))
        refine thenC_n ?_
        by_cases c58 : w40 < (a0.size : Int)
        · rw [if_pos c58] at h1
          refine q_ifT rfl (by simp [c58]) (q_skip rfl (thenC_n (zq rfl (zb rfl (zq rfl (zq rfl ?_))))))
          obtain ⟨v44, f59, h2⟩ := bnd_some h1
          obtain ⟨f59a, f59b, f59w, f59c, f59d, f59g⟩ := byteI_some f59
          have f59d := f59d.symm
          by_cases c60 : v44 < 48
          · rw [if_pos c60] at h2
            refine zr rfl rfl rfl (by simp [f59a, f59b, f59c, f59d, f59g, c60]; rfl) ?_
            refine thenC_n (q_ifT rfl (by simp) (zq rfl (zr rfl rfl rfl (by simp; rfl) ?_)))
            refine thenC_n (q_ret rfl (thenC_r (blockC_r (thenC_r ?_))))
            obtain ⟨rr2, h3, ho2⟩ := exit_some h2
            have hs2 := hr2 _ ho2
            subst hs2
            refine roundC_r ho2 (blockC_r (thenC_r ?_))
            cases h3
            simp
          · rw [if_neg c60] at h2
            refine zr rfl rfl rfl (by simp [f59a, f59b, f59c, f59d, f59g, c60]; rfl) ?_
            refine thenC_n ?_
            by_cases c61 : 57 < v44
            · rw [if_pos c61] at h2
              refine q_ifT rfl (by simp [c61]) (zq rfl (zr rfl rfl rfl (by simp; rfl) ?_))
              refine thenC_n (q_ret rfl (thenC_r (blockC_r (thenC_r ?_))))
              obtain ⟨rr2, h3, ho2⟩ := exit_some h2
              have hs2 := hr2 _ ho2
              subst hs2
              refine roundC_r ho2 (blockC_r (thenC_r ?_))
              cases h3
              simp
            · rw [if_neg c61] at h2
              refine q_ifF rfl (by simp [c61]) (q_skip rfl (thenC_n (zr rfl rfl rfl (by simp [f59a, f59b, f59c, f59d, f59g]; rfl) ?_)))
              refine blockC_n (thenC_n (zr rfl rfl rfl (by simp; rfl) ?_))
              have ho := next_some h2
              refine roundC_n ho ?_
              simp [ref26_number_h5a]
        · rw [if_neg c58] at h1
          refine q_ifF rfl (by simp [c58]) (q_exit rfl (thenC_x ?_))
          obtain ⟨rr2, h2, ho2⟩ := exit_some h1
          have hs2 := hr2 _ ho2
          subst hs2
          refine roundC_x ho2 (blockC_hit2 rfl (thenC_n (zq rfl (zq rfl (zr rfl rfl rfl (by simp; rfl) ?_)))))
          refine thenC_n ?_
          by_cases c62 : 1000000000 < w39
          · rw [if_pos c62] at h2
            refine q_ifT rfl (by simp [c62]) (zq rfl (zr rfl rfl rfl (by simp; rfl) ?_))
            refine thenC_n (q_ret rfl (thenC_r ?_))
            cases h2
            simp
          · rw [if_neg c62] at h2
            refine q_ifF rfl (by simp [c62]) (q_skip rfl (thenC_n (zq rfl (zr rfl rfl rfl (by simp; rfl) ?_))))
            refine thenC_n (q_ret rfl ?_)
            cases h2
            simp
end Go.Proofs.YthalofddjlhcjaaDoor
end
section
/- Plain: reading numbers. -/
namespace Go.Proofs.YthalofddjlhcjaaDoor
open Go
set_option linter.unusedVariables false
set_option linter.unusedSimpArgs false

/-- Digits read on. -/
def numG : List UInt8 → Int → Option Int
  | [], n => some n
  | b :: l, n => if 48 ≤ b.toNat ∧ b.toNat ≤ 57 then numG l (10 * n + ((b.toNat : Int) - 48)) else none
/-- A number from 0 to 10^9 without leading zeros. -/
def numV (s : ByteArray) : Option Int :=
  match s.data.toList with
  | [] => none
  | b :: l => if 10 < s.size then none else if b.toNat = 48 ∧ l ≠ [] then none else (numG (b :: l) 0).bind fun n => if n ≤ 1000000000 then some n else none
theorem numG_pos : ∀ {l : List UInt8} {n m : Int}, 0 ≤ n → numG l n = some m → 0 ≤ m
  | [], n, m, h, e => by cases e; exact h
  | b :: l, n, m, h, e => by
    simp only [numG] at e
    split at e
    · exact numG_pos (by omega) e
    · cases e
theorem numV_in {s : ByteArray} {n : Int} (h : numV s = some n) : 0 ≤ n ∧ n ≤ 1000000000 := by
  unfold numV at h
  split at h
  · cases h
  · split at h
    · cases h
    · split at h
      · cases h
      · rw [Option.bind_eq_some_iff] at h
        obtain ⟨m, h1, h2⟩ := h
        split at h2
        · cases h2
          exact ⟨numG_pos (by omega) h1, by assumption⟩
        · cases h2
theorem toList_len (s : ByteArray) : s.data.toList.length = s.size := by simp
theorem toList_drop (s : ByteArray) {k : Nat} (h : k < s.size) : s.data.toList.drop k = s[k] :: s.data.toList.drop (k + 1) := by
  rw [List.drop_eq_getElem_cons (by rw [toList_len]; exact h)]
  rfl
theorem pow_bound {k : Nat} (h : k ≤ 10) : (10 : Int) ^ k ≤ 10000000000 := by
  rcases (by omega : k = 0 ∨ k = 1 ∨ k = 2 ∨ k = 3 ∨ k = 4 ∨ k = 5 ∨ k = 6 ∨ k = 7 ∨ k = 8 ∨ k = 9 ∨ k = 10) with rfl | rfl | rfl | rfl | rfl | rfl | rfl | rfl | rfl | rfl | rfl <;> decide
/-- The loop of both. -/
theorem num_loop {ρ : Type} {b : Int × Int → Option ((Int × Int) ⊕ ρ)} (s : ByteArray) (hs : s.size ≤ 10) (bad : ρ) (fin : Int → ρ)
    (hb : ∀ n k, b (n, k) = if k < (s.size : Int) then (byteI s k).bind fun v => if v < 48 then exitG (some bad) else if 57 < v then exitG (some bad) else nextG (IntKind.i64.wrap ((IntKind.i64.wrap (10 * n)) + (IntKind.i64.wrap (IntKind.u8.wrap (v - 48)))), IntKind.i64.wrap (k + 1)) else exitG (some (fin n))) :
    loopG b LFm (0, 0) = some (match numG s.data.toList 0 with | some n => fin n | none => bad) := by
  refine loopG_eq (fun st => ∃ k : Nat, ∃ n : Int, k ≤ s.size ∧ st = (n, (k : Int)) ∧ 0 ≤ n ∧ n < 10 ^ k ∧ numG (s.data.toList.drop k) n = numG s.data.toList 0) (fun st => s.size - st.2.toNat) ⟨0, 0, by omega, rfl, by omega, by simp, rfl⟩ (by simp only [LFm]; omega) ?_
  rintro _ ⟨k, n, hk, rfl, n0, n1, he⟩
  rw [hb]
  by_cases hlt : k < s.size
  · rw [toList_drop s hlt] at he
    simp only [numG] at he
    rw [if_pos (by omega), byteI_nat hlt, Option.bind_some]
    have hB := s[k].toNat_lt
    generalize s[k] = c at he hB
    by_cases h1 : (c.toNat : Int) < 48
    · rw [if_pos h1]
      rw [if_neg (by omega)] at he
      right; rw [← he]
    · rw [if_neg h1]
      by_cases h2 : 57 < (c.toNat : Int)
      · rw [if_pos h2]
        rw [if_neg (by omega)] at he
        right; rw [← he]
      · rw [if_neg h2]
        rw [if_pos (by omega)] at he
        have hp := pow_bound (k := k) (by omega)
        have hp2 : (10 : Int) ^ (k + 1) = 10 * 10 ^ k := by rw [Int.pow_succ]; omega
        left
        refine ⟨_, rfl, ⟨k + 1, 10 * n + ((c.toNat : Int) - 48), by omega, ?_, by omega, by omega, he⟩, ?_⟩
        · rw [wrapI (x := 10 * n) (by omega) (by omega), wrap8 (by omega) (by omega), wrapI (x := (c.toNat : Int) - 48) (by omega) (by omega), wrapI (by omega) (by omega), wrapS (by omega)]
        · simp only
          rw [wrapS (by omega)]
          omega
  · right
    have : k = s.size := by omega
    subst this
    rw [List.drop_of_length_le (by rw [toList_len]; omega)] at he
    simp only [numG] at he
    rw [if_neg (by omega), ← he]
theorem empty_iff (s : ByteArray) : s = ByteArray.empty ↔ s.data.toList = [] := by
  constructor
  · rintro rfl; rfl
  · intro h
    obtain ⟨d⟩ := s
    simp only [Array.toList_eq_nil_iff] at h
    subst h; rfl
theorem parseNumber_b (s : ByteArray) : cascade_parseNumber_b5a s = cascade_parseNumber_b5 s := by
  funext x; obtain ⟨a, b⟩ := x; rfl
theorem number_b (s : ByteArray) : ref26_number_b5a s = ref26_number_b5 s := by
  funext x; obtain ⟨a, b⟩ := x; rfl
theorem parseNumber_eq (s : ByteArray) : ∃ v, cascade_parseNumber s = some (v, (numV s).isSome) ∧ (∀ n, numV s = some n → v = n) := by
  unfold cascade_parseNumber
  by_cases h0 : s = ByteArray.empty
  · rw [if_pos h0]
    have : numV s = none := by unfold numV; rw [(empty_iff s).1 h0]
    rw [this]
    exact ⟨0, rfl, by simp⟩
  rw [if_neg h0]
  have hl : s.data.toList ≠ [] := fun h => h0 ((empty_iff s).2 h)
  obtain ⟨c, l, hc⟩ := List.exists_cons_of_ne_nil hl
  have hlen := toList_len s
  have hg : s.size = l.length + 1 := by rw [← hlen, hc]; rfl
  have hk : (0 : Nat) < s.size := by omega
  have hcc : s[0] = c := by
    have := toList_drop s hk
    rw [List.drop_zero, hc] at this
    injection this with a b
    exact a.symm
  have hV : numV s = if 10 < s.size then none else if c.toNat = 48 ∧ l ≠ [] then none else (numG (c :: l) 0).bind fun n => if n ≤ 1000000000 then some n else none := by unfold numV; rw [hc]
  by_cases h1 : 10 < s.size
  · rw [if_pos (by omega), hV, if_pos h1]
    exact ⟨0, rfl, by simp⟩
  rw [if_neg (by omega)]
  rw [if_neg h1] at hV
  have e := byteI_nat hk
  rw [hcc] at e
  rw [show byteI s 0 = some (c.toNat : Int) from e, Option.bind_some, parseNumber_b]
  have hL := num_loop (b := cascade_parseNumber_b5 s) s (by omega) (0, false) (fun n => (n, decide (n ≤ 1000000000))) (fun n k => by simp only [cascade_parseNumber_b5])
  have fin : c.toNat = 48 ∧ l ≠ [] → False ∨ True := fun _ => .inr trivial
  have go : ¬ (c.toNat = 48 ∧ l ≠ []) → ∃ v, loopG (cascade_parseNumber_b5 s) LFm (0, 0) = some (v, (numV s).isSome) ∧ (∀ n, numV s = some n → v = n) := by
    intro hn
    rw [if_neg hn] at hV
    rw [hL, hV, hc]
    cases hN : numG (c :: l) 0 with
    | none => exact ⟨0, rfl, by simp⟩
    | some n =>
      simp only [Option.bind_some]
      by_cases hle : n ≤ 1000000000
      · rw [if_pos hle, decide_eq_true hle]; exact ⟨n, rfl, by simp⟩
      · rw [if_neg hle, decide_eq_false hle]; exact ⟨n, rfl, by simp⟩
  by_cases h2 : (c.toNat : Int) = 48
  · rw [if_pos h2]
    by_cases h3 : 1 < s.size
    · rw [if_pos (by omega), hV, if_pos ⟨by omega, by intro hh; rw [hh] at hg; simp at hg; omega⟩]
      exact ⟨0, rfl, by simp⟩
    · rw [if_neg (by omega)]
      refine go ?_
      rintro ⟨-, hh⟩
      exact hh (List.eq_nil_of_length_eq_zero (by omega))
  · rw [if_neg h2]
    exact go (by omega)
theorem number_eq (s : ByteArray) : ref26_number s = some ((numV s).getD (-1)) := by
  unfold ref26_number
  by_cases h0 : s = ByteArray.empty
  · rw [if_pos h0]
    have : numV s = none := by unfold numV; rw [(empty_iff s).1 h0]
    rw [this]
    rfl
  rw [if_neg h0]
  have hl : s.data.toList ≠ [] := fun h => h0 ((empty_iff s).2 h)
  obtain ⟨c, l, hc⟩ := List.exists_cons_of_ne_nil hl
  have hlen := toList_len s
  have hg : s.size = l.length + 1 := by rw [← hlen, hc]; rfl
  have hk : (0 : Nat) < s.size := by omega
  have hcc : s[0] = c := by
    have := toList_drop s hk
    rw [List.drop_zero, hc] at this
    injection this with a b
    exact a.symm
  have hV : numV s = if 10 < s.size then none else if c.toNat = 48 ∧ l ≠ [] then none else (numG (c :: l) 0).bind fun n => if n ≤ 1000000000 then some n else none := by unfold numV; rw [hc]
  by_cases h1 : 10 < s.size
  · rw [if_pos (by omega), hV, if_pos h1]
    rfl
  rw [if_neg (by omega)]
  rw [if_neg h1] at hV
  have e := byteI_nat hk
  rw [hcc] at e
  have hL := num_loop (b := ref26_number_b5 s) s (by omega) (-1) (fun n => if 1000000000 < n then -1 else n) (fun n k => by
    simp only [ref26_number_b5]
    split
    · rfl
    · congr 1; split <;> rfl)
  have go : ¬ (c.toNat = 48 ∧ l ≠ []) → loopG (ref26_number_b5 s) LFm (0, 0) = some ((numV s).getD (-1)) := by
    intro hn
    rw [if_neg hn] at hV
    rw [hL, hV, hc]
    cases hN : numG (c :: l) 0 with
    | none => rfl
    | some n =>
      simp only [Option.bind_some]
      by_cases hle : n ≤ 1000000000
      · rw [if_pos hle, if_neg (by omega)]; rfl
      · rw [if_neg hle, if_pos (by omega)]; rfl
  have no : (c.toNat = 48 ∧ l ≠ []) → (numV s).getD (-1) = -1 := by intro hn; rw [hV, if_pos hn]; rfl
  have e' : byteI s 0 = some (c.toNat : Int) := e
  by_cases h3 : 1 < s.size
  · rw [if_pos (by omega), e', Option.bind_some]
    have hne : l ≠ [] := by intro hh; rw [hh] at hg; simp at hg; omega
    by_cases h2 : (c.toNat : Int) = 48
    · rw [if_pos h2, no ⟨by omega, hne⟩]
    · rw [if_neg h2]; exact go (by omega)
  · rw [if_neg (by omega), number_b]
    refine go ?_
    rintro ⟨-, hh⟩
    exact hh (List.eq_nil_of_length_eq_zero (by omega))
end Go.Proofs.YthalofddjlhcjaaDoor
end
section
/- Plain: reading lists of numbers. -/
namespace Go.Proofs.YthalofddjlhcjaaDoor
open Go
set_option linter.unusedVariables false
set_option linter.unusedSimpArgs false

def numsV : List ByteArray → Option (List Int)
  | [] => some []
  | w :: ws => (numV w).bind fun n => (numsV ws).map (n :: ·)
theorem numsV_len : ∀ {ws : List ByteArray} {l : List Int}, numsV ws = some l → l.length = ws.length
  | [], l, h => by cases h; rfl
  | w :: ws, l, h => by
    simp only [numsV] at h
    rw [Option.bind_eq_some_iff] at h
    obtain ⟨n, h1, h2⟩ := h
    rw [Option.map_eq_some_iff] at h2
    obtain ⟨m, h3, rfl⟩ := h2
    simp [numsV_len h3]
theorem parseNumbers_eq (ws : List ByteArray) (h : ws.length < 100000000) : cascade_parseNumbers ws = some (match numsV ws with | some l => (l, true) | none => ([], false)) := by
  unfold cascade_parseNumbers
  refine loopG_eq (fun st => ∃ k : Nat, ∃ l : List Int, k ≤ ws.length ∧ st = ((k : Int), l) ∧ l.length = k ∧ (numsV (ws.drop k)).map (l ++ ·) = numsV ws) (fun st => ws.length - st.1.toNat) ⟨0, [], by omega, rfl, rfl, by simp⟩ (by simp only [LFm]; omega) ?_
  rintro _ ⟨k, l, hk, rfl, hl, he⟩
  simp only [cascade_parseNumbers_b3]
  by_cases hlt : k < ws.length
  · rw [List.drop_eq_getElem_cons hlt] at he
    simp only [numsV] at he
    obtain ⟨v, e, hv⟩ := parseNumber_eq ws[k]
    rw [if_pos (by omega), atI_nat hlt, Option.bind_some, e, Option.bind_some]
    simp only
    cases hN : numV ws[k] with
    | none =>
      rw [hN] at he
      right
      simp only [Option.bind_none, Option.map_none] at he
      rw [← he]
      simp
    | some n =>
      have := hv n hN
      subst this
      rw [hN] at he
      simp only [Option.bind_some, Option.map_map] at he
      left
      rw [if_pos (show (some v).isSome = true from rfl), chk_pos _ (by unfold capOk; omega)]
      refine ⟨_, rfl, ⟨k + 1, l ++ [v], by omega, by rw [wrapS (by omega)], by simp [hl], ?_⟩, ?_⟩
      · rw [← he]
        congr 1
        funext m
        simp
      · simp only
        rw [wrapS (by omega)]
        omega
  · right
    have : k = ws.length := by omega
    rw [List.drop_of_length_le (by omega)] at he
    simp only [numsV, Option.map_some, List.append_nil] at he
    rw [if_neg (by omega), ← he]
end Go.Proofs.YthalofddjlhcjaaDoor
end
section
/- Plain: reading a row. -/
namespace Go.Proofs.YthalofddjlhcjaaDoor
open Go
set_option linter.unusedVariables false
set_option linter.unusedSimpArgs false

/-- The words before the first ";", and those between the others. -/
def groupsV : List ByteArray → List ByteArray × List (List ByteArray)
  | [] => ([], [])
  | w :: ws => if w = ⟨#[59]⟩ then ([], (groupsV ws).1 :: (groupsV ws).2) else (w :: (groupsV ws).1, (groupsV ws).2)
def listsV : List (List ByteArray) → Option (List (List Int))
  | [] => some []
  | g :: gs => (numsV g).bind fun l => (listsV gs).map (l :: ·)
def rowV : List ByteArray → Option CRow
  | [] => none
  | w :: ws => if w = ⟨#[114, 111, 119]⟩ then (numsV (groupsV ws).1).bind fun p => (listsV (groupsV ws).2).map fun ms => ⟨p, ms⟩ else none
/-- What is left to be read. -/
def restV (pre : List Int) (ms : List (List Int)) (b : Nat) (cur ws : List ByteArray) : Option CRow :=
  (numsV (cur ++ (groupsV ws).1)).bind fun l => (listsV (groupsV ws).2).map fun gs => if b = 1 then ⟨l, ms ++ gs⟩ else ⟨pre, ms ++ l :: gs⟩
theorem piece_at {ws : List ByteArray} {b i : Nat} (h1 : b ≤ i) (h2 : i ≤ ws.length) : pieceL ws (b : Int) (i : Int) = some ((ws.drop b).take (i - b)) := by
  unfold pieceL
  rw [if_pos (by omega)]
  simp
theorem take_snoc {ws : List ByteArray} {b i : Nat} (h1 : b ≤ i) (h2 : i < ws.length) : (ws.drop b).take (i + 1 - b) = (ws.drop b).take (i - b) ++ [ws[i]] := by
  rw [show i + 1 - b = (i - b) + 1 by omega, List.take_succ_eq_append_getElem (by rw [List.length_drop]; omega)]
  congr 2
  rw [List.getElem_drop]
  congr 1
  omega
structure RowI (ws : List ByteArray) (V : Option CRow) (s : Int × Int × List Int × List (List Int)) : Prop where
  of : ∃ b i : Nat, s.1 = (b : Int) ∧ s.2.1 = (i : Int) ∧ 1 ≤ b ∧ b ≤ i ∧ i ≤ ws.length + 1 ∧ s.2.2.2.length ≤ i ∧ (b = 1 → s.2.2.2 = []) ∧
    ((i ≤ ws.length ∧ restV s.2.2.1 s.2.2.2 b ((ws.drop b).take (i - b)) (ws.drop i) = V) ∨ (i = ws.length + 1 ∧ V = some ⟨s.2.2.1, s.2.2.2⟩))
theorem parseRow_eq (ws : List ByteArray) (h0 : ws ≠ []) (h : ws.length < 100000000) : ∃ r, cascade_parseRow ws = some (r, (rowV ws).isSome) ∧ ∀ x, rowV ws = some x → r = x := by
  obtain ⟨w, l, rfl⟩ := List.exists_cons_of_ne_nil h0
  unfold cascade_parseRow
  rw [show atI (w :: l) 0 = some w from rfl, Option.bind_some]
  by_cases hw : w = ⟨#[114, 111, 119]⟩
  case neg =>
    rw [if_neg hw]
    have : rowV (w :: l) = none := by simp only [rowV, if_neg hw]
    rw [this]
    exact ⟨_, rfl, by simp⟩
  rw [if_pos hw]
  generalize hws : w :: l = ws at h ⊢
  have hV : rowV ws = restV [] [] 1 [] (ws.drop 1) := by
    subst hws
    unfold restV
    simp only [rowV, if_pos hw]
    simp
  have hlen : 1 ≤ ws.length := by subst hws; simp
  refine Exists.elim (loopG_rule (b := cascade_parseRow_b6 ws) (RowI ws (rowV ws)) (fun s => ws.length + 1 - s.2.1.toNat) (fun r => r.2 = (rowV ws).isSome ∧ ∀ x, rowV ws = some x → r.1 = x) ?_ LFm (1, 1, [], []) ⟨1, 1, rfl, rfl, by omega, by omega, by omega, by simp, by simp, .inl ⟨hlen, by rw [hV]; simp⟩⟩ (by simp only [LFm]; omega)) fun r hr => ⟨r.1, by rw [hr.1, ← hr.2.1], hr.2.2⟩
  rintro ⟨_, _, pre, ms⟩ ⟨b, i, hb, hi, b1, bi, il, ml, mb, hI⟩
  simp only at hb hi ml mb hI
  subst hb
  subst hi
  simp only [cascade_parseRow_b6]
  rcases hI with ⟨hil, hI⟩ | ⟨hie, hI⟩
  case inr =>
    right
    rw [if_neg (by omega)]
    refine ⟨_, rfl, ?_, ?_⟩
    · rw [hI]; rfl
    · intro x hx; rw [hI] at hx; cases hx; rfl
  rw [if_pos (by omega)]
  -- a group is complete
  have group : ∀ (rest : Option CRow → Prop) (gs : Option (List (List Int))) (hgs : True) (X : Option ((Int × Int × List Int × List (List Int)) ⊕ (CRow × Bool)))
      (hX : X = (pieceL ws (b : Int) (i : Int)).bind fun v => (cascade_parseNumbers v).bind fun v => if v.2 = true then (if (b : Int) = 1 then nextG (IntKind.i64.wrap ((i : Int) + 1), IntKind.i64.wrap ((i : Int) + 1), v.1, ms) else chk (capOk 24 (ms.length + 1)) (nextG (IntKind.i64.wrap ((i : Int) + 1), IntKind.i64.wrap ((i : Int) + 1), pre, ms ++ [v.1]))) else exitG (some ((⟨pre, ms⟩ : CRow), false))),
      (numsV ((ws.drop b).take (i - b)) = none ∧ X = exitG (some ((⟨pre, ms⟩ : CRow), false))) ∨ (∃ l, numsV ((ws.drop b).take (i - b)) = some l ∧ X = nextG (((i + 1 : Nat) : Int), ((i + 1 : Nat) : Int), if b = 1 then (l, ms) else (pre, ms ++ [l]))) := by
    intro _ _ _ X hX
    rw [piece_at bi hil, Option.bind_some, parseNumbers_eq _ (by rw [List.length_take, List.length_drop]; omega), Option.bind_some] at hX
    cases hN : numsV ((ws.drop b).take (i - b)) with
    | none =>
      left
      rw [hN] at hX
      exact ⟨rfl, hX⟩
    | some l =>
      right
      rw [hN] at hX
      refine ⟨l, rfl, ?_⟩
      rw [hX, wrapS (by omega)]
      simp only [if_true]
      by_cases hb1 : b = 1
      · rw [if_pos (by omega), if_pos hb1]
      · rw [if_neg (by omega), if_neg hb1, chk_pos _ (by unfold capOk; omega)]
  by_cases hlt : i < ws.length
  · rw [if_pos (by omega), atI_nat hlt, Option.bind_some]
    rw [List.drop_eq_getElem_cons hlt] at hI
    by_cases hs : ws[i] = ⟨#[59]⟩
    · rw [if_pos hs]
      rcases group (fun _ => True) none trivial _ rfl with ⟨hN, hX⟩ | ⟨l, hN, hX⟩
      · right
        rw [hX]
        have : rowV ws = none := by
          rw [← hI]; unfold restV groupsV; rw [if_pos hs]; simp [hN]
        exact ⟨_, rfl, by rw [this]; rfl, by rw [this]; simp⟩
      · left
        rw [hX]
        refine ⟨_, rfl, ⟨i + 1, i + 1, rfl, rfl, by omega, by omega, by omega, ?_, by omega, .inl ⟨by omega, ?_⟩⟩, by simp only; omega⟩
        · split <;> simp <;> omega
        · rw [← hI]
          unfold restV
          simp only [groupsV, if_pos hs, List.append_nil, hN, Option.bind_some, Nat.sub_self, List.take_zero, List.nil_append, listsV, show ¬ (i + 1 = 1) by omega, if_false]
          cases numsV (groupsV (ws.drop (i + 1))).1 with
          | none => rfl
          | some l2 =>
            simp only [Option.bind_some, Option.map_map]
            congr 1
            funext gs
            by_cases hb1 : b = 1
            · simp [hb1, mb hb1]
            · simp [hb1]
    · rw [if_neg hs]
      left
      refine ⟨_, rfl, ⟨b, i + 1, rfl, wrapS (by omega), b1, by omega, by omega, by simp only; omega, mb, .inl ⟨by omega, ?_⟩⟩, by simp only; rw [wrapS (by omega)]; omega⟩
      rw [← hI, take_snoc bi hlt]
      unfold restV
      simp only [groupsV, if_neg hs, List.append_assoc, List.singleton_append]
  · have e : i = ws.length := by omega
    rw [if_neg (by omega)]
    have hd : ws.drop i = [] := List.drop_of_length_le (by omega)
    rw [hd] at hI
    rcases group (fun _ => True) none trivial _ rfl with ⟨hN, hX⟩ | ⟨l, hN, hX⟩
    · right
      rw [hX]
      have : rowV ws = none := by
        rw [← hI]; unfold restV; simp [groupsV, hN]
      exact ⟨_, rfl, by rw [this]; rfl, by rw [this]; simp⟩
    · left
      rw [hX]
      refine ⟨_, rfl, ⟨i + 1, i + 1, rfl, rfl, by omega, by omega, by omega, ?_, by omega, .inr ⟨by omega, ?_⟩⟩, by simp only; omega⟩
      · split <;> simp <;> omega
      · rw [← hI]
        unfold restV
        simp only [groupsV, List.append_nil, hN, Option.bind_some, listsV, Option.map_some]
        by_cases hb1 : b = 1
        · simp [hb1, mb hb1]
        · simp [hb1]
end Go.Proofs.YthalofddjlhcjaaDoor
end
section
/- Plain: the reference cuts a line at spaces. -/
namespace Go.Proofs.YthalofddjlhcjaaDoor
open Go
set_option linter.unusedVariables false
set_option linter.unusedSimpArgs false

def splitA (c : UInt8) : List UInt8 → List UInt8 → List (List UInt8)
  | [], cur => [cur]
  | b :: l, cur => if b = c then cur :: splitA c l [] else splitA c l (cur ++ [b])
def toBA (l : List UInt8) : ByteArray := ⟨l.toArray⟩
/-- The words of a line. -/
def splitW (s : ByteArray) : List ByteArray := (splitA 32 s.data.toList []).map toBA
theorem toBA_append (a b : List UInt8) : toBA (a ++ b) = toBA a ++ toBA b := by
  unfold toBA
  apply ByteArray.ext
  simp
theorem toBA_size (a : List UInt8) : (toBA a).size = a.length := by simp [toBA]
theorem toBA_toList (s : ByteArray) : toBA s.data.toList = s := by
  unfold toBA
  obtain ⟨d⟩ := s
  simp
theorem piece1 {s : ByteArray} {k : Nat} (h : k < s.size) : pieceS s (k : Int) ((k + 1 : Nat) : Int) = some (toBA [s[k]]) := by
  unfold pieceS
  rw [if_pos (by omega), Int.toNat_natCast, Int.toNat_natCast]
  congr 1
  apply ByteArray.ext
  apply Array.toList_inj.1
  have hl := toList_drop s h
  simp only [ByteArray.data_extract, Array.toList_extract, List.extract, toBA]
  rw [hl, show k + 1 - k = 1 by omega]
  rfl
theorem split_eq (s : ByteArray) (h : s.size < 100000000) : ref26_split s = some (splitW s) := by
  unfold ref26_split
  refine loopG_eq (fun st => ∃ k : Nat, ∃ cur : List UInt8, k ≤ s.size ∧ st.1 = toBA cur ∧ st.2.1 = (k : Int) ∧ cur.length ≤ k ∧ st.2.2.length ≤ k ∧ st.2.2 ++ (splitA 32 (s.data.toList.drop k) cur).map toBA = splitW s) (fun st => s.size - st.2.1.toNat) ⟨0, [], by omega, rfl, rfl, by simp, by simp, by simp [splitW]⟩ (by simp only [LFm]; omega) ?_
  rintro ⟨_, _, acc⟩ ⟨k, cur, hk, h1, h2, hc, ha, he⟩
  simp only at h1 h2 ha he
  subst h1
  subst h2
  simp only [ref26_split_b4]
  by_cases hlt : k < s.size
  · rw [toList_drop s hlt] at he
    simp only [splitA] at he
    rw [if_pos (by omega), byteI_nat hlt, Option.bind_some]
    left
    by_cases h32 : s[k] = 32
    · rw [if_pos h32] at he
      rw [if_pos (by rw [h32]; rfl), chk_pos _ (by unfold capOk; omega)]
      refine ⟨_, rfl, ⟨k + 1, [], by omega, rfl, wrapS (by omega), by simp, by simp only [List.length_append, List.length_singleton]; omega, ?_⟩, ?_⟩
      · rw [← he]; simp
      · simp only; rw [wrapS (by omega)]; omega
    · rw [if_neg h32] at he
      rw [if_neg (fun hh => h32 (UInt8.toNat_inj.1 (by have : s[k].toNat = 32 := by omega
                                                       rw [this]; rfl))), wrapS (by omega), piece1 hlt, Option.bind_some, chk_pos _ (by unfold catOk; rw [toBA_size, toBA_size]; simp only [List.length_singleton]; omega), ← toBA_append]
      refine ⟨_, rfl, ⟨k + 1, cur ++ [s[k]], by omega, rfl, rfl, by simp only [List.length_append, List.length_singleton]; omega, by simp only; omega, he⟩, ?_⟩
      simp only; omega
  · right
    rw [List.drop_of_length_le (by rw [toList_len]; omega)] at he
    simp only [splitA, List.map_cons, List.map_nil] at he
    rw [if_neg (by omega), chk_pos _ (by unfold capOk; omega), he]
end Go.Proofs.YthalofddjlhcjaaDoor
end
section
/- Plain: the first place of a byte. -/
namespace Go.Proofs.YthalofddjlhcjaaDoor
open Go
set_option linter.unusedVariables false
set_option linter.unusedSimpArgs false

theorem index_cases (c : UInt8) : ∀ l : List UInt8, (Lib.indexByte l c = -1 ∧ c ∉ l) ∨ (∃ p q, l = p ++ c :: q ∧ c ∉ p ∧ Lib.indexByte l c = (p.length : Int))
  | [] => .inl ⟨rfl, by simp⟩
  | b :: l => by
    unfold Lib.indexByte
    by_cases hb : b = c
    · right
      subst hb
      exact ⟨[], l, rfl, by simp, by simp⟩
    · rw [if_neg (by simpa using hb)]
      rcases index_cases c l with ⟨h1, h2⟩ | ⟨p, q, h1, h2, h3⟩
      · left
        rw [h1]
        refine ⟨by simp, ?_⟩
        intro hm
        rcases List.mem_cons.1 hm with h | h
        · exact hb h.symm
        · exact h2 h
      · right
        refine ⟨b :: p, q, by rw [h1]; rfl, ?_, ?_⟩
        · intro hm
          rcases List.mem_cons.1 hm with h | h
          · exact hb h.symm
          · exact h2 h
        · rw [h3, if_neg (by simp)]
          simp
theorem splitA_none {c : UInt8} : ∀ {l cur : List UInt8}, c ∉ l → splitA c l cur = [cur ++ l]
  | [], cur, h => by simp [splitA]
  | b :: l, cur, h => by
    have hb : b ≠ c := fun e => h (e ▸ List.mem_cons_self)
    simp only [splitA, if_neg hb]
    rw [splitA_none fun hm => h (List.mem_cons_of_mem _ hm)]
    simp
theorem splitA_some {c : UInt8} : ∀ {p q cur : List UInt8}, c ∉ p → splitA c (p ++ c :: q) cur = (cur ++ p) :: splitA c q []
  | [], q, cur, h => by simp [splitA]
  | b :: p, q, cur, h => by
    have hb : b ≠ c := fun e => h (e ▸ List.mem_cons_self)
    simp only [List.cons_append, splitA, if_neg hb]
    rw [splitA_some fun hm => h (List.mem_cons_of_mem _ hm)]
    simp
theorem count_none {c : UInt8} {l : List UInt8} (h : c ∉ l) : Lib.countByte l c = 0 := List.count_eq_zero.2 h
theorem count_some {c : UInt8} {p q : List UInt8} (h : c ∉ p) : Lib.countByte (p ++ c :: q) c = Lib.countByte q c + 1 := by
  unfold Lib.countByte
  rw [List.count_append, List.count_cons_self, List.count_eq_zero.2 h]
  omega
end Go.Proofs.YthalofddjlhcjaaDoor
end
section
/- The outside functions, for the printer. -/
namespace Go.Proofs.YthalofddjlhcjaaDoor
open Go
set_option linter.unusedVariables false
set_option linter.unusedSimpArgs false
theorem vClone_ok {a0 : List Int} {r : List Int} (h : vClone a0 = some r) : L 33 [.sl a0.length (a0.map fun x0 => .sc (.int .i64 x0))] = some (.os 1 r.length (r.map fun x0 => .sc (.int .i64 x0)), [.dead]) := by
  unfold vClone at h
  split at h
  · rename_i hl
    cases h
    exact lim_ext rfl (xClone_ints a0 hl)
  · cases h
theorem vIndex79_ok {a0 a1 : ByteArray} {r : Int} (h : vIndex a0 a1 = some r) : L 79 [.sc (.string a0), .sc (.string a1)] = some (.sc (.int .i64 r), [.dead, .dead]) := lim_ext rfl (xIndex_v h)
theorem vIndex76_ok {a0 a1 : ByteArray} {r : Int} (h : vIndex a0 a1 = some r) : L 76 [.sc (.string a0), .sc (.string a1)] = some (.sc (.int .i64 r), [.dead, .dead]) := lim_ext rfl (xIndex_v h)
theorem vCount_ok {a0 a1 : ByteArray} {r : Int} (h : vCount a0 a1 = some r) : L 78 [.sc (.string a0), .sc (.string a1)] = some (.sc (.int .i64 r), [.dead, .dead]) := lim_ext rfl (xCount_v h)
end Go.Proofs.YthalofddjlhcjaaDoor
end
section
/- Functions by value: program. -/
namespace Go.Proofs.YthalofddjlhcjaaDoor
open Go
set_option maxRecDepth 100000
set_option maxHeartbeats 1000000
set_option linter.unusedVariables false
set_option linter.unusedSimpArgs false



-- internal/stringslite.Cut
def i_stringslite_Cut (a0 : ByteArray) (a1 : ByteArray) : Option (ByteArray × ByteArray × Bool) :=
  (vIndex a0 a1).bind fun v4 =>
  if 0 ≤ v4 then
    (pieceS a0 0 v4).bind fun v5 =>
    (pieceS a0 (IntKind.i64.wrap (v4 + (a1.size : Int))) (a0.size : Int)).bind fun v6 =>
    some (v5, v6, true)
  else
    some (a0, ByteArray.empty, false)
theorem i_stringslite_Cut_ok {a0 : ByteArray} {a1 : ByteArray} {r : ByteArray × ByteArray × Bool} (h0 : i_stringslite_Cut a0 a1 = some r) : L 67 [.sc (.string a0), .sc (.string a1)] = some (.tup [.sc (.string r.1), .sc (.string r.2.1), .sc (.bool r.2.2)], [.dead, .dead]) := by
  simp only [i_stringslite_Cut] at h0
  refine L_run cfn67 fn67 (runF_of bd67 ⟨of_decide_eq_true rfl, of_decide_eq_true rfl⟩ ?_)
  simp only [entryF, entryT, entryO, entryE, isIo]
  refine zq rfl (zr rfl rfl rfl (by simp; rfl) ?_)
  refine thenC_n (zq rfl (zq rfl ?_))
  obtain ⟨v4, f5, h1⟩ := bnd_some h0
  have f5k := vIndex76_ok f5
  try simp at f5k
  refine zr rfl rfl rfl (by simp [f5k]; rfl) ?_
  refine thenC_n (zq rfl (zr rfl rfl rfl (by simp; rfl) ?_))
  refine thenC_n ?_
  by_cases c6 : 0 ≤ v4
  · rw [if_pos c6] at h1
    refine q_ifT rfl (by simp [c6]) (zq rfl ?_)
    obtain ⟨v5, f7, h2⟩ := bnd_some h1
    obtain ⟨f7a, f7b, f7c, f7d⟩ := pieceS_some f7
    obtain ⟨f7e, f7f⟩ := piece_hi f7a f7b
    have f7d := f7d.symm
    try simp only [Int.reduceToNat, Int.toNat_natCast] at f7d
    obtain ⟨v6, f8, h3⟩ := bnd_some h2
    obtain ⟨f8a, f8b, f8c, f8d⟩ := pieceS_some f8
    obtain ⟨f8e, f8f⟩ := piece_hi f8a f8b
    have f8d := f8d.symm
    try simp only [Int.reduceToNat, Int.toNat_natCast] at f8d
    refine q_drawW rfl rfl rfl rfl ?_; repeat' (first | (refine q_drawW_op rfl rfl fun Q' hQ => ?_; simp [f7a, f7b, f7c, f7d, f7e, f7f, f8a, f8b, f8c, f8d, f8e, f8f]; refine hQ.out _ ?_; clear hQ; clear Q') | (refine q_drawW_guard rfl rfl fun Q1 Q2 h1 h2 => ?_; simp [f7a, f7b, f7c, f7d, f7e, f7f, f8a, f8b, f8c, f8d, f8e, f8f, twoB_some]; (first | refine h1.out ?_ | refine h2.out ?_); clear h1 h2; clear Q1 Q2; intro Q' hQ; simp [f7a, f7b, f7c, f7d, f7e, f7f, f8a, f8b, f8c, f8d, f8e, f8f]; refine hQ.out _ ?_; clear hQ; clear Q') | (refine q_drawW_nil rfl fun Q' hQ => ?_; simp [f7a, f7b, f7c, f7d, f7e, f7f, f8a, f8b, f8c, f8d, f8e, f8f]; refine hQ.out _ ?_; clear hQ; clear Q'))
    refine thenC_n (q_ret rfl (thenC_r ?_))
    cases h3
    simp
  · rw [if_neg c6] at h1
    refine q_ifF rfl (by simp [c6]) (q_skip rfl (thenC_n (zq rfl (zr rfl rfl rfl (by simp; rfl) ?_))))
    refine thenC_n (q_ret rfl ?_)
    cases h1
    simp

-- strings.Cut
def strings_Cut (a0 : ByteArray) (a1 : ByteArray) : Option (ByteArray × ByteArray × Bool) :=
  (i_stringslite_Cut a0 a1).bind fun v2 =>
  some (v2.1, v2.2.1, v2.2.2)
theorem strings_Cut_ok {a0 : ByteArray} {a1 : ByteArray} {r : ByteArray × ByteArray × Bool} (h0 : strings_Cut a0 a1 = some r) : L 48 [.sc (.string a0), .sc (.string a1)] = some (.tup [.sc (.string r.1), .sc (.string r.2.1), .sc (.bool r.2.2)], [.dead, .dead]) := by
  simp only [strings_Cut] at h0
  refine L_run cfn48 fn48 (runF_of bd48 ⟨of_decide_eq_true rfl, of_decide_eq_true rfl⟩ ?_)
  simp only [entryF, entryT, entryO, entryE, isIo]
  refine zq rfl (zr rfl rfl rfl (by simp; rfl) ?_)
  refine thenC_n (zq rfl ?_)
  obtain ⟨v2, f2, h1⟩ := bnd_some h0
  have f2k := i_stringslite_Cut_ok f2
  try simp at f2k
  refine zr rfl rfl rfl (by simp [f2k]; rfl) ?_
  refine thenC_n (q_ret rfl ?_)
  cases h1
  simp

-- strings.genSplit
def strings_genSplit_b11 (a0 : ByteArray) (a1 : ByteArray) (a2 : Int) (v40 : Int) : ByteArray × Int × List ByteArray → Option ((ByteArray × Int × List ByteArray) ⊕ (Unit ⊕ List ByteArray))
  | (w45, w46, w47) =>
  if w46 < (IntKind.i64.wrap ((if (IntKind.i64.wrap ((a0.size : Int) + 1)) < (IntKind.i64.wrap (v40 + 1)) then (IntKind.i64.wrap ((a0.size : Int) + 1)) else (IntKind.i64.wrap (v40 + 1))) - 1)) then
    (vIndex w45 a1).bind fun v52 =>
    if v52 < 0 then
      exitG <|
      (atI w47 w46).bind fun v53 =>
      (pieceL (w47.set w46.toNat w45) 0 (IntKind.i64.wrap (w46 + 1))).bind fun v54 =>
      some (.inr v54)
    else
      (pieceS w45 0 (IntKind.i64.wrap (v52 + a2))).bind fun v55 =>
      (atI w47 w46).bind fun v56 =>
      (pieceS w45 (IntKind.i64.wrap (v52 + (a1.size : Int))) (w45.size : Int)).bind fun v57 =>
      nextG (v57, IntKind.i64.wrap (w46 + 1), (w47.set w46.toNat v55))
  else
    exitG <|
    (atI w47 w46).bind fun v58 =>
    (pieceL (w47.set w46.toNat w45) 0 (IntKind.i64.wrap (w46 + 1))).bind fun v59 =>
    some (.inr v59)
def strings_genSplit_h11 (a0 : ByteArray) (a1 : ByteArray) (a2 : Int) (v40 : Int) : ByteArray × Int × List ByteArray → Fr
  | (w45, w46, w47) => ⟨66, [(0, .one (.t none (.sc (.string w45)))), (1, .one (.t none (.sc (.string a1)))), (2, .one (.t none (.sc (.int .i64 a2)))), (3, .one (.t none (.sc (.int .i64 (IntKind.i64.wrap ((if (IntKind.i64.wrap ((a0.size : Int) + 1)) < (IntKind.i64.wrap (v40 + 1)) then (IntKind.i64.wrap ((a0.size : Int) + 1)) else (IntKind.i64.wrap (v40 + 1))) - 1)))))), (9, .one (.h 9 [])), (10, .one (.t none (.sc (.int .i64 w46))))], [(9, .os 1 w47.length (w47.map fun x0 => .sc (.string x0)))]⟩
def strings_genSplit_b11a (a0 : ByteArray) (a1 : ByteArray) (a2 : Int) (a3 : Int) : ByteArray × Int × List ByteArray → Option ((ByteArray × Int × List ByteArray) ⊕ (Unit ⊕ List ByteArray))
  | (w64, w65, w66) =>
  if w65 < (IntKind.i64.wrap ((if (IntKind.i64.wrap ((a0.size : Int) + 1)) < a3 then (IntKind.i64.wrap ((a0.size : Int) + 1)) else a3) - 1)) then
    (vIndex w64 a1).bind fun v71 =>
    if v71 < 0 then
      exitG <|
      (atI w66 w65).bind fun v72 =>
      (pieceL (w66.set w65.toNat w64) 0 (IntKind.i64.wrap (w65 + 1))).bind fun v73 =>
      some (.inr v73)
    else
      (pieceS w64 0 (IntKind.i64.wrap (v71 + a2))).bind fun v74 =>
      (atI w66 w65).bind fun v75 =>
      (pieceS w64 (IntKind.i64.wrap (v71 + (a1.size : Int))) (w64.size : Int)).bind fun v76 =>
      nextG (v76, IntKind.i64.wrap (w65 + 1), (w66.set w65.toNat v74))
  else
    exitG <|
    (atI w66 w65).bind fun v77 =>
    (pieceL (w66.set w65.toNat w64) 0 (IntKind.i64.wrap (w65 + 1))).bind fun v78 =>
    some (.inr v78)
def strings_genSplit_h11a (a0 : ByteArray) (a1 : ByteArray) (a2 : Int) (a3 : Int) : ByteArray × Int × List ByteArray → Fr
  | (w64, w65, w66) => ⟨66, [(0, .one (.t none (.sc (.string w64)))), (1, .one (.t none (.sc (.string a1)))), (2, .one (.t none (.sc (.int .i64 a2)))), (3, .one (.t none (.sc (.int .i64 (IntKind.i64.wrap ((if (IntKind.i64.wrap ((a0.size : Int) + 1)) < a3 then (IntKind.i64.wrap ((a0.size : Int) + 1)) else a3) - 1)))))), (9, .one (.h 9 [])), (10, .one (.t none (.sc (.int .i64 w65))))], [(9, .os 1 w66.length (w66.map fun x0 => .sc (.string x0)))]⟩
def strings_genSplit (a0 : ByteArray) (a1 : ByteArray) (a2 : Int) (a3 : Int) : Option (Unit ⊕ List ByteArray) :=
  if a3 = 0 then
    some (.inl ())
  else
    if a1 = ByteArray.empty then
      none
    else
      if a3 < 0 then
        (vCount a0 a1).bind fun v40 =>
        chk (makeOk 16 (if (IntKind.i64.wrap ((a0.size : Int) + 1)) < (IntKind.i64.wrap (v40 + 1)) then (IntKind.i64.wrap ((a0.size : Int) + 1)) else (IntKind.i64.wrap (v40 + 1)))) <|
        loopG (strings_genSplit_b11 a0 a1 a2 v40) LFm (a0, 0, List.replicate (if (IntKind.i64.wrap ((a0.size : Int) + 1)) < (IntKind.i64.wrap (v40 + 1)) then (IntKind.i64.wrap ((a0.size : Int) + 1)) else (IntKind.i64.wrap (v40 + 1))).toNat (ByteArray.empty : ByteArray))
      else
        chk (makeOk 16 (if (IntKind.i64.wrap ((a0.size : Int) + 1)) < a3 then (IntKind.i64.wrap ((a0.size : Int) + 1)) else a3)) <|
        loopG (strings_genSplit_b11a a0 a1 a2 a3) LFm (a0, 0, List.replicate (if (IntKind.i64.wrap ((a0.size : Int) + 1)) < a3 then (IntKind.i64.wrap ((a0.size : Int) + 1)) else a3).toNat (ByteArray.empty : ByteArray))
theorem strings_genSplit_ok {a0 : ByteArray} {a1 : ByteArray} {a2 : Int} {a3 : Int} {r : Unit ⊕ List ByteArray} (h0 : strings_genSplit a0 a1 a2 a3 = some r) : L 68 [.sc (.string a0), .sc (.string a1), .sc (.int .i64 a2), .sc (.int .i64 a3)] = some (match r with | (.inl r) => (.os 1 0 [], [.dead, .dead, .dead, .dead]) | (.inr r) => (.sl r.length (r.map fun x0 => .sc (.string x0)), [.dead, .dead, .dead, .dead])) := by
  simp only [strings_genSplit] at h0
  refine L_run cfn68 fn68 (runF_of bd68 ⟨of_decide_eq_true rfl, of_decide_eq_true rfl⟩ ?_)
  simp only [entryF, entryT, entryO, entryE, isIo]
  refine zq rfl (zr rfl rfl rfl (by simp; rfl) ?_)
  refine thenC_n (zq rfl (zq rfl (zr rfl rfl rfl (by simp; rfl) ?_)))
  refine thenC_n ?_
  by_cases c51 : a3 = 0
  · rw [if_pos c51] at h0
    have c51e := eq_true c51
    refine q_ifT rfl (by simp [c51e]) (zq rfl (zr rfl rfl rfl (by simp; rfl) ?_))
    refine thenC_n (q_ret rfl (thenC_r ?_))
    cases h0
    simp
  · rw [if_neg c51] at h0
    have c51e := eq_false c51
    refine q_ifF rfl (by simp [c51e]) (q_skip rfl (thenC_n (zq rfl (zq rfl (zr rfl rfl rfl (by simp; rfl) ?_)))))
    refine thenC_n ?_
    by_cases c52 : a1 = ByteArray.empty
    · rw [if_pos c52] at h0
      have c52e := eq_true c52
      refine q_ifT rfl (by simp [c52e]) (zq rfl ?_)
      cases h0
    · rw [if_neg c52] at h0
      have c52e := eq_false c52
      refine q_ifF rfl (by simp [c52e]) (q_skip rfl (thenC_n (zq rfl (zq rfl (zr rfl rfl rfl (by simp; rfl) ?_)))))
      refine thenC_n ?_
      by_cases c53 : a3 < 0
      · rw [if_pos c53] at h0
        refine q_ifT rfl (by simp [c53]) ?_
        obtain ⟨v40, f54, h1⟩ := bnd_some h0
        have f54k := vCount_ok f54
        try simp at f54k
        refine zr rfl rfl rfl (by simp [f54k]; rfl) ?_
        refine thenC_n (zq rfl (zr rfl rfl rfl (by simp; rfl) ?_))
        refine thenC_n (zq rfl ?_)
        obtain ⟨f55, h2⟩ := chk_some h1
        obtain ⟨f55a, f55b, f55c⟩ := f55
        have f55d : max (if (IntKind.i64.wrap ((a0.size : Int) + 1)) < (IntKind.i64.wrap (v40 + 1)) then (IntKind.i64.wrap ((a0.size : Int) + 1)) else (IntKind.i64.wrap (v40 + 1))) 0 = (if (IntKind.i64.wrap ((a0.size : Int) + 1)) < (IntKind.i64.wrap (v40 + 1)) then (IntKind.i64.wrap ((a0.size : Int) + 1)) else (IntKind.i64.wrap (v40 + 1))) := by omega
        refine zr rfl rfl rfl (by simp [f55a, f55b, f55c, f55d]; rfl) ?_
        refine thenC_n (zq rfl (zr rfl rfl rfl (by simp; rfl) ?_))
        refine thenC_n (zq rfl (zr rfl rfl rfl (by simp; rfl) ?_))
        refine thenC_n (zq rfl (zb rfl (q_loopG h2 (strings_genSplit_h11 a0 a1 a2 v40) rfl rfl (by simp [strings_genSplit_h11]) fun s o1 h3 hr1 => ?_)))
        obtain ⟨w45, w46, w47⟩ := s
        simp only [strings_genSplit_b11] at h3
        simp only [strings_genSplit_h11]
        refine zq rfl (zq rfl (zr rfl rfl rfl (by simp; rfl) ?_))
        refine thenC_n ?_
        by_cases c68 : w46 < (IntKind.i64.wrap ((if (IntKind.i64.wrap ((a0.size : Int) + 1)) < (IntKind.i64.wrap (v40 + 1)) then (IntKind.i64.wrap ((a0.size : Int) + 1)) else (IntKind.i64.wrap (v40 + 1))) - 1))
        · rw [if_pos c68] at h3
          refine q_ifT rfl (by simp [c68]) (q_skip rfl (thenC_n (zb rfl (zq rfl ?_))))
          obtain ⟨v52, f69, h4⟩ := bnd_some h3
          have f69k := vIndex79_ok f69
          try simp at f69k
          refine zr rfl rfl rfl (by simp [f69k]; rfl) ?_
          refine thenC_n (zq rfl (zq rfl (zr rfl rfl rfl (by simp; rfl) ?_)))
          refine thenC_n ?_
          by_cases c70 : v52 < 0
          · rw [if_pos c70] at h4
            refine q_ifT rfl (by simp [c70]) (q_exit rfl (thenC_x (blockC_miss rfl ?_)))
            obtain ⟨rr1, h5, ho1⟩ := exit_some h4
            have hs1 := hr1 _ ho1
            subst hs1
            refine roundC_x ho1 (blockC_hit2 rfl (thenC_n (zq rfl ?_)))
            obtain ⟨v53, f71, h6⟩ := bnd_some h5
            obtain ⟨f71a, f71b, f71c, f71d, f71e⟩ := atI_some f71
            refine zr rfl rfl rfl (by simp [f71a, f71b, f71c, f71d, f71e]; rfl) ?_
            refine thenC_n (zq rfl (q_frz rfl rfl (by simp; rfl) ?_))
            obtain ⟨v54, f72, h7⟩ := bnd_some h6
            obtain ⟨f72a, f72b, f72c, -⟩ := pieceL_some f72
            obtain ⟨f72d, f72g⟩ := piece_hi f72a f72b
            have f72e := pieceL_map (g := fun x : ByteArray => (.sc (.string x) : T)) f72
            try simp at f72e
            have f72f := pieceL_slm f72
            try simp only [Int.reduceToNat, Int.toNat_natCast, Nat.sub_zero] at f72f
            try simp only [List.length_set] at f72a f72b f72c f72d f72g f72f
            refine zr rfl rfl rfl (by simp [f72a, f72b, f72c, f72d, f72g, f72e, f72f]; rfl) ?_
            refine thenC_n (q_ret rfl ?_)
            cases h7
            simp
          · rw [if_neg c70] at h4
            refine q_ifF rfl (by simp [c70]) (q_skip rfl (thenC_n (zq rfl ?_)))
            obtain ⟨v55, f73, h5⟩ := bnd_some h4
            obtain ⟨f73a, f73b, f73c, f73d⟩ := pieceS_some f73
            obtain ⟨f73e, f73f⟩ := piece_hi f73a f73b
            have f73d := f73d.symm
            try simp only [Int.reduceToNat, Int.toNat_natCast] at f73d
            obtain ⟨v56, f74, h6⟩ := bnd_some h5
            obtain ⟨f74a, f74b, f74c, f74d, f74e⟩ := atI_some f74
            refine zr rfl rfl rfl (by simp [f73a, f73b, f73c, f73d, f73e, f73f, f74a, f74b, f74c, f74d, f74e]; rfl) ?_
            refine thenC_n (zq rfl ?_)
            obtain ⟨v57, f75, h7⟩ := bnd_some h6
            obtain ⟨f75a, f75b, f75c, f75d⟩ := pieceS_some f75
            obtain ⟨f75e, f75f⟩ := piece_hi f75a f75b
            have f75d := f75d.symm
            try simp only [Int.reduceToNat, Int.toNat_natCast] at f75d
            refine zr rfl rfl rfl (by simp [f75a, f75b, f75c, f75d, f75e, f75f]; rfl) ?_
            refine thenC_n (zr rfl rfl rfl (by simp; rfl) ?_)
            refine blockC_n ?_
            have ho := next_some h7
            refine roundC_n ho ?_
            simp [strings_genSplit_h11]
        · rw [if_neg c68] at h3
          refine q_ifF rfl (by simp [c68]) (q_exit rfl (thenC_x ?_))
          obtain ⟨rr1, h4, ho1⟩ := exit_some h3
          have hs1 := hr1 _ ho1
          subst hs1
          refine roundC_x ho1 (blockC_hit2 rfl (thenC_n (zq rfl ?_)))
          obtain ⟨v58, f76, h5⟩ := bnd_some h4
          obtain ⟨f76a, f76b, f76c, f76d, f76e⟩ := atI_some f76
          refine zr rfl rfl rfl (by simp [f76a, f76b, f76c, f76d, f76e]; rfl) ?_
          refine thenC_n (zq rfl (q_frz rfl rfl (by simp; rfl) ?_))
          obtain ⟨v59, f77, h6⟩ := bnd_some h5
          obtain ⟨f77a, f77b, f77c, -⟩ := pieceL_some f77
          obtain ⟨f77d, f77g⟩ := piece_hi f77a f77b
          have f77e := pieceL_map (g := fun x : ByteArray => (.sc (.string x) : T)) f77
          try simp at f77e
          have f77f := pieceL_slm f77
          try simp only [Int.reduceToNat, Int.toNat_natCast, Nat.sub_zero] at f77f
          try simp only [List.length_set] at f77a f77b f77c f77d f77g f77f
          refine zr rfl rfl rfl (by simp [f77a, f77b, f77c, f77d, f77g, f77e, f77f]; rfl) ?_
          refine thenC_n (q_ret rfl ?_)
          cases h6
          simp
      · rw [if_neg c53] at h0
        refine q_ifF rfl (by simp [c53]) (q_skip rfl (thenC_n (zq rfl (zr rfl rfl rfl (by simp; rfl) ?_))))
        refine thenC_n (zq rfl ?_)
        obtain ⟨f78, h1⟩ := chk_some h0
        obtain ⟨f78a, f78b, f78c⟩ := f78
        have f78d : max (if (IntKind.i64.wrap ((a0.size : Int) + 1)) < a3 then (IntKind.i64.wrap ((a0.size : Int) + 1)) else a3) 0 = (if (IntKind.i64.wrap ((a0.size : Int) + 1)) < a3 then (IntKind.i64.wrap ((a0.size : Int) + 1)) else a3) := by omega
        refine zr rfl rfl rfl (by simp [f78a, f78b, f78c, f78d]; rfl) ?_
        refine thenC_n (zq rfl (zr rfl rfl rfl (by simp; rfl) ?_))
        refine thenC_n (zq rfl (zr rfl rfl rfl (by simp; rfl) ?_))
        refine thenC_n (zq rfl (zb rfl (q_loopG h1 (strings_genSplit_h11a a0 a1 a2 a3) rfl rfl (by simp [strings_genSplit_h11a]) fun s o2 h2 hr2 => ?_)))
        obtain ⟨w64, w65, w66⟩ := s
        simp only [strings_genSplit_b11a] at h2
        simp only [strings_genSplit_h11a]
        refine zq rfl (zq rfl (zr rfl rfl rfl (by simp; rfl) ?_))
        refine thenC_n ?_
        by_cases c91 : w65 < (IntKind.i64.wrap ((if (IntKind.i64.wrap ((a0.size : Int) + 1)) < a3 then (IntKind.i64.wrap ((a0.size : Int) + 1)) else a3) - 1))
        · rw [if_pos c91] at h2
          refine q_ifT rfl (by simp [c91]) (q_skip rfl (thenC_n (zb rfl (zq rfl ?_))))
          obtain ⟨v71, f92, h3⟩ := bnd_some h2
          have f92k := vIndex79_ok f92
          try simp at f92k
          refine zr rfl rfl rfl (by simp [f92k]; rfl) ?_
          refine thenC_n (zq rfl (zq rfl (zr rfl rfl rfl (by simp; rfl) ?_)))
          refine thenC_n ?_
          by_cases c93 : v71 < 0
          · rw [if_pos c93] at h3
            refine q_ifT rfl (by simp [c93]) (q_exit rfl (thenC_x (blockC_miss rfl ?_)))
            obtain ⟨rr2, h4, ho2⟩ := exit_some h3
            have hs2 := hr2 _ ho2
            subst hs2
            refine roundC_x ho2 (blockC_hit2 rfl (thenC_n (zq rfl ?_)))
            obtain ⟨v72, f94, h5⟩ := bnd_some h4
            obtain ⟨f94a, f94b, f94c, f94d, f94e⟩ := atI_some f94
            refine zr rfl rfl rfl (by simp [f94a, f94b, f94c, f94d, f94e]; rfl) ?_
            refine thenC_n (zq rfl (q_frz rfl rfl (by simp; rfl) ?_))
            obtain ⟨v73, f95, h6⟩ := bnd_some h5
            obtain ⟨f95a, f95b, f95c, -⟩ := pieceL_some f95
            obtain ⟨f95d, f95g⟩ := piece_hi f95a f95b
            have f95e := pieceL_map (g := fun x : ByteArray => (.sc (.string x) : T)) f95
            try simp at f95e
            have f95f := pieceL_slm f95
            try simp only [Int.reduceToNat, Int.toNat_natCast, Nat.sub_zero] at f95f
            try simp only [List.length_set] at f95a f95b f95c f95d f95g f95f
            refine zr rfl rfl rfl (by simp [f95a, f95b, f95c, f95d, f95g, f95e, f95f]; rfl) ?_
            refine thenC_n (q_ret rfl ?_)
            cases h6
            simp
          · rw [if_neg c93] at h3
            refine q_ifF rfl (by simp [c93]) (q_skip rfl (thenC_n (zq rfl ?_)))
            obtain ⟨v74, f96, h4⟩ := bnd_some h3
            obtain ⟨f96a, f96b, f96c, f96d⟩ := pieceS_some f96
            obtain ⟨f96e, f96f⟩ := piece_hi f96a f96b
            have f96d := f96d.symm
            try simp only [Int.reduceToNat, Int.toNat_natCast] at f96d
            obtain ⟨v75, f97, h5⟩ := bnd_some h4
            obtain ⟨f97a, f97b, f97c, f97d, f97e⟩ := atI_some f97
            refine zr rfl rfl rfl (by simp [f96a, f96b, f96c, f96d, f96e, f96f, f97a, f97b, f97c, f97d, f97e]; rfl) ?_
            refine thenC_n (zq rfl ?_)
            obtain ⟨v76, f98, h6⟩ := bnd_some h5
            obtain ⟨f98a, f98b, f98c, f98d⟩ := pieceS_some f98
            obtain ⟨f98e, f98f⟩ := piece_hi f98a f98b
            have f98d := f98d.symm
            try simp only [Int.reduceToNat, Int.toNat_natCast] at f98d
            refine zr rfl rfl rfl (by simp [f98a, f98b, f98c, f98d, f98e, f98f]; rfl) ?_
            refine thenC_n (zr rfl rfl rfl (by simp; rfl) ?_)
            refine blockC_n ?_
            have ho := next_some h6
            refine roundC_n ho ?_
            simp [strings_genSplit_h11a]
        · rw [if_neg c91] at h2
          refine q_ifF rfl (by simp [c91]) (q_exit rfl (thenC_x ?_))
          obtain ⟨rr2, h3, ho2⟩ := exit_some h2
          have hs2 := hr2 _ ho2
          subst hs2
          refine roundC_x ho2 (blockC_hit2 rfl (thenC_n (zq rfl ?_)))
          obtain ⟨v77, f99, h4⟩ := bnd_some h3
          obtain ⟨f99a, f99b, f99c, f99d, f99e⟩ := atI_some f99
          refine zr rfl rfl rfl (by simp [f99a, f99b, f99c, f99d, f99e]; rfl) ?_
          refine thenC_n (zq rfl (q_frz rfl rfl (by simp; rfl) ?_))
          obtain ⟨v78, f100, h5⟩ := bnd_some h4
          obtain ⟨f100a, f100b, f100c, -⟩ := pieceL_some f100
          obtain ⟨f100d, f100g⟩ := piece_hi f100a f100b
          have f100e := pieceL_map (g := fun x : ByteArray => (.sc (.string x) : T)) f100
          try simp at f100e
          have f100f := pieceL_slm f100
          try simp only [Int.reduceToNat, Int.toNat_natCast, Nat.sub_zero] at f100f
          try simp only [List.length_set] at f100a f100b f100c f100d f100g f100f
          refine zr rfl rfl rfl (by simp [f100a, f100b, f100c, f100d, f100g, f100e, f100f]; rfl) ?_
          refine thenC_n (q_ret rfl ?_)
          cases h5
          simp

-- strings.Split
def strings_Split (a0 : ByteArray) (a1 : ByteArray) : Option (Unit ⊕ List ByteArray) :=
  (strings_genSplit a0 a1 0 (-1)).bind fun v4 =>
  match v4 with
  | (.inl v5) =>
    some (.inl ())
  | (.inr v6) =>
    some (.inr v6)
theorem strings_Split_ok {a0 : ByteArray} {a1 : ByteArray} {r : Unit ⊕ List ByteArray} (h0 : strings_Split a0 a1 = some r) : L 49 [.sc (.string a0), .sc (.string a1)] = some (match r with | (.inl r) => (.os 1 0 [], [.dead, .dead]) | (.inr r) => (.sl r.length (r.map fun x0 => .sc (.string x0)), [.dead, .dead])) := by
  simp only [strings_Split] at h0
  refine L_run cfn49 fn49 (runF_of bd49 ⟨of_decide_eq_true rfl, of_decide_eq_true rfl⟩ ?_)
  simp only [entryF, entryT, entryO, entryE, isIo]
  refine zq rfl (zr rfl rfl rfl (by simp; rfl) ?_)
  refine thenC_n (zq rfl ?_)
  obtain ⟨v4, f2, h1⟩ := bnd_some h0
  rcases v4 with v5 | v6
  · dsimp only at h1
    have f2k := strings_genSplit_ok f2
    try simp at f2k
    refine zr rfl rfl rfl (by simp [f2k]; rfl) ?_
    refine thenC_n (q_ret rfl ?_)
    cases h1
    simp
  · dsimp only at h1
    have f2k := strings_genSplit_ok f2
    try simp at f2k
    refine zr rfl rfl rfl (by simp [f2k]; rfl) ?_
    refine thenC_n (q_ret rfl ?_)
    cases h1
    simp
end Go.Proofs.YthalofddjlhcjaaDoor
end
section
/- strings.Split answers a list. -/
namespace Go.Proofs.YthalofddjlhcjaaDoor
open Go
set_option linter.unusedVariables false
set_option linter.unusedSimpArgs false
def vSplit (a b : ByteArray) : Option (List ByteArray) := (strings_Split a b).bind fun r => match r with | .inl _ => none | .inr l => some l
theorem vSplit_ok {a0 a1 : ByteArray} {r : List ByteArray} (h : vSplit a0 a1 = some r) : L 49 [.sc (.string a0), .sc (.string a1)] = some (.sl r.length (r.map fun x0 => .sc (.string x0)), [.dead, .dead]) := by
  unfold vSplit at h
  rw [Option.bind_eq_some_iff] at h
  obtain ⟨x, h1, h2⟩ := h
  cases x with
  | inl u => cases h2
  | inr l => cases h2; exact strings_Split_ok h1
end Go.Proofs.YthalofddjlhcjaaDoor
end
