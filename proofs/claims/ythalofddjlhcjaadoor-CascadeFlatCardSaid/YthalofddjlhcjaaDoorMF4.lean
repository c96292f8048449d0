/- Proved here: a part of the proof of the law at hand, in one text: no condition. -/
import Derived.Test.YthalofddjlhcjaaDoorMF3
set_option linter.unusedVariables false
set_option linter.unusedSimpArgs false
section
/- Functions by value: program. -/
namespace Go.Proofs.YthalofddjlhcjaaDoor
open Go
set_option maxRecDepth 100000
set_option maxHeartbeats 1000000
set_option linter.unusedVariables false
set_option linter.unusedSimpArgs false

structure Runner where
  c : Casc
deriving Inhabited

-- semigroup/cascade.compareRows
def cascade_compareRows (a0 : List Int) (a1 : List Int) : Option (Int) :=
  (cmp_Compare_int (a0.length : Int) (a1.length : Int)).bind fun v4 =>
  (slices_Compare_Lint_int a0 a1).bind fun v5 =>
  (cmp_Or_int [v4, v5]).bind fun v6 =>
  some v6
theorem cascade_compareRows_ok {a0 : List Int} {a1 : List Int} {r : Int} (h0 : cascade_compareRows a0 a1 = some r) : L 58 [.sl a0.length (a0.map fun x0 => .sc (.int .i64 x0)), .sl a1.length (a1.map fun x0 => .sc (.int .i64 x0))] = some (.sc (.int .i64 r), [.dead, .dead]) := by
  simp only [cascade_compareRows] at h0
  refine L_run cfn58 fn58 (runF_of bd58 ⟨of_decide_eq_true rfl, of_decide_eq_true rfl⟩ ?_)
  simp only [entryF, entryT, entryO, entryE, isIo]
  refine zq rfl (zr rfl rfl rfl (by simp; rfl) ?_)
  refine thenC_n (zq rfl ?_)
  obtain ⟨v4, f4, h1⟩ := bnd_some h0
  have f4k := cmp_Compare_int_ok f4
  try simp at f4k
  obtain ⟨v5, f5, h2⟩ := bnd_some h1
  have f5k := slices_Compare_Lint_int_ok f5
  try simp at f5k
  obtain ⟨v6, f6, h3⟩ := bnd_some h2
  have f6k := cmp_Or_int_ok f6
  try simp at f6k
  refine zr rfl rfl rfl (by simp [f4k, f5k, f6k]; rfl) ?_
  refine thenC_n (q_ret rfl ?_)
  cases h3
  simp

-- semigroup/cascade.isTuple
def cascade_isTuple_b4 (a0 : List Int) (a1 : List Int) : Int → Option (Int ⊕ Bool)
  | w10 =>
  if w10 < (a1.length : Int) then
    (atI a1 w10).bind fun v13 =>
    if v13 < 0 then
      exitG <|
      some false
    else
      (atI a0 w10).bind fun v14 =>
      if v14 ≤ v13 then
        exitG <|
        some false
      else
        nextG (IntKind.i64.wrap (w10 + 1))
  else
    exitG <|
    some true
def cascade_isTuple_h4 (a0 : List Int) (a1 : List Int) : Int → Fr
  | w10 => ⟨30, [(0, .one (.t none (.sl a0.length (a0.map fun x0 => .sc (.int .i64 x0))))), (12, .one (.t none (.sl a1.length (a1.map fun x0 => .sc (.int .i64 x0))))), (13, .one (.t none (.sc (.int .i64 (a1.length : Int))))), (14, .one (.t none (.sc (.int .i64 w10))))], []⟩
def cascade_isTuple (a0 : List Int) (a1 : List Int) : Option (Bool) :=
  if (a1.length : Int) = (a0.length : Int) then
    loopG (cascade_isTuple_b4 a0 a1) LFm 0
  else
    some false
theorem cascade_isTuple_ok {a0 : List Int} {a1 : List Int} {r : Bool} (h0 : cascade_isTuple a0 a1 = some r) : L 31 [.sl a0.length (a0.map fun x0 => .sc (.int .i64 x0)), .sl a1.length (a1.map fun x0 => .sc (.int .i64 x0))] = some (.sc (.bool r), [.dead, .dead]) := by
  simp only [cascade_isTuple] at h0
  refine L_run cfn31 fn31 (runF_of bd31 ⟨of_decide_eq_true rfl, of_decide_eq_true rfl⟩ ?_)
  simp only [entryF, entryT, entryO, entryE, isIo]
  refine zq rfl (zr rfl rfl rfl (by simp; rfl) ?_)
  refine thenC_n (zq rfl (zq rfl (zr rfl rfl rfl (by simp; rfl) ?_)))
  refine thenC_n ?_
  by_cases c17 : (a1.length : Int) = (a0.length : Int)
  · rw [if_pos c17] at h0
    have c17e := eq_true c17
    refine q_ifF rfl (by simp [c17e]) (q_skip rfl (thenC_n (zq rfl (zq rfl (zr rfl rfl rfl (by simp; rfl) ?_)))))
    refine thenC_n (zb rfl (q_loopG h0 (cascade_isTuple_h4 a0 a1) rfl rfl (by simp [cascade_isTuple_h4]) fun s o1 h1 hr1 => ?_))
    obtain ⟨w10, hs1⟩ : ∃ y, y = s := ⟨_, rfl⟩
    subst hs1
    simp only [cascade_isTuple_b4] at h1
    simp only [cascade_isTuple_h4]
    refine zq rfl (zr rfl rfl rfl (by simp; rfl) ?_)
    refine thenC_n (zq rfl ?_)
    by_cases c28 : w10 < (a1.length : Int)
    · rw [if_pos c28] at h1
      refine q_ifT rfl (by simp [c28]) (q_skip rfl (thenC_n (zq rfl (zb rfl (zq rfl ?_)))))
      obtain ⟨v13, f29, h2⟩ := bnd_some h1
      obtain ⟨f29a, f29b, f29c, f29d, f29e⟩ := atI_some f29
      refine zr rfl rfl rfl (by simp [f29a, f29b, f29c, f29d, f29e]; rfl) ?_
      refine thenC_n (zq rfl ?_)
      by_cases c30 : v13 < 0
      · rw [if_pos c30] at h2
        refine zr rfl rfl rfl (by simp [c30]; rfl) ?_
        refine thenC_n (q_ifT rfl (by simp) (zq rfl (zr rfl rfl rfl (by simp; rfl) ?_)))
        refine thenC_n (q_ret rfl (blockC_r (thenC_r ?_)))
        obtain ⟨rr1, h3, ho1⟩ := exit_some h2
        have hs1 := hr1 _ ho1
        subst hs1
        refine roundC_r ho1 (blockC_r (thenC_r ?_))
        cases h3
        simp
      · rw [if_neg c30] at h2
        obtain ⟨v14, f31, h3⟩ := bnd_some h2
        obtain ⟨f31a, f31b, f31c, f31d, f31e⟩ := atI_some f31
        refine zr rfl rfl rfl (by simp [c30, f31a, f31b, f31c, f31d, f31e]; rfl) ?_
        refine thenC_n ?_
        by_cases c32 : v14 ≤ v13
        · rw [if_pos c32] at h3
          refine q_ifT rfl (by simp [c32]) (zq rfl (zr rfl rfl rfl (by simp; rfl) ?_))
          refine thenC_n (q_ret rfl (blockC_r (thenC_r ?_)))
          obtain ⟨rr1, h4, ho1⟩ := exit_some h3
          have hs1 := hr1 _ ho1
          subst hs1
          refine roundC_r ho1 (blockC_r (thenC_r ?_))
          cases h4
          simp
        · rw [if_neg c32] at h3
          refine q_ifF rfl (by simp [c32]) (q_skip rfl (blockC_n (thenC_n (zr rfl rfl rfl (by simp; rfl) ?_))))
          have ho := next_some h3
          refine roundC_n ho ?_
          simp [cascade_isTuple_h4]
    · rw [if_neg c28] at h1
      refine q_ifF rfl (by simp [c28]) (q_exit rfl (thenC_x ?_))
      obtain ⟨rr1, h2, ho1⟩ := exit_some h1
      have hs1 := hr1 _ ho1
      subst hs1
      refine roundC_x ho1 (blockC_hit2 rfl (thenC_n (zq rfl (zr rfl rfl rfl (by simp; rfl) ?_))))
      refine thenC_n (q_ret rfl ?_)
      cases h2
      simp
  · rw [if_neg c17] at h0
    have c17e := eq_false c17
    refine q_ifT rfl (by simp [c17e]) (zq rfl (zr rfl rfl rfl (by simp; rfl) ?_))
    refine thenC_n (q_ret rfl (thenC_r ?_))
    cases h0
    simp

-- semigroup/semigroupref26.in
def ref26_in_b2 (a0 : List Int) (a1 : List Int) : Int → Option (Int ⊕ Bool)
  | w10 =>
  if w10 < (a1.length : Int) then
    (atI a1 w10).bind fun v13 =>
    if v13 < 0 then
      exitG <|
      some false
    else
      (atI a0 w10).bind fun v14 =>
      if v14 ≤ v13 then
        exitG <|
        some false
      else
        nextG (IntKind.i64.wrap (w10 + 1))
  else
    exitG <|
    some true
def ref26_in_h2 (a0 : List Int) (a1 : List Int) : Int → Fr
  | w10 => ⟨25, [(0, .one (.t none (.sl a0.length (a0.map fun x0 => .sc (.int .i64 x0))))), (7, .one (.t none (.sl a1.length (a1.map fun x0 => .sc (.int .i64 x0))))), (8, .one (.t none (.sc (.int .i64 (a1.length : Int))))), (9, .one (.t none (.sc (.int .i64 w10))))], []⟩
def ref26_in (a0 : List Int) (a1 : List Int) : Option (Bool) :=
  loopG (ref26_in_b2 a0 a1) LFm 0
theorem ref26_in_ok {a0 : List Int} {a1 : List Int} {r : Bool} (h0 : ref26_in a0 a1 = some r) : L 59 [.sl a0.length (a0.map fun x0 => .sc (.int .i64 x0)), .sl a1.length (a1.map fun x0 => .sc (.int .i64 x0))] = some (.sc (.bool r), [.dead, .dead]) := by
  simp only [ref26_in] at h0
  refine L_run cfn59 fn59 (runF_of bd59 ⟨of_decide_eq_true rfl, of_decide_eq_true rfl⟩ ?_)
  simp only [entryF, entryT, entryO, entryE, isIo]
  refine zq rfl (zr rfl rfl rfl (by simp; rfl) ?_)
  refine thenC_n (zq rfl (zq rfl (zr rfl rfl rfl (by simp; rfl) ?_)))
  refine thenC_n (zb rfl (q_loopG h0 (ref26_in_h2 a0 a1) rfl rfl (by simp [ref26_in_h2]) fun s o1 h1 hr1 => ?_))
  obtain ⟨w10, hs1⟩ : ∃ y, y = s := ⟨_, rfl⟩
  subst hs1
  simp only [ref26_in_b2] at h1
  simp only [ref26_in_h2]
  refine zq rfl (zr rfl rfl rfl (by simp; rfl) ?_)
  refine thenC_n (zq rfl ?_)
  by_cases c26 : w10 < (a1.length : Int)
  · rw [if_pos c26] at h1
    refine q_ifT rfl (by simp [c26]) (q_skip rfl (thenC_n (zq rfl (zb rfl (zq rfl ?_)))))
    obtain ⟨v13, f27, h2⟩ := bnd_some h1
    obtain ⟨f27a, f27b, f27c, f27d, f27e⟩ := atI_some f27
    refine zr rfl rfl rfl (by simp [f27a, f27b, f27c, f27d, f27e]; rfl) ?_
    refine thenC_n (zq rfl ?_)
    by_cases c28 : v13 < 0
    · rw [if_pos c28] at h2
      refine zr rfl rfl rfl (by simp [c28]; rfl) ?_
      refine thenC_n (q_ifT rfl (by simp) (zq rfl (zr rfl rfl rfl (by simp; rfl) ?_)))
      refine thenC_n (q_ret rfl (blockC_r (thenC_r ?_)))
      obtain ⟨rr1, h3, ho1⟩ := exit_some h2
      have hs1 := hr1 _ ho1
      subst hs1
      refine roundC_r ho1 (blockC_r (thenC_r ?_))
      cases h3
      simp
    · rw [if_neg c28] at h2
      obtain ⟨v14, f29, h3⟩ := bnd_some h2
      obtain ⟨f29a, f29b, f29c, f29d, f29e⟩ := atI_some f29
      refine zr rfl rfl rfl (by simp [c28, f29a, f29b, f29c, f29d, f29e]; rfl) ?_
      refine thenC_n ?_
      by_cases c30 : v14 ≤ v13
      · rw [if_pos c30] at h3
        refine q_ifT rfl (by simp [c30]) (zq rfl (zr rfl rfl rfl (by simp; rfl) ?_))
        refine thenC_n (q_ret rfl (blockC_r (thenC_r ?_)))
        obtain ⟨rr1, h4, ho1⟩ := exit_some h3
        have hs1 := hr1 _ ho1
        subst hs1
        refine roundC_r ho1 (blockC_r (thenC_r ?_))
        cases h4
        simp
      · rw [if_neg c30] at h3
        refine q_ifF rfl (by simp [c30]) (q_skip rfl (blockC_n (thenC_n (zr rfl rfl rfl (by simp; rfl) ?_))))
        have ho := next_some h3
        refine roundC_n ho ?_
        simp [ref26_in_h2]
  · rw [if_neg c26] at h1
    refine q_ifF rfl (by simp [c26]) (q_exit rfl (thenC_x ?_))
    obtain ⟨rr1, h2, ho1⟩ := exit_some h1
    have hs1 := hr1 _ ho1
    subst hs1
    refine roundC_x ho1 (blockC_hit2 rfl (thenC_n (zq rfl (zr rfl rfl rfl (by simp; rfl) ?_))))
    refine thenC_n (q_ret rfl ?_)
    cases h2
    simp

-- semigroup/semigroupref26.IsTuple
def ref26_IsTuple (a0 : Casc) (a1 : List Int) : Option (Bool) :=
  if (a1.length : Int) = (a0.sizes.length : Int) then
    (ref26_in a0.sizes a1).bind fun v2 =>
    some v2
  else
    some false
theorem ref26_IsTuple_ok {a0 : Casc} {a1 : List Int} {r : Bool} (h0 : ref26_IsTuple a0 a1 = some r) : L 39 [.agg [.sc (.int .i64 a0.letters), .sl a0.sizes.length (a0.sizes.map fun x0 => .sc (.int .i64 x0)), .sl a0.rows.length (a0.rows.flatMap fun x0 => [.sl x0.pre.length (x0.pre.map fun x1 => .sc (.int .i64 x1)), .sl x0.maps.length (x0.maps.map fun x1 => .sl x1.length (x1.map fun x2 => .sc (.int .i64 x2)))])], .sl a1.length (a1.map fun x0 => .sc (.int .i64 x0))] = some (.sc (.bool r), [.dead, .dead]) := by
  simp only [ref26_IsTuple] at h0
  refine L_run cfn39 fn39 (runF_of bd39 ⟨of_decide_eq_true rfl, of_decide_eq_true rfl⟩ ?_)
  simp only [entryF, entryT, entryO, entryE, isIo]
  refine zq rfl (zr rfl rfl rfl (by simp; rfl) ?_)
  refine thenC_n (zq rfl ?_)
  by_cases c3 : (a1.length : Int) = (a0.sizes.length : Int)
  · rw [if_pos c3] at h0
    have c3e := eq_true c3
    obtain ⟨v2, f4, h1⟩ := bnd_some h0
    have f4k := ref26_in_ok f4
    try simp at f4k
    refine zr rfl rfl rfl (by simp [c3e, f4k]; rfl) ?_
    refine thenC_n (q_ret rfl ?_)
    cases h1
    simp
  · rw [if_neg c3] at h0
    have c3e := eq_false c3
    refine zr rfl rfl rfl (by simp [c3e]; rfl) ?_
    refine thenC_n (q_ret rfl ?_)
    cases h0
    simp

-- semigroup/semigroupref26.Less
def ref26_Less (a0 : List Int) (a1 : List Int) : Option (Bool) :=
  if (a0.length : Int) = (a1.length : Int) then
    (ref03_Less a0 a1).bind fun v2 =>
    some v2
  else
    some (decide (a0.length < a1.length))
theorem ref26_Less_ok {a0 : List Int} {a1 : List Int} {r : Bool} (h0 : ref26_Less a0 a1 = some r) : L 60 [.sl a0.length (a0.map fun x0 => .sc (.int .i64 x0)), .sl a1.length (a1.map fun x0 => .sc (.int .i64 x0))] = some (.sc (.bool r), [.dead, .dead]) := by
  simp only [ref26_Less] at h0
  refine L_run cfn60 fn60 (runF_of bd60 ⟨of_decide_eq_true rfl, of_decide_eq_true rfl⟩ ?_)
  simp only [entryF, entryT, entryO, entryE, isIo]
  refine zq rfl (zr rfl rfl rfl (by simp; rfl) ?_)
  refine thenC_n (zq rfl (zq rfl (zr rfl rfl rfl (by simp; rfl) ?_)))
  refine thenC_n ?_
  by_cases c3 : (a0.length : Int) = (a1.length : Int)
  · rw [if_pos c3] at h0
    have c3e := eq_true c3
    refine q_ifF rfl (by simp [c3e]) (q_skip rfl (thenC_n (zq rfl ?_)))
    obtain ⟨v2, f4, h1⟩ := bnd_some h0
    have f4k := ref03_Less_ok f4
    try simp at f4k
    refine zr rfl rfl rfl (by simp [f4k]; rfl) ?_
    refine thenC_n (q_ret rfl ?_)
    cases h1
    simp
  · rw [if_neg c3] at h0
    have c3e := eq_false c3
    refine q_ifT rfl (by simp [c3e]) (zq rfl (zr rfl rfl rfl (by simp; rfl) ?_))
    refine thenC_n (q_ret rfl (thenC_r ?_))
    cases h0
    simp

-- semigroup/semigroupref26.Find
def ref26_Find_b2 (a0 : List (List Int)) (a1 : List Int) : Int → Option (Int ⊕ Int)
  | w10 =>
  if w10 < (a0.length : Int) then
    (atI a0 w10).bind fun v13 =>
    (ref03_Same a1 v13).bind fun v14 =>
    if v14 = true then
      exitG <|
      some w10
    else
      nextG (IntKind.i64.wrap (w10 + 1))
  else
    exitG <|
    some (-1)
def ref26_Find_h2 (a0 : List (List Int)) (a1 : List Int) : Int → Fr
  | w10 => ⟨19, [(1, .one (.t none (.sl a1.length (a1.map fun x0 => .sc (.int .i64 x0))))), (7, .one (.t none (.sl a0.length (a0.map fun x0 => .sl x0.length (x0.map fun x1 => .sc (.int .i64 x1)))))), (8, .one (.t none (.sc (.int .i64 (a0.length : Int))))), (9, .one (.t none (.sc (.int .i64 w10))))], []⟩
def ref26_Find (a0 : List (List Int)) (a1 : List Int) : Option (Int) :=
  loopG (ref26_Find_b2 a0 a1) LFm 0
theorem ref26_Find_ok {a0 : List (List Int)} {a1 : List Int} {r : Int} (h0 : ref26_Find a0 a1 = some r) : L 41 [.sl a0.length (a0.map fun x0 => .sl x0.length (x0.map fun x1 => .sc (.int .i64 x1))), .sl a1.length (a1.map fun x0 => .sc (.int .i64 x0))] = some (.sc (.int .i64 r), [.dead, .dead]) := by
  simp only [ref26_Find] at h0
  refine L_run cfn41 fn41 (runF_of bd41 ⟨of_decide_eq_true rfl, of_decide_eq_true rfl⟩ ?_)
  simp only [entryF, entryT, entryO, entryE, isIo]
  refine zq rfl (zr rfl rfl rfl (by simp; rfl) ?_)
  refine thenC_n (zq rfl (zq rfl (zr rfl rfl rfl (by simp; rfl) ?_)))
  refine thenC_n (zb rfl (q_loopG h0 (ref26_Find_h2 a0 a1) rfl rfl (by simp [ref26_Find_h2]) fun s o1 h1 hr1 => ?_))
  obtain ⟨w10, hs1⟩ : ∃ y, y = s := ⟨_, rfl⟩
  subst hs1
  simp only [ref26_Find_b2] at h1
  simp only [ref26_Find_h2]
  refine zq rfl (zr rfl rfl rfl (by simp; rfl) ?_)
  refine thenC_n (zq rfl ?_)
  by_cases c21 : w10 < (a0.length : Int)
  · rw [if_pos c21] at h1
    refine q_ifT rfl (by simp [c21]) (q_skip rfl (thenC_n (zq rfl (zb rfl (zq rfl ?_)))))
    obtain ⟨v13, f22, h2⟩ := bnd_some h1
    obtain ⟨f22a, f22b, f22c, f22d, f22e⟩ := atI_some f22
    refine zr rfl rfl rfl (by simp [f22a, f22b, f22c, f22d, f22e]; rfl) ?_
    refine thenC_n (zq rfl ?_)
    obtain ⟨v14, f23, h3⟩ := bnd_some h2
    have f23k := ref03_Same_ok f23
    try simp at f23k
    refine zr rfl rfl rfl (by simp [f23k]; rfl) ?_
    refine thenC_n ?_
    by_cases c24 : v14 = true
    · rw [if_pos c24] at h3
      refine q_ifT rfl (by simp [c24]) (zq rfl (zr rfl rfl rfl (by simp; rfl) ?_))
      refine thenC_n (q_ret rfl (blockC_r (thenC_r ?_)))
      obtain ⟨rr1, h4, ho1⟩ := exit_some h3
      have hs1 := hr1 _ ho1
      subst hs1
      refine roundC_r ho1 (blockC_r (thenC_r ?_))
      cases h4
      simp
    · rw [if_neg c24] at h3
      refine q_ifF rfl (by simp [c24]) (q_skip rfl (blockC_n (thenC_n (zr rfl rfl rfl (by simp; rfl) ?_))))
      have ho := next_some h3
      refine roundC_n ho ?_
      simp [ref26_Find_h2]
  · rw [if_neg c21] at h1
    refine q_ifF rfl (by simp [c21]) (q_exit rfl (thenC_x ?_))
    obtain ⟨rr1, h2, ho1⟩ := exit_some h1
    have hs1 := hr1 _ ho1
    subst hs1
    refine roundC_x ho1 (blockC_hit2 rfl (thenC_n (zq rfl (zr rfl rfl rfl (by simp; rfl) ?_))))
    refine thenC_n (q_ret rfl ?_)
    cases h2
    simp

-- semigroup/semigroupref26.Row
def ref26_Row_b2 (a0 : Casc) (a1 : List Int) : Int → Option (Int ⊕ Int)
  | w10 =>
  if w10 < (a0.rows.length : Int) then
    (atI a0.rows w10).bind fun v13 =>
    (ref03_Same v13.pre a1).bind fun v14 =>
    if v14 = true then
      exitG <|
      some w10
    else
      nextG (IntKind.i64.wrap (w10 + 1))
  else
    exitG <|
    some (-1)
def ref26_Row_h2 (a0 : Casc) (a1 : List Int) : Int → Fr
  | w10 => ⟨21, [(1, .one (.t none (.sl a1.length (a1.map fun x0 => .sc (.int .i64 x0))))), (8, .one (.t none (.sl a0.rows.length (a0.rows.flatMap fun x0 => [.sl x0.pre.length (x0.pre.map fun x1 => .sc (.int .i64 x1)), .sl x0.maps.length (x0.maps.map fun x1 => .sl x1.length (x1.map fun x2 => .sc (.int .i64 x2)))])))), (9, .one (.t none (.sc (.int .i64 (a0.rows.length : Int))))), (10, .one (.t none (.sc (.int .i64 w10))))], []⟩
def ref26_Row (a0 : Casc) (a1 : List Int) : Option (Int) :=
  loopG (ref26_Row_b2 a0 a1) LFm 0
theorem ref26_Row_ok {a0 : Casc} {a1 : List Int} {r : Int} (h0 : ref26_Row a0 a1 = some r) : L 61 [.agg [.sc (.int .i64 a0.letters), .sl a0.sizes.length (a0.sizes.map fun x0 => .sc (.int .i64 x0)), .sl a0.rows.length (a0.rows.flatMap fun x0 => [.sl x0.pre.length (x0.pre.map fun x1 => .sc (.int .i64 x1)), .sl x0.maps.length (x0.maps.map fun x1 => .sl x1.length (x1.map fun x2 => .sc (.int .i64 x2)))])], .sl a1.length (a1.map fun x0 => .sc (.int .i64 x0))] = some (.sc (.int .i64 r), [.dead, .dead]) := by
  simp only [ref26_Row] at h0
  refine L_run cfn61 fn61 (runF_of bd61 ⟨of_decide_eq_true rfl, of_decide_eq_true rfl⟩ ?_)
  simp only [entryF, entryT, entryO, entryE, isIo]
  refine zq rfl (zr rfl rfl rfl (by simp; rfl) ?_)
  refine thenC_n (zq rfl (zq rfl (zr rfl rfl rfl (by simp; rfl) ?_)))
  refine thenC_n (zb rfl (q_loopG h0 (ref26_Row_h2 a0 a1) rfl rfl (by simp [ref26_Row_h2]) fun s o1 h1 hr1 => ?_))
  obtain ⟨w10, hs1⟩ : ∃ y, y = s := ⟨_, rfl⟩
  subst hs1
  simp only [ref26_Row_b2] at h1
  simp only [ref26_Row_h2]
  refine zq rfl (zr rfl rfl rfl (by simp; rfl) ?_)
  refine thenC_n (zq rfl ?_)
  by_cases c21 : w10 < (a0.rows.length : Int)
  · rw [if_pos c21] at h1
    refine q_ifT rfl (by simp [c21]) (q_skip rfl (thenC_n (zq rfl (zb rfl (zq rfl ?_)))))
    obtain ⟨v13, f22, h2⟩ := bnd_some h1
    obtain ⟨f22a, f22b, f22c, f22d, f22e⟩ := atI_some f22
    have f22g := flat_some (g := fun x : CRow => ([.sl x.pre.length (x.pre.map fun x0 => .sc (.int .i64 x0)), .sl x.maps.length (x.maps.map fun x0 => .sl x0.length (x0.map fun x1 => .sc (.int .i64 x1)))] : List T)) (m := 2) (fun _ => rfl) f22d
    have f22h := flat_len (g := fun x : CRow => ([.sl x.pre.length (x.pre.map fun x0 => .sc (.int .i64 x0)), .sl x.maps.length (x.maps.map fun x0 => .sl x0.length (x0.map fun x1 => .sc (.int .i64 x1)))] : List T)) (m := 2) (fun _ => rfl) a0.rows
    have f22k0 := f22g.2.2.1 0 (by decide)
    have f22m0 := f22g.2.2.2 0 _ rfl
    have f22k1 := f22g.2.2.1 1 (by decide)
    have f22m1 := f22g.2.2.2 1 _ rfl
    obtain ⟨f22g, f22i, -⟩ := f22g
    try simp at f22i f22h f22k0 f22m0 f22k1 f22m1
    refine zr rfl rfl rfl (by simp [f22a, f22b, f22c, f22d, f22e, f22g, f22i, f22h, f22k0, f22k1, f22m0, f22m1]; rfl) ?_
    refine thenC_n (zq rfl ?_)
    obtain ⟨v14, f23, h3⟩ := bnd_some h2
    have f23k := ref03_Same_ok f23
    try simp at f23k
    refine zr rfl rfl rfl (by simp [f23k]; rfl) ?_
    refine thenC_n ?_
    by_cases c24 : v14 = true
    · rw [if_pos c24] at h3
      refine q_ifT rfl (by simp [c24]) (zq rfl (zr rfl rfl rfl (by simp; rfl) ?_))
      refine thenC_n (q_ret rfl (blockC_r (thenC_r ?_)))
      obtain ⟨rr1, h4, ho1⟩ := exit_some h3
      have hs1 := hr1 _ ho1
      subst hs1
      refine roundC_r ho1 (blockC_r (thenC_r ?_))
      cases h4
      simp
    · rw [if_neg c24] at h3
      refine q_ifF rfl (by simp [c24]) (q_skip rfl (blockC_n (thenC_n (zr rfl rfl rfl (by simp; rfl) ?_))))
      have ho := next_some h3
      refine roundC_n ho ?_
      simp [ref26_Row_h2]
  · rw [if_neg c21] at h1
    refine q_ifF rfl (by simp [c21]) (q_exit rfl (thenC_x ?_))
    obtain ⟨rr1, h2, ho1⟩ := exit_some h1
    have hs1 := hr1 _ ho1
    subst hs1
    refine roundC_x ho1 (blockC_hit2 rfl (thenC_n (zq rfl (zr rfl rfl rfl (by simp; rfl) ?_))))
    refine thenC_n (q_ret rfl ?_)
    cases h2
    simp

-- semigroup/cascade.validRow
def cascade_validRow_b10 (a0 : Casc) (a1 : CRow) (w42 : Int) (v52 : List Int) : Int → Option (Int ⊕ (Int ⊕ Bool))
  | w56 =>
  if w56 < (v52.length : Int) then
    (atI v52 w56).bind fun v59 =>
    if v59 < 0 then
      exitG <|
      exitG <|
      some false
    else
      (atI a0.sizes (a1.pre.length : Int)).bind fun v60 =>
      if v60 ≤ v59 then
        exitG <|
        exitG <|
        some false
      else
        nextG (IntKind.i64.wrap (w56 + 1))
  else
    exitG <|
    nextG (IntKind.i64.wrap (w42 + 1))
def cascade_validRow_h10 (a0 : Casc) (a1 : CRow) (w42 : Int) (v52 : List Int) : Int → Fr
  | w56 => ⟨70, [(2, .one (.a 2 [] (0))), (5, .one (.t none (.sc (.int .i64 (a1.pre.length : Int))))), (37, .one (.t none (.sl a1.maps.length (a1.maps.map fun x0 => .sl x0.length (x0.map fun x1 => .sc (.int .i64 x1)))))), (38, .one (.t none (.sc (.int .i64 (a1.maps.length : Int))))), (39, .one (.t none (.sc (.int .i64 w42)))), (51, .one (.t none (.sl v52.length (v52.map fun x0 => .sc (.int .i64 x0))))), (52, .one (.t none (.sc (.int .i64 (v52.length : Int))))), (53, .one (.t none (.sc (.int .i64 w56))))], [(2, .vr [.sc (.int .i64 a0.letters), .sl a0.sizes.length (a0.sizes.map fun x0 => .sc (.int .i64 x0)), .sl a0.rows.length (a0.rows.flatMap fun x0 => [.sl x0.pre.length (x0.pre.map fun x1 => .sc (.int .i64 x1)), .sl x0.maps.length (x0.maps.map fun x1 => .sl x1.length (x1.map fun x2 => .sc (.int .i64 x2)))])])]⟩
def cascade_validRow_b5 (a0 : Casc) (a1 : CRow) : Int → Option (Int ⊕ Bool)
  | w42 =>
  if w42 < (a1.maps.length : Int) then
    (atI a1.maps w42).bind fun v52 =>
    (atI a0.sizes (a1.pre.length : Int)).bind fun v53 =>
    if (v52.length : Int) = v53 then
      loopG (cascade_validRow_b10 a0 a1 w42 v52) LFm 0
    else
      exitG <|
      some false
  else
    exitG <|
    some true
def cascade_validRow_h5 (a0 : Casc) (a1 : CRow) : Int → Fr
  | w42 => ⟨70, [(2, .one (.a 2 [] (0))), (5, .one (.t none (.sc (.int .i64 (a1.pre.length : Int))))), (37, .one (.t none (.sl a1.maps.length (a1.maps.map fun x0 => .sl x0.length (x0.map fun x1 => .sc (.int .i64 x1)))))), (38, .one (.t none (.sc (.int .i64 (a1.maps.length : Int))))), (39, .one (.t none (.sc (.int .i64 w42))))], [(2, .vr [.sc (.int .i64 a0.letters), .sl a0.sizes.length (a0.sizes.map fun x0 => .sc (.int .i64 x0)), .sl a0.rows.length (a0.rows.flatMap fun x0 => [.sl x0.pre.length (x0.pre.map fun x1 => .sc (.int .i64 x1)), .sl x0.maps.length (x0.maps.map fun x1 => .sl x1.length (x1.map fun x2 => .sc (.int .i64 x2)))])])]⟩
def cascade_validRow (a0 : Casc) (a1 : CRow) : Option (Bool) :=
  if a0.sizes.length ≤ a1.pre.length then
    some false
  else
    (pieceL a0.sizes 0 (a1.pre.length : Int)).bind fun v31 =>
    (cascade_isTuple v31 a1.pre).bind fun v32 =>
    if v32 = true then
      if (a1.maps.length : Int) = a0.letters then
        loopG (cascade_validRow_b5 a0 a1) LFm 0
      else
        some false
    else
      some false
theorem cascade_validRow_ok {a0 : Casc} {a1 : CRow} {r : Bool} (h0 : cascade_validRow a0 a1 = some r) : L 62 [.agg [.sc (.int .i64 a0.letters), .sl a0.sizes.length (a0.sizes.map fun x0 => .sc (.int .i64 x0)), .sl a0.rows.length (a0.rows.flatMap fun x0 => [.sl x0.pre.length (x0.pre.map fun x1 => .sc (.int .i64 x1)), .sl x0.maps.length (x0.maps.map fun x1 => .sl x1.length (x1.map fun x2 => .sc (.int .i64 x2)))])], .agg [.sl a1.pre.length (a1.pre.map fun x0 => .sc (.int .i64 x0)), .sl a1.maps.length (a1.maps.map fun x0 => .sl x0.length (x0.map fun x1 => .sc (.int .i64 x1)))]] = some (.sc (.bool r), [.dead, .dead]) := by
  simp only [cascade_validRow] at h0
  refine L_run cfn62 fn62 (runF_of bd62 ⟨of_decide_eq_true rfl, of_decide_eq_true rfl⟩ ?_)
  simp only [entryF, entryT, entryO, entryE, isIo]
  refine zq rfl (zr rfl rfl rfl (by simp; rfl) ?_)
  refine thenC_n (zq rfl (zr rfl rfl rfl (by simp; rfl) ?_))
  refine thenC_n (zq rfl (zq rfl ?_))
  by_cases c60 : a0.sizes.length ≤ a1.pre.length
  · rw [if_pos c60] at h0
    refine q_drawW rfl rfl rfl rfl ?_; repeat' (first | (refine q_drawW_op rfl rfl fun Q' hQ => ?_; simp [c60]; refine hQ.out _ ?_; clear hQ; clear Q') | (refine q_drawW_guard rfl rfl fun Q1 Q2 h1 h2 => ?_; simp [c60, twoB_some]; (first | refine h1.out ?_ | refine h2.out ?_); clear h1 h2; clear Q1 Q2; intro Q' hQ; simp [c60]; refine hQ.out _ ?_; clear hQ; clear Q') | (refine q_drawW_nil rfl fun Q' hQ => ?_; simp [c60]; refine hQ.out _ ?_; clear hQ; clear Q'))
    refine thenC_n (q_ifT rfl (by simp) (zq rfl (zr rfl rfl rfl (by simp; rfl) ?_)))
    refine thenC_n (q_ret rfl (thenC_r ?_))
    cases h0
    simp
  · rw [if_neg c60] at h0
    obtain ⟨v31, f61, h1⟩ := bnd_some h0
    obtain ⟨f61a, f61b, f61c, -⟩ := pieceL_some f61
    obtain ⟨f61d, f61g⟩ := piece_hi f61a f61b
    have f61e := pieceL_map (g := fun x : Int => (.sc (.int .i64 x) : T)) f61
    try simp at f61e
    have f61f := pieceL_slm f61
    try simp only [Int.reduceToNat, Int.toNat_natCast, Nat.sub_zero] at f61f
    obtain ⟨v32, f62, h2⟩ := bnd_some h1
    have f62k := cascade_isTuple_ok f62
    try simp at f62k
    by_cases c63 : v32 = true
    · rw [if_pos c63] at h2
      refine q_drawW rfl rfl rfl rfl ?_; repeat' (first | (refine q_drawW_op rfl rfl fun Q' hQ => ?_; simp [c60, f61a, f61b, f61c, f61d, f61g, f61e, f61f, f62k, c63]; refine hQ.out _ ?_; clear hQ; clear Q') | (refine q_drawW_guard rfl rfl fun Q1 Q2 h1 h2 => ?_; simp [c60, f61a, f61b, f61c, f61d, f61g, f61e, f61f, f62k, c63, twoB_some]; (first | refine h1.out ?_ | refine h2.out ?_); clear h1 h2; clear Q1 Q2; intro Q' hQ; simp [c60, f61a, f61b, f61c, f61d, f61g, f61e, f61f, f62k, c63]; refine hQ.out _ ?_; clear hQ; clear Q') | (refine q_drawW_nil rfl fun Q' hQ => ?_; simp [c60, f61a, f61b, f61c, f61d, f61g, f61e, f61f, f62k, c63]; refine hQ.out _ ?_; clear hQ; clear Q'))
      refine thenC_n ?_
      by_cases c64 : (a1.maps.length : Int) = a0.letters
      · rw [if_pos c64] at h2
        have c64e := eq_true c64
        refine q_ifF rfl (by simp [c64e]) (q_skip rfl (thenC_n (zq rfl (zq rfl (zr rfl rfl rfl (by simp; rfl) ?_)))))
        refine thenC_n (zb rfl (q_loopG h2 (cascade_validRow_h5 a0 a1) rfl rfl (by simp [cascade_validRow_h5]) fun s o1 h3 hr1 => ?_))
        obtain ⟨w42, hs1⟩ : ∃ y, y = s := ⟨_, rfl⟩
        subst hs1
        simp only [cascade_validRow_b5] at h3
        simp only [cascade_validRow_h5]
        refine zq rfl (zr rfl rfl rfl (by simp; rfl) ?_)
        refine thenC_n (zq rfl ?_)
        by_cases c101 : w42 < (a1.maps.length : Int)
        · rw [if_pos c101] at h3
          refine q_ifT rfl (by simp [c101]) (q_skip rfl (thenC_n (zq rfl (zb rfl (zq rfl ?_)))))
          obtain ⟨v52, f102, h4⟩ := bnd_some h3
          obtain ⟨f102a, f102b, f102c, f102d, f102e⟩ := atI_some f102
          refine zr rfl rfl rfl (by simp [f102a, f102b, f102c, f102d, f102e]; rfl) ?_
          refine thenC_n (zq rfl (zq rfl ?_))
          obtain ⟨v53, f103, h5⟩ := bnd_some h4
          obtain ⟨f103a, f103b, f103c, f103d, f103e⟩ := atI_some f103
          simp only [Int.toNat_natCast] at f103c f103d f103e
          have f103l : a1.pre.length < a0.sizes.length := by omega
          refine zr rfl rfl rfl (by simp [f103a, f103b, f103c, f103d, f103e, f103l]; rfl) ?_
          refine thenC_n ?_
          by_cases c104 : (v52.length : Int) = v53
          · rw [if_pos c104] at h5
            have c104e := eq_true c104
            refine q_ifF rfl (by simp [c104e]) (q_skip rfl (thenC_n (zq rfl (zr rfl rfl rfl (by simp; rfl) ?_))))
            refine thenC_n (zb rfl (q_loopG h5 (cascade_validRow_h10 a0 a1 w42 v52) rfl rfl (by simp [cascade_validRow_h10]) fun s o2 h6 hr2 => ?_))
            obtain ⟨w56, hs2⟩ : ∃ y, y = s := ⟨_, rfl⟩
            subst hs2
            simp only [cascade_validRow_b10] at h6
            simp only [cascade_validRow_h10]
            refine zq rfl (zr rfl rfl rfl (by simp; rfl) ?_)
            refine thenC_n (zq rfl ?_)
            by_cases c115 : w56 < (v52.length : Int)
            · rw [if_pos c115] at h6
              refine q_ifT rfl (by simp [c115]) (q_skip rfl (thenC_n (zq rfl (zb rfl (zq rfl ?_)))))
              obtain ⟨v59, f116, h7⟩ := bnd_some h6
              obtain ⟨f116a, f116b, f116c, f116d, f116e⟩ := atI_some f116
              refine zr rfl rfl rfl (by simp [f116a, f116b, f116c, f116d, f116e]; rfl) ?_
              refine thenC_n (zq rfl ?_)
              by_cases c117 : v59 < 0
              · rw [if_pos c117] at h7
                refine zr rfl rfl rfl (by simp [c117]; rfl) ?_
                refine thenC_n (q_ifT rfl (by simp) (zq rfl (zr rfl rfl rfl (by simp; rfl) ?_)))
                refine thenC_n (q_ret rfl (blockC_r (thenC_r ?_)))
                obtain ⟨rr2, h8, ho2⟩ := exit_some h7
                have hs2 := hr2 _ ho2
                subst hs2
                refine roundC_r ho2 (blockC_r (blockC_r (thenC_r ?_)))
                obtain ⟨rr1, h9, ho1⟩ := exit_some h8
                have hs1 := hr1 _ ho1
                subst hs1
                refine roundC_r ho1 (blockC_r (thenC_r ?_))
                cases h9
                simp
              · rw [if_neg c117] at h7
                obtain ⟨v60, f118, h8⟩ := bnd_some h7
                obtain ⟨f118a, f118b, f118c, f118d, f118e⟩ := atI_some f118
                simp only [Int.toNat_natCast] at f118c f118d f118e
                have f118l : a1.pre.length < a0.sizes.length := by omega
                refine zr rfl rfl rfl (by simp [c117, f118a, f118b, f118c, f118d, f118e, f118l]; rfl) ?_
                refine thenC_n ?_
                by_cases c119 : v60 ≤ v59
                · rw [if_pos c119] at h8
                  refine q_ifT rfl (by simp [c119]) (zq rfl (zr rfl rfl rfl (by simp; rfl) ?_))
                  refine thenC_n (q_ret rfl (blockC_r (thenC_r ?_)))
                  obtain ⟨rr2, h9, ho2⟩ := exit_some h8
                  have hs2 := hr2 _ ho2
                  subst hs2
                  refine roundC_r ho2 (blockC_r (blockC_r (thenC_r ?_)))
                  obtain ⟨rr1, h10, ho1⟩ := exit_some h9
                  have hs1 := hr1 _ ho1
                  subst hs1
                  refine roundC_r ho1 (blockC_r (thenC_r ?_))
                  cases h10
                  simp
                · rw [if_neg c119] at h8
                  refine q_ifF rfl (by simp [c119]) (q_skip rfl (blockC_n (thenC_n (zr rfl rfl rfl (by simp; rfl) ?_))))
                  have ho := next_some h8
                  refine roundC_n ho ?_
                  simp [cascade_validRow_h10]
            · rw [if_neg c115] at h6
              refine q_ifF rfl (by simp [c115]) (q_exit rfl (thenC_x ?_))
              obtain ⟨rr2, h7, ho2⟩ := exit_some h6
              have hs2 := hr2 _ ho2
              subst hs2
              refine roundC_x ho2 (blockC_hit2 rfl (blockC_n (thenC_n (zr rfl rfl rfl (by simp; rfl) ?_))))
              have ho := next_some h7
              refine roundC_n ho ?_
              simp [cascade_validRow_h5]
          · rw [if_neg c104] at h5
            have c104e := eq_false c104
            refine q_ifT rfl (by simp [c104e]) (zq rfl (zr rfl rfl rfl (by simp; rfl) ?_))
            refine thenC_n (q_ret rfl (thenC_r (blockC_r (thenC_r ?_))))
            obtain ⟨rr1, h6, ho1⟩ := exit_some h5
            have hs1 := hr1 _ ho1
            subst hs1
            refine roundC_r ho1 (blockC_r (thenC_r ?_))
            cases h6
            simp
        · rw [if_neg c101] at h3
          refine q_ifF rfl (by simp [c101]) (q_exit rfl (thenC_x ?_))
          obtain ⟨rr1, h4, ho1⟩ := exit_some h3
          have hs1 := hr1 _ ho1
          subst hs1
          refine roundC_x ho1 (blockC_hit2 rfl (thenC_n (zq rfl (zr rfl rfl rfl (by simp; rfl) ?_))))
          refine thenC_n (q_ret rfl ?_)
          cases h4
          simp
      · rw [if_neg c64] at h2
        have c64e := eq_false c64
        refine q_ifT rfl (by simp [c64e]) (zq rfl (zr rfl rfl rfl (by simp; rfl) ?_))
        refine thenC_n (q_ret rfl (thenC_r ?_))
        cases h2
        simp
    · rw [if_neg c63] at h2
      refine q_drawW rfl rfl rfl rfl ?_; repeat' (first | (refine q_drawW_op rfl rfl fun Q' hQ => ?_; simp [c60, f61a, f61b, f61c, f61d, f61g, f61e, f61f, f62k, c63]; refine hQ.out _ ?_; clear hQ; clear Q') | (refine q_drawW_guard rfl rfl fun Q1 Q2 h1 h2 => ?_; simp [c60, f61a, f61b, f61c, f61d, f61g, f61e, f61f, f62k, c63, twoB_some]; (first | refine h1.out ?_ | refine h2.out ?_); clear h1 h2; clear Q1 Q2; intro Q' hQ; simp [c60, f61a, f61b, f61c, f61d, f61g, f61e, f61f, f62k, c63]; refine hQ.out _ ?_; clear hQ; clear Q') | (refine q_drawW_nil rfl fun Q' hQ => ?_; simp [c60, f61a, f61b, f61c, f61d, f61g, f61e, f61f, f62k, c63]; refine hQ.out _ ?_; clear hQ; clear Q'))
      refine thenC_n (q_ifT rfl (by simp) (zq rfl (zr rfl rfl rfl (by simp; rfl) ?_)))
      refine thenC_n (q_ret rfl (thenC_r ?_))
      cases h2
      simp

-- semigroup/cascade.Validate
def cascade_Validate_b12 (a0 : Casc) : Int → Option (Int ⊕ Int)
  | w26 =>
  if w26 < (a0.rows.length : Int) then
    (atI a0.rows w26).bind fun v31 =>
    (cascade_validRow a0 v31).bind fun v32 =>
    if v32 = true then
      if 0 < w26 then
        (atI a0.rows (IntKind.i64.wrap (w26 - 1))).bind fun v33 =>
        (cascade_compareRows v33.pre v31.pre).bind fun v34 =>
        if 0 ≤ v34 then
          exitG <|
          some 23
        else
          nextG (IntKind.i64.wrap (w26 + 1))
      else
        nextG (IntKind.i64.wrap (w26 + 1))
    else
      exitG <|
      some 23
  else
    exitG <|
    some 0
def cascade_Validate_h12 (a0 : Casc) : Int → Fr
  | w26 => ⟨69, [(1, .one (.a 1 [] (0))), (40, .one (.t none (.sl a0.rows.length (a0.rows.flatMap fun x0 => [.sl x0.pre.length (x0.pre.map fun x1 => .sc (.int .i64 x1)), .sl x0.maps.length (x0.maps.map fun x1 => .sl x1.length (x1.map fun x2 => .sc (.int .i64 x2)))])))), (41, .one (.t none (.sc (.int .i64 (a0.rows.length : Int))))), (42, .one (.t none (.sc (.int .i64 w26))))], [(1, .vr [.sc (.int .i64 a0.letters), .sl a0.sizes.length (a0.sizes.map fun x0 => .sc (.int .i64 x0)), .sl a0.rows.length (a0.rows.flatMap fun x0 => [.sl x0.pre.length (x0.pre.map fun x1 => .sc (.int .i64 x1)), .sl x0.maps.length (x0.maps.map fun x1 => .sl x1.length (x1.map fun x2 => .sc (.int .i64 x2)))])])]⟩
def cascade_Validate_b6 (a0 : Casc) : Int → Option (Int ⊕ Int)
  | w19 =>
  if w19 < (a0.sizes.length : Int) then
    (atI a0.sizes w19).bind fun v21 =>
    if v21 < 1 then
      exitG <|
      some 23
    else
      if 32 < v21 then
        exitG <|
        some 23
      else
        nextG (IntKind.i64.wrap (w19 + 1))
  else
    exitG <|
    loopG (cascade_Validate_b12 a0) LFm 0
def cascade_Validate_h6 (a0 : Casc) : Int → Fr
  | w19 => ⟨69, [(1, .one (.a 1 [] (0))), (26, .one (.t none (.sl a0.sizes.length (a0.sizes.map fun x0 => .sc (.int .i64 x0))))), (27, .one (.t none (.sc (.int .i64 (a0.sizes.length : Int))))), (28, .one (.t none (.sc (.int .i64 w19))))], [(1, .vr [.sc (.int .i64 a0.letters), .sl a0.sizes.length (a0.sizes.map fun x0 => .sc (.int .i64 x0)), .sl a0.rows.length (a0.rows.flatMap fun x0 => [.sl x0.pre.length (x0.pre.map fun x1 => .sc (.int .i64 x1)), .sl x0.maps.length (x0.maps.map fun x1 => .sl x1.length (x1.map fun x2 => .sc (.int .i64 x2)))])])]⟩
def cascade_Validate (a0 : Casc) : Option (Int) :=
  if a0.letters < 1 then
    some 1
  else
    if 6 < a0.letters then
      some 1
    else
      if 24 < (a0.sizes.length : Int) then
        some 3
      else
        if 48000 < (a0.rows.length : Int) then
          some 3
        else
          loopG (cascade_Validate_b6 a0) LFm 0
theorem cascade_Validate_ok {a0 : Casc} {r : Int} (h0 : cascade_Validate a0 = some r) : L 43 [.agg [.sc (.int .i64 a0.letters), .sl a0.sizes.length (a0.sizes.map fun x0 => .sc (.int .i64 x0)), .sl a0.rows.length (a0.rows.flatMap fun x0 => [.sl x0.pre.length (x0.pre.map fun x1 => .sc (.int .i64 x1)), .sl x0.maps.length (x0.maps.map fun x1 => .sl x1.length (x1.map fun x2 => .sc (.int .i64 x2)))])]] = some (.sc (.int .i64 r), [.dead]) := by
  simp only [cascade_Validate] at h0
  refine L_run cfn43 fn43 (runF_of bd43 ⟨of_decide_eq_true rfl, of_decide_eq_true rfl⟩ ?_)
  simp only [entryF, entryT, entryO, entryE, isIo]
  refine zq rfl (zr rfl rfl rfl (by simp; rfl) ?_)
  refine thenC_n (zq rfl (zq rfl ?_))
  by_cases c41 : a0.letters < 1
  · rw [if_pos c41] at h0
    refine zr rfl rfl rfl (by simp [c41]; rfl) ?_
    refine thenC_n (q_ifT rfl (by simp) (zq rfl (zr rfl rfl rfl (by simp; rfl) ?_)))
    refine thenC_n (q_ret rfl (thenC_r ?_))
    cases h0
    simp
  · rw [if_neg c41] at h0
    refine zr rfl rfl rfl (by simp [c41]; rfl) ?_
    refine thenC_n ?_
    by_cases c42 : 6 < a0.letters
    · rw [if_pos c42] at h0
      refine q_ifT rfl (by simp [c42]) (zq rfl (zr rfl rfl rfl (by simp; rfl) ?_))
      refine thenC_n (q_ret rfl (thenC_r ?_))
      cases h0
      simp
    · rw [if_neg c42] at h0
      refine q_ifF rfl (by simp [c42]) (q_skip rfl (thenC_n (zq rfl (zq rfl ?_))))
      by_cases c43 : 24 < (a0.sizes.length : Int)
      · rw [if_pos c43] at h0
        refine zr rfl rfl rfl (by simp [c43]; rfl) ?_
        refine thenC_n (q_ifT rfl (by simp) (zq rfl (zr rfl rfl rfl (by simp; rfl) ?_)))
        refine thenC_n (q_ret rfl (thenC_r ?_))
        cases h0
        simp
      · rw [if_neg c43] at h0
        refine zr rfl rfl rfl (by simp [c43]; rfl) ?_
        refine thenC_n ?_
        by_cases c44 : 48000 < (a0.rows.length : Int)
        · rw [if_pos c44] at h0
          refine q_ifT rfl (by simp [c44]) (zq rfl (zr rfl rfl rfl (by simp; rfl) ?_))
          refine thenC_n (q_ret rfl (thenC_r ?_))
          cases h0
          simp
        · rw [if_neg c44] at h0
          refine q_ifF rfl (by simp [c44]) (q_skip rfl (thenC_n (zq rfl (zq rfl (zr rfl rfl rfl (by simp; rfl) ?_)))))
          refine thenC_n (zb rfl (q_loopG h0 (cascade_Validate_h6 a0) rfl rfl (by simp [cascade_Validate_h6]) fun s o1 h1 hr1 => ?_))
          obtain ⟨w19, hs1⟩ : ∃ y, y = s := ⟨_, rfl⟩
          subst hs1
          simp only [cascade_Validate_b6] at h1
          simp only [cascade_Validate_h6]
          refine zq rfl (zr rfl rfl rfl (by simp; rfl) ?_)
          refine thenC_n (zq rfl ?_)
          by_cases c53 : w19 < (a0.sizes.length : Int)
          · rw [if_pos c53] at h1
            refine q_ifT rfl (by simp [c53]) (q_skip rfl (thenC_n (zq rfl (zb rfl (zq rfl ?_)))))
            obtain ⟨v21, f54, h2⟩ := bnd_some h1
            obtain ⟨f54a, f54b, f54c, f54d, f54e⟩ := atI_some f54
            refine zr rfl rfl rfl (by simp [f54a, f54b, f54c, f54d, f54e]; rfl) ?_
            refine thenC_n (zq rfl ?_)
            by_cases c55 : v21 < 1
            · rw [if_pos c55] at h2
              refine zr rfl rfl rfl (by simp [c55]; rfl) ?_
              refine thenC_n (q_ifT rfl (by simp) (zq rfl (zr rfl rfl rfl (by simp; rfl) ?_)))
              refine thenC_n (q_ret rfl (blockC_r (thenC_r ?_)))
              obtain ⟨rr1, h3, ho1⟩ := exit_some h2
              have hs1 := hr1 _ ho1
              subst hs1
              refine roundC_r ho1 (blockC_r (thenC_r ?_))
              cases h3
              simp
            · rw [if_neg c55] at h2
              refine zr rfl rfl rfl (by simp [c55]; rfl) ?_
              refine thenC_n ?_
              by_cases c56 : 32 < v21
              · rw [if_pos c56] at h2
                refine q_ifT rfl (by simp [c56]) (zq rfl (zr rfl rfl rfl (by simp; rfl) ?_))
                refine thenC_n (q_ret rfl (blockC_r (thenC_r ?_)))
                obtain ⟨rr1, h3, ho1⟩ := exit_some h2
                have hs1 := hr1 _ ho1
                subst hs1
                refine roundC_r ho1 (blockC_r (thenC_r ?_))
                cases h3
                simp
              · rw [if_neg c56] at h2
                refine q_ifF rfl (by simp [c56]) (q_skip rfl (blockC_n (thenC_n (zr rfl rfl rfl (by simp; rfl) ?_))))
                have ho := next_some h2
                refine roundC_n ho ?_
                simp [cascade_Validate_h6]
          · rw [if_neg c53] at h1
            refine q_ifF rfl (by simp [c53]) (q_exit rfl (thenC_x ?_))
            obtain ⟨rr1, h2, ho1⟩ := exit_some h1
            have hs1 := hr1 _ ho1
            subst hs1
            refine roundC_x ho1 (blockC_hit2 rfl (thenC_n (zq rfl (zq rfl (zr rfl rfl rfl (by simp; rfl) ?_)))))
            refine thenC_n (zb rfl (q_loopG h2 (cascade_Validate_h12 a0) rfl rfl (by simp [cascade_Validate_h12]) fun s o2 h3 hr2 => ?_))
            obtain ⟨w26, hs2⟩ : ∃ y, y = s := ⟨_, rfl⟩
            subst hs2
            simp only [cascade_Validate_b12] at h3
            simp only [cascade_Validate_h12]
            refine zq rfl (zr rfl rfl rfl (by simp; rfl) ?_)
            refine thenC_n (zq rfl ?_)
            by_cases c73 : w26 < (a0.rows.length : Int)
            · rw [if_pos c73] at h3
              refine q_ifT rfl (by simp [c73]) (q_skip rfl (thenC_n (zq rfl (zb rfl (zq rfl ?_)))))
              obtain ⟨v31, f74, h4⟩ := bnd_some h3
              obtain ⟨f74a, f74b, f74c, f74d, f74e⟩ := atI_some f74
              have f74g := flat_some (g := fun x : CRow => ([.sl x.pre.length (x.pre.map fun x0 => .sc (.int .i64 x0)), .sl x.maps.length (x.maps.map fun x0 => .sl x0.length (x0.map fun x1 => .sc (.int .i64 x1)))] : List T)) (m := 2) (fun _ => rfl) f74d
              have f74h := flat_len (g := fun x : CRow => ([.sl x.pre.length (x.pre.map fun x0 => .sc (.int .i64 x0)), .sl x.maps.length (x.maps.map fun x0 => .sl x0.length (x0.map fun x1 => .sc (.int .i64 x1)))] : List T)) (m := 2) (fun _ => rfl) a0.rows
              have f74k0 := f74g.2.2.1 0 (by decide)
              have f74m0 := f74g.2.2.2 0 _ rfl
              have f74k1 := f74g.2.2.1 1 (by decide)
              have f74m1 := f74g.2.2.2 1 _ rfl
              obtain ⟨f74g, f74i, -⟩ := f74g
              try simp at f74i f74h f74k0 f74m0 f74k1 f74m1
              refine zr rfl rfl rfl (by simp [f74a, f74b, f74c, f74d, f74e, f74g, f74i, f74h, f74k0, f74k1, f74m0, f74m1]; rfl) ?_
              refine thenC_n (zq rfl ?_)
              obtain ⟨v32, f75, h5⟩ := bnd_some h4
              have f75k := cascade_validRow_ok f75
              try simp at f75k
              by_cases c76 : v32 = true
              · rw [if_pos c76] at h5
                by_cases c77 : 0 < w26
                · rw [if_pos c77] at h5
                  obtain ⟨v33, f78, h6⟩ := bnd_some h5
                  obtain ⟨f78a, f78b, f78c, f78d, f78e⟩ := atI_some f78
                  have f78g := flat_some (g := fun x : CRow => ([.sl x.pre.length (x.pre.map fun x0 => .sc (.int .i64 x0)), .sl x.maps.length (x.maps.map fun x0 => .sl x0.length (x0.map fun x1 => .sc (.int .i64 x1)))] : List T)) (m := 2) (fun _ => rfl) f78d
                  have f78h := flat_len (g := fun x : CRow => ([.sl x.pre.length (x.pre.map fun x0 => .sc (.int .i64 x0)), .sl x.maps.length (x.maps.map fun x0 => .sl x0.length (x0.map fun x1 => .sc (.int .i64 x1)))] : List T)) (m := 2) (fun _ => rfl) a0.rows
                  have f78k0 := f78g.2.2.1 0 (by decide)
                  have f78m0 := f78g.2.2.2 0 _ rfl
                  have f78k1 := f78g.2.2.1 1 (by decide)
                  have f78m1 := f78g.2.2.2 1 _ rfl
                  obtain ⟨f78g, f78i, -⟩ := f78g
                  try simp at f78i f78h f78k0 f78m0 f78k1 f78m1
                  obtain ⟨v34, f79, h7⟩ := bnd_some h6
                  have f79k := cascade_compareRows_ok f79
                  try simp at f79k
                  refine q_drawW rfl rfl rfl rfl ?_; repeat' (first | (refine q_drawW_op rfl rfl fun Q' hQ => ?_; simp [f75k, c76, c77, f78a, f78b, f78c, f78d, f78e, f78g, f78i, f78h, f78k0, f78k1, f78m0, f78m1, f79k]; refine hQ.out _ ?_; clear hQ; clear Q') | (refine q_drawW_guard rfl rfl fun Q1 Q2 h1 h2 => ?_; simp [f75k, c76, c77, f78a, f78b, f78c, f78d, f78e, f78g, f78i, f78h, f78k0, f78k1, f78m0, f78m1, f79k, twoB_some]; (first | refine h1.out ?_ | refine h2.out ?_); clear h1 h2; clear Q1 Q2; intro Q' hQ; simp [f75k, c76, c77, f78a, f78b, f78c, f78d, f78e, f78g, f78i, f78h, f78k0, f78k1, f78m0, f78m1, f79k]; refine hQ.out _ ?_; clear hQ; clear Q') | (refine q_drawW_nil rfl fun Q' hQ => ?_; simp [f75k, c76, c77, f78a, f78b, f78c, f78d, f78e, f78g, f78i, f78h, f78k0, f78k1, f78m0, f78m1, f79k]; refine hQ.out _ ?_; clear hQ; clear Q'))
                  refine thenC_n ?_
                  by_cases c80 : 0 ≤ v34
                  · rw [if_pos c80] at h7
                    refine q_ifT rfl (by simp [c80]) (zq rfl (zr rfl rfl rfl (by simp; rfl) ?_))
                    refine thenC_n (q_ret rfl (blockC_r (thenC_r ?_)))
                    obtain ⟨rr2, h8, ho2⟩ := exit_some h7
                    have hs2 := hr2 _ ho2
                    subst hs2
                    refine roundC_r ho2 (blockC_r (thenC_r ?_))
                    cases h8
                    simp
                  · rw [if_neg c80] at h7
                    refine q_ifF rfl (by simp [c80]) (q_skip rfl (blockC_n (thenC_n (zr rfl rfl rfl (by simp; rfl) ?_))))
                    have ho := next_some h7
                    refine roundC_n ho ?_
                    simp [cascade_Validate_h12]
                · rw [if_neg c77] at h5
                  refine q_drawW rfl rfl rfl rfl ?_; repeat' (first | (refine q_drawW_op rfl rfl fun Q' hQ => ?_; simp [f75k, c76, c77]; refine hQ.out _ ?_; clear hQ; clear Q') | (refine q_drawW_guard rfl rfl fun Q1 Q2 h1 h2 => ?_; simp [f75k, c76, c77, twoB_some]; (first | refine h1.out ?_ | refine h2.out ?_); clear h1 h2; clear Q1 Q2; intro Q' hQ; simp [f75k, c76, c77]; refine hQ.out _ ?_; clear hQ; clear Q') | (refine q_drawW_nil rfl fun Q' hQ => ?_; simp [f75k, c76, c77]; refine hQ.out _ ?_; clear hQ; clear Q'))
                  refine thenC_n (q_ifF rfl (by simp) (q_skip rfl (blockC_n (thenC_n (zr rfl rfl rfl (by simp; rfl) ?_)))))
                  have ho := next_some h5
                  refine roundC_n ho ?_
                  simp [cascade_Validate_h12]
              · rw [if_neg c76] at h5
                refine q_drawW rfl rfl rfl rfl ?_; repeat' (first | (refine q_drawW_op rfl rfl fun Q' hQ => ?_; simp [f75k, c76]; refine hQ.out _ ?_; clear hQ; clear Q') | (refine q_drawW_guard rfl rfl fun Q1 Q2 h1 h2 => ?_; simp [f75k, c76, twoB_some]; (first | refine h1.out ?_ | refine h2.out ?_); clear h1 h2; clear Q1 Q2; intro Q' hQ; simp [f75k, c76]; refine hQ.out _ ?_; clear hQ; clear Q') | (refine q_drawW_nil rfl fun Q' hQ => ?_; simp [f75k, c76]; refine hQ.out _ ?_; clear hQ; clear Q'))
                refine thenC_n (q_ifT rfl (by simp) (zq rfl (zr rfl rfl rfl (by simp; rfl) ?_)))
                refine thenC_n (q_ret rfl (blockC_r (thenC_r ?_)))
                obtain ⟨rr2, h6, ho2⟩ := exit_some h5
                have hs2 := hr2 _ ho2
                subst hs2
                refine roundC_r ho2 (blockC_r (thenC_r ?_))
                cases h6
                simp
            · rw [if_neg c73] at h3
              refine q_ifF rfl (by simp [c73]) (q_exit rfl (thenC_x ?_))
              obtain ⟨rr2, h4, ho2⟩ := exit_some h3
              have hs2 := hr2 _ ho2
              subst hs2
              refine roundC_x ho2 (blockC_hit2 rfl (thenC_n (zq rfl (zr rfl rfl rfl (by simp; rfl) ?_))))
              refine thenC_n (q_ret rfl ?_)
              cases h4
              simp

-- semigroup/semigroupref26.Validate
def ref26_Validate_b23 (v205 : Int) (w211 : Int) (v217 : List Int) : Int → Option (Int ⊕ (Int ⊕ (Int ⊕ Int)))
  | w219 =>
  if w219 < (v217.length : Int) then
    (atI v217 w219).bind fun v221 =>
    if v221 < 0 then
      exitG <|
      exitG <|
      exitG <|
      some 23
    else
      if v205 ≤ v221 then
        exitG <|
        exitG <|
        exitG <|
        some 23
      else
        nextG (IntKind.i64.wrap (w219 + 1))
  else
    exitG <|
    nextG (IntKind.i64.wrap (w211 + 1))
def ref26_Validate_h23 (a0 : Casc) (w162 : Int) (v201 : CRow) (v205 : Int) (w211 : Int) (v217 : List Int) : Int → Fr
  | w219 => ⟨126, [(1, .one (.a 1 [] (0))), (7, .one (.t none (.sc (.int .i64 v205)))), (45, .one (.t none (.sl a0.rows.length (a0.rows.flatMap fun x0 => [.sl x0.pre.length (x0.pre.map fun x1 => .sc (.int .i64 x1)), .sl x0.maps.length (x0.maps.map fun x1 => .sl x1.length (x1.map fun x2 => .sc (.int .i64 x2)))])))), (46, .one (.t none (.sc (.int .i64 (a0.rows.length : Int))))), (47, .one (.t none (.sc (.int .i64 w162)))), (100, .one (.t none (.sl v201.maps.length (v201.maps.map fun x0 => .sl x0.length (x0.map fun x1 => .sc (.int .i64 x1)))))), (101, .one (.t none (.sc (.int .i64 (v201.maps.length : Int))))), (102, .one (.t none (.sc (.int .i64 w211)))), (110, .one (.t none (.sl v217.length (v217.map fun x0 => .sc (.int .i64 x0))))), (111, .one (.t none (.sc (.int .i64 (v217.length : Int))))), (112, .one (.t none (.sc (.int .i64 w219))))], [(1, .vr [.sc (.int .i64 a0.letters), .sl a0.sizes.length (a0.sizes.map fun x0 => .sc (.int .i64 x0)), .sl a0.rows.length (a0.rows.flatMap fun x0 => [.sl x0.pre.length (x0.pre.map fun x1 => .sc (.int .i64 x1)), .sl x0.maps.length (x0.maps.map fun x1 => .sl x1.length (x1.map fun x2 => .sc (.int .i64 x2)))])])]⟩
def ref26_Validate_b18 (w162 : Int) (v201 : CRow) (v205 : Int) : Int → Option (Int ⊕ (Int ⊕ Int))
  | w211 =>
  if w211 < (v201.maps.length : Int) then
    (atI v201.maps w211).bind fun v217 =>
    if (v217.length : Int) = v205 then
      loopG (ref26_Validate_b23 v205 w211 v217) LFm 0
    else
      exitG <|
      exitG <|
      some 23
  else
    exitG <|
    nextG (IntKind.i64.wrap (w162 + 1))
def ref26_Validate_h18 (a0 : Casc) (w162 : Int) (v201 : CRow) (v205 : Int) : Int → Fr
  | w211 => ⟨126, [(1, .one (.a 1 [] (0))), (7, .one (.t none (.sc (.int .i64 v205)))), (45, .one (.t none (.sl a0.rows.length (a0.rows.flatMap fun x0 => [.sl x0.pre.length (x0.pre.map fun x1 => .sc (.int .i64 x1)), .sl x0.maps.length (x0.maps.map fun x1 => .sl x1.length (x1.map fun x2 => .sc (.int .i64 x2)))])))), (46, .one (.t none (.sc (.int .i64 (a0.rows.length : Int))))), (47, .one (.t none (.sc (.int .i64 w162)))), (100, .one (.t none (.sl v201.maps.length (v201.maps.map fun x0 => .sl x0.length (x0.map fun x1 => .sc (.int .i64 x1)))))), (101, .one (.t none (.sc (.int .i64 (v201.maps.length : Int))))), (102, .one (.t none (.sc (.int .i64 w211))))], [(1, .vr [.sc (.int .i64 a0.letters), .sl a0.sizes.length (a0.sizes.map fun x0 => .sc (.int .i64 x0)), .sl a0.rows.length (a0.rows.flatMap fun x0 => [.sl x0.pre.length (x0.pre.map fun x1 => .sc (.int .i64 x1)), .sl x0.maps.length (x0.maps.map fun x1 => .sl x1.length (x1.map fun x2 => .sc (.int .i64 x2)))])])]⟩
def ref26_Validate_b23a (v222 : Int) (w228 : Int) (v234 : List Int) : Int → Option (Int ⊕ (Int ⊕ (Int ⊕ Int)))
  | w236 =>
  if w236 < (v234.length : Int) then
    (atI v234 w236).bind fun v238 =>
    if v238 < 0 then
      exitG <|
      exitG <|
      exitG <|
      some 23
    else
      if v222 ≤ v238 then
        exitG <|
        exitG <|
        exitG <|
        some 23
      else
        nextG (IntKind.i64.wrap (w236 + 1))
  else
    exitG <|
    nextG (IntKind.i64.wrap (w228 + 1))
def ref26_Validate_h23a (a0 : Casc) (w162 : Int) (v201 : CRow) (v222 : Int) (w228 : Int) (v234 : List Int) : Int → Fr
  | w236 => ⟨126, [(1, .one (.a 1 [] (0))), (7, .one (.t none (.sc (.int .i64 v222)))), (45, .one (.t none (.sl a0.rows.length (a0.rows.flatMap fun x0 => [.sl x0.pre.length (x0.pre.map fun x1 => .sc (.int .i64 x1)), .sl x0.maps.length (x0.maps.map fun x1 => .sl x1.length (x1.map fun x2 => .sc (.int .i64 x2)))])))), (46, .one (.t none (.sc (.int .i64 (a0.rows.length : Int))))), (47, .one (.t none (.sc (.int .i64 w162)))), (100, .one (.t none (.sl v201.maps.length (v201.maps.map fun x0 => .sl x0.length (x0.map fun x1 => .sc (.int .i64 x1)))))), (101, .one (.t none (.sc (.int .i64 (v201.maps.length : Int))))), (102, .one (.t none (.sc (.int .i64 w228)))), (110, .one (.t none (.sl v234.length (v234.map fun x0 => .sc (.int .i64 x0))))), (111, .one (.t none (.sc (.int .i64 (v234.length : Int))))), (112, .one (.t none (.sc (.int .i64 w236))))], [(1, .vr [.sc (.int .i64 a0.letters), .sl a0.sizes.length (a0.sizes.map fun x0 => .sc (.int .i64 x0)), .sl a0.rows.length (a0.rows.flatMap fun x0 => [.sl x0.pre.length (x0.pre.map fun x1 => .sc (.int .i64 x1)), .sl x0.maps.length (x0.maps.map fun x1 => .sl x1.length (x1.map fun x2 => .sc (.int .i64 x2)))])])]⟩
def ref26_Validate_b18a (w162 : Int) (v201 : CRow) (v222 : Int) : Int → Option (Int ⊕ (Int ⊕ Int))
  | w228 =>
  if w228 < (v201.maps.length : Int) then
    (atI v201.maps w228).bind fun v234 =>
    if (v234.length : Int) = v222 then
      loopG (ref26_Validate_b23a v222 w228 v234) LFm 0
    else
      exitG <|
      exitG <|
      some 23
  else
    exitG <|
    nextG (IntKind.i64.wrap (w162 + 1))
def ref26_Validate_h18a (a0 : Casc) (w162 : Int) (v201 : CRow) (v222 : Int) : Int → Fr
  | w228 => ⟨126, [(1, .one (.a 1 [] (0))), (7, .one (.t none (.sc (.int .i64 v222)))), (45, .one (.t none (.sl a0.rows.length (a0.rows.flatMap fun x0 => [.sl x0.pre.length (x0.pre.map fun x1 => .sc (.int .i64 x1)), .sl x0.maps.length (x0.maps.map fun x1 => .sl x1.length (x1.map fun x2 => .sc (.int .i64 x2)))])))), (46, .one (.t none (.sc (.int .i64 (a0.rows.length : Int))))), (47, .one (.t none (.sc (.int .i64 w162)))), (100, .one (.t none (.sl v201.maps.length (v201.maps.map fun x0 => .sl x0.length (x0.map fun x1 => .sc (.int .i64 x1)))))), (101, .one (.t none (.sc (.int .i64 (v201.maps.length : Int))))), (102, .one (.t none (.sc (.int .i64 w228))))], [(1, .vr [.sc (.int .i64 a0.letters), .sl a0.sizes.length (a0.sizes.map fun x0 => .sc (.int .i64 x0)), .sl a0.rows.length (a0.rows.flatMap fun x0 => [.sl x0.pre.length (x0.pre.map fun x1 => .sc (.int .i64 x1)), .sl x0.maps.length (x0.maps.map fun x1 => .sl x1.length (x1.map fun x2 => .sc (.int .i64 x2)))])])]⟩
def ref26_Validate_b12 (a0 : Casc) : Int → Option (Int ⊕ Int)
  | w162 =>
  if w162 < (a0.rows.length : Int) then
    (atI a0.rows w162).bind fun v201 =>
    if a0.sizes.length ≤ v201.pre.length then
      exitG <|
      some 23
    else
      (ref26_in a0.sizes v201.pre).bind fun v202 =>
      if v202 = true then
        if 0 < w162 then
          (atI a0.rows (IntKind.i64.wrap (w162 - 1))).bind fun v203 =>
          (ref26_Less v203.pre v201.pre).bind fun v204 =>
          if v204 = true then
            if (v201.maps.length : Int) = a0.letters then
              (atI a0.sizes (v201.pre.length : Int)).bind fun v205 =>
              loopG (ref26_Validate_b18 w162 v201 v205) LFm 0
            else
              exitG <|
              some 23
          else
            exitG <|
            some 23
        else
          if (v201.maps.length : Int) = a0.letters then
            (atI a0.sizes (v201.pre.length : Int)).bind fun v222 =>
            loopG (ref26_Validate_b18a w162 v201 v222) LFm 0
          else
            exitG <|
            some 23
      else
        exitG <|
        some 23
  else
    exitG <|
    some 0
def ref26_Validate_h12 (a0 : Casc) : Int → Fr
  | w162 => ⟨126, [(1, .one (.a 1 [] (0))), (45, .one (.t none (.sl a0.rows.length (a0.rows.flatMap fun x0 => [.sl x0.pre.length (x0.pre.map fun x1 => .sc (.int .i64 x1)), .sl x0.maps.length (x0.maps.map fun x1 => .sl x1.length (x1.map fun x2 => .sc (.int .i64 x2)))])))), (46, .one (.t none (.sc (.int .i64 (a0.rows.length : Int))))), (47, .one (.t none (.sc (.int .i64 w162))))], [(1, .vr [.sc (.int .i64 a0.letters), .sl a0.sizes.length (a0.sizes.map fun x0 => .sc (.int .i64 x0)), .sl a0.rows.length (a0.rows.flatMap fun x0 => [.sl x0.pre.length (x0.pre.map fun x1 => .sc (.int .i64 x1)), .sl x0.maps.length (x0.maps.map fun x1 => .sl x1.length (x1.map fun x2 => .sc (.int .i64 x2)))])])]⟩
def ref26_Validate_b6 (a0 : Casc) : Int → Option (Int ⊕ Int)
  | w121 =>
  if w121 < (a0.sizes.length : Int) then
    (atI a0.sizes w121).bind fun v123 =>
    if v123 < 1 then
      exitG <|
      some 23
    else
      if 32 < v123 then
        exitG <|
        some 23
      else
        nextG (IntKind.i64.wrap (w121 + 1))
  else
    exitG <|
    loopG (ref26_Validate_b12 a0) LFm 0
def ref26_Validate_h6 (a0 : Casc) : Int → Fr
  | w121 => ⟨126, [(1, .one (.a 1 [] (0))), (31, .one (.t none (.sl a0.sizes.length (a0.sizes.map fun x0 => .sc (.int .i64 x0))))), (32, .one (.t none (.sc (.int .i64 (a0.sizes.length : Int))))), (33, .one (.t none (.sc (.int .i64 w121))))], [(1, .vr [.sc (.int .i64 a0.letters), .sl a0.sizes.length (a0.sizes.map fun x0 => .sc (.int .i64 x0)), .sl a0.rows.length (a0.rows.flatMap fun x0 => [.sl x0.pre.length (x0.pre.map fun x1 => .sc (.int .i64 x1)), .sl x0.maps.length (x0.maps.map fun x1 => .sl x1.length (x1.map fun x2 => .sc (.int .i64 x2)))])])]⟩
def ref26_Validate (a0 : Casc) : Option (Int) :=
  if a0.letters < 1 then
    some 1
  else
    if 6 < a0.letters then
      some 1
    else
      if 24 < (a0.sizes.length : Int) then
        some 3
      else
        if 48000 < (a0.rows.length : Int) then
          some 3
        else
          loopG (ref26_Validate_b6 a0) LFm 0
theorem ref26_Validate_ok {a0 : Casc} {r : Int} (h0 : ref26_Validate a0 = some r) : L 38 [.agg [.sc (.int .i64 a0.letters), .sl a0.sizes.length (a0.sizes.map fun x0 => .sc (.int .i64 x0)), .sl a0.rows.length (a0.rows.flatMap fun x0 => [.sl x0.pre.length (x0.pre.map fun x1 => .sc (.int .i64 x1)), .sl x0.maps.length (x0.maps.map fun x1 => .sl x1.length (x1.map fun x2 => .sc (.int .i64 x2)))])]] = some (.sc (.int .i64 r), [.dead]) := by
  simp only [ref26_Validate] at h0
  refine L_run cfn38 fn38 (runF_of bd38 ⟨of_decide_eq_true rfl, of_decide_eq_true rfl⟩ ?_)
  simp only [entryF, entryT, entryO, entryE, isIo]
  refine zq rfl (zr rfl rfl rfl (by simp; rfl) ?_)
  refine thenC_n (zq rfl (zq rfl ?_))
  by_cases c326 : a0.letters < 1
  · rw [if_pos c326] at h0
    refine zr rfl rfl rfl (by simp [c326]; rfl) ?_
    refine thenC_n (q_ifT rfl (by simp) (zq rfl (zr rfl rfl rfl (by simp; rfl) ?_)))
    refine thenC_n (q_ret rfl (thenC_r ?_))
    cases h0
    simp
  · rw [if_neg c326] at h0
    refine zr rfl rfl rfl (by simp [c326]; rfl) ?_
    refine thenC_n ?_
    by_cases c327 : 6 < a0.letters
    · rw [if_pos c327] at h0
      refine q_ifT rfl (by simp [c327]) (zq rfl (zr rfl rfl rfl (by simp; rfl) ?_))
      refine thenC_n (q_ret rfl (thenC_r ?_))
      cases h0
      simp
    · rw [if_neg c327] at h0
      refine q_ifF rfl (by simp [c327]) (q_skip rfl (thenC_n (zq rfl (zq rfl ?_))))
      by_cases c328 : 24 < (a0.sizes.length : Int)
      · rw [if_pos c328] at h0
        refine zr rfl rfl rfl (by simp [c328]; rfl) ?_
        refine thenC_n (q_ifT rfl (by simp) (zq rfl (zr rfl rfl rfl (by simp; rfl) ?_)))
        refine thenC_n (q_ret rfl (thenC_r ?_))
        cases h0
        simp
      · rw [if_neg c328] at h0
        refine zr rfl rfl rfl (by simp [c328]; rfl) ?_
        refine thenC_n ?_
        by_cases c329 : 48000 < (a0.rows.length : Int)
        · rw [if_pos c329] at h0
          refine q_ifT rfl (by simp [c329]) (zq rfl (zr rfl rfl rfl (by simp; rfl) ?_))
          refine thenC_n (q_ret rfl (thenC_r ?_))
          cases h0
          simp
        · rw [if_neg c329] at h0
          refine q_ifF rfl (by simp [c329]) (q_skip rfl (thenC_n (zq rfl (zq rfl (zr rfl rfl rfl (by simp; rfl) ?_)))))
          refine thenC_n (zb rfl (q_loopG h0 (ref26_Validate_h6 a0) rfl rfl (by simp [ref26_Validate_h6]) fun s o1 h1 hr1 => ?_))
          obtain ⟨w121, hs1⟩ : ∃ y, y = s := ⟨_, rfl⟩
          subst hs1
          simp only [ref26_Validate_b6] at h1
          simp only [ref26_Validate_h6]
          refine zq rfl (zr rfl rfl rfl (by simp; rfl) ?_)
          refine thenC_n (zq rfl ?_)
          by_cases c338 : w121 < (a0.sizes.length : Int)
          · rw [if_pos c338] at h1
            refine q_ifT rfl (by simp [c338]) (q_skip rfl (thenC_n (zq rfl (zb rfl (zq rfl ?_)))))
            obtain ⟨v123, f339, h2⟩ := bnd_some h1
            obtain ⟨f339a, f339b, f339c, f339d, f339e⟩ := atI_some f339
            refine zr rfl rfl rfl (by simp [f339a, f339b, f339c, f339d, f339e]; rfl) ?_
            refine thenC_n (zq rfl ?_)
            by_cases c340 : v123 < 1
            · rw [if_pos c340] at h2
              refine zr rfl rfl rfl (by simp [c340]; rfl) ?_
              refine thenC_n (q_ifT rfl (by simp) (zq rfl (zr rfl rfl rfl (by simp; rfl) ?_)))
              refine thenC_n (q_ret rfl (blockC_r (thenC_r ?_)))
              obtain ⟨rr1, h3, ho1⟩ := exit_some h2
              have hs1 := hr1 _ ho1
              subst hs1
              refine roundC_r ho1 (blockC_r (thenC_r ?_))
              cases h3
              simp
            · rw [if_neg c340] at h2
              refine zr rfl rfl rfl (by simp [c340]; rfl) ?_
              refine thenC_n ?_
              by_cases c341 : 32 < v123
              · rw [if_pos c341] at h2
                refine q_ifT rfl (by simp [c341]) (zq rfl (zr rfl rfl rfl (by simp; rfl) ?_))
                refine thenC_n (q_ret rfl (blockC_r (thenC_r ?_)))
                obtain ⟨rr1, h3, ho1⟩ := exit_some h2
                have hs1 := hr1 _ ho1
                subst hs1
                refine roundC_r ho1 (blockC_r (thenC_r ?_))
                cases h3
                simp
              · rw [if_neg c341] at h2
                refine q_ifF rfl (by simp [c341]) (q_skip rfl (blockC_n (thenC_n (zr rfl rfl rfl (by simp; rfl) ?_))))
                have ho := next_some h2
                refine roundC_n ho ?_
                simp [ref26_Validate_h6]
          · rw [if_neg c338] at h1
            refine q_ifF rfl (by simp [c338]) (q_exit rfl (thenC_x ?_))
            obtain ⟨rr1, h2, ho1⟩ := exit_some h1
            have hs1 := hr1 _ ho1
            subst hs1
            refine roundC_x ho1 (blockC_hit2 rfl (thenC_n (zq rfl (zq rfl (zr rfl rfl rfl (by simp; rfl) ?_)))))
            refine thenC_n (zb rfl (q_loopG h2 (ref26_Validate_h12 a0) rfl rfl (by simp [ref26_Validate_h12]) fun s o2 h3 hr2 => ?_))
            obtain ⟨w162, hs2⟩ : ∃ y, y = s := ⟨_, rfl⟩
            subst hs2
            simp only [ref26_Validate_b12] at h3
            simp only [ref26_Validate_h12]
            refine zq rfl (zr rfl rfl rfl (by simp; rfl) ?_)
            refine thenC_n (zq rfl ?_)
            by_cases c548 : w162 < (a0.rows.length : Int)
            · rw [if_pos c548] at h3
              refine q_ifT rfl (by simp [c548]) (q_skip rfl (thenC_n (zq rfl (zb rfl (zq rfl ?_)))))
              obtain ⟨v201, f549, h4⟩ := bnd_some h3
              obtain ⟨f549a, f549b, f549c, f549d, f549e⟩ := atI_some f549
              have f549g := flat_some (g := fun x : CRow => ([.sl x.pre.length (x.pre.map fun x0 => .sc (.int .i64 x0)), .sl x.maps.length (x.maps.map fun x0 => .sl x0.length (x0.map fun x1 => .sc (.int .i64 x1)))] : List T)) (m := 2) (fun _ => rfl) f549d
              have f549h := flat_len (g := fun x : CRow => ([.sl x.pre.length (x.pre.map fun x0 => .sc (.int .i64 x0)), .sl x.maps.length (x.maps.map fun x0 => .sl x0.length (x0.map fun x1 => .sc (.int .i64 x1)))] : List T)) (m := 2) (fun _ => rfl) a0.rows
              have f549k0 := f549g.2.2.1 0 (by decide)
              have f549m0 := f549g.2.2.2 0 _ rfl
              have f549k1 := f549g.2.2.1 1 (by decide)
              have f549m1 := f549g.2.2.2 1 _ rfl
              obtain ⟨f549g, f549i, -⟩ := f549g
              try simp at f549i f549h f549k0 f549m0 f549k1 f549m1
              refine zr rfl rfl rfl (by simp [f549a, f549b, f549c, f549d, f549e, f549g, f549i, f549h, f549k0, f549k1, f549m0, f549m1]; rfl) ?_
              refine thenC_n (zq rfl (zq rfl ?_))
              by_cases c550 : a0.sizes.length ≤ v201.pre.length
              · rw [if_pos c550] at h4
                refine q_drawW rfl rfl rfl rfl ?_; repeat' (first | (refine q_drawW_op rfl rfl fun Q' hQ => ?_; simp [c550]; refine hQ.out _ ?_; clear hQ; clear Q') | (refine q_drawW_guard rfl rfl fun Q1 Q2 h1 h2 => ?_; simp [c550, twoB_some]; (first | refine h1.out ?_ | refine h2.out ?_); clear h1 h2; clear Q1 Q2; intro Q' hQ; simp [c550]; refine hQ.out _ ?_; clear hQ; clear Q') | (refine q_drawW_nil rfl fun Q' hQ => ?_; simp [c550]; refine hQ.out _ ?_; clear hQ; clear Q'))
                refine thenC_n (q_ifT rfl (by simp) (zq rfl (zr rfl rfl rfl (by simp; rfl) ?_)))
                refine thenC_n (q_ret rfl (thenC_r (blockC_r (thenC_r ?_))))
                obtain ⟨rr2, h5, ho2⟩ := exit_some h4
                have hs2 := hr2 _ ho2
                subst hs2
                refine roundC_r ho2 (blockC_r (thenC_r ?_))
                cases h5
                simp
              · rw [if_neg c550] at h4
                obtain ⟨v202, f551, h5⟩ := bnd_some h4
                have f551k := ref26_in_ok f551
                try simp at f551k
                by_cases c552 : v202 = true
                · rw [if_pos c552] at h5
                  by_cases c553 : 0 < w162
                  · rw [if_pos c553] at h5
                    obtain ⟨v203, f554, h6⟩ := bnd_some h5
                    obtain ⟨f554a, f554b, f554c, f554d, f554e⟩ := atI_some f554
                    have f554g := flat_some (g := fun x : CRow => ([.sl x.pre.length (x.pre.map fun x0 => .sc (.int .i64 x0)), .sl x.maps.length (x.maps.map fun x0 => .sl x0.length (x0.map fun x1 => .sc (.int .i64 x1)))] : List T)) (m := 2) (fun _ => rfl) f554d
                    have f554h := flat_len (g := fun x : CRow => ([.sl x.pre.length (x.pre.map fun x0 => .sc (.int .i64 x0)), .sl x.maps.length (x.maps.map fun x0 => .sl x0.length (x0.map fun x1 => .sc (.int .i64 x1)))] : List T)) (m := 2) (fun _ => rfl) a0.rows
                    have f554k0 := f554g.2.2.1 0 (by decide)
                    have f554m0 := f554g.2.2.2 0 _ rfl
                    have f554k1 := f554g.2.2.1 1 (by decide)
                    have f554m1 := f554g.2.2.2 1 _ rfl
                    obtain ⟨f554g, f554i, -⟩ := f554g
                    try simp at f554i f554h f554k0 f554m0 f554k1 f554m1
                    obtain ⟨v204, f555, h7⟩ := bnd_some h6
                    have f555k := ref26_Less_ok f555
                    try simp at f555k
                    by_cases c556 : v204 = true
                    · rw [if_pos c556] at h7
                      refine q_drawW rfl rfl rfl rfl ?_; repeat' (first | (refine q_drawW_op rfl rfl fun Q' hQ => ?_; simp [c550, f551k, c552, c553, f554a, f554b, f554c, f554d, f554e, f554g, f554i, f554h, f554k0, f554k1, f554m0, f554m1, f555k, c556]; refine hQ.out _ ?_; clear hQ; clear Q') | (refine q_drawW_guard rfl rfl fun Q1 Q2 h1 h2 => ?_; simp [c550, f551k, c552, c553, f554a, f554b, f554c, f554d, f554e, f554g, f554i, f554h, f554k0, f554k1, f554m0, f554m1, f555k, c556, twoB_some]; (first | refine h1.out ?_ | refine h2.out ?_); clear h1 h2; clear Q1 Q2; intro Q' hQ; simp [c550, f551k, c552, c553, f554a, f554b, f554c, f554d, f554e, f554g, f554i, f554h, f554k0, f554k1, f554m0, f554m1, f555k, c556]; refine hQ.out _ ?_; clear hQ; clear Q') | (refine q_drawW_nil rfl fun Q' hQ => ?_; simp [c550, f551k, c552, c553, f554a, f554b, f554c, f554d, f554e, f554g, f554i, f554h, f554k0, f554k1, f554m0, f554m1, f555k, c556]; refine hQ.out _ ?_; clear hQ; clear Q'))
                      refine thenC_n ?_
                      by_cases c557 : (v201.maps.length : Int) = a0.letters
                      · rw [if_pos c557] at h7
                        have c557e := eq_true c557
                        refine q_ifF rfl (by simp [c557e]) (q_skip rfl (thenC_n (zq rfl ?_)))
                        obtain ⟨v205, f558, h8⟩ := bnd_some h7
                        obtain ⟨f558a, f558b, f558c, f558d, f558e⟩ := atI_some f558
                        simp only [Int.toNat_natCast] at f558c f558d f558e
                        have f558l : v201.pre.length < a0.sizes.length := by omega
                        refine zr rfl rfl rfl (by simp [f558a, f558b, f558c, f558d, f558e, f558l]; rfl) ?_
                        refine thenC_n (zq rfl (zr rfl rfl rfl (by simp; rfl) ?_))
                        refine thenC_n (zb rfl (q_loopG h8 (ref26_Validate_h18 a0 w162 v201 v205) rfl rfl (by simp [ref26_Validate_h18]) fun s o3 h9 hr3 => ?_))
                        obtain ⟨w211, hs3⟩ : ∃ y, y = s := ⟨_, rfl⟩
                        subst hs3
                        simp only [ref26_Validate_b18] at h9
                        simp only [ref26_Validate_h18]
                        refine zq rfl (zr rfl rfl rfl (by simp; rfl) ?_)
                        refine thenC_n (zq rfl ?_)
                        by_cases c589 : w211 < (v201.maps.length : Int)
                        · rw [if_pos c589] at h9
                          refine q_ifT rfl (by simp [c589]) (q_skip rfl (thenC_n (zq rfl (zb rfl (zq rfl ?_)))))
                          obtain ⟨v217, f590, h10⟩ := bnd_some h9
                          obtain ⟨f590a, f590b, f590c, f590d, f590e⟩ := atI_some f590
                          refine zr rfl rfl rfl (by simp [f590a, f590b, f590c, f590d, f590e]; rfl) ?_
                          refine thenC_n (zq rfl (zq rfl (zr rfl rfl rfl (by simp; rfl) ?_)))
                          refine thenC_n ?_
                          by_cases c591 : (v217.length : Int) = v205
                          · rw [if_pos c591] at h10
                            have c591e := eq_true c591
                            refine q_ifF rfl (by simp [c591e]) (q_skip rfl (thenC_n (zq rfl (zr rfl rfl rfl (by simp; rfl) ?_))))
                            refine thenC_n (zb rfl (q_loopG h10 (ref26_Validate_h23 a0 w162 v201 v205 w211 v217) rfl rfl (by simp [ref26_Validate_h23]) fun s o4 h11 hr4 => ?_))
                            obtain ⟨w219, hs4⟩ : ∃ y, y = s := ⟨_, rfl⟩
                            subst hs4
                            simp only [ref26_Validate_b23] at h11
                            simp only [ref26_Validate_h23]
                            refine zq rfl (zr rfl rfl rfl (by simp; rfl) ?_)
                            refine thenC_n (zq rfl ?_)
                            by_cases c600 : w219 < (v217.length : Int)
                            · rw [if_pos c600] at h11
                              refine q_ifT rfl (by simp [c600]) (q_skip rfl (thenC_n (zq rfl (zb rfl (zq rfl ?_)))))
                              obtain ⟨v221, f601, h12⟩ := bnd_some h11
                              obtain ⟨f601a, f601b, f601c, f601d, f601e⟩ := atI_some f601
                              refine zr rfl rfl rfl (by simp [f601a, f601b, f601c, f601d, f601e]; rfl) ?_
                              refine thenC_n (zq rfl ?_)
                              by_cases c602 : v221 < 0
                              · rw [if_pos c602] at h12
                                refine zr rfl rfl rfl (by simp [c602]; rfl) ?_
                                refine thenC_n (q_ifT rfl (by simp) (zq rfl (zr rfl rfl rfl (by simp; rfl) ?_)))
                                refine thenC_n (q_ret rfl (blockC_r (thenC_r ?_)))
                                obtain ⟨rr4, h13, ho4⟩ := exit_some h12
                                have hs4 := hr4 _ ho4
                                subst hs4
                                refine roundC_r ho4 (blockC_r (blockC_r (thenC_r ?_)))
                                obtain ⟨rr3, h14, ho3⟩ := exit_some h13
                                have hs3 := hr3 _ ho3
                                subst hs3
                                refine roundC_r ho3 (blockC_r (blockC_r (thenC_r ?_)))
                                obtain ⟨rr2, h15, ho2⟩ := exit_some h14
                                have hs2 := hr2 _ ho2
                                subst hs2
                                refine roundC_r ho2 (blockC_r (thenC_r ?_))
                                cases h15
                                simp
                              · rw [if_neg c602] at h12
                                refine zr rfl rfl rfl (by simp [c602]; rfl) ?_
                                refine thenC_n ?_
                                by_cases c603 : v205 ≤ v221
                                · rw [if_pos c603] at h12
                                  refine q_ifT rfl (by simp [c603]) (zq rfl (zr rfl rfl rfl (by simp; rfl) ?_))
                                  refine thenC_n (q_ret rfl (blockC_r (thenC_r ?_)))
                                  obtain ⟨rr4, h13, ho4⟩ := exit_some h12
                                  have hs4 := hr4 _ ho4
                                  subst hs4
                                  refine roundC_r ho4 (blockC_r (blockC_r (thenC_r ?_)))
                                  obtain ⟨rr3, h14, ho3⟩ := exit_some h13
                                  have hs3 := hr3 _ ho3
                                  subst hs3
                                  refine roundC_r ho3 (blockC_r (blockC_r (thenC_r ?_)))
                                  obtain ⟨rr2, h15, ho2⟩ := exit_some h14
                                  have hs2 := hr2 _ ho2
                                  subst hs2
                                  refine roundC_r ho2 (blockC_r (thenC_r ?_))
                                  cases h15
                                  simp
                                · rw [if_neg c603] at h12
                                  refine q_ifF rfl (by simp [c603]) (q_skip rfl (blockC_n (thenC_n (zr rfl rfl rfl (by simp; rfl) ?_))))
                                  have ho := next_some h12
                                  refine roundC_n ho ?_
                                  simp [ref26_Validate_h23]
                            · rw [if_neg c600] at h11
                              refine q_ifF rfl (by simp [c600]) (q_exit rfl (thenC_x ?_))
                              obtain ⟨rr4, h12, ho4⟩ := exit_some h11
                              have hs4 := hr4 _ ho4
                              subst hs4
                              refine roundC_x ho4 (blockC_hit2 rfl (blockC_n (thenC_n (zr rfl rfl rfl (by simp; rfl) ?_))))
                              have ho := next_some h12
                              refine roundC_n ho ?_
                              simp [ref26_Validate_h18]
                          · rw [if_neg c591] at h10
                            have c591e := eq_false c591
                            refine q_ifT rfl (by simp [c591e]) (zq rfl (zr rfl rfl rfl (by simp; rfl) ?_))
                            refine thenC_n (q_ret rfl (thenC_r (blockC_r (thenC_r ?_))))
                            obtain ⟨rr3, h11, ho3⟩ := exit_some h10
                            have hs3 := hr3 _ ho3
                            subst hs3
                            refine roundC_r ho3 (blockC_r (blockC_r (thenC_r ?_)))
                            obtain ⟨rr2, h12, ho2⟩ := exit_some h11
                            have hs2 := hr2 _ ho2
                            subst hs2
                            refine roundC_r ho2 (blockC_r (thenC_r ?_))
                            cases h12
                            simp
                        · rw [if_neg c589] at h9
                          refine q_ifF rfl (by simp [c589]) (q_exit rfl (thenC_x ?_))
                          obtain ⟨rr3, h10, ho3⟩ := exit_some h9
                          have hs3 := hr3 _ ho3
                          subst hs3
                          refine roundC_x ho3 (blockC_hit2 rfl (blockC_n (thenC_n (zr rfl rfl rfl (by simp; rfl) ?_))))
                          have ho := next_some h10
                          refine roundC_n ho ?_
                          simp [ref26_Validate_h12]
                      · rw [if_neg c557] at h7
                        have c557e := eq_false c557
                        refine q_ifT rfl (by simp [c557e]) (zq rfl (zr rfl rfl rfl (by simp; rfl) ?_))
                        refine thenC_n (q_ret rfl (thenC_r (blockC_r (thenC_r ?_))))
                        obtain ⟨rr2, h8, ho2⟩ := exit_some h7
                        have hs2 := hr2 _ ho2
                        subst hs2
                        refine roundC_r ho2 (blockC_r (thenC_r ?_))
                        cases h8
                        simp
                    · rw [if_neg c556] at h7
                      refine q_drawW rfl rfl rfl rfl ?_; repeat' (first | (refine q_drawW_op rfl rfl fun Q' hQ => ?_; simp [c550, f551k, c552, c553, f554a, f554b, f554c, f554d, f554e, f554g, f554i, f554h, f554k0, f554k1, f554m0, f554m1, f555k, c556]; refine hQ.out _ ?_; clear hQ; clear Q') | (refine q_drawW_guard rfl rfl fun Q1 Q2 h1 h2 => ?_; simp [c550, f551k, c552, c553, f554a, f554b, f554c, f554d, f554e, f554g, f554i, f554h, f554k0, f554k1, f554m0, f554m1, f555k, c556, twoB_some]; (first | refine h1.out ?_ | refine h2.out ?_); clear h1 h2; clear Q1 Q2; intro Q' hQ; simp [c550, f551k, c552, c553, f554a, f554b, f554c, f554d, f554e, f554g, f554i, f554h, f554k0, f554k1, f554m0, f554m1, f555k, c556]; refine hQ.out _ ?_; clear hQ; clear Q') | (refine q_drawW_nil rfl fun Q' hQ => ?_; simp [c550, f551k, c552, c553, f554a, f554b, f554c, f554d, f554e, f554g, f554i, f554h, f554k0, f554k1, f554m0, f554m1, f555k, c556]; refine hQ.out _ ?_; clear hQ; clear Q'))
                      refine thenC_n (q_ifT rfl (by simp) (zq rfl (zr rfl rfl rfl (by simp; rfl) ?_)))
                      refine thenC_n (q_ret rfl (thenC_r (blockC_r (thenC_r ?_))))
                      obtain ⟨rr2, h8, ho2⟩ := exit_some h7
                      have hs2 := hr2 _ ho2
                      subst hs2
                      refine roundC_r ho2 (blockC_r (thenC_r ?_))
                      cases h8
                      simp
                  · rw [if_neg c553] at h5
                    refine q_drawW rfl rfl rfl rfl ?_; repeat' (first | (refine q_drawW_op rfl rfl fun Q' hQ => ?_; simp [c550, f551k, c552, c553]; refine hQ.out _ ?_; clear hQ; clear Q') | (refine q_drawW_guard rfl rfl fun Q1 Q2 h1 h2 => ?_; simp [c550, f551k, c552, c553, twoB_some]; (first | refine h1.out ?_ | refine h2.out ?_); clear h1 h2; clear Q1 Q2; intro Q' hQ; simp [c550, f551k, c552, c553]; refine hQ.out _ ?_; clear hQ; clear Q') | (refine q_drawW_nil rfl fun Q' hQ => ?_; simp [c550, f551k, c552, c553]; refine hQ.out _ ?_; clear hQ; clear Q'))
                    refine thenC_n ?_
                    by_cases c604 : (v201.maps.length : Int) = a0.letters
                    · rw [if_pos c604] at h5
                      have c604e := eq_true c604
                      refine q_ifF rfl (by simp [c604e]) (q_skip rfl (thenC_n (zq rfl ?_)))
                      obtain ⟨v222, f605, h6⟩ := bnd_some h5
                      obtain ⟨f605a, f605b, f605c, f605d, f605e⟩ := atI_some f605
                      simp only [Int.toNat_natCast] at f605c f605d f605e
                      have f605l : v201.pre.length < a0.sizes.length := by omega
                      refine zr rfl rfl rfl (by simp [f605a, f605b, f605c, f605d, f605e, f605l]; rfl) ?_
                      refine thenC_n (zq rfl (zr rfl rfl rfl (by simp; rfl) ?_))
                      refine thenC_n (zb rfl (q_loopG h6 (ref26_Validate_h18a a0 w162 v201 v222) rfl rfl (by simp [ref26_Validate_h18a]) fun s o5 h7 hr5 => ?_))
                      obtain ⟨w228, hs5⟩ : ∃ y, y = s := ⟨_, rfl⟩
                      subst hs5
                      simp only [ref26_Validate_b18a] at h7
                      simp only [ref26_Validate_h18a]
                      refine zq rfl (zr rfl rfl rfl (by simp; rfl) ?_)
                      refine thenC_n (zq rfl ?_)
                      by_cases c636 : w228 < (v201.maps.length : Int)
                      · rw [if_pos c636] at h7
                        refine q_ifT rfl (by simp [c636]) (q_skip rfl (thenC_n (zq rfl (zb rfl (zq rfl ?_)))))
                        obtain ⟨v234, f637, h8⟩ := bnd_some h7
                        obtain ⟨f637a, f637b, f637c, f637d, f637e⟩ := atI_some f637
                        refine zr rfl rfl rfl (by simp [f637a, f637b, f637c, f637d, f637e]; rfl) ?_
                        refine thenC_n (zq rfl (zq rfl (zr rfl rfl rfl (by simp; rfl) ?_)))
                        refine thenC_n ?_
                        by_cases c638 : (v234.length : Int) = v222
                        · rw [if_pos c638] at h8
                          have c638e := eq_true c638
                          refine q_ifF rfl (by simp [c638e]) (q_skip rfl (thenC_n (zq rfl (zr rfl rfl rfl (by simp; rfl) ?_))))
                          refine thenC_n (zb rfl (q_loopG h8 (ref26_Validate_h23a a0 w162 v201 v222 w228 v234) rfl rfl (by simp [ref26_Validate_h23a]) fun s o6 h9 hr6 => ?_))
                          obtain ⟨w236, hs6⟩ : ∃ y, y = s := ⟨_, rfl⟩
                          subst hs6
                          simp only [ref26_Validate_b23a] at h9
                          simp only [ref26_Validate_h23a]
                          refine zq rfl (zr rfl rfl rfl (by simp; rfl) ?_)
                          refine thenC_n (zq rfl ?_)
                          by_cases c647 : w236 < (v234.length : Int)
                          · rw [if_pos c647] at h9
                            refine q_ifT rfl (by simp [c647]) (q_skip rfl (thenC_n (zq rfl (zb rfl (zq rfl ?_)))))
                            obtain ⟨v238, f648, h10⟩ := bnd_some h9
                            obtain ⟨f648a, f648b, f648c, f648d, f648e⟩ := atI_some f648
                            refine zr rfl rfl rfl (by simp [f648a, f648b, f648c, f648d, f648e]; rfl) ?_
                            refine thenC_n (zq rfl ?_)
                            by_cases c649 : v238 < 0
                            · rw [if_pos c649] at h10
                              refine zr rfl rfl rfl (by simp [c649]; rfl) ?_
                              refine thenC_n (q_ifT rfl (by simp) (zq rfl (zr rfl rfl rfl (by simp; rfl) ?_)))
                              refine thenC_n (q_ret rfl (blockC_r (thenC_r ?_)))
                              obtain ⟨rr6, h11, ho6⟩ := exit_some h10
                              have hs6 := hr6 _ ho6
                              subst hs6
                              refine roundC_r ho6 (blockC_r (blockC_r (thenC_r ?_)))
                              obtain ⟨rr5, h12, ho5⟩ := exit_some h11
                              have hs5 := hr5 _ ho5
                              subst hs5
                              refine roundC_r ho5 (blockC_r (blockC_r (thenC_r ?_)))
                              obtain ⟨rr2, h13, ho2⟩ := exit_some h12
                              have hs2 := hr2 _ ho2
                              subst hs2
                              refine roundC_r ho2 (blockC_r (thenC_r ?_))
                              cases h13
                              simp
                            · rw [if_neg c649] at h10
                              refine zr rfl rfl rfl (by simp [c649]; rfl) ?_
                              refine thenC_n ?_
                              by_cases c650 : v222 ≤ v238
                              · rw [if_pos c650] at h10
                                refine q_ifT rfl (by simp [c650]) (zq rfl (zr rfl rfl rfl (by simp; rfl) ?_))
                                refine thenC_n (q_ret rfl (blockC_r (thenC_r ?_)))
                                obtain ⟨rr6, h11, ho6⟩ := exit_some h10
                                have hs6 := hr6 _ ho6
                                subst hs6
                                refine roundC_r ho6 (blockC_r (blockC_r (thenC_r ?_)))
                                obtain ⟨rr5, h12, ho5⟩ := exit_some h11
                                have hs5 := hr5 _ ho5
                                subst hs5
                                refine roundC_r ho5 (blockC_r (blockC_r (thenC_r ?_)))
                                obtain ⟨rr2, h13, ho2⟩ := exit_some h12
                                have hs2 := hr2 _ ho2
                                subst hs2
                                refine roundC_r ho2 (blockC_r (thenC_r ?_))
                                cases h13
                                simp
                              · rw [if_neg c650] at h10
                                refine q_ifF rfl (by simp [c650]) (q_skip rfl (blockC_n (thenC_n (zr rfl rfl rfl (by simp; rfl) ?_))))
                                have ho := next_some h10
                                refine roundC_n ho ?_
                                simp [ref26_Validate_h23a]
                          · rw [if_neg c647] at h9
                            refine q_ifF rfl (by simp [c647]) (q_exit rfl (thenC_x ?_))
                            obtain ⟨rr6, h10, ho6⟩ := exit_some h9
                            have hs6 := hr6 _ ho6
                            subst hs6
                            refine roundC_x ho6 (blockC_hit2 rfl (blockC_n (thenC_n (zr rfl rfl rfl (by simp; rfl) ?_))))
                            have ho := next_some h10
                            refine roundC_n ho ?_
                            simp [ref26_Validate_h18a]
                        · rw [if_neg c638] at h8
                          have c638e := eq_false c638
                          refine q_ifT rfl (by simp [c638e]) (zq rfl (zr rfl rfl rfl (by simp; rfl) ?_))
                          refine thenC_n (q_ret rfl (thenC_r (blockC_r (thenC_r ?_))))
                          obtain ⟨rr5, h9, ho5⟩ := exit_some h8
                          have hs5 := hr5 _ ho5
                          subst hs5
                          refine roundC_r ho5 (blockC_r (blockC_r (thenC_r ?_)))
                          obtain ⟨rr2, h10, ho2⟩ := exit_some h9
                          have hs2 := hr2 _ ho2
                          subst hs2
                          refine roundC_r ho2 (blockC_r (thenC_r ?_))
                          cases h10
                          simp
                      · rw [if_neg c636] at h7
                        refine q_ifF rfl (by simp [c636]) (q_exit rfl (thenC_x ?_))
                        obtain ⟨rr5, h8, ho5⟩ := exit_some h7
                        have hs5 := hr5 _ ho5
                        subst hs5
                        refine roundC_x ho5 (blockC_hit2 rfl (blockC_n (thenC_n (zr rfl rfl rfl (by simp; rfl) ?_))))
                        have ho := next_some h8
                        refine roundC_n ho ?_
                        simp [ref26_Validate_h12]
                    · rw [if_neg c604] at h5
                      have c604e := eq_false c604
                      refine q_ifT rfl (by simp [c604e]) (zq rfl (zr rfl rfl rfl (by simp; rfl) ?_))
                      refine thenC_n (q_ret rfl (thenC_r (blockC_r (thenC_r ?_))))
                      obtain ⟨rr2, h6, ho2⟩ := exit_some h5
                      have hs2 := hr2 _ ho2
                      subst hs2
                      refine roundC_r ho2 (blockC_r (thenC_r ?_))
                      cases h6
                      simp
                · rw [if_neg c552] at h5
                  refine q_drawW rfl rfl rfl rfl ?_; repeat' (first | (refine q_drawW_op rfl rfl fun Q' hQ => ?_; simp [c550, f551k, c552]; refine hQ.out _ ?_; clear hQ; clear Q') | (refine q_drawW_guard rfl rfl fun Q1 Q2 h1 h2 => ?_; simp [c550, f551k, c552, twoB_some]; (first | refine h1.out ?_ | refine h2.out ?_); clear h1 h2; clear Q1 Q2; intro Q' hQ; simp [c550, f551k, c552]; refine hQ.out _ ?_; clear hQ; clear Q') | (refine q_drawW_nil rfl fun Q' hQ => ?_; simp [c550, f551k, c552]; refine hQ.out _ ?_; clear hQ; clear Q'))
                  refine thenC_n (q_ifT rfl (by simp) (zq rfl (zr rfl rfl rfl (by simp; rfl) ?_)))
                  refine thenC_n (q_ret rfl (thenC_r (blockC_r (thenC_r ?_))))
                  obtain ⟨rr2, h6, ho2⟩ := exit_some h5
                  have hs2 := hr2 _ ho2
                  subst hs2
                  refine roundC_r ho2 (blockC_r (thenC_r ?_))
                  cases h6
                  simp
            · rw [if_neg c548] at h3
              refine q_ifF rfl (by simp [c548]) (q_exit rfl (thenC_x ?_))
              obtain ⟨rr2, h4, ho2⟩ := exit_some h3
              have hs2 := hr2 _ ho2
              subst hs2
              refine roundC_x ho2 (blockC_hit2 rfl (thenC_n (zq rfl (zr rfl rfl rfl (by simp; rfl) ?_))))
              refine thenC_n (q_ret rfl ?_)
              cases h4
              simp

-- semigroup/cascade.NewRunner
def cascade_NewRunner (a0 : Casc) : Option ((Runner × Int) ⊕ (Runner × Int)) :=
  (cascade_Validate a0).bind fun v2 =>
  if v2 = 0 then
    some (.inl ((⟨⟨a0.letters, a0.sizes, a0.rows⟩⟩ : Runner), 0))
  else
    some (.inr ((⟨⟨0, [], []⟩⟩ : Runner), v2))
theorem cascade_NewRunner_ok {a0 : Casc} {r : (Runner × Int) ⊕ (Runner × Int)} (h0 : cascade_NewRunner a0 = some r) : L 30 [.agg [.sc (.int .i64 a0.letters), .sl a0.sizes.length (a0.sizes.map fun x0 => .sc (.int .i64 x0)), .sl a0.rows.length (a0.rows.flatMap fun x0 => [.sl x0.pre.length (x0.pre.map fun x1 => .sc (.int .i64 x1)), .sl x0.maps.length (x0.maps.map fun x1 => .sl x1.length (x1.map fun x2 => .sc (.int .i64 x2)))])]] = some (match r with | (.inl r) => (.tup [.agg [.sc (.int .i64 r.1.c.letters), .sl r.1.c.sizes.length (r.1.c.sizes.map fun x0 => .sc (.int .i64 x0)), .sl r.1.c.rows.length (r.1.c.rows.flatMap fun x0 => [.sl x0.pre.length (x0.pre.map fun x1 => .sc (.int .i64 x1)), .sl x0.maps.length (x0.maps.map fun x1 => .sl x1.length (x1.map fun x2 => .sc (.int .i64 x2)))])], .sc (.int .i64 r.2)], [.dead]) | (.inr r) => (.tup [.agg [.sc (.int .i64 r.1.c.letters), .os 1 0 [], .os 2 0 []], .sc (.int .i64 r.2)], [.dead])) := by
  simp only [cascade_NewRunner] at h0
  refine L_run cfn30 fn30 (runF_of bd30 ⟨of_decide_eq_true rfl, of_decide_eq_true rfl⟩ ?_)
  simp only [entryF, entryT, entryO, entryE, isIo]
  refine zq rfl (zr rfl rfl rfl (by simp; rfl) ?_)
  refine thenC_n (zq rfl (zq rfl ?_))
  obtain ⟨v2, f3, h1⟩ := bnd_some h0
  have f3k := cascade_Validate_ok f3
  try simp at f3k
  refine zr rfl rfl rfl (by simp [f3k]; rfl) ?_
  refine thenC_n (zq rfl (zr rfl rfl rfl (by simp; rfl) ?_))
  refine thenC_n ?_
  by_cases c4 : v2 = 0
  · rw [if_pos c4] at h1
    have c4e := eq_true c4
    refine q_ifF rfl (by simp [c4e]) (q_skip rfl (thenC_n (zq rfl (zr rfl rfl rfl (by simp; rfl) ?_))))
    refine thenC_n (q_ret rfl ?_)
    cases h1
    simp
  · rw [if_neg c4] at h1
    have c4e := eq_false c4
    refine q_ifT rfl (by simp [c4e]) (zq rfl (zr rfl rfl rfl (by simp; rfl) ?_))
    refine thenC_n (q_ret rfl (thenC_r ?_))
    cases h1
    simp

-- (semigroup/cascade.Runner).Step$1
def cascade_Runner_Step_1 (a0 : CRow) (a1 : List Int) : Option (Int) :=
  (cascade_compareRows a0.pre a1).bind fun v2 =>
  some v2
theorem cascade_Runner_Step_1_ok {a0 : CRow} {a1 : List Int} {r : Int} (h0 : cascade_Runner_Step_1 a0 a1 = some r) : L 57 [.agg [.sl a0.pre.length (a0.pre.map fun x0 => .sc (.int .i64 x0)), .sl a0.maps.length (a0.maps.map fun x0 => .sl x0.length (x0.map fun x1 => .sc (.int .i64 x1)))], .sl a1.length (a1.map fun x0 => .sc (.int .i64 x0))] = some (.sc (.int .i64 r), [.dead, .dead]) := by
  simp only [cascade_Runner_Step_1] at h0
  refine L_run cfn57 fn57 (runF_of bd57 ⟨of_decide_eq_true rfl, of_decide_eq_true rfl⟩ ?_)
  simp only [entryF, entryT, entryO, entryE, isIo]
  refine zq rfl (zr rfl rfl rfl (by simp; rfl) ?_)
  refine thenC_n (zq rfl ?_)
  obtain ⟨v2, f2, h1⟩ := bnd_some h0
  have f2k := cascade_compareRows_ok f2
  try simp at f2k
  refine zr rfl rfl rfl (by simp [f2k]; rfl) ?_
  refine thenC_n (q_ret rfl ?_)
  cases h1
  simp

-- slices.BinarySearchFunc[[]semigroup/api.CascadeRow,semigroup/api.CascadeRow,[]int]
def slices_BinarySearchFunc_Lapi_CascadeRow_api_CascadeRow_Lint_cascade_Runner_Step_1_b3 (a0 : List CRow) (a1 : List Int) : Int × Int → Option ((Int × Int) ⊕ (Int × Bool))
  | (w13, w14) =>
  if w13 < w14 then
    chk (¬ 1 < 0) <|
    (atI a0 (IntKind.i64.wrap (shrI .u64 (IntKind.u64.wrap (IntKind.i64.wrap (w13 + w14))) 1))).bind fun v17 =>
    (cascade_Runner_Step_1 v17 a1).bind fun v18 =>
    if v18 < 0 then
      nextG (IntKind.i64.wrap ((IntKind.i64.wrap (shrI .u64 (IntKind.u64.wrap (IntKind.i64.wrap (w13 + w14))) 1)) + 1), w14)
    else
      nextG (w13, IntKind.i64.wrap (shrI .u64 (IntKind.u64.wrap (IntKind.i64.wrap (w13 + w14))) 1))
  else
    exitG <|
    if w13 < (a0.length : Int) then
      (atI a0 w13).bind fun v19 =>
      (cascade_Runner_Step_1 v19 a1).bind fun v20 =>
      some (w13, decide (v20 = 0))
    else
      some (w13, false)
def slices_BinarySearchFunc_Lapi_CascadeRow_api_CascadeRow_Lint_cascade_Runner_Step_1_h3 (a0 : List CRow) (a1 : List Int) : Int × Int → Fr
  | (w13, w14) => ⟨49, [(0, .one (.t none (.sl a0.length (a0.flatMap fun x0 => [.sl x0.pre.length (x0.pre.map fun x1 => .sc (.int .i64 x1)), .sl x0.maps.length (x0.maps.map fun x1 => .sl x1.length (x1.map fun x2 => .sc (.int .i64 x2)))])))), (1, .one (.t none (.sl a1.length (a1.map fun x0 => .sc (.int .i64 x0))))), (2, .one (.t none (.sc (.func (.func 57) #[] #[])))), (8, .one (.t none (.sc (.int .i64 (a0.length : Int))))), (9, .one (.t none (.sc (.int .i64 w13)))), (10, .one (.t none (.sc (.int .i64 w14))))], []⟩
def slices_BinarySearchFunc_Lapi_CascadeRow_api_CascadeRow_Lint_cascade_Runner_Step_1 (a0 : List CRow) (a1 : List Int) : Option (Int × Bool) :=
  loopG (slices_BinarySearchFunc_Lapi_CascadeRow_api_CascadeRow_Lint_cascade_Runner_Step_1_b3 a0 a1) LFm (0, (a0.length : Int))
theorem slices_BinarySearchFunc_Lapi_CascadeRow_api_CascadeRow_Lint_cascade_Runner_Step_1_ok {a0 : List CRow} {a1 : List Int} {r : Int × Bool} (h0 : slices_BinarySearchFunc_Lapi_CascadeRow_api_CascadeRow_Lint_cascade_Runner_Step_1 a0 a1 = some r) : L 56 [.sl a0.length (a0.flatMap fun x0 => [.sl x0.pre.length (x0.pre.map fun x1 => .sc (.int .i64 x1)), .sl x0.maps.length (x0.maps.map fun x1 => .sl x1.length (x1.map fun x2 => .sc (.int .i64 x2)))]), .sl a1.length (a1.map fun x0 => .sc (.int .i64 x0)), .sc (.func (.func 57) #[] #[])] = some (.tup [.sc (.int .i64 r.1), .sc (.bool r.2)], [.dead, .dead, .dead]) := by
  simp only [slices_BinarySearchFunc_Lapi_CascadeRow_api_CascadeRow_Lint_cascade_Runner_Step_1] at h0
  refine L_run cfn56 fn56 (runF_of bd56 ⟨of_decide_eq_true rfl, of_decide_eq_true rfl⟩ ?_)
  simp only [entryF, entryT, entryO, entryE, isIo]
  refine zq rfl (zr rfl rfl rfl (by simp; rfl) ?_)
  refine thenC_n (zq rfl (zr rfl rfl rfl (by simp; rfl) ?_))
  refine thenC_n (zq rfl (zr rfl rfl rfl (by simp; rfl) ?_))
  refine thenC_n (zq rfl (zb rfl (q_loopG h0 (slices_BinarySearchFunc_Lapi_CascadeRow_api_CascadeRow_Lint_cascade_Runner_Step_1_h3 a0 a1) rfl rfl (by simp [slices_BinarySearchFunc_Lapi_CascadeRow_api_CascadeRow_Lint_cascade_Runner_Step_1_h3]) fun s o1 h1 hr1 => ?_)))
  obtain ⟨w13, w14⟩ := s
  simp only [slices_BinarySearchFunc_Lapi_CascadeRow_api_CascadeRow_Lint_cascade_Runner_Step_1_b3] at h1
  simp only [slices_BinarySearchFunc_Lapi_CascadeRow_api_CascadeRow_Lint_cascade_Runner_Step_1_h3]
  refine zq rfl (zq rfl (zr rfl rfl rfl (by simp; rfl) ?_))
  refine thenC_n ?_
  by_cases c29 : w13 < w14
  · rw [if_pos c29] at h1
    refine q_ifT rfl (by simp [c29]) (q_skip rfl (thenC_n (zb rfl (zq rfl ?_))))
    obtain ⟨f30, h2⟩ := chk_some h1
    refine zr rfl rfl rfl (by simp [f30]; rfl) ?_
    refine thenC_n (zq rfl ?_)
    obtain ⟨v17, f31, h3⟩ := bnd_some h2
    obtain ⟨f31a, f31b, f31c, f31d, f31e⟩ := atI_some f31
    have f31g := flat_some (g := fun x : CRow => ([.sl x.pre.length (x.pre.map fun x0 => .sc (.int .i64 x0)), .sl x.maps.length (x.maps.map fun x0 => .sl x0.length (x0.map fun x1 => .sc (.int .i64 x1)))] : List T)) (m := 2) (fun _ => rfl) f31d
    have f31h := flat_len (g := fun x : CRow => ([.sl x.pre.length (x.pre.map fun x0 => .sc (.int .i64 x0)), .sl x.maps.length (x.maps.map fun x0 => .sl x0.length (x0.map fun x1 => .sc (.int .i64 x1)))] : List T)) (m := 2) (fun _ => rfl) a0
    have f31k0 := f31g.2.2.1 0 (by decide)
    have f31m0 := f31g.2.2.2 0 _ rfl
    have f31k1 := f31g.2.2.1 1 (by decide)
    have f31m1 := f31g.2.2.2 1 _ rfl
    obtain ⟨f31g, f31i, -⟩ := f31g
    try simp at f31i f31h f31k0 f31m0 f31k1 f31m1
    obtain ⟨v18, f32, h4⟩ := bnd_some h3
    have f32k := cascade_Runner_Step_1_ok f32
    try simp at f32k
    refine zr rfl rfl rfl (by simp [f31a, f31b, f31c, f31d, f31e, f31g, f31i, f31h, f31k0, f31k1, f31m0, f31m1, f32k]; rfl) ?_
    refine thenC_n ?_
    by_cases c33 : v18 < 0
    · rw [if_pos c33] at h4
      refine q_ifT rfl (by simp [c33]) (zr rfl rfl rfl (by simp; rfl) ?_)
      refine blockC_n ?_
      have ho := next_some h4
      refine roundC_n ho ?_
      simp [slices_BinarySearchFunc_Lapi_CascadeRow_api_CascadeRow_Lint_cascade_Runner_Step_1_h3]
    · rw [if_neg c33] at h4
      refine q_ifF rfl (by simp [c33]) (zr rfl rfl rfl (by simp; rfl) ?_)
      refine blockC_n ?_
      have ho := next_some h4
      refine roundC_n ho ?_
      simp [slices_BinarySearchFunc_Lapi_CascadeRow_api_CascadeRow_Lint_cascade_Runner_Step_1_h3]
  · rw [if_neg c29] at h1
    refine q_ifF rfl (by simp [c29]) (q_exit rfl (thenC_x ?_))
    obtain ⟨rr1, h2, ho1⟩ := exit_some h1
    have hs1 := hr1 _ ho1
    subst hs1
    refine roundC_x ho1 (blockC_hit2 rfl (thenC_n (zq rfl ?_)))
    by_cases c34 : w13 < (a0.length : Int)
    · rw [if_pos c34] at h2
      obtain ⟨v19, f35, h3⟩ := bnd_some h2
      obtain ⟨f35a, f35b, f35c, f35d, f35e⟩ := atI_some f35
      have f35g := flat_some (g := fun x : CRow => ([.sl x.pre.length (x.pre.map fun x0 => .sc (.int .i64 x0)), .sl x.maps.length (x.maps.map fun x0 => .sl x0.length (x0.map fun x1 => .sc (.int .i64 x1)))] : List T)) (m := 2) (fun _ => rfl) f35d
      have f35h := flat_len (g := fun x : CRow => ([.sl x.pre.length (x.pre.map fun x0 => .sc (.int .i64 x0)), .sl x.maps.length (x.maps.map fun x0 => .sl x0.length (x0.map fun x1 => .sc (.int .i64 x1)))] : List T)) (m := 2) (fun _ => rfl) a0
      have f35k0 := f35g.2.2.1 0 (by decide)
      have f35m0 := f35g.2.2.2 0 _ rfl
      have f35k1 := f35g.2.2.1 1 (by decide)
      have f35m1 := f35g.2.2.2 1 _ rfl
      obtain ⟨f35g, f35i, -⟩ := f35g
      try simp at f35i f35h f35k0 f35m0 f35k1 f35m1
      obtain ⟨v20, f36, h4⟩ := bnd_some h3
      have f36k := cascade_Runner_Step_1_ok f36
      try simp at f36k
      refine zr rfl rfl rfl (by simp [c34, f35a, f35b, f35c, f35d, f35e, f35g, f35i, f35h, f35k0, f35k1, f35m0, f35m1, f36k]; rfl) ?_
      refine thenC_n (q_ret rfl ?_)
      cases h4
      simp
    · rw [if_neg c34] at h2
      refine zr rfl rfl rfl (by simp [c34]; rfl) ?_
      refine thenC_n (q_ret rfl ?_)
      cases h2
      simp

-- (semigroup/cascade.Runner).Step
def cascade_Runner_Step_b5 (a0 : Runner) (a1 : List Int) (a2 : Int) : Int × List Int → Option ((Int × List Int) ⊕ (List Int × Int))
  | (w33, w34) =>
  if w33 < (a1.length : Int) then
    (atI a1 w33).bind fun v42 =>
    (pieceL a1 0 w33).bind fun v43 =>
    (slices_BinarySearchFunc_Lapi_CascadeRow_api_CascadeRow_Lint_cascade_Runner_Step_1 a0.c.rows v43).bind fun v44 =>
    if v44.2 = true then
      (atI a0.c.rows v44.1).bind fun v45 =>
      (atI v45.maps a2).bind fun v46 =>
      (atI v46 v42).bind fun v47 =>
      (atI w34 w33).bind fun v48 =>
      nextG (IntKind.i64.wrap (w33 + 1), (w34.set w33.toNat v47))
    else
      exitG <|
      some ([], 23)
  else
    exitG <|
    some (w34, 0)
def cascade_Runner_Step_h5 (a0 : Runner) (a1 : List Int) (a2 : Int) : Int × List Int → Fr
  | (w33, w34) => ⟨70, [(1, .one (.t none (.sl a1.length (a1.map fun x0 => .sc (.int .i64 x0))))), (2, .one (.t none (.sc (.int .i64 a2)))), (3, .one (.a 3 [] (0))), (8, .one (.h 8 [])), (33, .one (.t none (.sl a1.length (a1.map fun x0 => .sc (.int .i64 x0))))), (34, .one (.t none (.sc (.int .i64 (a1.length : Int))))), (35, .one (.t none (.sc (.int .i64 w33))))], [(3, .vr [.sc (.int .i64 a0.c.letters), .sl a0.c.sizes.length (a0.c.sizes.map fun x0 => .sc (.int .i64 x0)), .sl a0.c.rows.length (a0.c.rows.flatMap fun x0 => [.sl x0.pre.length (x0.pre.map fun x1 => .sc (.int .i64 x1)), .sl x0.maps.length (x0.maps.map fun x1 => .sl x1.length (x1.map fun x2 => .sc (.int .i64 x2)))])]), (8, .os 1 w34.length (w34.map fun x0 => .sc (.int .i64 x0)))]⟩
def cascade_Runner_Step (a0 : Runner) (a1 : List Int) (a2 : Int) : Option (List Int × Int) :=
  (cascade_isTuple a0.c.sizes a1).bind fun v25 =>
  if v25 = true then
    if a2 < 0 then
      some ([], 1)
    else
      if a0.c.letters ≤ a2 then
        some ([], 1)
      else
        chk (makeOk 8 (a1.length : Int)) <|
        loopG (cascade_Runner_Step_b5 a0 a1 a2) LFm (0, List.replicate (a1.length : Int).toNat (0 : Int))
  else
    some ([], 1)
theorem cascade_Runner_Step_ok {a0 : Runner} {a1 : List Int} {a2 : Int} {r : List Int × Int} (h0 : cascade_Runner_Step a0 a1 a2 = some r) : L 34 [.agg [.sc (.int .i64 a0.c.letters), .sl a0.c.sizes.length (a0.c.sizes.map fun x0 => .sc (.int .i64 x0)), .sl a0.c.rows.length (a0.c.rows.flatMap fun x0 => [.sl x0.pre.length (x0.pre.map fun x1 => .sc (.int .i64 x1)), .sl x0.maps.length (x0.maps.map fun x1 => .sl x1.length (x1.map fun x2 => .sc (.int .i64 x2)))])], .sl a1.length (a1.map fun x0 => .sc (.int .i64 x0)), .sc (.int .i64 a2)] = some (.tup [.os 1 r.1.length (r.1.map fun x0 => .sc (.int .i64 x0)), .sc (.int .i64 r.2)], [.dead, .dead, .dead]) := by
  simp only [cascade_Runner_Step] at h0
  refine L_run cfn34 fn34 (runF_of bd34 ⟨of_decide_eq_true rfl, of_decide_eq_true rfl⟩ ?_)
  simp only [entryF, entryT, entryO, entryE, isIo]
  refine zq rfl (zr rfl rfl rfl (by simp; rfl) ?_)
  refine thenC_n (zq rfl (zq rfl ?_))
  obtain ⟨v25, f33, h1⟩ := bnd_some h0
  have f33k := cascade_isTuple_ok f33
  try simp at f33k
  by_cases c34 : v25 = true
  · rw [if_pos c34] at h1
    by_cases c35 : a2 < 0
    · rw [if_pos c35] at h1
      refine zr rfl rfl rfl (by simp [f33k, c34, c35]; rfl) ?_
      refine thenC_n (q_ifT rfl (by simp) (zq rfl (zr rfl rfl rfl (by simp; rfl) ?_)))
      refine thenC_n (q_ret rfl (thenC_r ?_))
      cases h1
      simp
    · rw [if_neg c35] at h1
      refine zr rfl rfl rfl (by simp [f33k, c34, c35]; rfl) ?_
      refine thenC_n ?_
      by_cases c36 : a0.c.letters ≤ a2
      · rw [if_pos c36] at h1
        refine q_ifT rfl (by simp [c36]) (zq rfl (zr rfl rfl rfl (by simp; rfl) ?_))
        refine thenC_n (q_ret rfl (thenC_r ?_))
        cases h1
        simp
      · rw [if_neg c36] at h1
        refine q_ifF rfl (by simp [c36]) (q_skip rfl (thenC_n (zq rfl ?_)))
        obtain ⟨f37, h2⟩ := chk_some h1
        obtain ⟨f37a, f37b, f37c⟩ := f37
        refine zr rfl rfl rfl (by simp [f37a, f37b, f37c]; rfl) ?_
        refine thenC_n (zq rfl (zq rfl (zr rfl rfl rfl (by simp; rfl) ?_)))
        refine thenC_n (zb rfl (q_loopG h2 (cascade_Runner_Step_h5 a0 a1 a2) rfl rfl (by simp [cascade_Runner_Step_h5]) fun s o1 h3 hr1 => ?_))
        obtain ⟨w33, w34⟩ := s
        simp only [cascade_Runner_Step_b5] at h3
        simp only [cascade_Runner_Step_h5]
        refine zq rfl (zr rfl rfl rfl (by simp; rfl) ?_)
        refine thenC_n (zq rfl ?_)
        by_cases c56 : w33 < (a1.length : Int)
        · rw [if_pos c56] at h3
          refine q_ifT rfl (by simp [c56]) (q_skip rfl (thenC_n (zq rfl (zb rfl (zq rfl ?_)))))
          obtain ⟨v42, f57, h4⟩ := bnd_some h3
          obtain ⟨f57a, f57b, f57c, f57d, f57e⟩ := atI_some f57
          refine zr rfl rfl rfl (by simp [f57a, f57b, f57c, f57d, f57e]; rfl) ?_
          refine thenC_n (zq rfl ?_)
          obtain ⟨v43, f58, h5⟩ := bnd_some h4
          obtain ⟨f58a, f58b, f58c, -⟩ := pieceL_some f58
          obtain ⟨f58d, f58g⟩ := piece_hi f58a f58b
          have f58e := pieceL_map (g := fun x : Int => (.sc (.int .i64 x) : T)) f58
          try simp at f58e
          have f58f := pieceL_slm f58
          try simp only [Int.reduceToNat, Int.toNat_natCast, Nat.sub_zero] at f58f
          obtain ⟨v44, f59, h6⟩ := bnd_some h5
          have f59k := slices_BinarySearchFunc_Lapi_CascadeRow_api_CascadeRow_Lint_cascade_Runner_Step_1_ok f59
          try simp at f59k
          refine q_drawW rfl rfl rfl rfl ?_; repeat' (first | (refine q_drawW_op rfl rfl fun Q' hQ => ?_; simp [f58a, f58b, f58c, f58d, f58g, f58e, f58f, f59k]; refine hQ.out _ ?_; clear hQ; clear Q') | (refine q_drawW_guard rfl rfl fun Q1 Q2 h1 h2 => ?_; simp [f58a, f58b, f58c, f58d, f58g, f58e, f58f, f59k, twoB_some]; (first | refine h1.out ?_ | refine h2.out ?_); clear h1 h2; clear Q1 Q2; intro Q' hQ; simp [f58a, f58b, f58c, f58d, f58g, f58e, f58f, f59k]; refine hQ.out _ ?_; clear hQ; clear Q') | (refine q_drawW_nil rfl fun Q' hQ => ?_; simp [f58a, f58b, f58c, f58d, f58g, f58e, f58f, f59k]; refine hQ.out _ ?_; clear hQ; clear Q'))
          refine thenC_n (zq rfl (zq rfl (zr rfl rfl rfl (by simp; rfl) ?_)))
          refine thenC_n ?_
          by_cases c60 : v44.2 = true
          · rw [if_pos c60] at h6
            refine q_ifF rfl (by simp [c60]) (q_skip rfl (thenC_n ?_))
            obtain ⟨v45, f61, h7⟩ := bnd_some h6
            obtain ⟨f61a, f61b, f61c, f61d, f61e⟩ := atI_some f61
            have f61g := flat_some (g := fun x : CRow => ([.sl x.pre.length (x.pre.map fun x0 => .sc (.int .i64 x0)), .sl x.maps.length (x.maps.map fun x0 => .sl x0.length (x0.map fun x1 => .sc (.int .i64 x1)))] : List T)) (m := 2) (fun _ => rfl) f61d
            have f61h := flat_len (g := fun x : CRow => ([.sl x.pre.length (x.pre.map fun x0 => .sc (.int .i64 x0)), .sl x.maps.length (x.maps.map fun x0 => .sl x0.length (x0.map fun x1 => .sc (.int .i64 x1)))] : List T)) (m := 2) (fun _ => rfl) a0.c.rows
            have f61k0 := f61g.2.2.1 0 (by decide)
            have f61m0 := f61g.2.2.2 0 _ rfl
            have f61k1 := f61g.2.2.1 1 (by decide)
            have f61m1 := f61g.2.2.2 1 _ rfl
            obtain ⟨f61g, f61i, -⟩ := f61g
            try simp at f61i f61h f61k0 f61m0 f61k1 f61m1
            obtain ⟨v46, f62, h8⟩ := bnd_some h7
            obtain ⟨f62a, f62b, f62c, f62d, f62e⟩ := atI_some f62
            obtain ⟨v47, f63, h9⟩ := bnd_some h8
            obtain ⟨f63a, f63b, f63c, f63d, f63e⟩ := atI_some f63
            obtain ⟨v48, f64, h10⟩ := bnd_some h9
            obtain ⟨f64a, f64b, f64c, f64d, f64e⟩ := atI_some f64
            refine zr rfl rfl rfl (by simp [f61a, f61b, f61c, f61d, f61e, f61g, f61i, f61h, f61k0, f61k1, f61m0, f61m1, f62a, f62b, f62c, f62d, f62e, f63a, f63b, f63c, f63d, f63e, f64a, f64b, f64c, f64d, f64e]; rfl) ?_
            refine blockC_n (thenC_n (zr rfl rfl rfl (by simp; rfl) ?_))
            have ho := next_some h10
            refine roundC_n ho ?_
            simp [cascade_Runner_Step_h5]
          · rw [if_neg c60] at h6
            refine q_ifT rfl (by simp [c60]) (zq rfl (zr rfl rfl rfl (by simp; rfl) ?_))
            refine thenC_n (q_ret rfl (thenC_r (blockC_r (thenC_r ?_))))
            obtain ⟨rr1, h7, ho1⟩ := exit_some h6
            have hs1 := hr1 _ ho1
            subst hs1
            refine roundC_r ho1 (blockC_r (thenC_r ?_))
            cases h7
            simp
        · rw [if_neg c56] at h3
          refine q_ifF rfl (by simp [c56]) (q_exit rfl (thenC_x ?_))
          obtain ⟨rr1, h4, ho1⟩ := exit_some h3
          have hs1 := hr1 _ ho1
          subst hs1
          refine roundC_x ho1 (blockC_hit2 rfl (thenC_n (zq rfl (zr rfl rfl rfl (by simp; rfl) ?_))))
          refine thenC_n (q_ret rfl ?_)
          cases h4
          simp
  · rw [if_neg c34] at h1
    refine zr rfl rfl rfl (by simp [f33k, c34]; rfl) ?_
    refine thenC_n (q_ifT rfl (by simp) (zq rfl (zr rfl rfl rfl (by simp; rfl) ?_)))
    refine thenC_n (q_ret rfl (thenC_r ?_))
    cases h1
    simp

-- semigroup/semigroupref26.step
def ref26_step_b3 (a0 : Casc) (a1 : List Int) (a2 : Int) : Int × List Int → Option ((Int × List Int) ⊕ (List Int × Int))
  | (w27, w28) =>
  if w27 < (a1.length : Int) then
    (pieceL a1 0 w27).bind fun v35 =>
    (ref26_Row a0 v35).bind fun v36 =>
    if v36 = (-1) then
      exitG <|
      some ([], 23)
    else
      (atI a0.rows v36).bind fun v37 =>
      (atI v37.maps a2).bind fun v38 =>
      (atI a1 w27).bind fun v39 =>
      (atI v38 v39).bind fun v40 =>
      chk (capOk 8 (w28.length + 1)) <|
      nextG (IntKind.i64.wrap (w27 + 1), w28 ++ [v40])
  else
    exitG <|
    some (w28, 0)
def ref26_step_h3 (a0 : Casc) (a1 : List Int) (a2 : Int) : Int × List Int → Fr
  | (w27, w28) => ⟨44, [(1, .one (.t none (.sl a1.length (a1.map fun x0 => .sc (.int .i64 x0))))), (2, .one (.t none (.sc (.int .i64 a2)))), (3, .one (.a 3 [] (0))), (8, .one (.h 8 [])), (13, .one (.t none (.sc (.int .i64 (a1.length : Int))))), (14, .one (.t none (.sc (.int .i64 w27))))], [(3, .vr [.sc (.int .i64 a0.letters), .sl a0.sizes.length (a0.sizes.map fun x0 => .sc (.int .i64 x0)), .sl a0.rows.length (a0.rows.flatMap fun x0 => [.sl x0.pre.length (x0.pre.map fun x1 => .sc (.int .i64 x1)), .sl x0.maps.length (x0.maps.map fun x1 => .sl x1.length (x1.map fun x2 => .sc (.int .i64 x2)))])]), (8, .os 1 w28.length (w28.map fun x0 => .sc (.int .i64 x0)))]⟩
def ref26_step (a0 : Casc) (a1 : List Int) (a2 : Int) : Option (List Int × Int) :=
  loopG (ref26_step_b3 a0 a1 a2) LFm (0, [])
theorem ref26_step_ok {a0 : Casc} {a1 : List Int} {a2 : Int} {r : List Int × Int} (h0 : ref26_step a0 a1 a2 = some r) : L 40 [.agg [.sc (.int .i64 a0.letters), .sl a0.sizes.length (a0.sizes.map fun x0 => .sc (.int .i64 x0)), .sl a0.rows.length (a0.rows.flatMap fun x0 => [.sl x0.pre.length (x0.pre.map fun x1 => .sc (.int .i64 x1)), .sl x0.maps.length (x0.maps.map fun x1 => .sl x1.length (x1.map fun x2 => .sc (.int .i64 x2)))])], .sl a1.length (a1.map fun x0 => .sc (.int .i64 x0)), .sc (.int .i64 a2)] = some (.tup [.os 1 r.1.length (r.1.map fun x0 => .sc (.int .i64 x0)), .sc (.int .i64 r.2)], [.dead, .dead, .dead]) := by
  simp only [ref26_step] at h0
  refine L_run cfn40 fn40 (runF_of bd40 ⟨of_decide_eq_true rfl, of_decide_eq_true rfl⟩ ?_)
  simp only [entryF, entryT, entryO, entryE, isIo]
  refine zq rfl (zr rfl rfl rfl (by simp; rfl) ?_)
  refine thenC_n (zq rfl (zr rfl rfl rfl (by simp; rfl) ?_))
  refine thenC_n (zq rfl (zq rfl (zr rfl rfl rfl (by simp; rfl) ?_)))
  refine thenC_n (zb rfl (q_loopG h0 (ref26_step_h3 a0 a1 a2) rfl rfl (by simp [ref26_step_h3]) fun s o1 h1 hr1 => ?_))
  obtain ⟨w27, w28⟩ := s
  simp only [ref26_step_b3] at h1
  simp only [ref26_step_h3]
  refine zq rfl (zr rfl rfl rfl (by simp; rfl) ?_)
  refine thenC_n (zq rfl ?_)
  by_cases c44 : w27 < (a1.length : Int)
  · rw [if_pos c44] at h1
    refine q_ifT rfl (by simp [c44]) (q_skip rfl (thenC_n (zq rfl (zb rfl (zq rfl (zr rfl rfl rfl (by simp; rfl) ?_))))))
    refine thenC_n (zq rfl ?_)
    obtain ⟨v35, f45, h2⟩ := bnd_some h1
    obtain ⟨f45a, f45b, f45c, -⟩ := pieceL_some f45
    obtain ⟨f45d, f45g⟩ := piece_hi f45a f45b
    have f45e := pieceL_map (g := fun x : Int => (.sc (.int .i64 x) : T)) f45
    try simp at f45e
    have f45f := pieceL_slm f45
    try simp only [Int.reduceToNat, Int.toNat_natCast, Nat.sub_zero] at f45f
    obtain ⟨v36, f46, h3⟩ := bnd_some h2
    have f46k := ref26_Row_ok f46
    try simp at f46k
    refine q_drawW rfl rfl rfl rfl ?_; repeat' (first | (refine q_drawW_op rfl rfl fun Q' hQ => ?_; simp [f45a, f45b, f45c, f45d, f45g, f45e, f45f, f46k]; refine hQ.out _ ?_; clear hQ; clear Q') | (refine q_drawW_guard rfl rfl fun Q1 Q2 h1 h2 => ?_; simp [f45a, f45b, f45c, f45d, f45g, f45e, f45f, f46k, twoB_some]; (first | refine h1.out ?_ | refine h2.out ?_); clear h1 h2; clear Q1 Q2; intro Q' hQ; simp [f45a, f45b, f45c, f45d, f45g, f45e, f45f, f46k]; refine hQ.out _ ?_; clear hQ; clear Q') | (refine q_drawW_nil rfl fun Q' hQ => ?_; simp [f45a, f45b, f45c, f45d, f45g, f45e, f45f, f46k]; refine hQ.out _ ?_; clear hQ; clear Q'))
    refine thenC_n (zq rfl (zq rfl (zr rfl rfl rfl (by simp; rfl) ?_)))
    refine thenC_n ?_
    by_cases c47 : v36 = (-1)
    · rw [if_pos c47] at h3
      have c47e := eq_true c47
      refine q_ifT rfl (by simp [c47e]) (zq rfl (zr rfl rfl rfl (by simp; rfl) ?_))
      refine thenC_n (q_ret rfl (thenC_r (blockC_r (thenC_r ?_))))
      obtain ⟨rr1, h4, ho1⟩ := exit_some h3
      have hs1 := hr1 _ ho1
      subst hs1
      refine roundC_r ho1 (blockC_r (thenC_r ?_))
      cases h4
      simp
    · rw [if_neg c47] at h3
      have c47e := eq_false c47
      refine q_ifF rfl (by simp [c47e]) (q_skip rfl (thenC_n ?_))
      obtain ⟨v37, f48, h4⟩ := bnd_some h3
      obtain ⟨f48a, f48b, f48c, f48d, f48e⟩ := atI_some f48
      have f48g := flat_some (g := fun x : CRow => ([.sl x.pre.length (x.pre.map fun x0 => .sc (.int .i64 x0)), .sl x.maps.length (x.maps.map fun x0 => .sl x0.length (x0.map fun x1 => .sc (.int .i64 x1)))] : List T)) (m := 2) (fun _ => rfl) f48d
      have f48h := flat_len (g := fun x : CRow => ([.sl x.pre.length (x.pre.map fun x0 => .sc (.int .i64 x0)), .sl x.maps.length (x.maps.map fun x0 => .sl x0.length (x0.map fun x1 => .sc (.int .i64 x1)))] : List T)) (m := 2) (fun _ => rfl) a0.rows
      have f48k0 := f48g.2.2.1 0 (by decide)
      have f48m0 := f48g.2.2.2 0 _ rfl
      have f48k1 := f48g.2.2.1 1 (by decide)
      have f48m1 := f48g.2.2.2 1 _ rfl
      obtain ⟨f48g, f48i, -⟩ := f48g
      try simp at f48i f48h f48k0 f48m0 f48k1 f48m1
      obtain ⟨v38, f49, h5⟩ := bnd_some h4
      obtain ⟨f49a, f49b, f49c, f49d, f49e⟩ := atI_some f49
      obtain ⟨v39, f50, h6⟩ := bnd_some h5
      obtain ⟨f50a, f50b, f50c, f50d, f50e⟩ := atI_some f50
      obtain ⟨v40, f51, h7⟩ := bnd_some h6
      obtain ⟨f51a, f51b, f51c, f51d, f51e⟩ := atI_some f51
      obtain ⟨f52, h8⟩ := chk_some h7
      obtain ⟨f52a, f52b⟩ := f52
      refine q_drawW rfl rfl rfl rfl ?_; repeat' (first | (refine q_drawW_op rfl rfl fun Q' hQ => ?_; simp [f48a, f48b, f48c, f48d, f48e, f48g, f48i, f48h, f48k0, f48k1, f48m0, f48m1, f49a, f49b, f49c, f49d, f49e, f50a, f50b, f50c, f50d, f50e, f51a, f51b, f51c, f51d, f51e, f52a, f52b]; refine hQ.out _ ?_; clear hQ; clear Q') | (refine q_drawW_guard rfl rfl fun Q1 Q2 h1 h2 => ?_; simp [f48a, f48b, f48c, f48d, f48e, f48g, f48i, f48h, f48k0, f48k1, f48m0, f48m1, f49a, f49b, f49c, f49d, f49e, f50a, f50b, f50c, f50d, f50e, f51a, f51b, f51c, f51d, f51e, f52a, f52b, twoB_some]; (first | refine h1.out ?_ | refine h2.out ?_); clear h1 h2; clear Q1 Q2; intro Q' hQ; simp [f48a, f48b, f48c, f48d, f48e, f48g, f48i, f48h, f48k0, f48k1, f48m0, f48m1, f49a, f49b, f49c, f49d, f49e, f50a, f50b, f50c, f50d, f50e, f51a, f51b, f51c, f51d, f51e, f52a, f52b]; refine hQ.out _ ?_; clear hQ; clear Q') | (refine q_drawW_nil rfl fun Q' hQ => ?_; simp [f48a, f48b, f48c, f48d, f48e, f48g, f48i, f48h, f48k0, f48k1, f48m0, f48m1, f49a, f49b, f49c, f49d, f49e, f50a, f50b, f50c, f50d, f50e, f51a, f51b, f51c, f51d, f51e, f52a, f52b]; refine hQ.out _ ?_; clear hQ; clear Q'))
      refine blockC_n (thenC_n (zr rfl rfl rfl (by simp; rfl) ?_))
      have ho := next_some h8
      refine roundC_n ho ?_
      simp [ref26_step_h3]
  · rw [if_neg c44] at h1
    refine q_ifF rfl (by simp [c44]) (q_exit rfl (thenC_x ?_))
    obtain ⟨rr1, h2, ho1⟩ := exit_some h1
    have hs1 := hr1 _ ho1
    subst hs1
    refine roundC_x ho1 (blockC_hit2 rfl (thenC_n (zq rfl (zr rfl rfl rfl (by simp; rfl) ?_))))
    refine thenC_n (q_ret rfl ?_)
    cases h2
    simp

-- semigroup/cascade.key
def cascade_key_b3 (a0 : List Int) : Int × List Int → Option ((Int × List Int) ⊕ ByteArray)
  | (w11, w12) =>
  if w11 < (a0.length : Int) then
    (atI a0 w11).bind fun v15 =>
    (atI w12 w11).bind fun v16 =>
    nextG (IntKind.i64.wrap (w11 + 1), (w12.set w11.toNat (IntKind.u8.wrap v15)))
  else
    exitG <|
    some (bytesOf w12)
def cascade_key_h3 (a0 : List Int) : Int × List Int → Fr
  | (w11, w12) => ⟨24, [(3, .one (.h 3 [])), (9, .one (.t none (.sl a0.length (a0.map fun x0 => .sc (.int .i64 x0))))), (10, .one (.t none (.sc (.int .i64 (a0.length : Int))))), (11, .one (.t none (.sc (.int .i64 w11))))], [(3, .os 1 w12.length (w12.map fun x0 => .sc (.int .u8 x0)))]⟩
def cascade_key (a0 : List Int) : Option (ByteArray) :=
  chk (makeOk 1 (a0.length : Int)) <|
  loopG (cascade_key_b3 a0) LFm (0, List.replicate (a0.length : Int).toNat (0 : Int))
theorem cascade_key_ok {a0 : List Int} {r : ByteArray} (h0 : cascade_key a0 = some r) : L 37 [.sl a0.length (a0.map fun x0 => .sc (.int .i64 x0))] = some (.sc (.string r), [.dead]) := by
  simp only [cascade_key] at h0
  refine L_run cfn37 fn37 (runF_of bd37 ⟨of_decide_eq_true rfl, of_decide_eq_true rfl⟩ ?_)
  simp only [entryF, entryT, entryO, entryE, isIo]
  refine zq rfl (zr rfl rfl rfl (by simp; rfl) ?_)
  refine thenC_n (zq rfl ?_)
  obtain ⟨f11, h1⟩ := chk_some h0
  obtain ⟨f11a, f11b, f11c⟩ := f11
  simp only [Int.one_mul] at f11c
  refine zr rfl rfl rfl (by simp [f11a, f11b, f11c]; rfl) ?_
  refine thenC_n (zq rfl (zq rfl (zr rfl rfl rfl (by simp; rfl) ?_)))
  refine thenC_n (zb rfl (q_loopG h1 (cascade_key_h3 a0) rfl rfl (by simp [cascade_key_h3]) fun s o1 h2 hr1 => ?_))
  obtain ⟨w11, w12⟩ := s
  simp only [cascade_key_b3] at h2
  simp only [cascade_key_h3]
  refine zq rfl (zr rfl rfl rfl (by simp; rfl) ?_)
  refine thenC_n (zq rfl ?_)
  by_cases c18 : w11 < (a0.length : Int)
  · rw [if_pos c18] at h2
    refine q_ifT rfl (by simp [c18]) (q_skip rfl (thenC_n (zq rfl (zb rfl (zq rfl ?_)))))
    obtain ⟨v15, f19, h3⟩ := bnd_some h2
    obtain ⟨f19a, f19b, f19c, f19d, f19e⟩ := atI_some f19
    refine zr rfl rfl rfl (by simp [f19a, f19b, f19c, f19d, f19e]; rfl) ?_
    refine thenC_n ?_
    obtain ⟨v16, f20, h4⟩ := bnd_some h3
    obtain ⟨f20a, f20b, f20c, f20d, f20e⟩ := atI_some f20
    refine zr rfl rfl rfl (by simp [f20a, f20b, f20c, f20d, f20e]; rfl) ?_
    refine blockC_n (thenC_n (zr rfl rfl rfl (by simp; rfl) ?_))
    have ho := next_some h4
    refine roundC_n ho ?_
    simp [cascade_key_h3]
  · rw [if_neg c18] at h2
    refine q_ifF rfl (by simp [c18]) (q_exit rfl (thenC_x ?_))
    obtain ⟨rr1, h3, ho1⟩ := exit_some h2
    have hs1 := hr1 _ ho1
    subst hs1
    refine roundC_x ho1 (blockC_hit2 rfl (thenC_n (zq rfl (zr rfl rfl rfl (by simp; rfl) ?_))))
    refine thenC_n (q_ret rfl ?_)
    cases h3
    simp

-- semigroup/cascade.Flat
def cascade_Flat_b14 (a0 : Casc) (v147 : Runner × Int) (w171 : Int) (w174 : List (List Int)) : Int × List (List Int) × (List (ByteArray × Int)) × List Int → Option ((Int × List (List Int) × (List (ByteArray × Int)) × List Int) ⊕ ((Int × List (List Int) × (List (ByteArray × Int)) × List (List Int)) ⊕ (List (List Int) × List (List Int) × Int)))
  | (w203, w205, w206, w204) =>
  if w203 < a0.letters then
    (atI w205 w171).bind fun v213 =>
    (cascade_Runner_Step v147.1 v213 w203).bind fun v214 =>
    if v214.2 = 0 then
      (cascade_key v214.1).bind fun v215 =>
      if ((getM v215 w206).isSome) = true then
        (atI w204 w203).bind fun v216 =>
        nextG (IntKind.i64.wrap (w203 + 1), w205, w206, (w204.set w203.toNat ((getM v215 w206).getD 0)))
      else
        if (w205.length : Int) = 2000 then
          exitG <|
          exitG <|
          some ([], [], 3)
        else
          (cascade_key v214.1).bind fun v217 =>
          chk (capOk 24 (w205.length + 1)) <|
          (atI w204 w203).bind fun v218 =>
          nextG (IntKind.i64.wrap (w203 + 1), w205 ++ [v214.1], setM v217 (w205.length : Int) w206, (w204.set w203.toNat (w205.length : Int)))
    else
      exitG <|
      exitG <|
      some ([], [], v214.2)
  else
    exitG <|
    chk (capOk 24 (w174.length + 1)) <|
    nextG (IntKind.i64.wrap (w171 + 1), w205, w206, w174 ++ [w204])
def cascade_Flat_h14 (a0 : Casc) (v147 : Runner × Int) (w171 : Int) (w174 : List (List Int)) : Int × List (List Int) × (List (ByteArray × Int)) × List Int → Fr
  | (w203, w205, w206, w204) => ⟨100, [(2, .one (.a 2 [] (0))), (7, .one (.a 7 [] (0))), (9, .one (.h 9 [])), (10, .one (.h 10 [])), (11, .one (.h 11 [])), (12, .one (.t none (.sc (.int .i64 w171)))), (13, .one (.h 13 [])), (50, .one (.t none (.sc (.int .i64 a0.letters)))), (51, .one (.t none (.sc (.int .i64 w203))))], [(2, .vr [.sc (.int .i64 a0.letters), .sl a0.sizes.length (a0.sizes.map fun x0 => .sc (.int .i64 x0)), .sl a0.rows.length (a0.rows.flatMap fun x0 => [.sl x0.pre.length (x0.pre.map fun x1 => .sc (.int .i64 x1)), .sl x0.maps.length (x0.maps.map fun x1 => .sl x1.length (x1.map fun x2 => .sc (.int .i64 x2)))])]), (7, .vr [.sc (.int .i64 v147.1.c.letters), .sl v147.1.c.sizes.length (v147.1.c.sizes.map fun x0 => .sc (.int .i64 x0)), .sl v147.1.c.rows.length (v147.1.c.rows.flatMap fun x0 => [.sl x0.pre.length (x0.pre.map fun x1 => .sc (.int .i64 x1)), .sl x0.maps.length (x0.maps.map fun x1 => .sl x1.length (x1.map fun x2 => .sc (.int .i64 x2)))])]), (9, .os 1 w205.length (w205.map fun x0 => .os 1 x0.length (x0.map fun x1 => .sc (.int .i64 x1)))), (10, .mp none (w206.map fun x0 => (.string x0.1, .int .i64 x0.2))), (11, .os 1 w174.length (w174.map fun x0 => .os 1 x0.length (x0.map fun x1 => .sc (.int .i64 x1)))), (13, .os 1 w204.length (w204.map fun x0 => .sc (.int .i64 x0)))]⟩
def cascade_Flat_b10 (a0 : Casc) (v147 : Runner × Int) : Int × List (List Int) × (List (ByteArray × Int)) × List (List Int) → Option ((Int × List (List Int) × (List (ByteArray × Int)) × List (List Int)) ⊕ (List (List Int) × List (List Int) × Int))
  | (w171, w172, w173, w174) =>
  if w171 < (w172.length : Int) then
    chk (makeOk 8 a0.letters) <|
    loopG (cascade_Flat_b14 a0 v147 w171 w174) LFm (0, w172, w173, List.replicate a0.letters.toNat (0 : Int))
  else
    exitG <|
    some (w172, w174, 0)
def cascade_Flat_h10 (a0 : Casc) (v147 : Runner × Int) : Int × List (List Int) × (List (ByteArray × Int)) × List (List Int) → Fr
  | (w171, w172, w173, w174) => ⟨100, [(2, .one (.a 2 [] (0))), (7, .one (.a 7 [] (0))), (9, .one (.h 9 [])), (10, .one (.h 10 [])), (11, .one (.h 11 [])), (12, .one (.t none (.sc (.int .i64 w171))))], [(2, .vr [.sc (.int .i64 a0.letters), .sl a0.sizes.length (a0.sizes.map fun x0 => .sc (.int .i64 x0)), .sl a0.rows.length (a0.rows.flatMap fun x0 => [.sl x0.pre.length (x0.pre.map fun x1 => .sc (.int .i64 x1)), .sl x0.maps.length (x0.maps.map fun x1 => .sl x1.length (x1.map fun x2 => .sc (.int .i64 x2)))])]), (7, .vr [.sc (.int .i64 v147.1.c.letters), .sl v147.1.c.sizes.length (v147.1.c.sizes.map fun x0 => .sc (.int .i64 x0)), .sl v147.1.c.rows.length (v147.1.c.rows.flatMap fun x0 => [.sl x0.pre.length (x0.pre.map fun x1 => .sc (.int .i64 x1)), .sl x0.maps.length (x0.maps.map fun x1 => .sl x1.length (x1.map fun x2 => .sc (.int .i64 x2)))])]), (9, .os 1 w172.length (w172.map fun x0 => .os 1 x0.length (x0.map fun x1 => .sc (.int .i64 x1)))), (10, .mp none (w173.map fun x0 => (.string x0.1, .int .i64 x0.2))), (11, .os 1 w174.length (w174.map fun x0 => .os 1 x0.length (x0.map fun x1 => .sc (.int .i64 x1))))]⟩
def cascade_Flat_b14a (a0 : Casc) (v219 : Runner × Int) (w243 : Int) (w246 : List (List Int)) : Int × List (List Int) × (List (ByteArray × Int)) × List Int → Option ((Int × List (List Int) × (List (ByteArray × Int)) × List Int) ⊕ ((Int × List (List Int) × (List (ByteArray × Int)) × List (List Int)) ⊕ (List (List Int) × List (List Int) × Int)))
  | (w275, w277, w278, w276) =>
  if w275 < a0.letters then
    (atI w277 w243).bind fun v285 =>
    (cascade_Runner_Step (⟨⟨v219.1.c.letters, [], []⟩⟩ : Runner) v285 w275).bind fun v286 =>
    if v286.2 = 0 then
      (cascade_key v286.1).bind fun v287 =>
      if ((getM v287 w278).isSome) = true then
        (atI w276 w275).bind fun v288 =>
        nextG (IntKind.i64.wrap (w275 + 1), w277, w278, (w276.set w275.toNat ((getM v287 w278).getD 0)))
      else
        if (w277.length : Int) = 2000 then
          exitG <|
          exitG <|
          some ([], [], 3)
        else
          (cascade_key v286.1).bind fun v289 =>
          chk (capOk 24 (w277.length + 1)) <|
          (atI w276 w275).bind fun v290 =>
          nextG (IntKind.i64.wrap (w275 + 1), w277 ++ [v286.1], setM v289 (w277.length : Int) w278, (w276.set w275.toNat (w277.length : Int)))
    else
      exitG <|
      exitG <|
      some ([], [], v286.2)
  else
    exitG <|
    chk (capOk 24 (w246.length + 1)) <|
    nextG (IntKind.i64.wrap (w243 + 1), w277, w278, w246 ++ [w276])
def cascade_Flat_h14a (a0 : Casc) (v219 : Runner × Int) (w243 : Int) (w246 : List (List Int)) : Int × List (List Int) × (List (ByteArray × Int)) × List Int → Fr
  | (w275, w277, w278, w276) => ⟨100, [(2, .one (.a 2 [] (0))), (7, .one (.a 7 [] (0))), (9, .one (.h 9 [])), (10, .one (.h 10 [])), (11, .one (.h 11 [])), (12, .one (.t none (.sc (.int .i64 w243)))), (13, .one (.h 13 [])), (50, .one (.t none (.sc (.int .i64 a0.letters)))), (51, .one (.t none (.sc (.int .i64 w275))))], [(2, .vr [.sc (.int .i64 a0.letters), .sl a0.sizes.length (a0.sizes.map fun x0 => .sc (.int .i64 x0)), .sl a0.rows.length (a0.rows.flatMap fun x0 => [.sl x0.pre.length (x0.pre.map fun x1 => .sc (.int .i64 x1)), .sl x0.maps.length (x0.maps.map fun x1 => .sl x1.length (x1.map fun x2 => .sc (.int .i64 x2)))])]), (7, .vr [.sc (.int .i64 v219.1.c.letters), .os 1 0 [], .os 2 0 []]), (9, .os 1 w277.length (w277.map fun x0 => .os 1 x0.length (x0.map fun x1 => .sc (.int .i64 x1)))), (10, .mp none (w278.map fun x0 => (.string x0.1, .int .i64 x0.2))), (11, .os 1 w246.length (w246.map fun x0 => .os 1 x0.length (x0.map fun x1 => .sc (.int .i64 x1)))), (13, .os 1 w276.length (w276.map fun x0 => .sc (.int .i64 x0)))]⟩
def cascade_Flat_b10a (a0 : Casc) (v219 : Runner × Int) : Int × List (List Int) × (List (ByteArray × Int)) × List (List Int) → Option ((Int × List (List Int) × (List (ByteArray × Int)) × List (List Int)) ⊕ (List (List Int) × List (List Int) × Int))
  | (w243, w244, w245, w246) =>
  if w243 < (w244.length : Int) then
    chk (makeOk 8 a0.letters) <|
    loopG (cascade_Flat_b14a a0 v219 w243 w246) LFm (0, w244, w245, List.replicate a0.letters.toNat (0 : Int))
  else
    exitG <|
    some (w244, w246, 0)
def cascade_Flat_h10a (a0 : Casc) (v219 : Runner × Int) : Int × List (List Int) × (List (ByteArray × Int)) × List (List Int) → Fr
  | (w243, w244, w245, w246) => ⟨100, [(2, .one (.a 2 [] (0))), (7, .one (.a 7 [] (0))), (9, .one (.h 9 [])), (10, .one (.h 10 [])), (11, .one (.h 11 [])), (12, .one (.t none (.sc (.int .i64 w243))))], [(2, .vr [.sc (.int .i64 a0.letters), .sl a0.sizes.length (a0.sizes.map fun x0 => .sc (.int .i64 x0)), .sl a0.rows.length (a0.rows.flatMap fun x0 => [.sl x0.pre.length (x0.pre.map fun x1 => .sc (.int .i64 x1)), .sl x0.maps.length (x0.maps.map fun x1 => .sl x1.length (x1.map fun x2 => .sc (.int .i64 x2)))])]), (7, .vr [.sc (.int .i64 v219.1.c.letters), .os 1 0 [], .os 2 0 []]), (9, .os 1 w244.length (w244.map fun x0 => .os 1 x0.length (x0.map fun x1 => .sc (.int .i64 x1)))), (10, .mp none (w245.map fun x0 => (.string x0.1, .int .i64 x0.2))), (11, .os 1 w246.length (w246.map fun x0 => .os 1 x0.length (x0.map fun x1 => .sc (.int .i64 x1))))]⟩
def cascade_Flat (a0 : Casc) (a1 : List Int) : Option (List (List Int) × List (List Int) × Int) :=
  (cascade_NewRunner a0).bind fun v146 =>
  match v146 with
  | (.inl v147) =>
    if v147.2 = 0 then
      (cascade_isTuple a0.sizes a1).bind fun v148 =>
      if v148 = true then
        chk (capOk 8 (a1.length)) <|
        (cascade_key a1).bind fun v149 =>
        loopG (cascade_Flat_b10 a0 v147) LFm (0, [a1], setM v149 0 ([] : List (ByteArray × Int)), [])
      else
        some ([], [], 1)
    else
      some ([], [], v147.2)
  | (.inr v219) =>
    if v219.2 = 0 then
      (cascade_isTuple a0.sizes a1).bind fun v220 =>
      if v220 = true then
        chk (capOk 8 (a1.length)) <|
        (cascade_key a1).bind fun v221 =>
        loopG (cascade_Flat_b10a a0 v219) LFm (0, [a1], setM v221 0 ([] : List (ByteArray × Int)), [])
      else
        some ([], [], 1)
    else
      some ([], [], v219.2)
theorem cascade_Flat_ok {a0 : Casc} {a1 : List Int} {r : List (List Int) × List (List Int) × Int} (h0 : cascade_Flat a0 a1 = some r) : L 20 [.agg [.sc (.int .i64 a0.letters), .sl a0.sizes.length (a0.sizes.map fun x0 => .sc (.int .i64 x0)), .sl a0.rows.length (a0.rows.flatMap fun x0 => [.sl x0.pre.length (x0.pre.map fun x1 => .sc (.int .i64 x1)), .sl x0.maps.length (x0.maps.map fun x1 => .sl x1.length (x1.map fun x2 => .sc (.int .i64 x2)))])], .sl a1.length (a1.map fun x0 => .sc (.int .i64 x0))] = some (.tup [.os 1 r.1.length (r.1.map fun x0 => .os 1 x0.length (x0.map fun x1 => .sc (.int .i64 x1))), .os 1 r.2.1.length (r.2.1.map fun x0 => .os 1 x0.length (x0.map fun x1 => .sc (.int .i64 x1))), .sc (.int .i64 r.2.2)], [.dead, .dead]) := by
  simp only [cascade_Flat] at h0
  refine L_run cfn20 fn20 (runF_of bd20 ⟨of_decide_eq_true rfl, of_decide_eq_true rfl⟩ ?_)
  simp only [entryF, entryT, entryO, entryE, isIo]
  refine zq rfl (zr rfl rfl rfl (by simp; rfl) ?_)
  refine thenC_n (zq rfl ?_)
  obtain ⟨v146, f222, h1⟩ := bnd_some h0
  rcases v146 with v147 | v219
  · dsimp only at h1
    have f222k := cascade_NewRunner_ok f222
    try simp at f222k
    refine zr rfl rfl rfl (by simp [f222k]; rfl) ?_
    refine thenC_n (zq rfl (zq rfl (zr rfl rfl rfl (by simp; rfl) ?_)))
    refine thenC_n ?_
    by_cases c223 : v147.2 = 0
    · rw [if_pos c223] at h1
      have c223e := eq_true c223
      refine q_ifF rfl (by simp [c223e]) (q_skip rfl (thenC_n (zq rfl (zq rfl ?_))))
      obtain ⟨v148, f224, h2⟩ := bnd_some h1
      have f224k := cascade_isTuple_ok f224
      try simp at f224k
      refine zr rfl rfl rfl (by simp [f224k]; rfl) ?_
      refine thenC_n ?_
      by_cases c225 : v148 = true
      · rw [if_pos c225] at h2
        refine q_ifF rfl (by simp [c225]) (q_skip rfl (thenC_n (zq rfl ?_)))
        obtain ⟨f226, h3⟩ := chk_some h2
        obtain ⟨f226a, f226b⟩ := f226
        refine zr rfl rfl rfl (by simp [f226a, f226b]; rfl) ?_
        refine thenC_n (zq rfl ?_)
        obtain ⟨v149, f227, h4⟩ := bnd_some h3
        have f227k := cascade_key_ok f227
        try simp at f227k
        refine zr rfl rfl rfl (by simp [f227k]; rfl) ?_
        refine thenC_n (zq rfl (zr rfl rfl rfl (by simp; rfl) ?_))
        refine thenC_n (zq rfl (zq rfl (zr rfl rfl rfl (by simp; rfl) ?_)))
        refine thenC_n (zb rfl (q_loopG h4 (cascade_Flat_h10 a0 v147) rfl rfl (by simp [cascade_Flat_h10]) fun s o1 h5 hr1 => ?_))
        obtain ⟨w171, w172, w173, w174⟩ := s
        simp only [cascade_Flat_b10] at h5
        simp only [cascade_Flat_h10]
        refine zq rfl (zq rfl (zr rfl rfl rfl (by simp; rfl) ?_))
        refine thenC_n ?_
        by_cases c297 : w171 < (w172.length : Int)
        · rw [if_pos c297] at h5
          refine q_ifT rfl (by simp [c297]) (q_skip rfl (thenC_n (zq rfl (zb rfl (zq rfl ?_)))))
          obtain ⟨f298, h6⟩ := chk_some h5
          obtain ⟨f298a, f298b, f298c⟩ := f298
          have f298d : max a0.letters 0 = a0.letters := by omega
          refine zr rfl rfl rfl (by simp [f298a, f298b, f298c, f298d]; rfl) ?_
          refine thenC_n (zq rfl (zq rfl (zr rfl rfl rfl (by simp [f298a, f298b, f298c, f298d]; rfl) ?_)))
          refine thenC_n (zb rfl (q_loopG h6 (cascade_Flat_h14 a0 v147 w171 w174) rfl rfl (by simp [cascade_Flat_h14]) fun s o2 h7 hr2 => ?_))
          obtain ⟨w203, w205, w206, w204⟩ := s
          simp only [cascade_Flat_b14] at h7
          simp only [cascade_Flat_h14]
          refine zq rfl (zr rfl rfl rfl (by simp; rfl) ?_)
          refine thenC_n (zq rfl ?_)
          by_cases c321 : w203 < a0.letters
          · rw [if_pos c321] at h7
            refine q_ifT rfl (by simp [c321]) (q_skip rfl (thenC_n (zq rfl (zb rfl (zq rfl (zr rfl rfl rfl (by simp; rfl) ?_))))))
            refine thenC_n (zq rfl ?_)
            obtain ⟨v213, f322, h8⟩ := bnd_some h7
            obtain ⟨f322a, f322b, f322c, f322d, f322e⟩ := atI_some f322
            obtain ⟨v214, f323, h9⟩ := bnd_some h8
            have f323k := cascade_Runner_Step_ok f323
            try simp at f323k
            refine q_drawW rfl rfl rfl rfl ?_; repeat' (first | (refine q_drawW_op rfl rfl fun Q' hQ => ?_; simp [f322a, f322b, f322c, f322d, f322e, f323k]; refine hQ.out _ ?_; clear hQ; clear Q') | (refine q_drawW_guard rfl rfl fun Q1 Q2 h1 h2 => ?_; simp [f322a, f322b, f322c, f322d, f322e, f323k, twoB_some]; (first | refine h1.out ?_ | refine h2.out ?_); clear h1 h2; clear Q1 Q2; intro Q' hQ; simp [f322a, f322b, f322c, f322d, f322e, f323k]; refine hQ.out _ ?_; clear hQ; clear Q') | (refine q_drawW_nil rfl fun Q' hQ => ?_; simp [f322a, f322b, f322c, f322d, f322e, f323k]; refine hQ.out _ ?_; clear hQ; clear Q'))
            refine thenC_n (zq rfl (zq rfl (zr rfl rfl rfl (by simp; rfl) ?_)))
            refine thenC_n ?_
            by_cases c324 : v214.2 = 0
            · rw [if_pos c324] at h9
              have c324e := eq_true c324
              refine q_ifF rfl (by simp [c324e]) (q_skip rfl (thenC_n (zq rfl ?_)))
              obtain ⟨v215, f325, h10⟩ := bnd_some h9
              have f325k := cascade_key_ok f325
              try simp at f325k
              refine zr rfl rfl rfl (by simp [f325k]; rfl) ?_
              refine thenC_n (zq rfl (zq rfl (zr rfl rfl rfl (by simp; rfl) ?_)))
              refine thenC_n ?_
              by_cases c326 : ((getM v215 w206).isSome) = true
              · rw [if_pos c326] at h10
                refine q_ifF rfl (by simp [c326]) (q_skip rfl (thenC_n ?_))
                obtain ⟨v216, f327, h11⟩ := bnd_some h10
                obtain ⟨f327a, f327b, f327c, f327d, f327e⟩ := atI_some f327
                refine zr rfl rfl rfl (by simp [f327a, f327b, f327c, f327d, f327e]; rfl) ?_
                refine blockC_n (thenC_n (zr rfl rfl rfl (by simp; rfl) ?_))
                have ho := next_some h11
                refine roundC_n ho ?_
                simp [cascade_Flat_h14]
              · rw [if_neg c326] at h10
                have c326s : (getM v215 w206) = none := by simpa using c326
                refine q_ifT rfl (by simp [c326, c326s]) (zq rfl (zq rfl (zr rfl rfl rfl (by simp; rfl) ?_)))
                refine thenC_n ?_
                by_cases c328 : (w205.length : Int) = 2000
                · rw [if_pos c328] at h10
                  have c328e := eq_true c328
                  refine q_ifT rfl (by simp [c328e]) (zq rfl (zr rfl rfl rfl (by simp; rfl) ?_))
                  refine thenC_n (q_ret rfl (thenC_r (thenC_r (blockC_r (thenC_r ?_)))))
                  obtain ⟨rr2, h11, ho2⟩ := exit_some h10
                  have hs2 := hr2 _ ho2
                  subst hs2
                  refine roundC_r ho2 (blockC_r (thenC_r (blockC_r (thenC_r ?_))))
                  obtain ⟨rr1, h12, ho1⟩ := exit_some h11
                  have hs1 := hr1 _ ho1
                  subst hs1
                  refine roundC_r ho1 (blockC_r (thenC_r ?_))
                  cases h12
                  simp
                · rw [if_neg c328] at h10
                  have c328e := eq_false c328
                  refine q_ifF rfl (by simp [c328e]) (q_skip rfl (thenC_n (zq rfl (zr rfl rfl rfl (by simp; rfl) ?_))))
                  refine thenC_n (zq rfl ?_)
                  obtain ⟨v217, f329, h11⟩ := bnd_some h10
                  have f329k := cascade_key_ok f329
                  try simp at f329k
                  refine zr rfl rfl rfl (by simp [f329k]; rfl) ?_
                  refine thenC_n ?_
                  obtain ⟨f330, h12⟩ := chk_some h11
                  obtain ⟨f330a, f330b⟩ := f330
                  refine zr rfl rfl rfl (by simp [f330a, f330b]; rfl) ?_
                  refine thenC_n ?_
                  obtain ⟨v218, f331, h13⟩ := bnd_some h12
                  obtain ⟨f331a, f331b, f331c, f331d, f331e⟩ := atI_some f331
                  refine zr rfl rfl rfl (by simp [f331a, f331b, f331c, f331d, f331e]; rfl) ?_
                  refine blockC_n (thenC_n (zr rfl rfl rfl (by simp; rfl) ?_))
                  have ho := next_some h13
                  refine roundC_n ho ?_
                  simp [cascade_Flat_h14]
            · rw [if_neg c324] at h9
              have c324e := eq_false c324
              refine q_ifT rfl (by simp [c324e]) (zq rfl (zr rfl rfl rfl (by simp; rfl) ?_))
              refine thenC_n (q_ret rfl (thenC_r (blockC_r (thenC_r ?_))))
              obtain ⟨rr2, h10, ho2⟩ := exit_some h9
              have hs2 := hr2 _ ho2
              subst hs2
              refine roundC_r ho2 (blockC_r (thenC_r (blockC_r (thenC_r ?_))))
              obtain ⟨rr1, h11, ho1⟩ := exit_some h10
              have hs1 := hr1 _ ho1
              subst hs1
              refine roundC_r ho1 (blockC_r (thenC_r ?_))
              cases h11
              simp
          · rw [if_neg c321] at h7
            refine q_ifF rfl (by simp [c321]) (q_exit rfl (thenC_x ?_))
            obtain ⟨rr2, h8, ho2⟩ := exit_some h7
            have hs2 := hr2 _ ho2
            subst hs2
            refine roundC_x ho2 (blockC_hit2 rfl (thenC_n ?_))
            obtain ⟨f332, h9⟩ := chk_some h8
            obtain ⟨f332a, f332b⟩ := f332
            refine zr rfl rfl rfl (by simp [f332a, f332b]; rfl) ?_
            refine blockC_n (thenC_n (zr rfl rfl rfl (by simp; rfl) ?_))
            have ho := next_some h9
            refine roundC_n ho ?_
            simp [cascade_Flat_h10]
        · rw [if_neg c297] at h5
          refine q_ifF rfl (by simp [c297]) (q_exit rfl (thenC_x ?_))
          obtain ⟨rr1, h6, ho1⟩ := exit_some h5
          have hs1 := hr1 _ ho1
          subst hs1
          refine roundC_x ho1 (blockC_hit2 rfl (thenC_n (zq rfl (zr rfl rfl rfl (by simp; rfl) ?_))))
          refine thenC_n (q_ret rfl ?_)
          cases h6
          simp
      · rw [if_neg c225] at h2
        refine q_ifT rfl (by simp [c225]) (zq rfl (zr rfl rfl rfl (by simp; rfl) ?_))
        refine thenC_n (q_ret rfl (thenC_r ?_))
        cases h2
        simp
    · rw [if_neg c223] at h1
      have c223e := eq_false c223
      refine q_ifT rfl (by simp [c223e]) (zq rfl (zr rfl rfl rfl (by simp; rfl) ?_))
      refine thenC_n (q_ret rfl (thenC_r ?_))
      cases h1
      simp
  · dsimp only at h1
    have f222k := cascade_NewRunner_ok f222
    try simp at f222k
    refine zr rfl rfl rfl (by simp [f222k]; rfl) ?_
    refine thenC_n (zq rfl (zq rfl (zr rfl rfl rfl (by simp; rfl) ?_)))
    refine thenC_n ?_
    by_cases c333 : v219.2 = 0
    · rw [if_pos c333] at h1
      have c333e := eq_true c333
      refine q_ifF rfl (by simp [c333e]) (q_skip rfl (thenC_n (zq rfl (zq rfl ?_))))
      obtain ⟨v220, f334, h2⟩ := bnd_some h1
      have f334k := cascade_isTuple_ok f334
      try simp at f334k
      refine zr rfl rfl rfl (by simp [f334k]; rfl) ?_
      refine thenC_n ?_
      by_cases c335 : v220 = true
      · rw [if_pos c335] at h2
        refine q_ifF rfl (by simp [c335]) (q_skip rfl (thenC_n (zq rfl ?_)))
        obtain ⟨f336, h3⟩ := chk_some h2
        obtain ⟨f336a, f336b⟩ := f336
        refine zr rfl rfl rfl (by simp [f336a, f336b]; rfl) ?_
        refine thenC_n (zq rfl ?_)
        obtain ⟨v221, f337, h4⟩ := bnd_some h3
        have f337k := cascade_key_ok f337
        try simp at f337k
        refine zr rfl rfl rfl (by simp [f337k]; rfl) ?_
        refine thenC_n (zq rfl (zr rfl rfl rfl (by simp; rfl) ?_))
        refine thenC_n (zq rfl (zq rfl (zr rfl rfl rfl (by simp; rfl) ?_)))
        refine thenC_n (zb rfl (q_loopG h4 (cascade_Flat_h10a a0 v219) rfl rfl (by simp [cascade_Flat_h10a]) fun s o3 h5 hr3 => ?_))
        obtain ⟨w243, w244, w245, w246⟩ := s
        simp only [cascade_Flat_b10a] at h5
        simp only [cascade_Flat_h10a]
        refine zq rfl (zq rfl (zr rfl rfl rfl (by simp; rfl) ?_))
        refine thenC_n ?_
        by_cases c407 : w243 < (w244.length : Int)
        · rw [if_pos c407] at h5
          refine q_ifT rfl (by simp [c407]) (q_skip rfl (thenC_n (zq rfl (zb rfl (zq rfl ?_)))))
          obtain ⟨f408, h6⟩ := chk_some h5
          obtain ⟨f408a, f408b, f408c⟩ := f408
          have f408d : max a0.letters 0 = a0.letters := by omega
          refine zr rfl rfl rfl (by simp [f408a, f408b, f408c, f408d]; rfl) ?_
          refine thenC_n (zq rfl (zq rfl (zr rfl rfl rfl (by simp [f408a, f408b, f408c, f408d]; rfl) ?_)))
          refine thenC_n (zb rfl (q_loopG h6 (cascade_Flat_h14a a0 v219 w243 w246) rfl rfl (by simp [cascade_Flat_h14a]) fun s o4 h7 hr4 => ?_))
          obtain ⟨w275, w277, w278, w276⟩ := s
          simp only [cascade_Flat_b14a] at h7
          simp only [cascade_Flat_h14a]
          refine zq rfl (zr rfl rfl rfl (by simp; rfl) ?_)
          refine thenC_n (zq rfl ?_)
          by_cases c431 : w275 < a0.letters
          · rw [if_pos c431] at h7
            refine q_ifT rfl (by simp [c431]) (q_skip rfl (thenC_n (zq rfl (zb rfl (zq rfl (zr rfl rfl rfl (by simp; rfl) ?_))))))
            refine thenC_n (zq rfl ?_)
            obtain ⟨v285, f432, h8⟩ := bnd_some h7
            obtain ⟨f432a, f432b, f432c, f432d, f432e⟩ := atI_some f432
            obtain ⟨v286, f433, h9⟩ := bnd_some h8
            have f433k := cascade_Runner_Step_ok f433
            try simp at f433k
            refine q_drawW rfl rfl rfl rfl ?_; repeat' (first | (refine q_drawW_op rfl rfl fun Q' hQ => ?_; simp [f432a, f432b, f432c, f432d, f432e, f433k]; refine hQ.out _ ?_; clear hQ; clear Q') | (refine q_drawW_guard rfl rfl fun Q1 Q2 h1 h2 => ?_; simp [f432a, f432b, f432c, f432d, f432e, f433k, twoB_some]; (first | refine h1.out ?_ | refine h2.out ?_); clear h1 h2; clear Q1 Q2; intro Q' hQ; simp [f432a, f432b, f432c, f432d, f432e, f433k]; refine hQ.out _ ?_; clear hQ; clear Q') | (refine q_drawW_nil rfl fun Q' hQ => ?_; simp [f432a, f432b, f432c, f432d, f432e, f433k]; refine hQ.out _ ?_; clear hQ; clear Q'))
            refine thenC_n (zq rfl (zq rfl (zr rfl rfl rfl (by simp; rfl) ?_)))
            refine thenC_n ?_
            by_cases c434 : v286.2 = 0
            · rw [if_pos c434] at h9
              have c434e := eq_true c434
              refine q_ifF rfl (by simp [c434e]) (q_skip rfl (thenC_n (zq rfl ?_)))
              obtain ⟨v287, f435, h10⟩ := bnd_some h9
              have f435k := cascade_key_ok f435
              try simp at f435k
              refine zr rfl rfl rfl (by simp [f435k]; rfl) ?_
              refine thenC_n (zq rfl (zq rfl (zr rfl rfl rfl (by simp; rfl) ?_)))
              refine thenC_n ?_
              by_cases c436 : ((getM v287 w278).isSome) = true
              · rw [if_pos c436] at h10
                refine q_ifF rfl (by simp [c436]) (q_skip rfl (thenC_n ?_))
                obtain ⟨v288, f437, h11⟩ := bnd_some h10
                obtain ⟨f437a, f437b, f437c, f437d, f437e⟩ := atI_some f437
                refine zr rfl rfl rfl (by simp [f437a, f437b, f437c, f437d, f437e]; rfl) ?_
                refine blockC_n (thenC_n (zr rfl rfl rfl (by simp; rfl) ?_))
                have ho := next_some h11
                refine roundC_n ho ?_
                simp [cascade_Flat_h14a]
              · rw [if_neg c436] at h10
                have c436s : (getM v287 w278) = none := by simpa using c436
                refine q_ifT rfl (by simp [c436, c436s]) (zq rfl (zq rfl (zr rfl rfl rfl (by simp; rfl) ?_)))
                refine thenC_n ?_
                by_cases c438 : (w277.length : Int) = 2000
                · rw [if_pos c438] at h10
                  have c438e := eq_true c438
                  refine q_ifT rfl (by simp [c438e]) (zq rfl (zr rfl rfl rfl (by simp; rfl) ?_))
                  refine thenC_n (q_ret rfl (thenC_r (thenC_r (blockC_r (thenC_r ?_)))))
                  obtain ⟨rr4, h11, ho4⟩ := exit_some h10
                  have hs4 := hr4 _ ho4
                  subst hs4
                  refine roundC_r ho4 (blockC_r (thenC_r (blockC_r (thenC_r ?_))))
                  obtain ⟨rr3, h12, ho3⟩ := exit_some h11
                  have hs3 := hr3 _ ho3
                  subst hs3
                  refine roundC_r ho3 (blockC_r (thenC_r ?_))
                  cases h12
                  simp
                · rw [if_neg c438] at h10
                  have c438e := eq_false c438
                  refine q_ifF rfl (by simp [c438e]) (q_skip rfl (thenC_n (zq rfl (zr rfl rfl rfl (by simp; rfl) ?_))))
                  refine thenC_n (zq rfl ?_)
                  obtain ⟨v289, f439, h11⟩ := bnd_some h10
                  have f439k := cascade_key_ok f439
                  try simp at f439k
                  refine zr rfl rfl rfl (by simp [f439k]; rfl) ?_
                  refine thenC_n ?_
                  obtain ⟨f440, h12⟩ := chk_some h11
                  obtain ⟨f440a, f440b⟩ := f440
                  refine zr rfl rfl rfl (by simp [f440a, f440b]; rfl) ?_
                  refine thenC_n ?_
                  obtain ⟨v290, f441, h13⟩ := bnd_some h12
                  obtain ⟨f441a, f441b, f441c, f441d, f441e⟩ := atI_some f441
                  refine zr rfl rfl rfl (by simp [f441a, f441b, f441c, f441d, f441e]; rfl) ?_
                  refine blockC_n (thenC_n (zr rfl rfl rfl (by simp; rfl) ?_))
                  have ho := next_some h13
                  refine roundC_n ho ?_
                  simp [cascade_Flat_h14a]
            · rw [if_neg c434] at h9
              have c434e := eq_false c434
              refine q_ifT rfl (by simp [c434e]) (zq rfl (zr rfl rfl rfl (by simp; rfl) ?_))
              refine thenC_n (q_ret rfl (thenC_r (blockC_r (thenC_r ?_))))
              obtain ⟨rr4, h10, ho4⟩ := exit_some h9
              have hs4 := hr4 _ ho4
              subst hs4
              refine roundC_r ho4 (blockC_r (thenC_r (blockC_r (thenC_r ?_))))
              obtain ⟨rr3, h11, ho3⟩ := exit_some h10
              have hs3 := hr3 _ ho3
              subst hs3
              refine roundC_r ho3 (blockC_r (thenC_r ?_))
              cases h11
              simp
          · rw [if_neg c431] at h7
            refine q_ifF rfl (by simp [c431]) (q_exit rfl (thenC_x ?_))
            obtain ⟨rr4, h8, ho4⟩ := exit_some h7
            have hs4 := hr4 _ ho4
            subst hs4
            refine roundC_x ho4 (blockC_hit2 rfl (thenC_n ?_))
            obtain ⟨f442, h9⟩ := chk_some h8
            obtain ⟨f442a, f442b⟩ := f442
            refine zr rfl rfl rfl (by simp [f442a, f442b]; rfl) ?_
            refine blockC_n (thenC_n (zr rfl rfl rfl (by simp; rfl) ?_))
            have ho := next_some h9
            refine roundC_n ho ?_
            simp [cascade_Flat_h10a]
        · rw [if_neg c407] at h5
          refine q_ifF rfl (by simp [c407]) (q_exit rfl (thenC_x ?_))
          obtain ⟨rr3, h6, ho3⟩ := exit_some h5
          have hs3 := hr3 _ ho3
          subst hs3
          refine roundC_x ho3 (blockC_hit2 rfl (thenC_n (zq rfl (zr rfl rfl rfl (by simp; rfl) ?_))))
          refine thenC_n (q_ret rfl ?_)
          cases h6
          simp
      · rw [if_neg c335] at h2
        refine q_ifT rfl (by simp [c335]) (zq rfl (zr rfl rfl rfl (by simp; rfl) ?_))
        refine thenC_n (q_ret rfl (thenC_r ?_))
        cases h2
        simp
    · rw [if_neg c333] at h1
      have c333e := eq_false c333
      refine q_ifT rfl (by simp [c333e]) (zq rfl (zr rfl rfl rfl (by simp; rfl) ?_))
      refine thenC_n (q_ret rfl (thenC_r ?_))
      cases h1
      simp

-- semigroup/semigroupref26.Flat
def ref26_Flat_b13 (a0 : Casc) (w54 : Int) (w56 : List (List Int)) : Int × List (List Int) × List Int → Option ((Int × List (List Int) × List Int) ⊕ ((Int × List (List Int) × List (List Int)) ⊕ (List (List Int) × List (List Int) × Int)))
  | (w72, w73, w74) =>
  if w72 < a0.letters then
    (atI w73 w54).bind fun v78 =>
    (ref26_step a0 v78 w72).bind fun v79 =>
    if v79.2 = 0 then
      (ref26_Find w73 v79.1).bind fun v80 =>
      if v80 = (-1) then
        chk (capOk 24 (w73.length + 1)) <|
        if 2000 < ((w73.length : Int) + 1) then
          exitG <|
          exitG <|
          some ([], [], 3)
        else
          chk (capOk 8 (w74.length + 1)) <|
          nextG (IntKind.i64.wrap (w72 + 1), w73 ++ [v79.1], w74 ++ [(w73.length : Int)])
      else
        chk (capOk 8 (w74.length + 1)) <|
        nextG (IntKind.i64.wrap (w72 + 1), w73, w74 ++ [v80])
    else
      exitG <|
      exitG <|
      some ([], [], v79.2)
  else
    exitG <|
    chk (capOk 24 (w56.length + 1)) <|
    nextG (IntKind.i64.wrap (w54 + 1), w73, w56 ++ [w74])
def ref26_Flat_h13 (a0 : Casc) (w54 : Int) (w56 : List (List Int)) : Int × List (List Int) × List Int → Fr
  | (w72, w73, w74) => ⟨78, [(2, .one (.a 2 [] (0))), (8, .one (.h 8 [])), (9, .one (.h 9 [])), (10, .one (.t none (.sc (.int .i64 w54)))), (11, .one (.h 11 [])), (12, .one (.t none (.sc (.int .i64 w72))))], [(2, .vr [.sc (.int .i64 a0.letters), .sl a0.sizes.length (a0.sizes.map fun x0 => .sc (.int .i64 x0)), .sl a0.rows.length (a0.rows.flatMap fun x0 => [.sl x0.pre.length (x0.pre.map fun x1 => .sc (.int .i64 x1)), .sl x0.maps.length (x0.maps.map fun x1 => .sl x1.length (x1.map fun x2 => .sc (.int .i64 x2)))])]), (8, .os 1 w73.length (w73.map fun x0 => .os 1 x0.length (x0.map fun x1 => .sc (.int .i64 x1)))), (9, .os 1 w56.length (w56.map fun x0 => .os 1 x0.length (x0.map fun x1 => .sc (.int .i64 x1)))), (11, .os 1 w74.length (w74.map fun x0 => .sc (.int .i64 x0)))]⟩
def ref26_Flat_b9 (a0 : Casc) : Int × List (List Int) × List (List Int) → Option ((Int × List (List Int) × List (List Int)) ⊕ (List (List Int) × List (List Int) × Int))
  | (w54, w55, w56) =>
  if w54 < (w55.length : Int) then
    loopG (ref26_Flat_b13 a0 w54 w56) LFm (0, w55, [])
  else
    exitG <|
    some (w55, w56, 0)
def ref26_Flat_h9 (a0 : Casc) : Int × List (List Int) × List (List Int) → Fr
  | (w54, w55, w56) => ⟨78, [(2, .one (.a 2 [] (0))), (8, .one (.h 8 [])), (9, .one (.h 9 [])), (10, .one (.t none (.sc (.int .i64 w54))))], [(2, .vr [.sc (.int .i64 a0.letters), .sl a0.sizes.length (a0.sizes.map fun x0 => .sc (.int .i64 x0)), .sl a0.rows.length (a0.rows.flatMap fun x0 => [.sl x0.pre.length (x0.pre.map fun x1 => .sc (.int .i64 x1)), .sl x0.maps.length (x0.maps.map fun x1 => .sl x1.length (x1.map fun x2 => .sc (.int .i64 x2)))])]), (8, .os 1 w55.length (w55.map fun x0 => .os 1 x0.length (x0.map fun x1 => .sc (.int .i64 x1)))), (9, .os 1 w56.length (w56.map fun x0 => .os 1 x0.length (x0.map fun x1 => .sc (.int .i64 x1))))]⟩
def ref26_Flat (a0 : Casc) (a1 : List Int) : Option (List (List Int) × List (List Int) × Int) :=
  (ref26_Validate a0).bind fun v41 =>
  if v41 = 0 then
    (ref26_IsTuple a0 a1).bind fun v42 =>
    if v42 = true then
      chk (capOk 8 (a1.length)) <|
      loopG (ref26_Flat_b9 a0) LFm (0, [a1], [])
    else
      some ([], [], 1)
  else
    some ([], [], v41)
theorem ref26_Flat_ok {a0 : Casc} {a1 : List Int} {r : List (List Int) × List (List Int) × Int} (h0 : ref26_Flat a0 a1 = some r) : L 21 [.agg [.sc (.int .i64 a0.letters), .sl a0.sizes.length (a0.sizes.map fun x0 => .sc (.int .i64 x0)), .sl a0.rows.length (a0.rows.flatMap fun x0 => [.sl x0.pre.length (x0.pre.map fun x1 => .sc (.int .i64 x1)), .sl x0.maps.length (x0.maps.map fun x1 => .sl x1.length (x1.map fun x2 => .sc (.int .i64 x2)))])], .sl a1.length (a1.map fun x0 => .sc (.int .i64 x0))] = some (.tup [.os 1 r.1.length (r.1.map fun x0 => .os 1 x0.length (x0.map fun x1 => .sc (.int .i64 x1))), .os 1 r.2.1.length (r.2.1.map fun x0 => .os 1 x0.length (x0.map fun x1 => .sc (.int .i64 x1))), .sc (.int .i64 r.2.2)], [.dead, .dead]) := by
  simp only [ref26_Flat] at h0
  refine L_run cfn21 fn21 (runF_of bd21 ⟨of_decide_eq_true rfl, of_decide_eq_true rfl⟩ ?_)
  simp only [entryF, entryT, entryO, entryE, isIo]
  refine zq rfl (zr rfl rfl rfl (by simp; rfl) ?_)
  refine thenC_n (zq rfl (zq rfl ?_))
  obtain ⟨v41, f93, h1⟩ := bnd_some h0
  have f93k := ref26_Validate_ok f93
  try simp at f93k
  refine zr rfl rfl rfl (by simp [f93k]; rfl) ?_
  refine thenC_n (zq rfl (zr rfl rfl rfl (by simp; rfl) ?_))
  refine thenC_n ?_
  by_cases c94 : v41 = 0
  · rw [if_pos c94] at h1
    have c94e := eq_true c94
    refine q_ifF rfl (by simp [c94e]) (q_skip rfl (thenC_n (zq rfl (zq rfl ?_))))
    obtain ⟨v42, f95, h2⟩ := bnd_some h1
    have f95k := ref26_IsTuple_ok f95
    try simp at f95k
    refine zr rfl rfl rfl (by simp [f95k]; rfl) ?_
    refine thenC_n ?_
    by_cases c96 : v42 = true
    · rw [if_pos c96] at h2
      refine q_ifF rfl (by simp [c96]) (q_skip rfl (thenC_n (zq rfl ?_)))
      obtain ⟨f97, h3⟩ := chk_some h2
      obtain ⟨f97a, f97b⟩ := f97
      refine zr rfl rfl rfl (by simp [f97a, f97b]; rfl) ?_
      refine thenC_n (zq rfl (zr rfl rfl rfl (by simp; rfl) ?_))
      refine thenC_n (zq rfl (zq rfl (zr rfl rfl rfl (by simp; rfl) ?_)))
      refine thenC_n (zb rfl (q_loopG h3 (ref26_Flat_h9 a0) rfl rfl (by simp [ref26_Flat_h9]) fun s o1 h4 hr1 => ?_))
      obtain ⟨w54, w55, w56⟩ := s
      simp only [ref26_Flat_b9] at h4
      simp only [ref26_Flat_h9]
      refine zq rfl (zq rfl (zr rfl rfl rfl (by simp; rfl) ?_))
      refine thenC_n ?_
      by_cases c155 : w54 < (w55.length : Int)
      · rw [if_pos c155] at h4
        refine q_ifT rfl (by simp [c155]) (q_skip rfl (thenC_n (zq rfl (zb rfl (zq rfl (zr rfl rfl rfl (by simp; rfl) ?_))))))
        refine thenC_n (zq rfl (zq rfl (zr rfl rfl rfl (by simp; rfl) ?_)))
        refine thenC_n (zb rfl (q_loopG h4 (ref26_Flat_h13 a0 w54 w56) rfl rfl (by simp [ref26_Flat_h13]) fun s o2 h5 hr2 => ?_))
        obtain ⟨w72, w73, w74⟩ := s
        simp only [ref26_Flat_b13] at h5
        simp only [ref26_Flat_h13]
        refine zq rfl (zq rfl (zr rfl rfl rfl (by simp; rfl) ?_))
        refine thenC_n ?_
        by_cases c174 : w72 < a0.letters
        · rw [if_pos c174] at h5
          refine q_ifT rfl (by simp [c174]) (q_skip rfl (thenC_n (zq rfl (zb rfl (zq rfl ?_)))))
          obtain ⟨v78, f175, h6⟩ := bnd_some h5
          obtain ⟨f175a, f175b, f175c, f175d, f175e⟩ := atI_some f175
          obtain ⟨v79, f176, h7⟩ := bnd_some h6
          have f176k := ref26_step_ok f176
          try simp at f176k
          refine q_drawW rfl rfl rfl rfl ?_; repeat' (first | (refine q_drawW_op rfl rfl fun Q' hQ => ?_; simp [f175a, f175b, f175c, f175d, f175e, f176k]; refine hQ.out _ ?_; clear hQ; clear Q') | (refine q_drawW_guard rfl rfl fun Q1 Q2 h1 h2 => ?_; simp [f175a, f175b, f175c, f175d, f175e, f176k, twoB_some]; (first | refine h1.out ?_ | refine h2.out ?_); clear h1 h2; clear Q1 Q2; intro Q' hQ; simp [f175a, f175b, f175c, f175d, f175e, f176k]; refine hQ.out _ ?_; clear hQ; clear Q') | (refine q_drawW_nil rfl fun Q' hQ => ?_; simp [f175a, f175b, f175c, f175d, f175e, f176k]; refine hQ.out _ ?_; clear hQ; clear Q'))
          refine thenC_n (zq rfl (zq rfl (zr rfl rfl rfl (by simp; rfl) ?_)))
          refine thenC_n ?_
          by_cases c177 : v79.2 = 0
          · rw [if_pos c177] at h7
            have c177e := eq_true c177
            refine q_ifF rfl (by simp [c177e]) (q_skip rfl (thenC_n (zq rfl ?_)))
            obtain ⟨v80, f178, h8⟩ := bnd_some h7
            have f178k := ref26_Find_ok f178
            try simp at f178k
            refine zr rfl rfl rfl (by simp [f178k]; rfl) ?_
            refine thenC_n (zq rfl (zq rfl (zr rfl rfl rfl (by simp; rfl) ?_)))
            refine thenC_n ?_
            by_cases c179 : v80 = (-1)
            · rw [if_pos c179] at h8
              have c179e := eq_true c179
              refine q_ifT rfl (by simp [c179e]) (zq rfl (zr rfl rfl rfl (by simp; rfl) ?_))
              refine thenC_n (zq rfl ?_)
              obtain ⟨f180, h9⟩ := chk_some h8
              obtain ⟨f180a, f180b⟩ := f180
              refine zr rfl rfl rfl (by simp [f180a, f180b]; rfl) ?_
              refine thenC_n (zq rfl (zr rfl rfl rfl (by simp; rfl) ?_))
              refine thenC_n ?_
              by_cases c181 : 2000 < ((w73.length : Int) + 1)
              · rw [if_pos c181] at h9
                refine q_ifT rfl (by simp [c181]) (zq rfl (zr rfl rfl rfl (by simp; rfl) ?_))
                refine thenC_n (q_ret rfl (thenC_r (blockC_r (thenC_r ?_))))
                obtain ⟨rr2, h10, ho2⟩ := exit_some h9
                have hs2 := hr2 _ ho2
                subst hs2
                refine roundC_r ho2 (blockC_r (thenC_r (blockC_r (thenC_r ?_))))
                obtain ⟨rr1, h11, ho1⟩ := exit_some h10
                have hs1 := hr1 _ ho1
                subst hs1
                refine roundC_r ho1 (blockC_r (thenC_r ?_))
                cases h11
                simp
              · rw [if_neg c181] at h9
                refine q_ifF rfl (by simp [c181]) (q_skip rfl (thenC_n ?_))
                obtain ⟨f182, h10⟩ := chk_some h9
                obtain ⟨f182a, f182b⟩ := f182
                refine zr rfl rfl rfl (by simp [f182a, f182b]; rfl) ?_
                refine blockC_n (thenC_n (zr rfl rfl rfl (by simp; rfl) ?_))
                have ho := next_some h10
                refine roundC_n ho ?_
                simp [ref26_Flat_h13]
            · rw [if_neg c179] at h8
              have c179e := eq_false c179
              refine q_ifF rfl (by simp [c179e]) (q_skip rfl (thenC_n ?_))
              obtain ⟨f183, h9⟩ := chk_some h8
              obtain ⟨f183a, f183b⟩ := f183
              refine zr rfl rfl rfl (by simp [f183a, f183b]; rfl) ?_
              refine blockC_n (thenC_n (zr rfl rfl rfl (by simp; rfl) ?_))
              have ho := next_some h9
              refine roundC_n ho ?_
              simp [ref26_Flat_h13]
          · rw [if_neg c177] at h7
            have c177e := eq_false c177
            refine q_ifT rfl (by simp [c177e]) (zq rfl (zr rfl rfl rfl (by simp; rfl) ?_))
            refine thenC_n (q_ret rfl (thenC_r (blockC_r (thenC_r ?_))))
            obtain ⟨rr2, h8, ho2⟩ := exit_some h7
            have hs2 := hr2 _ ho2
            subst hs2
            refine roundC_r ho2 (blockC_r (thenC_r (blockC_r (thenC_r ?_))))
            obtain ⟨rr1, h9, ho1⟩ := exit_some h8
            have hs1 := hr1 _ ho1
            subst hs1
            refine roundC_r ho1 (blockC_r (thenC_r ?_))
            cases h9
            simp
        · rw [if_neg c174] at h5
          refine q_ifF rfl (by simp [c174]) (q_exit rfl (thenC_x ?_))
          obtain ⟨rr2, h6, ho2⟩ := exit_some h5
          have hs2 := hr2 _ ho2
          subst hs2
          refine roundC_x ho2 (blockC_hit2 rfl (thenC_n ?_))
          obtain ⟨f184, h7⟩ := chk_some h6
          obtain ⟨f184a, f184b⟩ := f184
          refine zr rfl rfl rfl (by simp [f184a, f184b]; rfl) ?_
          refine blockC_n (thenC_n (zr rfl rfl rfl (by simp; rfl) ?_))
          have ho := next_some h7
          refine roundC_n ho ?_
          simp [ref26_Flat_h9]
      · rw [if_neg c155] at h4
        refine q_ifF rfl (by simp [c155]) (q_exit rfl (thenC_x ?_))
        obtain ⟨rr1, h5, ho1⟩ := exit_some h4
        have hs1 := hr1 _ ho1
        subst hs1
        refine roundC_x ho1 (blockC_hit2 rfl (thenC_n (zq rfl (zr rfl rfl rfl (by simp; rfl) ?_))))
        refine thenC_n (q_ret rfl ?_)
        cases h5
        simp
    · rw [if_neg c96] at h2
      refine q_ifT rfl (by simp [c96]) (zq rfl (zr rfl rfl rfl (by simp; rfl) ?_))
      refine thenC_n (q_ret rfl (thenC_r ?_))
      cases h2
      simp
  · rw [if_neg c94] at h1
    have c94e := eq_false c94
    refine q_ifT rfl (by simp [c94e]) (zq rfl (zr rfl rfl rfl (by simp; rfl) ?_))
    refine thenC_n (q_ret rfl (thenC_r ?_))
    cases h1
    simp

-- semigroup/semigrouplaw26.tuple
def law26_tuple_b3 (a1 : Casc) : Int × List Int × Int × List Int → Option ((Int × List Int × Int × List Int) ⊕ (List Int × Tape))
  | (w13, w14, w15, w16) =>
  if w13 < (a1.sizes.length : Int) then
    (atI a1.sizes w13).bind fun v19 =>
    (made_Tape_Next (⟨w14, w15⟩ : Tape) v19).bind fun v20 =>
    chk (capOk 8 (w16.length + 1)) <|
    nextG (IntKind.i64.wrap (w13 + 1), v20.2.l, v20.2.at_, w16 ++ [v20.1])
  else
    exitG <|
    some (w16, (⟨w14, w15⟩ : Tape))
def law26_tuple_h3 (a1 : Casc) : Int × List Int × Int × List Int → Fr
  | (w13, w14, w15, w16) => ⟨24, [(0, .one (.a 0 [] (0))), (5, .one (.h 5 [])), (10, .one (.t none (.sl a1.sizes.length (a1.sizes.map fun x0 => .sc (.int .i64 x0))))), (11, .one (.t none (.sc (.int .i64 (a1.sizes.length : Int))))), (12, .one (.t none (.sc (.int .i64 w13)))), (1024, .one (.a 0 [] (0)))], [(0, .vr [.sl w14.length (w14.map fun x0 => .sc (.int .i64 x0)), .sc (.int .i64 w15)]), (5, .os 1 w16.length (w16.map fun x0 => .sc (.int .i64 x0)))]⟩
def law26_tuple (a0 : Tape) (a1 : Casc) : Option (List Int × Tape) :=
  loopG (law26_tuple_b3 a1) LFm (0, a0.l, a0.at_, [])
theorem law26_tuple_ok {a0 : Tape} {a1 : Casc} {r : List Int × Tape} (h0 : law26_tuple a0 a1 = some r) : L 13 [.vr [.sl a0.l.length (a0.l.map fun x0 => .sc (.int .i64 x0)), .sc (.int .i64 a0.at_)], .agg [.sc (.int .i64 a1.letters), .sl a1.sizes.length (a1.sizes.map fun x0 => .sc (.int .i64 x0)), .sl a1.rows.length (a1.rows.flatMap fun x0 => [.sl x0.pre.length (x0.pre.map fun x1 => .sc (.int .i64 x1)), .sl x0.maps.length (x0.maps.map fun x1 => .sl x1.length (x1.map fun x2 => .sc (.int .i64 x2)))])]] = some (.os 1 r.1.length (r.1.map fun x0 => .sc (.int .i64 x0)), [.vr [.sl r.2.l.length (r.2.l.map fun x0 => .sc (.int .i64 x0)), .sc (.int .i64 r.2.at_)], .dead]) := by
  simp only [law26_tuple] at h0
  refine L_run cfn13 fn13 (runF_of bd13 ⟨of_decide_eq_true rfl, of_decide_eq_true rfl⟩ ?_)
  simp only [entryF, entryT, entryO, entryE, isIo]
  refine zq rfl (zr rfl rfl rfl (by simp; rfl) ?_)
  refine thenC_n (zq rfl (zr rfl rfl rfl (by simp; rfl) ?_))
  refine thenC_n (zq rfl (zq rfl (zr rfl rfl rfl (by simp; rfl) ?_)))
  refine thenC_n (zb rfl (q_loopG h0 (law26_tuple_h3 a1) rfl rfl (by simp [law26_tuple_h3]) fun s o1 h1 hr1 => ?_))
  obtain ⟨w13, w14, w15, w16⟩ := s
  simp only [law26_tuple_b3] at h1
  simp only [law26_tuple_h3]
  refine zq rfl (zr rfl rfl rfl (by simp; rfl) ?_)
  refine thenC_n (zq rfl ?_)
  by_cases c19 : w13 < (a1.sizes.length : Int)
  · rw [if_pos c19] at h1
    refine q_ifT rfl (by simp [c19]) (q_skip rfl (thenC_n (zq rfl (zb rfl (zq rfl ?_)))))
    obtain ⟨v19, f20, h2⟩ := bnd_some h1
    obtain ⟨f20a, f20b, f20c, f20d, f20e⟩ := atI_some f20
    refine zr rfl rfl rfl (by simp [f20a, f20b, f20c, f20d, f20e]; rfl) ?_
    refine thenC_n ?_
    obtain ⟨v20, f21, h3⟩ := bnd_some h2
    have f21k := made_Tape_Next_ok f21
    try simp at f21k
    obtain ⟨f22, h4⟩ := chk_some h3
    obtain ⟨f22a, f22b⟩ := f22
    refine zr rfl rfl rfl (by simp [f21k, f22a, f22b]; rfl) ?_
    refine blockC_n (thenC_n (zr rfl rfl rfl (by simp; rfl) ?_))
    have ho := next_some h4
    refine roundC_n ho ?_
    simp [law26_tuple_h3]
  · rw [if_neg c19] at h1
    refine q_ifF rfl (by simp [c19]) (q_exit rfl (thenC_x ?_))
    obtain ⟨rr1, h2, ho1⟩ := exit_some h1
    have hs1 := hr1 _ ho1
    subst hs1
    refine roundC_x ho1 (blockC_hit2 rfl (thenC_n (zq rfl (zr rfl rfl rfl (by simp; rfl) ?_))))
    refine thenC_n (q_ret rfl ?_)
    cases h2
    simp

-- semigroup/semigrouplaw26.build
def law26_build_b31 (v836 : Int × Tape) (w874 : Int) (w878 : List CRow) (v916 : List Int) (v917 : Int × Tape) : Int × List (List Int) → Option ((Int × List (List Int)) ⊕ ((Int × List Int × Int × List CRow × List (List Int)) ⊕ ((Int × List Int × Int × List Int × List CRow × List (List Int)) ⊕ (Casc × Tape))))
  | (w918, w919) =>
  if w918 < (IntKind.i64.wrap (1 + v836.1)) then
    chk (capOk 8 (v916.length)) <|
    chk (capOk 8 (v916.length + 1)) <|
    chk (capOk 24 (w919.length + 1)) <|
    nextG (IntKind.i64.wrap (w918 + 1), w919 ++ [v916 ++ [w918]])
  else
    exitG <|
    nextG (IntKind.i64.wrap (w874 + 1), v917.2.l, v917.2.at_, w878, w919)
def law26_build_h31 (v477 : Int × Tape) (w595 : Int) (w598 : List Int) (w600 : List (List Int)) (v836 : Int × Tape) (w874 : Int) (w878 : List CRow) (v916 : List Int) (v917 : Int × Tape) : Int × List (List Int) → Fr
  | (w918, w919) => ⟨117, [(0, .one (.a 0 [] (0))), (2, .one (.a 2 [] (0))), (3, .one (.a 3 [] (0))), (5, .one (.t none (.sc (.int .i64 w595)))), (6, .one (.t none (.sc (.int .i64 (IntKind.i64.wrap (1 + v836.1)))))), (7, .one (.h 7 [])), (9, .one (.t none (.sl v916.length (v916.map fun x0 => .sc (.int .i64 x0))))), (16, .one (.t none (.sc (.int .i64 w918)))), (38, .one (.t none (.sl w600.length (w600.map fun x0 => .sl x0.length (x0.map fun x1 => .sc (.int .i64 x1)))))), (39, .one (.t none (.sc (.int .i64 (w600.length : Int))))), (40, .one (.t none (.sc (.int .i64 w874)))), (1117, .one (.a 0 [] (0)))], [(0, .vr [.sl v917.2.l.length (v917.2.l.map fun x0 => .sc (.int .i64 x0)), .sc (.int .i64 v917.2.at_)]), (2, .vr [.sc (.int .i64 0), .os 1 0 [], .os 2 0 []]), (3, .vr [.sc (.int .i64 (IntKind.i64.wrap (1 + v477.1))), .os 1 (w598 ++ [IntKind.i64.wrap (1 + v836.1)]).length ((w598 ++ [IntKind.i64.wrap (1 + v836.1)]).map fun x0 => .sc (.int .i64 x0)), .os 2 w878.length (w878.flatMap fun x0 => [.sl x0.pre.length (x0.pre.map fun x1 => .sc (.int .i64 x1)), .sl x0.maps.length (x0.maps.map fun x1 => .sl x1.length (x1.map fun x2 => .sc (.int .i64 x2)))])]), (7, .os 1 w919.length (w919.map fun x0 => .os 1 x0.length (x0.map fun x1 => .sc (.int .i64 x1))))]⟩
def law26_build_b20 (v836 : Int × Tape) (w929 : Int) (w932 : List (List Int)) (v942 : Int × Tape) (v943 : Int × Tape) : Int × List Int × Int × List Int → Option ((Int × List Int × Int × List Int) ⊕ ((Int × List Int × Int × List (List Int)) ⊕ ((Int × List Int × Int × List CRow × List (List Int)) ⊕ ((Int × List Int × Int × List Int × List CRow × List (List Int)) ⊕ (Casc × Tape)))))
  | (w945, w947, w948, w946) =>
  if w945 < (IntKind.i64.wrap (1 + v836.1)) then
    if v942.1 = 0 then
      chk (¬ (IntKind.i64.wrap (1 + v836.1)) = 0) <|
      chk (capOk 8 (w946.length + 1)) <|
      nextG (IntKind.i64.wrap (w945 + 1), w947, w948, w946 ++ [Int.tmod (IntKind.i64.wrap (w945 + v943.1)) (IntKind.i64.wrap (1 + v836.1))])
    else
      if v942.1 = 1 then
        chk (capOk 8 (w946.length + 1)) <|
        nextG (IntKind.i64.wrap (w945 + 1), w947, w948, w946 ++ [v943.1])
      else
        (made_Tape_Next (⟨w947, w948⟩ : Tape) (IntKind.i64.wrap (1 + v836.1))).bind fun v950 =>
        chk (capOk 8 (w946.length + 1)) <|
        nextG (IntKind.i64.wrap (w945 + 1), v950.2.l, v950.2.at_, w946 ++ [v950.1])
  else
    exitG <|
    chk (capOk 24 (w932.length + 1)) <|
    nextG (IntKind.i64.wrap (w929 + 1), w947, w948, w932 ++ [w946])
def law26_build_h20 (v477 : Int × Tape) (w595 : Int) (w598 : List Int) (w600 : List (List Int)) (v836 : Int × Tape) (w874 : Int) (w877 : List (List Int)) (w878 : List CRow) (v916 : List Int) (w929 : Int) (w932 : List (List Int)) (v942 : Int × Tape) (v943 : Int × Tape) : Int × List Int × Int × List Int → Fr
  | (w945, w947, w948, w946) => ⟨117, [(0, .one (.a 0 [] (0))), (2, .one (.a 2 [] (0))), (3, .one (.a 3 [] (0))), (5, .one (.t none (.sc (.int .i64 w595)))), (6, .one (.t none (.sc (.int .i64 (IntKind.i64.wrap (1 + v836.1)))))), (7, .one (.h 7 [])), (9, .one (.t none (.sl v916.length (v916.map fun x0 => .sc (.int .i64 x0))))), (10, .one (.a 10 [] (0))), (11, .one (.t none (.sc (.int .i64 w929)))), (12, .one (.h 12 [])), (13, .one (.t none (.sc (.int .i64 v942.1)))), (14, .one (.t none (.sc (.int .i64 v943.1)))), (15, .one (.t none (.sc (.int .i64 w945)))), (38, .one (.t none (.sl w600.length (w600.map fun x0 => .sl x0.length (x0.map fun x1 => .sc (.int .i64 x1)))))), (39, .one (.t none (.sc (.int .i64 (w600.length : Int))))), (40, .one (.t none (.sc (.int .i64 w874)))), (1117, .one (.a 0 [] (0)))], [(0, .vr [.sl w947.length (w947.map fun x0 => .sc (.int .i64 x0)), .sc (.int .i64 w948)]), (2, .vr [.sc (.int .i64 0), .os 1 0 [], .os 2 0 []]), (3, .vr [.sc (.int .i64 (IntKind.i64.wrap (1 + v477.1))), .os 1 (w598 ++ [IntKind.i64.wrap (1 + v836.1)]).length ((w598 ++ [IntKind.i64.wrap (1 + v836.1)]).map fun x0 => .sc (.int .i64 x0)), .os 2 w878.length (w878.flatMap fun x0 => [.sl x0.pre.length (x0.pre.map fun x1 => .sc (.int .i64 x1)), .sl x0.maps.length (x0.maps.map fun x1 => .sl x1.length (x1.map fun x2 => .sc (.int .i64 x2)))])]), (7, .os 1 w877.length (w877.map fun x0 => .os 1 x0.length (x0.map fun x1 => .sc (.int .i64 x1)))), (10, .vr [.sl v916.length (v916.map fun x0 => .sc (.int .i64 x0)), .os 1 w932.length (w932.map fun x0 => .os 1 x0.length (x0.map fun x1 => .sc (.int .i64 x1)))]), (12, .os 1 w946.length (w946.map fun x0 => .sc (.int .i64 x0)))]⟩
def law26_build_b31a (v836 : Int × Tape) (w874 : Int) (w878 : List CRow) (v916 : List Int) (w930 : List Int) (w931 : Int) (w932 : List (List Int)) : Int × List (List Int) → Option ((Int × List (List Int)) ⊕ ((Int × List Int × Int × List CRow × List (List Int)) ⊕ ((Int × List Int × Int × List Int × List CRow × List (List Int)) ⊕ (Casc × Tape))))
  | (w951, w952) =>
  if w951 < (IntKind.i64.wrap (1 + v836.1)) then
    chk (capOk 8 (v916.length)) <|
    chk (capOk 8 (v916.length + 1)) <|
    chk (capOk 24 (w952.length + 1)) <|
    nextG (IntKind.i64.wrap (w951 + 1), w952 ++ [v916 ++ [w951]])
  else
    exitG <|
    nextG (IntKind.i64.wrap (w874 + 1), w930, w931, w878 ++ [(⟨v916, w932⟩ : CRow)], w952)
def law26_build_h31a (v477 : Int × Tape) (w595 : Int) (w598 : List Int) (w600 : List (List Int)) (v836 : Int × Tape) (w874 : Int) (w878 : List CRow) (v916 : List Int) (w930 : List Int) (w931 : Int) (w932 : List (List Int)) : Int × List (List Int) → Fr
  | (w951, w952) => ⟨117, [(0, .one (.a 0 [] (0))), (2, .one (.a 2 [] (0))), (3, .one (.a 3 [] (0))), (5, .one (.t none (.sc (.int .i64 w595)))), (6, .one (.t none (.sc (.int .i64 (IntKind.i64.wrap (1 + v836.1)))))), (7, .one (.h 7 [])), (9, .one (.t none (.sl v916.length (v916.map fun x0 => .sc (.int .i64 x0))))), (16, .one (.t none (.sc (.int .i64 w951)))), (38, .one (.t none (.sl w600.length (w600.map fun x0 => .sl x0.length (x0.map fun x1 => .sc (.int .i64 x1)))))), (39, .one (.t none (.sc (.int .i64 (w600.length : Int))))), (40, .one (.t none (.sc (.int .i64 w874)))), (1117, .one (.a 0 [] (0)))], [(0, .vr [.sl w930.length (w930.map fun x0 => .sc (.int .i64 x0)), .sc (.int .i64 w931)]), (2, .vr [.sc (.int .i64 0), .os 1 0 [], .os 2 0 []]), (3, .vr [.sc (.int .i64 (IntKind.i64.wrap (1 + v477.1))), .os 1 (w598 ++ [IntKind.i64.wrap (1 + v836.1)]).length ((w598 ++ [IntKind.i64.wrap (1 + v836.1)]).map fun x0 => .sc (.int .i64 x0)), .os 2 (w878 ++ [(⟨v916, w932⟩ : CRow)]).length ((w878 ++ [(⟨v916, w932⟩ : CRow)]).flatMap fun x0 => [.sl x0.pre.length (x0.pre.map fun x1 => .sc (.int .i64 x1)), .sl x0.maps.length (x0.maps.map fun x1 => .sl x1.length (x1.map fun x2 => .sc (.int .i64 x2)))])]), (7, .os 1 w952.length (w952.map fun x0 => .os 1 x0.length (x0.map fun x1 => .sc (.int .i64 x1))))]⟩
def law26_build_b15 (v477 : Int × Tape) (v836 : Int × Tape) (w874 : Int) (w877 : List (List Int)) (w878 : List CRow) (v916 : List Int) : Int × List Int × Int × List (List Int) → Option ((Int × List Int × Int × List (List Int)) ⊕ ((Int × List Int × Int × List CRow × List (List Int)) ⊕ ((Int × List Int × Int × List Int × List CRow × List (List Int)) ⊕ (Casc × Tape))))
  | (w929, w930, w931, w932) =>
  if w929 < (IntKind.i64.wrap (1 + v477.1)) then
    (made_Tape_Next (⟨w930, w931⟩ : Tape) 3).bind fun v942 =>
    (made_Tape_Next v942.2 (IntKind.i64.wrap (1 + v836.1))).bind fun v943 =>
    loopG (law26_build_b20 v836 w929 w932 v942 v943) LFm (0, v943.2.l, v943.2.at_, [])
  else
    exitG <|
    chk (capOk 48 (w878.length + 1)) <|
    loopG (law26_build_b31a v836 w874 w878 v916 w930 w931 w932) LFm (0, w877)
def law26_build_h15 (v477 : Int × Tape) (w595 : Int) (w598 : List Int) (w600 : List (List Int)) (v836 : Int × Tape) (w874 : Int) (w877 : List (List Int)) (w878 : List CRow) (v916 : List Int) : Int × List Int × Int × List (List Int) → Fr
  | (w929, w930, w931, w932) => ⟨117, [(0, .one (.a 0 [] (0))), (2, .one (.a 2 [] (0))), (3, .one (.a 3 [] (0))), (5, .one (.t none (.sc (.int .i64 w595)))), (6, .one (.t none (.sc (.int .i64 (IntKind.i64.wrap (1 + v836.1)))))), (7, .one (.h 7 [])), (9, .one (.t none (.sl v916.length (v916.map fun x0 => .sc (.int .i64 x0))))), (10, .one (.a 10 [] (0))), (11, .one (.t none (.sc (.int .i64 w929)))), (38, .one (.t none (.sl w600.length (w600.map fun x0 => .sl x0.length (x0.map fun x1 => .sc (.int .i64 x1)))))), (39, .one (.t none (.sc (.int .i64 (w600.length : Int))))), (40, .one (.t none (.sc (.int .i64 w874)))), (1117, .one (.a 0 [] (0)))], [(0, .vr [.sl w930.length (w930.map fun x0 => .sc (.int .i64 x0)), .sc (.int .i64 w931)]), (2, .vr [.sc (.int .i64 0), .os 1 0 [], .os 2 0 []]), (3, .vr [.sc (.int .i64 (IntKind.i64.wrap (1 + v477.1))), .os 1 (w598 ++ [IntKind.i64.wrap (1 + v836.1)]).length ((w598 ++ [IntKind.i64.wrap (1 + v836.1)]).map fun x0 => .sc (.int .i64 x0)), .os 2 w878.length (w878.flatMap fun x0 => [.sl x0.pre.length (x0.pre.map fun x1 => .sc (.int .i64 x1)), .sl x0.maps.length (x0.maps.map fun x1 => .sl x1.length (x1.map fun x2 => .sc (.int .i64 x2)))])]), (7, .os 1 w877.length (w877.map fun x0 => .os 1 x0.length (x0.map fun x1 => .sc (.int .i64 x1)))), (10, .vr [.sl v916.length (v916.map fun x0 => .sc (.int .i64 x0)), .os 1 w932.length (w932.map fun x0 => .os 1 x0.length (x0.map fun x1 => .sc (.int .i64 x1)))])]⟩
def law26_build_b10 (v477 : Int × Tape) (w595 : Int) (w598 : List Int) (w600 : List (List Int)) (v836 : Int × Tape) : Int × List Int × Int × List CRow × List (List Int) → Option ((Int × List Int × Int × List CRow × List (List Int)) ⊕ ((Int × List Int × Int × List Int × List CRow × List (List Int)) ⊕ (Casc × Tape)))
  | (w874, w875, w876, w878, w877) =>
  if w874 < (w600.length : Int) then
    (atI w600 w874).bind fun v916 =>
    (made_Tape_Next (⟨w875, w876⟩ : Tape) 12).bind fun v917 =>
    if v917.1 = 11 then
      loopG (law26_build_b31 v836 w874 w878 v916 v917) LFm (0, w877)
    else
      loopG (law26_build_b15 v477 v836 w874 w877 w878 v916) LFm (0, v917.2.l, v917.2.at_, [])
  else
    exitG <|
    nextG (IntKind.i64.wrap (w595 - 1), w875, w876, w598 ++ [IntKind.i64.wrap (1 + v836.1)], w878, w877)
def law26_build_h10 (v477 : Int × Tape) (w595 : Int) (w598 : List Int) (w600 : List (List Int)) (v836 : Int × Tape) : Int × List Int × Int × List CRow × List (List Int) → Fr
  | (w874, w875, w876, w878, w877) => ⟨117, [(0, .one (.a 0 [] (0))), (2, .one (.a 2 [] (0))), (3, .one (.a 3 [] (0))), (5, .one (.t none (.sc (.int .i64 w595)))), (6, .one (.t none (.sc (.int .i64 (IntKind.i64.wrap (1 + v836.1)))))), (7, .one (.h 7 [])), (38, .one (.t none (.sl w600.length (w600.map fun x0 => .sl x0.length (x0.map fun x1 => .sc (.int .i64 x1)))))), (39, .one (.t none (.sc (.int .i64 (w600.length : Int))))), (40, .one (.t none (.sc (.int .i64 w874)))), (1117, .one (.a 0 [] (0)))], [(0, .vr [.sl w875.length (w875.map fun x0 => .sc (.int .i64 x0)), .sc (.int .i64 w876)]), (2, .vr [.sc (.int .i64 0), .os 1 0 [], .os 2 0 []]), (3, .vr [.sc (.int .i64 (IntKind.i64.wrap (1 + v477.1))), .os 1 (w598 ++ [IntKind.i64.wrap (1 + v836.1)]).length ((w598 ++ [IntKind.i64.wrap (1 + v836.1)]).map fun x0 => .sc (.int .i64 x0)), .os 2 w878.length (w878.flatMap fun x0 => [.sl x0.pre.length (x0.pre.map fun x1 => .sc (.int .i64 x1)), .sl x0.maps.length (x0.maps.map fun x1 => .sl x1.length (x1.map fun x2 => .sc (.int .i64 x2)))])]), (7, .os 1 w877.length (w877.map fun x0 => .os 1 x0.length (x0.map fun x1 => .sc (.int .i64 x1))))]⟩
def law26_build_b4 (v477 : Int × Tape) : Int × List Int × Int × List Int × List CRow × List (List Int) → Option ((Int × List Int × Int × List Int × List CRow × List (List Int)) ⊕ (Casc × Tape))
  | (w595, w596, w597, w598, w718, w600) =>
  if 0 < w595 then
    (made_Tape_Next (⟨w596, w597⟩ : Tape) 3).bind fun v836 =>
    chk (capOk 8 (w598.length + 1)) <|
    loopG (law26_build_b10 v477 w595 w598 w600 v836) LFm (0, v836.2.l, v836.2.at_, w718, [])
  else
    exitG <|
    some ((⟨IntKind.i64.wrap (1 + v477.1), w598, w718⟩ : Casc), (⟨w596, w597⟩ : Tape))
def law26_build_h4 (v477 : Int × Tape) : Int × List Int × Int × List Int × List CRow × List (List Int) → Fr
  | (w595, w596, w597, w598, w718, w600) => ⟨117, [(0, .one (.a 0 [] (0))), (2, .one (.a 2 [] (0))), (3, .one (.a 3 [] (0))), (4, .one (.h 4 [])), (5, .one (.t none (.sc (.int .i64 w595)))), (1117, .one (.a 0 [] (0)))], [(0, .vr [.sl w596.length (w596.map fun x0 => .sc (.int .i64 x0)), .sc (.int .i64 w597)]), (2, .vr [.sc (.int .i64 0), .os 1 0 [], .os 2 0 []]), (3, .vr [.sc (.int .i64 (IntKind.i64.wrap (1 + v477.1))), .os 1 w598.length (w598.map fun x0 => .sc (.int .i64 x0)), .os 2 w718.length (w718.flatMap fun x0 => [.sl x0.pre.length (x0.pre.map fun x1 => .sc (.int .i64 x1)), .sl x0.maps.length (x0.maps.map fun x1 => .sl x1.length (x1.map fun x2 => .sc (.int .i64 x2)))])]), (4, .os 1 w600.length (w600.map fun x0 => .os 1 x0.length (x0.map fun x1 => .sc (.int .i64 x1))))]⟩
def law26_build (a0 : Tape) : Option (Casc × Tape) :=
  (made_Tape_Next a0 2).bind fun v477 =>
  (made_Tape_Next v477.2 4).bind fun v478 =>
  loopG (law26_build_b4 v477) LFm (v478.1, v478.2.l, v478.2.at_, [], [], [[]])
theorem law26_build_ok {a0 : Tape} {r : Casc × Tape} (h0 : law26_build a0 = some r) : L 12 [.vr [.sl a0.l.length (a0.l.map fun x0 => .sc (.int .i64 x0)), .sc (.int .i64 a0.at_)]] = some (.agg [.sc (.int .i64 r.1.letters), .sl r.1.sizes.length (r.1.sizes.map fun x0 => .sc (.int .i64 x0)), .sl r.1.rows.length (r.1.rows.flatMap fun x0 => [.sl x0.pre.length (x0.pre.map fun x1 => .sc (.int .i64 x1)), .sl x0.maps.length (x0.maps.map fun x1 => .sl x1.length (x1.map fun x2 => .sc (.int .i64 x2)))])], [.vr [.sl r.2.l.length (r.2.l.map fun x0 => .sc (.int .i64 x0)), .sc (.int .i64 r.2.at_)]]) := by
  simp only [law26_build] at h0
  refine L_run cfn12 fn12 (runF_of bd12 ⟨of_decide_eq_true rfl, of_decide_eq_true rfl⟩ ?_)
  simp only [entryF, entryT, entryO, entryE, isIo]
  refine zq rfl (zr rfl rfl rfl (by simp; rfl) ?_)
  refine thenC_n (zq rfl ?_)
  obtain ⟨v477, f1228, h1⟩ := bnd_some h0
  have f1228k := made_Tape_Next_ok f1228
  try simp at f1228k
  refine zr rfl rfl rfl (by simp [f1228k]; rfl) ?_
  refine thenC_n (zq rfl (zr rfl rfl rfl (by simp; rfl) ?_))
  refine thenC_n (zq rfl (zq rfl ?_))
  obtain ⟨v478, f1229, h2⟩ := bnd_some h1
  have f1229k := made_Tape_Next_ok f1229
  try simp at f1229k
  refine zr rfl rfl rfl (by simp [f1229k]; rfl) ?_
  refine thenC_n (zb rfl (q_loopG h2 (law26_build_h4 v477) rfl rfl (by simp [law26_build_h4]) fun s o1 h3 hr1 => ?_))
  obtain ⟨w595, w596, w597, w598, w718, w600⟩ := s
  simp only [law26_build_b4] at h3
  simp only [law26_build_h4]
  refine zq rfl (zq rfl (zr rfl rfl rfl (by simp; rfl) ?_))
  refine thenC_n ?_
  by_cases c2145 : 0 < w595
  · rw [if_pos c2145] at h3
    refine q_ifT rfl (by simp [c2145]) (q_skip rfl (thenC_n (zq rfl (zb rfl (zq rfl ?_)))))
    obtain ⟨v836, f2146, h4⟩ := bnd_some h3
    have f2146k := made_Tape_Next_ok f2146
    try simp at f2146k
    refine zr rfl rfl rfl (by simp [f2146k]; rfl) ?_
    refine thenC_n (zq rfl ?_)
    obtain ⟨f2147, h5⟩ := chk_some h4
    obtain ⟨f2147a, f2147b⟩ := f2147
    refine zr rfl rfl rfl (by simp [f2147a, f2147b]; rfl) ?_
    refine thenC_n (zq rfl (zr rfl rfl rfl (by simp; rfl) ?_))
    refine thenC_n (zq rfl (zq rfl (q_frz rfl rfl (by simp; rfl) (zr rfl rfl rfl (by simp; rfl) ?_))))
    refine thenC_n (zb rfl (q_loopG h5 (law26_build_h10 v477 w595 w598 w600 v836) rfl rfl (by simp [law26_build_h10]) fun s o2 h6 hr2 => ?_))
    obtain ⟨w874, w875, w876, w878, w877⟩ := s
    simp only [law26_build_b10] at h6
    simp only [law26_build_h10]
    refine zq rfl (zr rfl rfl rfl (by simp; rfl) ?_)
    refine thenC_n (zq rfl ?_)
    by_cases c2352 : w874 < (w600.length : Int)
    · rw [if_pos c2352] at h6
      refine q_ifT rfl (by simp [c2352]) (q_skip rfl (thenC_n (zq rfl (zb rfl (zq rfl ?_)))))
      obtain ⟨v916, f2353, h7⟩ := bnd_some h6
      obtain ⟨f2353a, f2353b, f2353c, f2353d, f2353e⟩ := atI_some f2353
      refine zr rfl rfl rfl (by simp [f2353a, f2353b, f2353c, f2353d, f2353e]; rfl) ?_
      refine thenC_n (zq rfl (zq rfl ?_))
      obtain ⟨v917, f2354, h8⟩ := bnd_some h7
      have f2354k := made_Tape_Next_ok f2354
      try simp at f2354k
      refine zr rfl rfl rfl (by simp [f2354k]; rfl) ?_
      refine thenC_n ?_
      by_cases c2355 : v917.1 = 11
      · rw [if_pos c2355] at h8
        have c2355e := eq_true c2355
        refine q_ifF rfl (by simp [c2355e]) (q_skip rfl (thenC_n (zq rfl (zr rfl rfl rfl (by simp; rfl) ?_))))
        refine thenC_n (zb rfl (q_loopG h8 (law26_build_h31 v477 w595 w598 w600 v836 w874 w878 v916 v917) rfl rfl (by simp [law26_build_h31]) fun s o3 h9 hr3 => ?_))
        obtain ⟨w918, w919⟩ := s
        simp only [law26_build_b31] at h9
        simp only [law26_build_h31]
        refine zq rfl (zq rfl (zr rfl rfl rfl (by simp; rfl) ?_))
        refine thenC_n ?_
        by_cases c2364 : w918 < (IntKind.i64.wrap (1 + v836.1))
        · rw [if_pos c2364] at h9
          refine q_ifT rfl (by simp [c2364]) (q_skip rfl (thenC_n (zq rfl (zb rfl ?_))))
          obtain ⟨f2365, h10⟩ := chk_some h9
          obtain ⟨f2365a, f2365b⟩ := f2365
          obtain ⟨f2366, h11⟩ := chk_some h10
          obtain ⟨f2366a, f2366b⟩ := f2366
          obtain ⟨f2367, h12⟩ := chk_some h11
          obtain ⟨f2367a, f2367b⟩ := f2367
          refine zr rfl rfl rfl (by simp [f2365a, f2365b, f2366a, f2366b, f2367a, f2367b]; rfl) ?_
          refine blockC_n (thenC_n (zr rfl rfl rfl (by simp; rfl) ?_))
          have ho := next_some h12
          refine roundC_n ho ?_
          simp [law26_build_h31]
        · rw [if_neg c2364] at h9
          refine q_ifF rfl (by simp [c2364]) (q_exit rfl (thenC_x ?_))
          obtain ⟨rr3, h10, ho3⟩ := exit_some h9
          have hs3 := hr3 _ ho3
          subst hs3
          refine roundC_x ho3 (blockC_hit2 rfl (blockC_n (thenC_n (zr rfl rfl rfl (by simp; rfl) ?_))))
          have ho := next_some h10
          refine roundC_n ho ?_
          simp [law26_build_h10]
      · rw [if_neg c2355] at h8
        have c2355e := eq_false c2355
        refine q_ifT rfl (by simp [c2355e]) (zq rfl (zr rfl rfl rfl (by simp; rfl) ?_))
        refine thenC_n (zq rfl (zq rfl (zr rfl rfl rfl (by simp; rfl) ?_)))
        refine thenC_n (zb rfl (q_loopG h8 (law26_build_h15 v477 w595 w598 w600 v836 w874 w877 w878 v916) rfl rfl (by simp [law26_build_h15]) fun s o4 h9 hr4 => ?_))
        obtain ⟨w929, w930, w931, w932⟩ := s
        simp only [law26_build_b15] at h9
        simp only [law26_build_h15]
        refine zq rfl (zq rfl (zr rfl rfl rfl (by simp; rfl) ?_))
        refine thenC_n ?_
        by_cases c2417 : w929 < (IntKind.i64.wrap (1 + v477.1))
        · rw [if_pos c2417] at h9
          refine q_ifT rfl (by simp [c2417]) (q_skip rfl (thenC_n (zq rfl (zb rfl (zq rfl (zr rfl rfl rfl (by simp; rfl) ?_))))))
          refine thenC_n (zq rfl ?_)
          obtain ⟨v942, f2418, h10⟩ := bnd_some h9
          have f2418k := made_Tape_Next_ok f2418
          try simp at f2418k
          obtain ⟨v943, f2419, h11⟩ := bnd_some h10
          have f2419k := made_Tape_Next_ok f2419
          try simp at f2419k
          refine zr rfl rfl rfl (by simp [f2418k, f2419k]; rfl) ?_
          refine thenC_n (zq rfl (zq rfl (zr rfl rfl rfl (by simp; rfl) ?_)))
          refine thenC_n (zb rfl (q_loopG h11 (law26_build_h20 v477 w595 w598 w600 v836 w874 w877 w878 v916 w929 w932 v942 v943) rfl rfl (by simp [law26_build_h20]) fun s o5 h12 hr5 => ?_))
          obtain ⟨w945, w947, w948, w946⟩ := s
          simp only [law26_build_b20] at h12
          simp only [law26_build_h20]
          refine zq rfl (zq rfl (zr rfl rfl rfl (by simp; rfl) ?_))
          refine thenC_n ?_
          by_cases c2433 : w945 < (IntKind.i64.wrap (1 + v836.1))
          · rw [if_pos c2433] at h12
            refine q_ifT rfl (by simp [c2433]) (q_skip rfl (thenC_n (zq rfl (zb rfl (zq rfl (zr rfl rfl rfl (by simp; rfl) ?_))))))
            refine thenC_n (zb rfl (zq rfl (zr rfl rfl rfl (by simp; rfl) ?_)))
            refine thenC_n ?_
            by_cases c2434 : v942.1 = 0
            · rw [if_pos c2434] at h12
              have c2434e := eq_true c2434
              refine q_ifT rfl (by simp [c2434e]) ?_
              obtain ⟨f2435, h13⟩ := chk_some h12
              obtain ⟨f2436, h14⟩ := chk_some h13
              obtain ⟨f2436a, f2436b⟩ := f2436
              refine zr rfl rfl rfl (by simp [f2435, f2436a, f2436b]; rfl) ?_
              refine blockC_n (blockC_n (thenC_n (zr rfl rfl rfl (by simp; rfl) ?_)))
              have ho := next_some h14
              refine roundC_n ho ?_
              simp [law26_build_h20]
            · rw [if_neg c2434] at h12
              have c2434e := eq_false c2434
              refine q_ifF rfl (by simp [c2434e]) (zq rfl (zr rfl rfl rfl (by simp; rfl) ?_))
              refine thenC_n ?_
              by_cases c2437 : v942.1 = 1
              · rw [if_pos c2437] at h12
                have c2437e := eq_true c2437
                refine q_ifT rfl (by simp [c2437e]) ?_
                obtain ⟨f2438, h13⟩ := chk_some h12
                obtain ⟨f2438a, f2438b⟩ := f2438
                refine zr rfl rfl rfl (by simp [f2438a, f2438b]; rfl) ?_
                refine blockC_n (blockC_n (thenC_n (zr rfl rfl rfl (by simp; rfl) ?_)))
                have ho := next_some h13
                refine roundC_n ho ?_
                simp [law26_build_h20]
              · rw [if_neg c2437] at h12
                have c2437e := eq_false c2437
                refine q_ifF rfl (by simp [c2437e]) ?_
                obtain ⟨v950, f2439, h13⟩ := bnd_some h12
                have f2439k := made_Tape_Next_ok f2439
                try simp at f2439k
                obtain ⟨f2440, h14⟩ := chk_some h13
                obtain ⟨f2440a, f2440b⟩ := f2440
                refine zr rfl rfl rfl (by simp [f2439k, f2440a, f2440b]; rfl) ?_
                refine blockC_n (blockC_n (thenC_n (zr rfl rfl rfl (by simp; rfl) ?_)))
                have ho := next_some h14
                refine roundC_n ho ?_
                simp [law26_build_h20]
          · rw [if_neg c2433] at h12
            refine q_ifF rfl (by simp [c2433]) (q_exit rfl (thenC_x ?_))
            obtain ⟨rr5, h13, ho5⟩ := exit_some h12
            have hs5 := hr5 _ ho5
            subst hs5
            refine roundC_x ho5 (blockC_hit2 rfl (thenC_n ?_))
            obtain ⟨f2441, h14⟩ := chk_some h13
            obtain ⟨f2441a, f2441b⟩ := f2441
            refine zr rfl rfl rfl (by simp [f2441a, f2441b]; rfl) ?_
            refine blockC_n (thenC_n (zr rfl rfl rfl (by simp; rfl) ?_))
            have ho := next_some h14
            refine roundC_n ho ?_
            simp [law26_build_h15]
        · rw [if_neg c2417] at h9
          refine q_ifF rfl (by simp [c2417]) (q_exit rfl (thenC_x ?_))
          obtain ⟨rr4, h10, ho4⟩ := exit_some h9
          have hs4 := hr4 _ ho4
          subst hs4
          refine roundC_x ho4 (blockC_hit2 rfl (thenC_n ?_))
          obtain ⟨f2442, h11⟩ := chk_some h10
          obtain ⟨f2442a, f2442b⟩ := f2442
          refine zr rfl rfl rfl (by simp [f2442a, f2442b]; rfl) ?_
          refine thenC_n (zq rfl (zr rfl rfl rfl (by simp; rfl) ?_))
          refine thenC_n (zb rfl (q_loopG h11 (law26_build_h31a v477 w595 w598 w600 v836 w874 w878 v916 w930 w931 w932) rfl rfl (by simp [law26_build_h31a]) fun s o6 h12 hr6 => ?_))
          obtain ⟨w951, w952⟩ := s
          simp only [law26_build_b31a] at h12
          simp only [law26_build_h31a]
          refine zq rfl (zq rfl (zr rfl rfl rfl (by simp; rfl) ?_))
          refine thenC_n ?_
          by_cases c2451 : w951 < (IntKind.i64.wrap (1 + v836.1))
          · rw [if_pos c2451] at h12
            refine q_ifT rfl (by simp [c2451]) (q_skip rfl (thenC_n (zq rfl (zb rfl ?_))))
            obtain ⟨f2452, h13⟩ := chk_some h12
            obtain ⟨f2452a, f2452b⟩ := f2452
            obtain ⟨f2453, h14⟩ := chk_some h13
            obtain ⟨f2453a, f2453b⟩ := f2453
            obtain ⟨f2454, h15⟩ := chk_some h14
            obtain ⟨f2454a, f2454b⟩ := f2454
            refine zr rfl rfl rfl (by simp [f2452a, f2452b, f2453a, f2453b, f2454a, f2454b]; rfl) ?_
            refine blockC_n (thenC_n (zr rfl rfl rfl (by simp; rfl) ?_))
            have ho := next_some h15
            refine roundC_n ho ?_
            simp [law26_build_h31a]
          · rw [if_neg c2451] at h12
            refine q_ifF rfl (by simp [c2451]) (q_exit rfl (thenC_x ?_))
            obtain ⟨rr6, h13, ho6⟩ := exit_some h12
            have hs6 := hr6 _ ho6
            subst hs6
            refine roundC_x ho6 (blockC_hit2 rfl (blockC_n (thenC_n (zr rfl rfl rfl (by simp; rfl) ?_))))
            have ho := next_some h13
            refine roundC_n ho ?_
            simp [law26_build_h10]
    · rw [if_neg c2352] at h6
      refine q_ifF rfl (by simp [c2352]) (q_exit rfl (thenC_x ?_))
      obtain ⟨rr2, h7, ho2⟩ := exit_some h6
      have hs2 := hr2 _ ho2
      subst hs2
      refine roundC_x ho2 (blockC_hit2 rfl (thenC_n (zr rfl rfl rfl (by simp; rfl) ?_)))
      refine blockC_n (thenC_n (zr rfl rfl rfl (by simp; rfl) ?_))
      have ho := next_some h7
      refine roundC_n ho ?_
      simp [law26_build_h4]
  · rw [if_neg c2145] at h3
    refine q_ifF rfl (by simp [c2145]) (q_exit rfl (thenC_x ?_))
    obtain ⟨rr1, h4, ho1⟩ := exit_some h3
    have hs1 := hr1 _ ho1
    subst hs1
    refine roundC_x ho1 (blockC_hit2 rfl (thenC_n (zq rfl (zr rfl rfl rfl (by simp; rfl) ?_))))
    refine thenC_n (q_ret rfl ?_)
    cases h4
    simp
end Go.Proofs.YthalofddjlhcjaaDoor
end
section
/- Plain: cascades: what is valid, what a step is. -/
namespace Go.Proofs.YthalofddjlhcjaaDoor
open Go
set_option linter.unusedVariables false
set_option linter.unusedSimpArgs false

theorem compareRows_eq (a b : List Int) (h : a.length < 4611686018427387904) : cascade_compareRows a b = some (cmpR a b) := by
  unfold cascade_compareRows
  simp only [Compare_eq, Compare_list _ _ h, Option.bind_some, Or_eq]
  congr 1
  unfold cmpR cmpI
  split <;> (try split) <;> (try split) <;> simp_all <;> omega
theorem isTuple_eq (sz xs : List Int) (h : xs.length < 4611686018427387904) : cascade_isTuple sz xs = some (tupB sz xs) := by
  unfold cascade_isTuple tupB
  split
  · rename_i hl
    have hl : xs.length = sz.length := by omega
    rw [loop_find (s := (0 : Int)) xs.length (fun k => (k : Int)) (fun k => !decide (0 ≤ xs.getD k 0 ∧ xs.getD k 0 < sz.getD k 0)) (fun _ => some false) (x := some true) rfl (by simp only [LFm]; omega)]
    · rw [find_all, decide_eq_true hl]
      simp only [Bool.not_not, Bool.true_and]
      congr 1
      cases hb : inB sz xs with
      | true =>
        have := (inB_iff sz xs (by omega)).1 hb
        rw [if_pos]
        simp only [List.all_eq_true, List.mem_range, decide_eq_true_eq]
        exact this
      | false =>
        rw [if_neg]
        intro hh
        simp only [List.all_eq_true, List.mem_range, decide_eq_true_eq] at hh
        rw [(inB_iff sz xs (by omega)).2 hh] at hb
        cases hb
    · intro k hk
      simp only [cascade_isTuple_b4]
      rw [if_pos (by omega), atI_getD 0 hk, wrapS (by omega)]
      simp only [Option.bind_some]
      split
      · rename_i h0
        rw [if_pos]
        simp only [Bool.not_eq_true', decide_eq_false_iff_not]; omega
      · rw [atI_getD 0 (by omega)]
        simp only [Option.bind_some]
        split
        · rw [if_pos]
          simp only [Bool.not_eq_true', decide_eq_false_iff_not]; omega
        · rw [if_neg]
          simp only [Bool.not_eq_true', decide_eq_false_iff_not]; omega
    · simp [cascade_isTuple_b4]
  · rename_i hl
    rw [decide_eq_false (by omega)]; rfl
theorem in_eq (sz xs : List Int) (h : xs.length < 4611686018427387904) (hl : xs.length ≤ sz.length) : ref26_in sz xs = some (inB sz xs) := by
  unfold ref26_in
  rw [loop_find (s := (0 : Int)) xs.length (fun k => (k : Int)) (fun k => !decide (0 ≤ xs.getD k 0 ∧ xs.getD k 0 < sz.getD k 0)) (fun _ => some false) (x := some true) rfl (by simp only [LFm]; omega)]
  · rw [find_all]
    simp only [Bool.not_not]
    congr 1
    cases hb : inB sz xs with
    | true =>
      have := (inB_iff sz xs (by omega)).1 hb
      rw [if_pos]
      simp only [List.all_eq_true, List.mem_range, decide_eq_true_eq]
      exact this
    | false =>
      rw [if_neg]
      intro hh
      simp only [List.all_eq_true, List.mem_range, decide_eq_true_eq] at hh
      rw [(inB_iff sz xs (by omega)).2 hh] at hb
      cases hb
  · intro k hk
    simp only [ref26_in_b2]
    rw [if_pos (by omega), atI_getD 0 hk, wrapS (by omega)]
    simp only [Option.bind_some]
    split
    · rename_i h0
      rw [if_pos]
      simp only [Bool.not_eq_true', decide_eq_false_iff_not]; omega
    · rw [atI_getD 0 (by omega)]
      simp only [Option.bind_some]
      split
      · rw [if_pos]
        simp only [Bool.not_eq_true', decide_eq_false_iff_not]; omega
      · rw [if_neg]
        simp only [Bool.not_eq_true', decide_eq_false_iff_not]; omega
  · simp [ref26_in_b2]
theorem IsTuple_eq (c : Casc) (xs : List Int) (h : xs.length < 4611686018427387904) : ref26_IsTuple c xs = some (tupB c.sizes xs) := by
  unfold ref26_IsTuple tupB
  split
  · rename_i hl
    rw [in_eq _ _ h (by omega), decide_eq_true (by omega)]; rfl
  · rw [decide_eq_false (by omega)]; rfl
theorem Less26_eq (a b : List Int) (h : a.length < 4611686018427387904) : ref26_Less a b = some (decide (cmpR a b < 0)) := by
  unfold ref26_Less
  split
  · rename_i hl
    rw [Less_eq _ _ h, cmpL_lt]
    have : cmpR a b = cmpL a b := by unfold cmpR; rw [if_neg (by omega), if_neg (by omega)]
    rw [this]; rfl
  · rename_i hl
    congr 1
    unfold cmpR
    split
    · simp_all
    · rw [if_pos (by omega)]; simp_all
def findI {α : Type} (p : α → Bool) (l : List α) : Int := match l.findIdx? p with | some i => (i : Int) | none => -1
theorem findI_range {α : Type} (p : α → Bool) (l : List α) (d : α) : (match (List.range l.length).find? (fun k => p (l.getD k d)) with | some k => (k : Int) | none => -1) = findI p l := by
  unfold findI
  cases h : (List.range l.length).find? (fun k => p (l.getD k d)) with
  | none =>
    rw [find_none] at h
    have : l.findIdx? p = none := by
      rw [List.findIdx?_eq_none_iff]
      intro x hx
      obtain ⟨i, hi, rfl⟩ := List.getElem_of_mem hx
      have := h i hi
      rwa [getD_of_lt _ hi] at this
    rw [this]
  | some k =>
    rw [find_some] at h
    have : l.findIdx? p = some k := by
      rw [List.findIdx?_eq_some_iff_getElem]
      refine ⟨h.1, by have := h.2.1; rwa [getD_of_lt _ h.1] at this, fun j hj => ?_⟩
      have := h.2.2 j hj
      rw [getD_of_lt _ (by omega)] at this
      simp [this]
    rw [this]
theorem Find_eq (xs : List (List Int)) (x : List Int) (h : xs.length < 4611686018427387904) (h2 : x.length < 4611686018427387904) : ref26_Find xs x = some (findI (fun y => decide (x = y)) xs) := by
  unfold ref26_Find
  rw [loop_find (s := (0 : Int)) xs.length (fun k => (k : Int)) (fun k => decide (x = xs.getD k [])) (fun k => some (k : Int)) (x := some (-1)) rfl (by simp only [LFm]; omega)]
  · rw [← findI_range (fun y => decide (x = y)) xs []]
    split <;> rename_i hh <;> simp only [hh]
  · intro k hk
    simp only [ref26_Find_b2]
    rw [if_pos (by omega), atI_getD [] hk, wrapS (by omega)]
    simp only [Option.bind_some, Same_eq _ _ h2]
  · simp [ref26_Find_b2]
structure CB (c : Casc) : Prop where
  sz : c.sizes.length < 4611686018427387904
  rl : c.rows.length < 4611686018427387904
  row : ∀ r ∈ c.rows, r.pre.length < 4611686018427387904 ∧ r.maps.length < 4611686018427387904 ∧ ∀ m ∈ r.maps, m.length < 4611686018427387904
theorem Row_eq (c : Casc) (p : List Int) (h : CB c) : ref26_Row c p = some (findI (fun r => decide (r.pre = p)) c.rows) := by
  unfold ref26_Row
  have hr := h.rl
  rw [loop_find (s := (0 : Int)) c.rows.length (fun k => (k : Int)) (fun k => decide ((c.rows.getD k ⟨[], []⟩).pre = p)) (fun k => some (k : Int)) (x := some (-1)) rfl (by simp only [LFm]; omega)]
  · rw [← findI_range (fun r => decide (r.pre = p)) c.rows ⟨[], []⟩]
    split <;> rename_i hh <;> simp only [hh]
  · intro k hk
    simp only [ref26_Row_b2]
    rw [if_pos (by omega), atI_getD ⟨[], []⟩ hk, wrapS (by omega)]
    simp only [Option.bind_some]
    rw [Same_eq _ _ (by rw [getD_of_lt _ hk]; exact (h.row _ (List.getElem_mem hk)).1)]
    simp only [Option.bind_some]
  · simp [ref26_Row_b2]
/-- A row's maps, one by one. -/
theorem map_loop {ρ : Type} {b : Int → Option (Int ⊕ ρ)} {m : List Int} {n : Int} {A B : Option ρ} (h : m.length < 4611686018427387904) (step : ∀ k, (h : k < m.length) → b (k : Int) = if 0 ≤ m.getD k 0 ∧ m.getD k 0 < n then nextG ((k + 1 : Nat) : Int) else exitG A) (last : b (m.length : Int) = exitG B) :
    loopG b LFm 0 = if (m.all fun s => decide (0 ≤ s) && decide (s < n)) = true then B else A :=
  list_loop 0 _ h (fun k hk => by rw [step k hk]; simp only [Bool.and_eq_true, decide_eq_true_eq]) last
theorem maps_loop {ρ : Type} {b : Int → Option (Int ⊕ ρ)} {ms : List (List Int)} {n : Int} {A B : Option ρ} (h : ms.length < 4611686018427387904) (step : ∀ k, (h : k < ms.length) → b (k : Int) = if mapB n (ms.getD k []) = true then nextG ((k + 1 : Nat) : Int) else exitG A) (last : b (ms.length : Int) = exitG B) :
    loopG b LFm 0 = if ms.all (mapB n) = true then B else A := list_loop [] _ h step last
theorem validRow_eq (c : Casc) (r : CRow) (h : CB c) (hr : r.pre.length < 4611686018427387904 ∧ r.maps.length < 4611686018427387904 ∧ ∀ m ∈ r.maps, m.length < 4611686018427387904) : cascade_validRow c r = some (rowB c r) := by
  obtain ⟨h1, h2, h3⟩ := hr
  unfold cascade_validRow
  split
  · rename_i hp
    rw [rowB_short c r (by omega)]
  · rename_i hp
    have hp : r.pre.length < c.sizes.length := by omega
    rw [pieceL_to (by omega)]
    simp only [Option.bind_some]
    rw [isTuple_eq _ _ h1]
    simp only [Option.bind_some]
    rw [tupB_take _ _ hp]
    split
    · rename_i hin
      split
      · rename_i hl
        rw [rowB_maps c r hp hin hl]
        rw [maps_loop (ms := r.maps) (n := c.sizes.getD r.pre.length 0) (A := some false) (B := some true) h2]
        · split <;> simp_all
        · intro k hk
          have hm := h3 _ (List.getElem_mem hk)
          rw [← getD_of_lt [] hk] at hm
          generalize hg : r.maps.getD k [] = m at *
          simp only [cascade_validRow_b5]
          rw [if_pos (by omega), atI_getD [] hk, atI_getD 0 hp, hg]
          simp only [Option.bind_some]
          split
          · rename_i hml
            have hmb : mapB (c.sizes.getD r.pre.length 0) m = m.all fun s => decide (0 ≤ s) && decide (s < c.sizes.getD r.pre.length 0) := by
              unfold mapB; rw [decide_eq_true hml, Bool.true_and]
            rw [hmb]
            rw [map_loop (m := m) (n := c.sizes.getD r.pre.length 0) (A := exitG (some false)) (B := nextG ((k + 1 : Nat) : Int)) hm]
            · intro j hj
              simp only [cascade_validRow_b10]
              rw [if_pos (by omega), atI_getD 0 hj, wrapS (by omega)]
              simp only [Option.bind_some]
              split
              · rw [if_neg (by omega)]
              · rw [atI_getD 0 hp]
                simp only [Option.bind_some]
                split
                · rw [if_neg (by omega)]
                · rw [if_pos (by omega)]
            · simp only [cascade_validRow_b10]
              rw [if_neg (by omega), wrapS (by omega)]
          · rename_i hml
            rw [if_neg]
            unfold mapB
            rw [decide_eq_false hml]; simp
        · simp [cascade_validRow_b5]
      · rename_i hl
        rw [rowB_letters c r hl]
    · rename_i hin
      rw [rowB_in c r (by simpa using hin)]
theorem sizes_loop {ρ : Type} {b : Int → Option (Int ⊕ ρ)} {m : List Int} {A B : Option ρ} (h : m.length < 4611686018427387904) (step : ∀ k, (h : k < m.length) → b (k : Int) = if 1 ≤ m.getD k 0 ∧ m.getD k 0 ≤ 32 then nextG ((k + 1 : Nat) : Int) else exitG A) (last : b (m.length : Int) = exitG B) :
    loopG b LFm 0 = if (m.all fun n => decide (1 ≤ n) && decide (n ≤ 32)) = true then B else A :=
  list_loop 0 _ h (fun k hk => by rw [step k hk]; simp only [Bool.and_eq_true, decide_eq_true_eq]) last
theorem rows_loop {ρ : Type} {b : Int → Option (Int ⊕ ρ)} {c : Casc} {A B : Option ρ} (h : c.rows.length < 4611686018427387904) (step : ∀ k, (h : k < c.rows.length) → b (k : Int) = if (rowB c (c.rows.getD k ⟨[], []⟩) && (decide (k = 0) || decide (cmpR (c.rows.getD (k - 1) ⟨[], []⟩).pre (c.rows.getD k ⟨[], []⟩).pre < 0))) = true then nextG ((k + 1 : Nat) : Int) else exitG A) (last : b (c.rows.length : Int) = exitG B) :
    loopG b LFm 0 = if rowsUpB c c.rows.length = true then B else A := by
  rw [loop_find (s := (0 : Int)) c.rows.length (fun k => (k : Int)) (fun k => !(rowB c (c.rows.getD k ⟨[], []⟩) && (decide (k = 0) || decide (cmpR (c.rows.getD (k - 1) ⟨[], []⟩).pre (c.rows.getD k ⟨[], []⟩).pre < 0)))) (fun _ => A) (x := B) rfl (by simp only [LFm]; omega) (fun k hk => ?_) last]
  · rw [find_all]
    simp only [Bool.not_not]
    rfl
  · rw [step k hk]
    generalize (rowB c (c.rows.getD k ⟨[], []⟩) && (decide (k = 0) || decide (cmpR (c.rows.getD (k - 1) ⟨[], []⟩).pre (c.rows.getD k ⟨[], []⟩).pre < 0))) = q
    cases q <;> simp
end Go.Proofs.YthalofddjlhcjaaDoor
end
section
/- Plain: validity as the program and the reference say it; a step of the reference and of the program. -/
namespace Go.Proofs.YthalofddjlhcjaaDoor
open Go
set_option linter.unusedVariables false
set_option linter.unusedSimpArgs false

theorem valid_head (c : Casc) (x : Option Int) : (if c.letters < 1 then some 1 else if 6 < c.letters then some 1 else if 24 < (c.sizes.length : Int) then some 3 else if 48000 < (c.rows.length : Int) then some 3 else x) =
    if c.letters < 1 ∨ 6 < c.letters then some 1 else if 24 < c.sizes.length ∨ 48000 < c.rows.length then some 3 else x := by
  by_cases h1 : c.letters < 1 <;> by_cases h2 : 6 < c.letters <;> by_cases h3 : 24 < c.sizes.length <;> by_cases h4 : 48000 < c.rows.length <;>
    simp only [h1, h2, if_true, if_false, true_or, or_true, false_or, or_false, or_self] <;>
    (try (first | rw [if_pos (by omega), if_pos (by omega)] | (rw [if_neg (by omega)]; first | rw [if_pos (by omega), if_pos (by omega)] | rw [if_neg (by omega), if_neg (by omega)])))
theorem Validate_eq (c : Casc) (h : CB c) : cascade_Validate c = some (validE c) := by
  unfold cascade_Validate validE
  have h1 := h.sz
  have h2 := h.rl
  rw [valid_head]
  by_cases hl : c.letters < 1 ∨ 6 < c.letters
  · rw [if_pos hl, if_pos hl]
  rw [if_neg hl, if_neg hl]
  by_cases hs : 24 < c.sizes.length ∨ 48000 < c.rows.length
  · rw [if_pos hs, if_pos hs]
  rw [if_neg hs, if_neg hs]
  rw [sizes_loop (m := c.sizes) (A := some 23) (B := loopG (cascade_Validate_b12 c) LFm 0) h1]
  · rw [rows_loop (c := c) (A := some 23) (B := some 0) h2]
    · cases (c.sizes.all fun n => decide (1 ≤ n) && decide (n ≤ 32)) <;> cases rowsUpB c c.rows.length <;> simp
    · intro k hk
      have hr := h.row _ (List.getElem_mem hk)
      rw [← getD_of_lt ⟨[], []⟩ hk] at hr
      simp only [cascade_Validate_b12]
      rw [if_pos (by omega), atI_getD ⟨[], []⟩ hk, wrapS (by omega)]
      simp only [Option.bind_some]
      rw [validRow_eq c _ h hr]
      simp only [Option.bind_some]
      split
      · rename_i hv
        rw [hv]
        split
        · rename_i hk0
          have hk1 : k - 1 < c.rows.length := by omega
          have hr1 := h.row _ (List.getElem_mem hk1)
          rw [← getD_of_lt ⟨[], []⟩ hk1] at hr1
          have ek : IntKind.i64.wrap ((k : Int) - 1) = ((k - 1 : Nat) : Int) := by rw [wrapI (by omega) (by omega)]; omega
          rw [ek, atI_getD ⟨[], []⟩ hk1]
          simp only [Option.bind_some]
          rw [compareRows_eq _ _ hr1.1]
          simp only [Option.bind_some]
          have hk0' : ¬ k = 0 := by omega
          split
          · rw [if_neg]; simp only [Bool.and_eq_true, Bool.or_eq_true, decide_eq_true_eq]; omega
          · rw [if_pos]; simp only [Bool.and_eq_true, Bool.or_eq_true, decide_eq_true_eq, true_and]; omega
        · have hk0' : k = 0 := by omega
          rw [if_pos]; simp only [Bool.and_eq_true, Bool.or_eq_true, decide_eq_true_eq, true_and]; omega
      · rename_i hv
        rw [if_neg]; intro hh; simp only [Bool.and_eq_true] at hh; exact hv hh.1
    · simp [cascade_Validate_b12]
  · intro k hk
    simp only [cascade_Validate_b6]
    rw [if_pos (by omega), atI_getD 0 hk, wrapS (by omega)]
    simp only [Option.bind_some]
    split
    · rw [if_neg (by omega)]
    · split
      · rw [if_neg (by omega)]
      · rw [if_pos (by omega)]
  · simp only [cascade_Validate_b6]
    rw [if_neg (by omega)]
theorem rowB_split (c : Casc) (r : CRow) : rowB c r = (decide (r.pre.length < c.sizes.length) && (inB c.sizes r.pre && (decide ((r.maps.length : Int) = c.letters) && r.maps.all (mapB (c.sizes.getD r.pre.length 0))))) := by
  unfold rowB; simp [Bool.and_assoc]
theorem refValidate_maps {σ : Type} (n : Int) (ms : List (List Int)) (A B : Option σ) (b18 : Int → Option (Int ⊕ σ)) (b23 : Int → List Int → Int → Option (Int ⊕ (Int ⊕ σ))) (h2 : ms.length < 4611686018427387904) (h3 : ∀ m ∈ ms, m.length < 4611686018427387904)
    (h18 : ∀ w, b18 w = if w < (ms.length : Int) then (atI ms w).bind fun v => if (v.length : Int) = n then loopG (b23 w v) LFm 0 else exitG A else exitG B)
    (h23 : ∀ w v j, b23 w v j = if j < (v.length : Int) then (atI v j).bind fun x => if x < 0 then exitG (exitG A) else if n ≤ x then exitG (exitG A) else nextG (IntKind.i64.wrap (j + 1)) else exitG (nextG (IntKind.i64.wrap (w + 1)))) :
    loopG b18 LFm 0 = if ms.all (mapB n) = true then B else A := by
  rw [maps_loop (ms := ms) (n := n) (A := A) (B := B) h2]
  · intro k hk
    have hm := h3 _ (List.getElem_mem hk)
    rw [← getD_of_lt [] hk] at hm
    generalize hg : ms.getD k [] = m at *
    rw [h18, if_pos (by omega), atI_getD [] hk, hg]
    simp only [Option.bind_some]
    split
    · rename_i hml
      have hmb : mapB n m = m.all fun s => decide (0 ≤ s) && decide (s < n) := by
        unfold mapB; rw [decide_eq_true hml, Bool.true_and]
      rw [hmb]
      rw [map_loop (m := m) (n := n) (A := exitG A) (B := nextG ((k + 1 : Nat) : Int)) hm]
      · intro j hj
        rw [h23, if_pos (by omega), atI_getD 0 hj, wrapS (by omega)]
        simp only [Option.bind_some]
        split
        · rw [if_neg (by omega)]
        · split
          · rw [if_neg (by omega)]
          · rw [if_pos (by omega)]
      · rw [h23, if_neg (by omega), wrapS (by omega)]
    · rename_i hml
      rw [if_neg]
      unfold mapB
      rw [decide_eq_false hml]; simp
  · rw [h18, if_neg (by omega)]
theorem refValidate_eq (c : Casc) (h : CB c) : ref26_Validate c = some (validE c) := by
  unfold ref26_Validate validE
  have h1 := h.sz
  have h2 := h.rl
  rw [valid_head]
  by_cases hl : c.letters < 1 ∨ 6 < c.letters
  · rw [if_pos hl, if_pos hl]
  rw [if_neg hl, if_neg hl]
  by_cases hs : 24 < c.sizes.length ∨ 48000 < c.rows.length
  · rw [if_pos hs, if_pos hs]
  rw [if_neg hs, if_neg hs]
  rw [sizes_loop (m := c.sizes) (A := some 23) (B := loopG (ref26_Validate_b12 c) LFm 0) h1]
  · rw [rows_loop (c := c) (A := some 23) (B := some 0) h2]
    · cases (c.sizes.all fun n => decide (1 ≤ n) && decide (n ≤ 32)) <;> cases rowsUpB c c.rows.length <;> simp
    · intro k hk
      have hr := h.row _ (List.getElem_mem hk)
      rw [← getD_of_lt ⟨[], []⟩ hk] at hr
      simp only [ref26_Validate_b12]
      rw [if_pos (by omega), atI_getD ⟨[], []⟩ hk]
      simp only [Option.bind_some]
      rw [rowB_split]
      split
      · rename_i hp
        rw [if_neg]; simp only [Bool.and_eq_true, decide_eq_true_eq]; omega
      · rename_i hp
        have hp : (c.rows.getD k ⟨[], []⟩).pre.length < c.sizes.length := by omega
        rw [in_eq _ _ hr.1 (by omega), decide_eq_true hp, Bool.true_and]
        simp only [Option.bind_some]
        split
        · rename_i hin
          rw [hin, Bool.true_and]
          split
          · rename_i hk0
            have hk1 : k - 1 < c.rows.length := by omega
            have hr1 := h.row _ (List.getElem_mem hk1)
            rw [← getD_of_lt ⟨[], []⟩ hk1] at hr1
            have ek : IntKind.i64.wrap ((k : Int) - 1) = ((k - 1 : Nat) : Int) := by rw [wrapI (by omega) (by omega)]; omega
            have hk0' : ¬ k = 0 := by omega
            rw [ek, atI_getD ⟨[], []⟩ hk1, decide_eq_false hk0', Bool.false_or]
            simp only [Option.bind_some]
            rw [Less26_eq _ _ hr1.1]
            simp only [Option.bind_some]
            split
            · rename_i hlt
              rw [hlt, Bool.and_true]
              split
              · rename_i hl
                rw [decide_eq_true hl, Bool.true_and, atI_getD 0 hp]
                simp only [Option.bind_some]
                rw [refValidate_maps _ _ (exitG (some 23)) (nextG ((k + 1 : Nat) : Int)) _ (fun w v => ref26_Validate_b23 (c.sizes.getD (c.rows.getD k ⟨[], []⟩).pre.length 0) w v) hr.2.1 hr.2.2]
                · intro w
                  simp only [ref26_Validate_b18]
                  rw [wrapS (by omega)]
                · intro w v j
                  simp only [ref26_Validate_b23]
              · rename_i hl
                rw [if_neg]; rw [decide_eq_false hl]; simp
            · rename_i hlt
              rw [if_neg]; simp only [Bool.not_eq_true] at hlt; rw [hlt]; simp
          · have hk0' : k = 0 := by omega
            rw [decide_eq_true hk0', Bool.true_or, Bool.and_true]
            split
            · rename_i hl
              rw [decide_eq_true hl, Bool.true_and, atI_getD 0 hp]
              simp only [Option.bind_some]
              rw [refValidate_maps _ _ (exitG (some 23)) (nextG ((k + 1 : Nat) : Int)) _ (fun w v => ref26_Validate_b23a (c.sizes.getD (c.rows.getD k ⟨[], []⟩).pre.length 0) w v) hr.2.1 hr.2.2]
              · intro w
                simp only [ref26_Validate_b18a]
                rw [wrapS (by omega)]
              · intro w v j
                simp only [ref26_Validate_b23a]
            · rename_i hl
              rw [if_neg]; rw [decide_eq_false hl]; simp
        · rename_i hin
          rw [if_neg]; simp only [Bool.not_eq_true] at hin; rw [hin]; simp
    · simp [ref26_Validate_b12]
  · intro k hk
    simp only [ref26_Validate_b6]
    rw [if_pos (by omega), atI_getD 0 hk, wrapS (by omega)]
    simp only [Option.bind_some]
    split
    · rw [if_neg (by omega)]
    · split
      · rw [if_neg (by omega)]
      · rw [if_pos (by omega)]
  · simp only [ref26_Validate_b6]
    rw [if_neg (by omega)]
/-- The search among ascending rows. -/
theorem mid_eq (i j : Nat) (h : i + j < 4611686018427387904) : IntKind.i64.wrap (shrI .u64 (IntKind.u64.wrap (IntKind.i64.wrap ((i : Int) + j))) 1) = (((i + j) / 2 : Nat) : Int) := by
  rw [wrapI (x := (i : Int) + j) (by omega) (by omega)]
  have e : IntKind.u64.wrap ((i : Int) + j) = (i : Int) + j := by rw [IntKind.wrap_u64]; omega
  have e2 : shrI .u64 ((i : Int) + j) 1 = (((i + j) / 2 : Nat) : Int) := by
    unfold shrI
    have : (2 : Int) ^ (min (1 : Int).toNat IntKind.u64.bits) = 2 := by decide
    rw [this, Int.fdiv_eq_ediv_of_nonneg _ (by omega)]
    omega
  rw [e, e2, wrapI (by omega) (by omega)]
theorem Search_eq (rs : List CRow) (p : List Int) (hu : UpR rs) (hr : rs.length ≤ 48000) (hb : ∀ r ∈ rs, r.pre.length < 4611686018427387904) : slices_BinarySearchFunc_Lapi_CascadeRow_api_CascadeRow_Lint_cascade_Runner_Step_1 rs p = some ((lowB rs p : Int), hasB rs p) := by
  unfold slices_BinarySearchFunc_Lapi_CascadeRow_api_CascadeRow_Lint_cascade_Runner_Step_1
  refine loopG_eq (fun s => ∃ i j : Nat, s = ((i : Int), (j : Int)) ∧ i ≤ j ∧ j ≤ rs.length ∧ Between rs p i j) (fun s => (s.2 - s.1).toNat) ⟨0, rs.length, rfl, by omega, by omega, fun k h1 => by omega, fun k h1 h2 => by omega⟩ (by simp only [LFm]; omega) ?_
  rintro _ ⟨i, j, rfl, hij, hj, hB⟩
  simp only [slices_BinarySearchFunc_Lapi_CascadeRow_api_CascadeRow_Lint_cascade_Runner_Step_1_b3]
  by_cases hlt : i < j
  · left
    rw [if_pos (by omega), chk_pos _ (by omega), mid_eq i j (by omega)]
    have hm : (i + j) / 2 < rs.length := by omega
    rw [atI_nat hm]
    simp only [Option.bind_some, cascade_Runner_Step_1]
    rw [compareRows_eq _ _ (hb _ (List.getElem_mem hm))]
    simp only [Option.bind_some]
    split
    · rename_i hc
      rw [wrapS (by omega)]
      exact ⟨_, rfl, ⟨(i + j) / 2 + 1, j, rfl, by omega, hj, between_up hu hB hm hc⟩, by simp only; omega⟩
    · rename_i hc
      exact ⟨_, rfl, ⟨i, (i + j) / 2, rfl, by omega, by omega, between_down hu hB hm hc⟩, by simp only; omega⟩
  · right
    have : i = j := by omega
    subst this
    rw [if_neg (by omega)]
    congr 1
    have hl := low_of hB hj
    split
    · rename_i h
      have h : i < rs.length := by omega
      rw [atI_nat h]
      simp only [Option.bind_some, cascade_Runner_Step_1]
      rw [compareRows_eq _ _ (hb _ (List.getElem_mem h))]
      simp only [Option.bind_some]
      obtain ⟨f1, f2⟩ := found_of hu hB h
      rw [f2, hl]
    · rename_i h
      obtain ⟨f1, f2⟩ := found_none hB (by omega) hj
      rw [← f2, hl]
end Go.Proofs.YthalofddjlhcjaaDoor
end
section
/- Plain: the tape. -/
namespace Go.Proofs.YthalofddjlhcjaaDoor
open Go
set_option linter.unusedVariables false
set_option linter.unusedSimpArgs false

/-- A tape at a place of it. -/
structure TapeOk (t : Tape) : Prop where
  a0 : 0 ≤ t.at_
  a1 : t.at_ ≤ t.l.length
  a2 : t.l.length ≤ 80
theorem made_Mod_in (x n : Int) (h1 : 1 ≤ n) (h2 : n < 4611686018427387904) : ∃ v, made_Mod x n = some v ∧ 0 ≤ v ∧ v < n := by
  have hx : x.tmod n < n := Int.tmod_lt_of_pos _ (by omega)
  have hy : -n < x.tmod n := Int.lt_tmod_of_pos x (by omega)
  unfold made_Mod
  rw [if_neg (by omega), chk_pos _ (by omega)]
  split
  · rw [wrapI (by omega) (by omega)]; exact ⟨_, rfl, by omega, by omega⟩
  · exact ⟨_, rfl, by omega, by omega⟩
theorem next_in {t : Tape} (ht : TapeOk t) (n : Int) (h1 : 1 ≤ n) (h2 : n < 4611686018427387904) : ∃ v t', made_Tape_Next t n = some (v, t') ∧ 0 ≤ v ∧ v < n ∧ TapeOk t' := by
  obtain ⟨a0, a1, a2⟩ := ht
  unfold made_Tape_Next
  split
  · exact ⟨_, _, rfl, by omega, by omega, a0, a1, a2⟩
  · rename_i hlt
    rw [wrapI (x := t.at_ + 1) (by omega) (by omega), wrapI (by omega) (by omega)]
    obtain ⟨k, hk⟩ := Int.eq_ofNat_of_zero_le a0
    have e : t.at_ + 1 - 1 = (k : Int) := by omega
    rw [e, atI_nat (by omega)]
    obtain ⟨v, hv, h3, h4⟩ := made_Mod_in t.l[k] n h1 h2
    simp only [Option.bind_some, hv]
    exact ⟨_, _, rfl, h3, h4, by simp only; omega, by simp only; omega, a2⟩
theorem new_in (l : List Int) : ∃ t, made_New l = some t ∧ TapeOk t := by
  unfold made_New
  split
  · rename_i h
    have := pieceL_to (xs := l) (k := 80) (by omega)
    simp only [Int.cast_ofNat_Int] at this
    rw [this]
    exact ⟨_, rfl, by simp, by simp, by simp only [List.length_take]; omega⟩
  · exact ⟨_, rfl, by simp, by simp, by simp; omega⟩
/-- Letters of a word. -/
def lettersB (m : Int) (w : ByteArray) : Prop := ∀ k, ∀ h : k < w.size, 97 ≤ (w[k].toNat : Int) ∧ (w[k].toNat : Int) < 97 + m
theorem bytesOf_size (l : List Int) : (bytesOf l).size = l.length := by simp [bytesOf, ByteArray.size]
theorem bytesOf_get (l : List Int) (k : Nat) (h : k < (bytesOf l).size) : (bytesOf l)[k] = UInt8.ofNat (l[k]'(by rw [bytesOf_size] at h; exact h)).toNat := by
  simp [bytesOf, ByteArray.getElem_eq_getElem_data]
theorem word_in {t : Tape} (ht : TapeOk t) (m most : Int) (hm : 1 ≤ m ∧ m ≤ 26) (hk : 0 ≤ most ∧ most < 1000) : ∃ w t', made_Tape_Word t m most = some (w, t') ∧ lettersB m w ∧ (w.size : Int) ≤ most ∧ TapeOk t' := by
  unfold made_Tape_Word
  rw [wrapI (by omega) (by omega)]
  obtain ⟨n, t1, e1, n0, n1, ht1⟩ := next_in ht (most + 1) (by omega) (by omega)
  simp only [e1, Option.bind_some]
  refine Exists.elim (loopG_rule (b := made_Tape_Word_b3 m) (fun s => 0 ≤ s.1 ∧ s.1 + s.2.2.2.length = n ∧ TapeOk ⟨s.2.1, s.2.2.1⟩ ∧ ∀ x ∈ s.2.2.2, 97 ≤ x ∧ x < 97 + m) (fun s => s.1.toNat) (fun r => lettersB m r.1 ∧ (r.1.size : Int) ≤ most ∧ TapeOk r.2) ?_ LFm (n, t1.l, t1.at_, []) ⟨n0, by simp, ht1, by simp⟩ (by simp only [LFm]; omega)) fun r h => ⟨r.1, r.2, h⟩
  rintro ⟨q, l, a, b⟩ ⟨i1, i2, i3, i4⟩
  simp only at i1 i2 i3 i4 ⊢
  simp only [made_Tape_Word_b3]
  by_cases hq : 0 < q
  · left
    obtain ⟨v, t2, e2, v0, v1, ht2⟩ := next_in i3 m (by omega) (by omega)
    rw [if_pos hq, e2]
    simp only [Option.bind_some]
    rw [chk_pos _ (by unfold capOk; omega), wrapI (x := q - 1) (by omega) (by omega), wrapI (x := 97 + v) (by omega) (by omega), wrap8 (by omega) (by omega)]
    refine ⟨_, rfl, ⟨by simp only; omega, by simp only [List.length_append, List.length_singleton]; omega, ht2, ?_⟩, by simp only; omega⟩
    intro x hx
    rcases List.mem_append.1 hx with h | h
    · exact i4 x h
    · have : x = 97 + v := by simpa using h
      omega
  · right
    rw [if_neg hq]
    refine ⟨_, rfl, fun k hk => ?_, by rw [bytesOf_size]; omega, i3⟩
    rw [bytesOf_get]
    have := i4 _ (List.getElem_mem (by rw [bytesOf_size] at hk; exact hk))
    generalize b[k]'_ = z at this
    simp only [UInt8.toNat_ofNat']
    omega
end Go.Proofs.YthalofddjlhcjaaDoor
end
section
/- Plain: steps and the flat form. -/
namespace Go.Proofs.YthalofddjlhcjaaDoor
open Go
set_option linter.unusedVariables false
set_option linter.unusedSimpArgs false

theorem rowIx_findI (c : Casc) (p : List Int) : findI (fun r => decide (r.pre = p)) c.rows = match rowIx c p with | some k => (k : Int) | none => -1 := rfl
/-- A cascade within bounds: what the proofs ask of its size. -/
theorem CB.of {c : Casc} (hv : Valid c) : CB c := by
  have h1 := hv.s1
  have h2 := hv.r1
  refine ⟨by omega, by omega, fun r hr => ?_⟩
  obtain ⟨i, hi, rfl⟩ := List.getElem_of_mem hr
  obtain ⟨f1, f2, f3, f4⟩ := rowB_facts (hv.row i hi)
  have h3 := hv.l2
  refine ⟨by omega, by omega, fun m hm => ?_⟩
  obtain ⟨j, hj, rfl⟩ := List.getElem_of_mem hm
  obtain ⟨g1, -⟩ := f4 j hj
  rw [getD_of_lt _ hj, getD_of_lt _ f1] at g1
  have := hv.sz _ f1
  rw [getD_of_lt _ f1] at this
  omega
theorem Runner_Step_eq (c : Casc) (hv : Valid c) (x : List Int) (l : Int) (hx : x.length < 4611686018427387904) : cascade_Runner_Step ⟨c⟩ x l = some (stepG c x l) := by
  have hcb := CB.of hv
  unfold cascade_Runner_Step stepG
  rw [isTuple_eq _ _ hx]
  simp only [Option.bind_some]
  by_cases ht : tupB c.sizes x = true
  case neg => rw [if_neg ht, if_neg (fun h => ht h.1)]
  rw [if_pos ht]
  by_cases h0 : l < 0
  · rw [if_pos h0, if_neg (by omega)]
  rw [if_neg h0]
  by_cases h1 : c.letters ≤ l
  · rw [if_pos h1, if_neg (by omega)]
  rw [if_neg h1, if_pos ⟨ht, by omega, by omega⟩]
  have hlen : x.length = c.sizes.length ∧ inB c.sizes x = true := by simpa [tupB] using ht
  have hs1 := hv.s1
  rw [chk_pos _ (by unfold makeOk; omega)]
  obtain ⟨n, rfl⟩ := Int.eq_ofNat_of_zero_le (show 0 ≤ l by omega)
  have hlt : (n : Int) < c.letters := by omega
  rw [loop_find (n := x.length) (fun k => ((k : Int), (stV c x n).take k ++ List.replicate (x.length - k) 0)) (fun k => !hasB c.rows (x.take k)) (fun _ => some ([], 23)) (x := some (stV c x n, 0)) (by simp) (by simp only [LFm]; omega)]
  · rw [find_all]
    simp only [Bool.not_not, Int.toNat_natCast]
    unfold stOk
    split <;> rfl
  · intro k hk
    simp only [cascade_Runner_Step_b5]
    rw [if_pos (by omega), atI_nat hk, pieceL_to (by omega)]
    simp only [Option.bind_some]
    rw [Search_eq _ _ hv.up (by exact hv.r1) (fun r hr => (hcb.row r hr).1)]
    simp only [Option.bind_some]
    cases hh : hasB c.rows (x.take k) with
    | false => simp
    | true =>
      obtain ⟨low, s, k1, k2, k3, e1, e2, e3⟩ := step_cell hv ht hlt hk hh
      rw [e1, e2, atI_nat k1]
      simp only [Option.bind_some, if_true]
      rw [atI_nat k2]
      simp only [Option.bind_some]
      rw [atI_nat k3]
      simp only [Option.bind_some]
      have hy : k < ((stV c x n).take k ++ List.replicate (x.length - k) 0).length := by simp [stV_length]; omega
      rw [atI_nat hy, wrapS (by omega)]
      simp only [Option.bind_some, Bool.not_true, Bool.false_eq_true, if_false]
      congr 2
      have hvv : (stV c x n)[k]? = some (stVal c x n k) := stV_get c x n k hk
      have hl := stV_length c x n
      rw [Int.toNat_natCast, ← e3, List.set_append_right _ _ (by simp; omega)]
      have e : k - (List.take k (stV c x n)).length = 0 := by simp; omega
      rw [e, List.take_add_one, hvv]
      obtain ⟨m, hm⟩ : ∃ m, x.length - k = m + 1 := ⟨x.length - k - 1, by omega⟩
      rw [hm, show x.length - (k + 1) = m by omega]
      simp [List.replicate_succ]
  · simp only [cascade_Runner_Step_b5]
    rw [if_neg (by omega)]
    simp [List.take_of_length_le (Nat.le_of_eq (stV_length c x n))]
theorem step_eq (c : Casc) (hv : Valid c) (x : List Int) (l : Int) (ht : tupB c.sizes x = true) (h0 : 0 ≤ l) (h1 : l < c.letters) : ref26_step c x l = some (stepG c x l) := by
  have hcb := CB.of hv
  have hlen : x.length = c.sizes.length ∧ inB c.sizes x = true := by simpa [tupB] using ht
  have hs1 := hv.s1
  unfold ref26_step stepG
  rw [if_pos ⟨ht, h0, h1⟩]
  obtain ⟨n, rfl⟩ := Int.eq_ofNat_of_zero_le h0
  rw [loop_find (n := x.length) (fun k => ((k : Int), (stV c x n).take k)) (fun k => !hasB c.rows (x.take k)) (fun _ => some ([], 23)) (x := some (stV c x n, 0)) (by simp) (by simp only [LFm]; omega)]
  · rw [find_all]
    simp only [Bool.not_not, Int.toNat_natCast]
    unfold stOk
    split <;> rfl
  · intro k hk
    simp only [ref26_step_b3]
    rw [if_pos (by omega), pieceL_to (by omega)]
    simp only [Option.bind_some]
    rw [Row_eq _ _ hcb, rowIx_findI]
    simp only [Option.bind_some]
    cases hh : hasB c.rows (x.take k) with
    | false => rw [rowIx_none hh]; simp
    | true =>
      obtain ⟨low, s, k1, k2, k3, e1, e2, e3⟩ := step_cell hv ht h1 hk hh
      rw [rowIx_has hv.up hh, e1]
      simp only
      rw [if_neg (by omega), atI_nat k1]
      simp only [Option.bind_some]
      rw [atI_nat k2]
      simp only [Option.bind_some]
      rw [atI_nat hk]
      simp only [Option.bind_some]
      rw [e2, atI_nat k3]
      simp only [Option.bind_some]
      have hl := stV_length c x n
      rw [chk_pos _ (by unfold capOk; simp; omega), wrapS (by omega)]
      simp only [Bool.not_true, Bool.false_eq_true, if_false]
      have hvv : (stV c x n)[k]? = some (stVal c x n k) := stV_get c x n k hk
      rw [List.take_add_one, hvv, e3]
      rfl
  · simp only [ref26_step_b3]
    rw [if_neg (by omega)]
    simp [List.take_of_length_le (Nat.le_of_eq (stV_length c x n))]
end Go.Proofs.YthalofddjlhcjaaDoor
end
section
/- Plain: the flat form of the program is that of the reference. -/
namespace Go.Proofs.YthalofddjlhcjaaDoor
open Go
set_option linter.unusedVariables false
set_option linter.unusedSimpArgs false

/-- A tuple's text. -/
def tupKey (xs : List Int) : ByteArray := bytesOf (xs.map IntKind.u8.wrap)
theorem key_eq (xs : List Int) (h : xs.length < 140737488355328) : cascade_key xs = some (tupKey xs) := by
  unfold cascade_key
  rw [chk_pos _ (by unfold makeOk; omega)]
  rw [loop_to xs.length (fun k => ((k : Int), (xs.map IntKind.u8.wrap).take k ++ List.replicate (xs.length - k) 0)) (by simp) (by simp only [LFm]; omega) (x := some (tupKey xs))]
  · intro k hk
    simp only [cascade_key_b3]
    have hy : k < ((xs.map IntKind.u8.wrap).take k ++ List.replicate (xs.length - k) 0).length := by simp; omega
    rw [if_pos (by omega), atI_nat hk, wrapS (by omega)]
    simp only [Option.bind_some]
    rw [atI_nat hy]
    simp only [Option.bind_some]
    congr 2
    rw [Int.toNat_natCast, List.set_append_right _ _ (by simp; omega)]
    have e : k - (List.take k (xs.map IntKind.u8.wrap)).length = 0 := by simp; omega
    rw [e, List.take_add_one, List.getElem?_eq_getElem (by simpa using hk)]
    obtain ⟨m, hm⟩ : ∃ m, xs.length - k = m + 1 := ⟨xs.length - k - 1, by omega⟩
    rw [hm, show xs.length - (k + 1) = m by omega]
    simp [List.replicate_succ]
  · simp only [cascade_key_b3]
    rw [if_neg (by omega), List.take_of_length_le (by simp)]
    simp [tupKey]
theorem tupKey_inj {sizes : List Int} (hz : ∀ i, i < sizes.length → sizes.getD i 0 ≤ 32) {x y : List Int} (hx : tupB sizes x = true) (hy : tupB sizes y = true) (h : tupKey x = tupKey y) : x = y := by
  have h1 : x.length = sizes.length ∧ inB sizes x = true := by simpa [tupB] using hx
  have h2 : y.length = sizes.length ∧ inB sizes y = true := by simpa [tupB] using hy
  apply list_ext_getD (by omega)
  intro i hi
  have a := (inB_iff sizes x (by omega)).1 h1.2 i hi
  have b := (inB_iff sizes y (by omega)).1 h2.2 i (by omega)
  have c := hz i (by omega)
  have e : (bytesOf (x.map IntKind.u8.wrap)).data.toList = (bytesOf (y.map IntKind.u8.wrap)).data.toList := by unfold tupKey at h; rw [h]
  simp only [bytesOf, List.map_map] at e
  have e2 := congrArg (fun l : List UInt8 => l[i]?) e
  rw [getD_of_lt 0 hi] at a ⊢
  rw [getD_of_lt 0 (show i < y.length by omega)] at b ⊢
  simp only [List.getElem?_map, List.getElem?_eq_getElem hi, List.getElem?_eq_getElem (show i < y.length by omega), Option.map_some, Option.some.injEq, Function.comp] at e2
  rw [wrap8 (by omega) (by omega), wrap8 (by omega) (by omega)] at e2
  have e3 := congrArg UInt8.toNat e2
  simp only [UInt8.toNat_ofNat'] at e3
  omega
def tupIx (ts : List (List Int)) (y : List Int) : Option Nat := ts.findIdx? fun z => decide (y = z)
theorem tupIx_lt {ts : List (List Int)} {y : List Int} {k : Nat} (h : tupIx ts y = some k) : k < ts.length := by
  unfold tupIx at h
  rw [List.findIdx?_eq_some_iff_getElem] at h
  exact h.1
/-- The numbers of the texts of tuples. -/
def tabF (i : Nat) : List (List Int) → List (ByteArray × Int)
  | [] => []
  | t :: ts => (tupKey t, (i : Int)) :: tabF (i + 1) ts
theorem tabF_get {sizes : List Int} (hz : ∀ i, i < sizes.length → sizes.getD i 0 ≤ 32) {y : List Int} (hy : tupB sizes y = true) : ∀ (ts : List (List Int)) (i : Nat), (∀ t ∈ ts, tupB sizes t = true) → getM (tupKey y) (tabF i ts) = (tupIx ts y).map fun k => ((i + k : Nat) : Int)
  | [], i, _ => rfl
  | t :: ts, i, h => by
    have ih := tabF_get hz hy ts (i + 1) (fun u hu => h u (by simp [hu]))
    simp only [tabF, getM, tupIx, List.findIdx?_cons]
    by_cases e : y = t
    · subst e; simp
    · have : ¬ tupKey t = tupKey y := fun hh => e (tupKey_inj hz (h t (by simp)) hy hh).symm
      rw [if_neg this, decide_eq_false e]
      simp only [ih, tupIx, Bool.false_eq_true, if_false, Option.map_map]
      congr 1
      funext k
      simp only [Function.comp]
      omega
theorem tabF_set {sizes : List Int} (hz : ∀ i, i < sizes.length → sizes.getD i 0 ≤ 32) {y : List Int} (hy : tupB sizes y = true) : ∀ (ts : List (List Int)) (i : Nat), (∀ t ∈ ts, tupB sizes t = true) → tupIx ts y = none → setM (tupKey y) ((i + ts.length : Nat) : Int) (tabF i ts) = tabF i (ts ++ [y])
  | [], i, _, _ => rfl
  | t :: ts, i, h, hn => by
    have hn2 : tupIx ts y = none ∧ ¬ y = t := by
      unfold tupIx at hn ⊢
      rw [List.findIdx?_eq_none_iff] at hn ⊢
      refine ⟨fun x hx => hn x (by simp [hx]), fun e => ?_⟩
      have := hn t (by simp)
      simp [e] at this
    have ih := tabF_set hz hy ts (i + 1) (fun u hu => h u (by simp [hu])) hn2.1
    have : ¬ tupKey t = tupKey y := fun hh => hn2.2 (tupKey_inj hz (h t (by simp)) hy hh).symm
    simp only [tabF, setM, List.cons_append]
    rw [if_neg this, List.length_cons, show i + (ts.length + 1) = i + 1 + ts.length by omega, ih]
/-- What holds of the tuples along the way. -/
structure FlOk (c : Casc) (ts : List (List Int)) : Prop where
  tup : ∀ t ∈ ts, tupB c.sizes t = true
  len : ts.length ≤ 2000
theorem stepG_ok {c : Casc} {x : List Int} {l : Int} (h : (stepG c x l).2 = 0) : tupB c.sizes x = true ∧ 0 ≤ l ∧ l < c.letters ∧ stOk c x = true ∧ stepG c x l = (stV c x l.toNat, 0) := by
  unfold stepG at h ⊢
  split at h
  · rename_i h1
    split at h
    · rename_i h2
      exact ⟨h1.1, h1.2.1, h1.2.2, h2, by rw [if_pos h1, if_pos h2]⟩
    · cases h
  · cases h
theorem stepG_tup {c : Casc} (hv : Valid c) {x : List Int} {l : Int} (h : (stepG c x l).2 = 0) : tupB c.sizes (stepG c x l).1 = true := by
  obtain ⟨h1, h2, h3, h4, e⟩ := stepG_ok h
  rw [e]
  have hlen : x.length = c.sizes.length ∧ inB c.sizes x = true := by simpa [tupB] using h1
  simp only [tupB, Bool.and_eq_true, decide_eq_true_eq]
  refine ⟨by rw [stV_length]; exact hlen.1, ?_⟩
  rw [inB_iff _ _ (by rw [stV_length]; omega)]
  intro i hi
  rw [stV_length] at hi
  have hh : hasB c.rows (x.take i) = true := by
    unfold stOk at h4
    exact List.all_eq_true.1 h4 i (List.mem_range.2 hi)
  obtain ⟨low, s, k1, k2, k3, e1, e2, e3⟩ := step_cell hv h1 (l := l.toNat) (by omega) hi hh
  obtain ⟨_, e1'⟩ := low_row hv.up hh
  obtain ⟨f1, f2, f3, f4⟩ := rowB_facts (hv.row low k1)
  obtain ⟨g1, g2⟩ := f4 l.toNat k2
  rw [getD_of_lt _ k2] at g1 g2
  have hg := g2 s k3
  rw [getD_of_lt _ k3] at hg
  have hpl : c.rows[low].pre.length = i := by
    have : c.rows[low].pre = x.take i := by
      have e5 : ∀ (a b : Nat) (ha : a < c.rows.length) (hb : b < c.rows.length), a = b → c.rows[a].pre = c.rows[b].pre := fun a b ha hb h => by subst h; rfl
      rw [← e1', ← e5 (lowB c.rows (x.take i)) low (by omega) k1 e1]
    rw [this]
    simp; omega
  rw [hpl] at hg
  rw [getD_of_lt 0 (by rw [stV_length]; exact hi)]
  have := stV_get c x l.toNat i hi
  rw [List.getElem?_eq_getElem (by rw [stV_length]; exact hi)] at this
  rw [Option.some.inj this, e3]
  exact hg
end Go.Proofs.YthalofddjlhcjaaDoor
end
section
/- Plain: the flat form of the program is that of the reference; both exist. -/
namespace Go.Proofs.YthalofddjlhcjaaDoor
open Go
set_option linter.unusedVariables false
set_option linter.unusedSimpArgs false
set_option maxHeartbeats 1000000

theorem rep_set (xs : List Int) (m : Nat) (v : Int) : (xs ++ List.replicate (m + 1) 0).set xs.length v = (xs ++ [v]) ++ List.replicate m 0 := by
  rw [List.set_append_right _ _ (Nat.le_refl _), Nat.sub_self, List.replicate_succ, List.set_cons_zero]; simp
/-- A row of the flat form: the reference's. -/
def flRowR (c : Casc) (n : Nat) (i : Nat) (s : Int × List (List Int) × List (ByteArray × Int) × List Int) (t : Int × List (List Int) × List Int) : Prop :=
  ∃ (k : Nat) (ts : List (List Int)) (row : List Int), k ≤ n ∧ row.length = k ∧ i < ts.length ∧ FlOk c ts ∧ s = ((k : Int), ts, tabF 0 ts, row ++ List.replicate (n - k) 0) ∧ t = ((k : Int), ts, row)
def flAllR (c : Casc) (s : Int × List (List Int) × List (ByteArray × Int) × List (List Int)) (t : Int × List (List Int) × List (List Int)) : Prop :=
  ∃ (i : Nat) (ts next : List (List Int)), next.length = i ∧ FlOk c ts ∧ i ≤ ts.length ∧ s = ((i : Int), ts, tabF 0 ts, next) ∧ t = ((i : Int), ts, next)
theorem flat_row {c : Casc} (hv : Valid c) (e : Int) (i : Nat) (next : List (List Int)) (hn : next.length = i) (n : Nat) (hl : c.letters = n) (s : Int × List (List Int) × List (ByteArray × Int) × List Int) (t : Int × List (List Int) × List Int) (h : flRowR c n i s t) :
    RndR (flRowR c n i) (SumR (flAllR c) (· = ·)) (cascade_Flat_b14 c (⟨c⟩, e) (i : Int) next s) (ref26_Flat_b13 c (i : Int) next t) := by
  obtain ⟨k, ts, row, hk, hrow, hi, hok, rfl, rfl⟩ := h
  have hsz : ∀ i, i < c.sizes.length → c.sizes.getD i 0 ≤ 32 := fun i hi => (hv.sz i hi).2
  have hl2 := hv.l2
  have hs1 := hv.s1
  have htl := hok.len
  simp only [cascade_Flat_b14, ref26_Flat_b13]
  by_cases hkl : (k : Int) < c.letters
  case neg =>
    rw [if_neg hkl, if_neg hkl]
    refine rnd_exit ?_
    rw [chk_pos _ (by unfold capOk; omega), chk_pos _ (by unfold capOk; omega), wrapS (by omega)]
    have : n - k = 0 := by omega
    rw [this]
    refine rnd_next ⟨i + 1, ts, next ++ [row], by simp [hn], hok, by omega, ?_, rfl⟩
    simp
  rw [if_pos hkl, if_pos hkl, atI_nat hi]
  simp only [Option.bind_some]
  have hti := hok.tup _ (List.getElem_mem hi)
  have htl2 : ts[i].length = c.sizes.length := by
    have : ts[i].length = c.sizes.length ∧ inB c.sizes ts[i] = true := by simpa [tupB] using hti
    exact this.1
  rw [Runner_Step_eq c hv _ _ (by omega), step_eq c hv _ _ hti (by omega) hkl]
  simp only [Option.bind_some]
  by_cases h0 : (stepG c ts[i] k).2 = 0
  case neg => rw [if_neg h0, if_neg h0]; exact rnd_exit (rnd_exit (optR_rfl _))
  rw [if_pos h0, if_pos h0]
  have hy := stepG_tup hv h0
  generalize (stepG c ts[i] k).1 = y at *
  have hyl : y.length = c.sizes.length ∧ inB c.sizes y = true := by simpa [tupB] using hy
  rw [key_eq _ (by omega), Find_eq _ _ (by omega) (by omega)]
  simp only [Option.bind_some]
  rw [tabF_get hsz hy ts 0 hok.tup]
  have hfi : findI (fun z => decide (y = z)) ts = match tupIx ts y with | some k => (k : Int) | none => -1 := rfl
  rw [hfi]
  obtain ⟨m, hm⟩ : ∃ m, n - k = m + 1 := ⟨n - k - 1, by omega⟩
  have hy2 : k < (row ++ List.replicate (n - k) 0).length := by simp; omega
  cases hx : tupIx ts y with
  | some j =>
    have hj := tupIx_lt hx
    simp only [Option.map_some, Option.isSome_some, if_true, Option.getD_some, Nat.zero_add]
    rw [if_neg (by omega), atI_nat hy2, chk_pos _ (by unfold capOk; omega), wrapS (by omega)]
    simp only [Option.bind_some]
    refine rnd_next ⟨k + 1, ts, row ++ [(j : Int)], by omega, by simp [hrow], hi, hok, ?_, rfl⟩
    rw [hm, Int.toNat_natCast, ← hrow, rep_set, hrow, show n - (k + 1) = m by omega]
  | none =>
    simp only [Option.map_none, Option.isSome_none, Bool.false_eq_true, if_false, if_true]
    by_cases hfull : ts.length = 2000
    · rw [if_pos (by omega), chk_pos _ (by unfold capOk; omega), if_pos (by omega)]
      exact rnd_exit (rnd_exit (optR_rfl _))
    · rw [if_neg (by omega), chk_pos _ (by unfold capOk; omega), chk_pos _ (by unfold capOk; omega), if_neg (by omega), atI_nat hy2, chk_pos _ (by unfold capOk; omega), wrapS (by omega)]
      simp only [Option.bind_some]
      refine rnd_next ⟨k + 1, ts ++ [y], row ++ [(ts.length : Int)], by omega, by simp [hrow], by simp; omega, ⟨?_, by simp; omega⟩, ?_, rfl⟩
      · intro t ht
        rcases List.mem_append.1 ht with ht | ht
        · exact hok.tup t ht
        · have : t = y := by simpa using ht
          rw [this]; exact hy
      · have := tabF_set hsz hy ts 0 hok.tup hx
        rw [Nat.zero_add] at this
        rw [hm, Int.toNat_natCast, ← hrow, rep_set, hrow, show n - (k + 1) = m by omega, this]
theorem flat_all {c : Casc} (hv : Valid c) (e : Int) (s : Int × List (List Int) × List (ByteArray × Int) × List (List Int)) (t : Int × List (List Int) × List (List Int)) (h : flAllR c s t) :
    RndR (flAllR c) (· = ·) (cascade_Flat_b10 c (⟨c⟩, e) s) (ref26_Flat_b9 c t) := by
  obtain ⟨i, ts, next, hn, hok, hi, rfl, rfl⟩ := h
  have hl1 := hv.l1
  have hl2 := hv.l2
  simp only [cascade_Flat_b10, ref26_Flat_b9]
  by_cases hlt : i < ts.length
  · rw [if_pos (by omega), if_pos (by omega), chk_pos _ (by unfold makeOk; omega)]
    obtain ⟨n, hn2⟩ := Int.eq_ofNat_of_zero_le (show 0 ≤ c.letters by omega)
    refine loop_sim (flRowR c n i) _ (flat_row hv e i next hn n hn2) LFm _ _ ⟨0, ts, [], by omega, rfl, hlt, hok, ?_, rfl⟩
    rw [hn2]
    simp
  · rw [if_neg (by omega), if_neg (by omega)]
    exact rnd_exit (optR_rfl _)
theorem Flat_eq (c : Casc) (x : List Int) (h : CB c) (hx : x.length < 1000000) : cascade_Flat c x = ref26_Flat c x := by
  unfold cascade_Flat ref26_Flat cascade_NewRunner
  rw [Validate_eq c h, refValidate_eq c h]
  simp only [Option.bind_some]
  by_cases hv : validE c = 0
  case neg => rw [if_neg hv, if_neg hv]; simp only [Option.bind_some]; rw [if_neg hv]
  rw [if_pos hv, if_pos hv]
  simp only [Option.bind_some, if_true]
  rw [isTuple_eq _ _ (by omega), IsTuple_eq _ _ (by omega)]
  simp only [Option.bind_some]
  by_cases ht : tupB c.sizes x = true
  case neg => rw [if_neg ht, if_neg ht]
  have hV := valid_of c hv
  rw [if_pos ht, if_pos ht, key_eq _ (by omega)]
  simp only [Option.bind_some]
  rw [chk_pos _ (by unfold capOk; omega), chk_pos _ (by unfold capOk; omega)]
  refine optR_eq (loop_sim (flAllR c) (· = ·) (flat_all hV 0) LFm _ _ ⟨0, [x], [], rfl, ⟨?_, by simp⟩, by simp, rfl, rfl⟩)
  intro t h
  have : t = x := by simpa using h
  rw [this]; exact ht
/-- The reference's flat form exists. -/
theorem refFlat_some (c : Casc) (x : List Int) (h : CB c) (hx : x.length < 1000000) : ∃ r, ref26_Flat c x = some r ∧ short r.1 ∧ short r.2.1 := by
  unfold ref26_Flat
  rw [refValidate_eq c h]
  simp only [Option.bind_some]
  have hsh : short [] := ⟨by simp, by simp⟩
  by_cases hv : validE c = 0
  case neg => rw [if_neg hv]; exact ⟨_, rfl, hsh, hsh⟩
  rw [if_pos hv, IsTuple_eq _ _ (by omega)]
  simp only [Option.bind_some]
  by_cases ht : tupB c.sizes x = true
  case neg => rw [if_neg ht]; exact ⟨_, rfl, hsh, hsh⟩
  have hV := valid_of c hv
  have hl1 := hV.l1
  have hl2 := hV.l2
  have hs1 := hV.s1
  rw [if_pos ht, chk_pos _ (by unfold capOk; omega)]
  have htl : ∀ {ts : List (List Int)}, FlOk c ts → short ts := fun {ts} hok => ⟨by have := hok.len; omega, fun m hm => by
    have h1 := hok.tup m hm
    have : m.length = c.sizes.length ∧ inB c.sizes m = true := by simpa [tupB] using h1
    omega⟩
  obtain ⟨n, hn2⟩ := Int.eq_ofNat_of_zero_le (show 0 ≤ c.letters by omega)
  refine loopG_rule (fun s => ∃ (i : Nat) (ts next : List (List Int)), next.length = i ∧ FlOk c ts ∧ i ≤ ts.length ∧ (∀ r ∈ next, r.length ≤ n) ∧ s = ((i : Int), ts, next)) (fun s => 2000 - s.1.toNat) _ ?_ LFm _ ⟨0, [x], [], rfl, ⟨fun t h => (by rw [List.mem_singleton.1 h]; exact ht), by simp⟩, by simp, by simp, rfl⟩ (by simp only [LFm]; omega)
  rintro _ ⟨i, ts, next, hn, hok, hi, hr, rfl⟩
  simp only [ref26_Flat_b9]
  by_cases hlt : i < ts.length
  case neg =>
    right
    rw [if_neg (by omega)]
    exact ⟨_, rfl, htl hok, ⟨by have := hok.len; show next.length < _; omega, fun m hm => by have := hr m hm; omega⟩⟩
  rw [if_pos (by omega)]
  have hlen := hok.len
  have key : ∃ o, loopG (ref26_Flat_b13 c (i : Int) next) LFm (0, ts, []) = some o ∧ (match o with | .inl s => ∃ (ts' : List (List Int)) (row : List Int), FlOk c ts' ∧ i < ts'.length ∧ row.length = n ∧ s = (((i + 1 : Nat) : Int), ts', next ++ [row]) | .inr r => short r.1 ∧ short r.2.1) := by
    refine loopG_rule (b := ref26_Flat_b13 c (i : Int) next) (fun s => ∃ (k : Nat) (ts : List (List Int)) (row : List Int), k ≤ n ∧ row.length = k ∧ i < ts.length ∧ FlOk c ts ∧ s = ((k : Int), ts, row)) (fun s => n - s.1.toNat) _ ?_ LFm (0, ts, []) ⟨0, ts, [], by omega, rfl, hlt, hok, rfl⟩ (by simp only [LFm]; omega)
    rintro _ ⟨k, ts, row, hk, hrow, hi, hok, rfl⟩
    have hlen := hok.len
    simp only [ref26_Flat_b13]
    by_cases hkl : (k : Int) < c.letters
    case neg =>
      right
      rw [if_neg hkl, chk_pos _ (by unfold capOk; omega), wrapS (by omega)]
      exact ⟨_, rfl, ts, row, hok, hi, by omega, rfl⟩
    rw [if_pos hkl, atI_nat hi]
    simp only [Option.bind_some]
    have hti := hok.tup _ (List.getElem_mem hi)
    rw [step_eq c hV _ _ hti (by omega) hkl]
    simp only [Option.bind_some]
    by_cases h0 : (stepG c ts[i] k).2 = 0
    case neg => rw [if_neg h0]; right; exact ⟨_, rfl, hsh, hsh⟩
    rw [if_pos h0]
    have hy := stepG_tup hV h0
    generalize (stepG c ts[i] k).1 = y at *
    have hyl : y.length = c.sizes.length ∧ inB c.sizes y = true := by simpa [tupB] using hy
    rw [Find_eq _ _ (by omega) (by omega)]
    simp only [Option.bind_some]
    have hfi : findI (fun z => decide (y = z)) ts = match tupIx ts y with | some k => (k : Int) | none => -1 := rfl
    rw [hfi]
    cases hx : tupIx ts y with
    | some j =>
      simp only
      rw [if_neg (by omega), chk_pos _ (by unfold capOk; omega), wrapS (by omega)]
      left
      exact ⟨_, rfl, ⟨k + 1, ts, row ++ [(j : Int)], by omega, by simp [hrow], hi, hok, rfl⟩, by simp only [Int.toNat_natCast]; omega⟩
    | none =>
      simp only [if_true]
      rw [chk_pos _ (by unfold capOk; omega)]
      by_cases hfull : ts.length = 2000
      · rw [if_pos (by omega)]; right; exact ⟨_, rfl, hsh, hsh⟩
      · rw [if_neg (by omega), chk_pos _ (by unfold capOk; omega), wrapS (by omega)]
        left
        refine ⟨_, rfl, ⟨k + 1, ts ++ [y], row ++ [(ts.length : Int)], by omega, by simp [hrow], by simp; omega, ⟨?_, by simp; omega⟩, rfl⟩, by simp only [Int.toNat_natCast]; omega⟩
        intro t ht
        rcases List.mem_append.1 ht with ht | ht
        · exact hok.tup t ht
        · have : t = y := by simpa using ht
          rw [this]; exact hy
  obtain ⟨o, ho, hP⟩ := key
  rw [ho]
  cases o with
  | inl s =>
    left
    obtain ⟨ts', row, h1, h2, h3, rfl⟩ := hP
    refine ⟨_, rfl, ⟨i + 1, ts', next ++ [row], by simp [hn], h1, by omega, ?_, rfl⟩, ?_⟩
    · intro r hrm
      rcases List.mem_append.1 hrm with h | h
      · exact hr r h
      · have : r = row := by simpa using h
        rw [this, h3]; exact Nat.le_refl _
    · have := h1.len
      simp only [Int.toNat_natCast]
      omega
  | inr r => right; exact ⟨r, rfl, hP⟩
end Go.Proofs.YthalofddjlhcjaaDoor
end
section
/- Plain facts on the prefixes and rows that law26.build makes. No program. -/
namespace Go.Proofs.YthalofddjlhcjaaDoor
set_option linter.unusedVariables false
set_option linter.unusedSimpArgs false

theorem cmpL_snoc : ∀ (p q : List Int) (s t : Int), p.length = q.length → cmpL p q < 0 → cmpL (p ++ [s]) (q ++ [t]) < 0
  | [], [], s, t, _, h => by simp [cmpL] at h
  | [], _ :: _, s, t, hl, h => by simp at hl
  | _ :: _, [], s, t, hl, h => by simp at hl
  | a :: x, b :: y, s, t, hl, h => by
    simp only [List.cons_append, cmpL] at h ⊢
    split at h
    · rename_i h1; rw [if_pos h1]; decide
    · rename_i h1
      rw [if_neg h1]
      split at h
      · omega
      · rename_i h2
        rw [if_neg h2]
        exact cmpL_snoc x y s t (by simpa using hl) h
theorem cmpL_last : ∀ (p : List Int) (s t : Int), s < t → cmpL (p ++ [s]) (p ++ [t]) < 0
  | [], s, t, h => by simp [cmpL, h]
  | a :: x, s, t, h => by
    simp only [List.cons_append, cmpL]
    rw [if_neg (by omega), if_neg (by omega)]
    exact cmpL_last x s t h

theorem cmpR_short {a b : List Int} (h : a.length < b.length) : cmpR a b < 0 := by simp [cmpR, h]
theorem cmpR_same {a b : List Int} (h : a.length = b.length) : cmpR a b = cmpL a b := by simp [cmpR, h]

/-- The prefixes with one state more. -/
def nextOf (size : Nat) (p : List Int) : List (List Int) := (List.range size).map fun s : Nat => p ++ [(s : Int)]
def nextP (size : Nat) (pfx : List (List Int)) : List (List Int) := pfx.flatMap (nextOf size)

theorem nextOf_mem {size : Nat} {p q : List Int} (h : q ∈ nextOf size p) : ∃ s : Nat, s < size ∧ q = p ++ [(s : Int)] := by
  simp only [nextOf, List.mem_map, List.mem_range] at h
  obtain ⟨s, hs, rfl⟩ := h
  exact ⟨s, hs, rfl⟩

/-- The list of the prefixes of a length. -/
structure PfxOk (sizes : List Int) (pfx : List (List Int)) : Prop where
  len : ∀ p ∈ pfx, p.length = sizes.length
  inn : ∀ p ∈ pfx, inB sizes p = true
  up : pfx.Pairwise fun a b => cmpL a b < 0
  cnt : pfx.length ≤ 3 ^ sizes.length

theorem pfxOk_start : PfxOk [] [[]] := ⟨by simp, by simp [inB], by simp, by simp⟩

theorem inB_snoc {sizes p : List Int} {n s : Int} (hl : p.length = sizes.length) (h : inB sizes p = true) (h0 : 0 ≤ s) (h1 : s < n) : inB (sizes ++ [n]) (p ++ [s]) = true := by
  unfold inB at h ⊢
  rw [List.zip_append hl, List.all_append, h]
  simp [h0, h1]
theorem inB_more {sizes p : List Int} {n : Int} (hl : p.length ≤ sizes.length) (h : inB sizes p = true) : inB (sizes ++ [n]) p = true := by
  rw [inB_iff _ _ (by simp; omega)]
  intro i hi
  have := (inB_iff _ _ hl).1 h i hi
  rw [show (sizes ++ [n]).getD i 0 = sizes.getD i 0 by rw [List.getD_eq_getElem?_getD, List.getD_eq_getElem?_getD, List.getElem?_append_left (by omega)]]
  exact this

theorem nextP_len (size : Nat) (pfx : List (List Int)) : (nextP size pfx).length = size * pfx.length := by
  induction pfx with
  | nil => simp [nextP]
  | cons p l ih =>
    simp only [nextP] at ih ⊢
    rw [List.flatMap_cons, List.length_append, ih]
    simp [nextOf, Nat.mul_add, Nat.add_comm]

theorem nextP_up (size : Nat) : ∀ (pfx : List (List Int)) (n : Nat), (∀ p ∈ pfx, p.length = n) → (pfx.Pairwise fun a b => cmpL a b < 0) → (nextP size pfx).Pairwise fun a b => cmpL a b < 0
  | [], _, _, _ => by simp [nextP]
  | p :: l, n, hl, hu => by
    obtain ⟨h1, h2⟩ := List.pairwise_cons.1 hu
    have ih := nextP_up size l n (fun q hq => hl q (by simp [hq])) h2
    rw [nextP, List.flatMap_cons, List.pairwise_append]
    refine ⟨?_, ih, ?_⟩
    · rw [nextOf, List.pairwise_map]
      exact List.Pairwise.imp (R := fun a b : Nat => a < b) (fun {a b} (h : a < b) => cmpL_last p (a : Int) (b : Int) (by omega)) List.pairwise_lt_range
    · intro a ha b hb
      obtain ⟨s, hs, rfl⟩ := nextOf_mem ha
      obtain ⟨q, hq, hb⟩ := List.mem_flatMap.1 hb
      obtain ⟨t, ht, rfl⟩ := nextOf_mem hb
      exact cmpL_snoc p q _ _ (by rw [hl p (by simp), hl q (by simp [hq])]) (h1 q hq)

theorem pfxOk_next {sizes : List Int} {pfx : List (List Int)} (h : PfxOk sizes pfx) (size : Nat) (h3 : size ≤ 3) : PfxOk (sizes ++ [(size : Int)]) (nextP size pfx) := by
  refine ⟨?_, ?_, nextP_up size pfx _ h.len h.up, ?_⟩
  · intro q hq
    obtain ⟨p, hp, hq⟩ := List.mem_flatMap.1 hq
    obtain ⟨s, hs, rfl⟩ := nextOf_mem hq
    simp [h.len p hp]
  · intro q hq
    obtain ⟨p, hp, hq⟩ := List.mem_flatMap.1 hq
    obtain ⟨s, hs, rfl⟩ := nextOf_mem hq
    exact inB_snoc (h.len p hp) (h.inn p hp) (by omega) (by omega)
  · rw [nextP_len]
    simp only [List.length_append, List.length_cons, List.length_nil, Nat.zero_add, Nat.pow_succ]
    have := Nat.mul_le_mul h3 h.cnt
    omega

/-- The rows so far. -/
structure RowsOk (letters : Int) (sizes : List Int) (rows : List CRow) : Prop where
  row : ∀ r ∈ rows, rowB ⟨letters, sizes, []⟩ r = true
  up : rows.Pairwise fun a b => cmpR a.pre b.pre < 0

theorem rowsOk_start (letters : Int) : RowsOk letters [] [] := ⟨by simp, by simp⟩

theorem rowsOk_size {letters : Int} {sizes : List Int} {rows : List CRow} (h : RowsOk letters sizes rows) (n : Int) : RowsOk letters (sizes ++ [n]) rows := by
  refine ⟨fun r hr => ?_, h.up⟩
  have hl : r.pre.length < sizes.length := by
    have := h.row r hr
    simp only [rowB, Bool.and_eq_true, decide_eq_true_eq] at this
    exact this.1.1.1
  have := h.row r hr
  simp only [rowB, Bool.and_eq_true, decide_eq_true_eq] at this ⊢
  refine ⟨⟨⟨by simp; omega, inB_more (by omega) this.1.1.2⟩, this.1.2⟩, ?_⟩
  rw [show (sizes ++ [n]).getD r.pre.length 0 = sizes.getD r.pre.length 0 by rw [List.getD_eq_getElem?_getD, List.getD_eq_getElem?_getD, List.getElem?_append_left hl]]
  exact this.2

theorem rowsOk_short {letters : Int} {sizes : List Int} {rows : List CRow} (h : RowsOk letters sizes rows) : ∀ r ∈ rows, r.pre.length < sizes.length := fun r hr => by
  have := h.row r hr
  simp only [rowB, Bool.and_eq_true, decide_eq_true_eq] at this
  exact this.1.1.1

/-- One row more. -/
theorem rowsOk_snoc {letters : Int} {sizes : List Int} {n : Int} {rows : List CRow} {p : List Int} {maps : List (List Int)} (h : RowsOk letters (sizes ++ [n]) rows) (hp : p.length = sizes.length) (hin : inB sizes p = true)
    (hm : (maps.length : Int) = letters) (hmm : ∀ m ∈ maps, mapB n m = true) (hlt : ∀ r ∈ rows, cmpR r.pre p < 0) : RowsOk letters (sizes ++ [n]) (rows ++ [⟨p, maps⟩]) := by
  refine ⟨fun r hr => ?_, ?_⟩
  · rcases List.mem_append.1 hr with hr | hr
    · exact h.row r hr
    · obtain rfl : r = ⟨p, maps⟩ := by simpa using hr
      simp only [rowB, Bool.and_eq_true, decide_eq_true_eq, List.all_eq_true]
      refine ⟨⟨⟨by simp; omega, inB_more (by omega) hin⟩, hm⟩, ?_⟩
      rw [hp, show (sizes ++ [n]).getD sizes.length 0 = n by rw [List.getD_eq_getElem?_getD, List.getElem?_append_right (by omega)]; simp]
      exact hmm
  · rw [List.pairwise_append]
    exact ⟨h.up, by simp, fun a ha b hb => by
      have e : b = ⟨p, maps⟩ := by simpa using hb
      subst e
      exact hlt a ha⟩

theorem valid_build {letters : Int} {sizes : List Int} {rows : List CRow} (h : RowsOk letters sizes rows) (hl : 1 ≤ letters ∧ letters ≤ 6) (hs : sizes.length ≤ 24) (hs2 : ∀ n ∈ sizes, 1 ≤ n ∧ n ≤ 32) (hr : rows.length ≤ 48000) : validE ⟨letters, sizes, rows⟩ = 0 := by
  unfold validE
  simp only []
  rw [if_neg (by omega), if_neg (by omega), if_pos]
  rw [Bool.and_eq_true]
  refine ⟨?_, ?_⟩
  · simp only [List.all_eq_true, Bool.and_eq_true, decide_eq_true_eq]; exact hs2
  · simp only [rowsUpB, List.all_eq_true, List.mem_range, Bool.and_eq_true, Bool.or_eq_true, decide_eq_true_eq]
    intro i hi
    rw [getD_of_lt _ hi]
    refine ⟨h.row _ (List.getElem_mem _), ?_⟩
    by_cases h0 : i = 0
    · exact .inl h0
    · right
      rw [getD_of_lt _ (by omega)]
      exact List.pairwise_iff_getElem.1 h.up (i - 1) i (by omega) hi (by omega)
end Go.Proofs.YthalofddjlhcjaaDoor
end
section
/- Plain: the cascades that the tape gives. -/
namespace Go.Proofs.YthalofddjlhcjaaDoor
open Go
set_option linter.unusedVariables false
set_option linter.unusedSimpArgs false
set_option maxHeartbeats 1000000

/-- What is known of a built cascade. -/
structure Built (c : Casc) : Prop where
  l1 : 1 ≤ c.letters
  l2 : c.letters ≤ 2
  s1 : c.sizes.length ≤ 3
  sz : ∀ z ∈ c.sizes, 1 ≤ z ∧ z ≤ 3
  rl : c.rows.length ≤ 40 * c.sizes.length
  rok : RowsOk c.letters c.sizes c.rows
theorem built_valid {c : Casc} (h : Built c) : validE c = 0 := valid_build h.rok ⟨h.l1, by have := h.l2; omega⟩ (by have := h.s1; omega) (fun n hn => by have := h.sz n hn; omega) (by have := h.rl; have := h.s1; omega)
/-- The rows so far come before the prefixes from k on. -/
def Ahead (rs : List CRow) (ps : List (List Int)) (k : Nat) : Prop := ∀ r ∈ rs, ∀ j, (h : j < ps.length) → k ≤ j → cmpR r.pre ps[j] < 0
theorem ahead_next {rs : List CRow} {ps : List (List Int)} {k : Nat} (h : Ahead rs ps k) : Ahead rs ps (k + 1) := fun r hr j hj hk => h r hr j hj (by omega)
theorem ahead_snoc {szs : List Int} {rs : List CRow} {ps : List (List Int)} {k : Nat} {ms : List (List Int)} (hp : PfxOk szs ps) (hk : k < ps.length) (h : Ahead rs ps k) : Ahead (rs ++ [⟨ps[k], ms⟩]) ps (k + 1) := fun r hr j hj hkj => by
  rcases List.mem_append.1 hr with hr | hr
  · exact h r hr j hj (by omega)
  · obtain rfl : r = ⟨ps[k], ms⟩ := by simpa using hr
    rw [cmpR_same (by rw [hp.len _ (List.getElem_mem _), hp.len _ (List.getElem_mem _)])]
    exact List.pairwise_iff_getElem.1 hp.up k j hk hj (by omega)
theorem ahead_first {lt : Int} {szs : List Int} {rs : List CRow} {ps : List (List Int)} (hr : RowsOk lt szs rs) (hp : PfxOk szs ps) : Ahead rs ps 0 := fun r h j hj _ => cmpR_short (by rw [hp.len _ (List.getElem_mem _)]; exact rowsOk_short hr r h)
theorem pow3_le {n : Nat} (h : n ≤ 3) : 3 ^ n ≤ 27 := by
  match n, h with
  | 0, _ => decide
  | 1, _ => decide
  | 2, _ => decide
  | 3, _ => decide
theorem pfx_loop {ρ : Type} {b : Int × List (List Int) → Option ((Int × List (List Int)) ⊕ ρ)} {p : List Int} {sz : Nat} {X : List (List Int) → Option ρ} (nx : List (List Int)) (hp : p.length ≤ 100) (hn : nx.length + sz ≤ 1000000)
    (hb : ∀ s n, b (s, n) = if s < (sz : Int) then (chk (capOk 8 p.length) <| chk (capOk 8 (p.length + 1)) <| chk (capOk 24 (n.length + 1)) <| nextG (IntKind.i64.wrap (s + 1), n ++ [p ++ [s]])) else exitG (X n)) : loopG b LFm (0, nx) = X (nx ++ nextOf sz p) := by
  refine loop_to sz (fun k => ((k : Int), nx ++ nextOf k p)) (by simp [nextOf]) (by simp only [LFm]; omega) (fun k hk => ?_) ?_
  · have : (nextOf k p).length = k := by simp [nextOf]
    rw [hb, if_pos (by omega), chk_pos _ (by unfold capOk; omega), chk_pos _ (by unfold capOk; omega), chk_pos _ (by unfold capOk; simp only [List.length_append]; omega), wrapS (by omega)]
    congr 2
    rw [List.append_assoc]
    congr 1
    simp [nextOf, List.range_succ]
  · rw [hb, if_neg (by omega)]
/-- A map's cells. -/
theorem cells_in (v836 v943 : Int × Tape) (w929 : Int) (w932 : List (List Int)) (v942 : Int × Tape) (sz : Nat) (h1 : IntKind.i64.wrap (1 + v836.1) = sz) (hs : 1 ≤ sz ∧ sz ≤ 3) (hv : 0 ≤ v943.1 ∧ v943.1 < sz) (ht : TapeOk v943.2) (hl : w932.length ≤ 100) (hw : 0 ≤ w929 ∧ w929 < 100) :
    ∃ m t', loopG (law26_build_b20 v836 w929 w932 v942 v943) LFm (0, v943.2.l, v943.2.at_, []) = some (.inl (w929 + 1, t'.l, t'.at_, w932 ++ [m])) ∧ TapeOk t' ∧ mapB sz m = true := by
  refine Exists.elim (loopG_rule (b := law26_build_b20 v836 w929 w932 v942 v943) (fun s => ∃ (k : Nat) (t : Tape) (m : List Int), k ≤ sz ∧ TapeOk t ∧ m.length = k ∧ (∀ x ∈ m, 0 ≤ x ∧ x < sz) ∧ s = ((k : Int), t.l, t.at_, m)) (fun s => sz - s.1.toNat)
    (fun o => ∃ m t', o = .inl (w929 + 1, t'.l, t'.at_, w932 ++ [m]) ∧ TapeOk t' ∧ mapB sz m = true) ?_ LFm _ ⟨0, v943.2, [], by omega, ht, rfl, by simp, rfl⟩ (by simp only [LFm]; omega)) fun r h => ?_
  · rintro _ ⟨k, t, m, hk, htk, hm, hin, rfl⟩
    simp only [law26_build_b20, h1]
    by_cases hlt : k < sz
    case neg =>
      right
      rw [if_neg (by omega), chk_pos _ (by unfold capOk; omega), wrapI (by omega) (by omega)]
      refine ⟨_, rfl, m, t, rfl, htk, ?_⟩
      unfold mapB
      rw [Bool.and_eq_true, decide_eq_true_eq]
      refine ⟨by omega, ?_⟩
      simp only [List.all_eq_true, Bool.and_eq_true, decide_eq_true_eq]
      exact hin
    left
    have more : ∀ (t' : Tape) (x : Int), TapeOk t' → 0 ≤ x ∧ x < sz → (∃ s', nextG (IntKind.i64.wrap ((k : Int) + 1), t'.l, t'.at_, m ++ [x]) = some (Sum.inl (β := (Int × List Int × Int × List (List Int)) ⊕ ((Int × List Int × Int × List CRow × List (List Int)) ⊕ ((Int × List Int × Int × List Int × List CRow × List (List Int)) ⊕ (Casc × Tape)))) s') ∧ (∃ (k : Nat) (t : Tape) (m : List Int), k ≤ sz ∧ TapeOk t ∧ m.length = k ∧ (∀ x ∈ m, 0 ≤ x ∧ x < sz) ∧ s' = ((k : Int), t.l, t.at_, m)) ∧ sz - s'.1.toNat < sz - ((k : Int)).toNat) := fun t' x ht' hx => by
      rw [wrapS (by omega)]
      refine ⟨_, rfl, ⟨k + 1, t', m ++ [x], by omega, ht', by simp [hm], ?_, rfl⟩, by simp only [Int.toNat_natCast]; omega⟩
      intro y hy
      rcases List.mem_append.1 hy with h | h
      · exact hin y h
      · have : y = x := by simpa using h
        rw [this]; exact hx
    rw [if_pos (by omega)]
    by_cases h0 : v942.1 = 0
    · rw [if_pos h0, chk_pos _ (by omega), chk_pos _ (by unfold capOk; omega), wrapI (x := (k : Int) + v943.1) (by omega) (by omega)]
      have e1 : 0 ≤ Int.tmod ((k : Int) + v943.1) sz := Int.tmod_nonneg _ (by omega)
      have e2 : Int.tmod ((k : Int) + v943.1) sz < sz := Int.tmod_lt_of_pos _ (by omega)
      exact more t _ htk ⟨e1, e2⟩
    · rw [if_neg h0]
      by_cases h1 : v942.1 = 1
      · rw [if_pos h1, chk_pos _ (by unfold capOk; omega)]
        exact more t _ htk hv
      · rw [if_neg h1]
        obtain ⟨v, t2, e2, v0, v1, ht2⟩ := next_in htk sz (by omega) (by omega)
        rw [show (⟨t.l, t.at_⟩ : Tape) = t from rfl, e2]
        simp only [Option.bind_some]
        rw [chk_pos _ (by unfold capOk; omega)]
        exact more t2 v ht2 ⟨v0, v1⟩
  · obtain ⟨h2, m, t', rfl, h3, h4⟩ := h
    exact ⟨m, t', h2, h3, h4⟩
end Go.Proofs.YthalofddjlhcjaaDoor
end
section
/- Plain: the cascades that the tape gives, whole; its tuples. -/
namespace Go.Proofs.YthalofddjlhcjaaDoor
open Go
set_option linter.unusedVariables false
set_option linter.unusedSimpArgs false
set_option maxHeartbeats 1000000

/-- The maps of a row, and the prefixes behind it. -/
theorem maps_in (v477 v836 : Int × Tape) (w874 : Nat) (nx : List (List Int)) (rs : List CRow) (p : List Int) (t : Tape) (lt : Nat) (sz : Nat) (h0 : IntKind.i64.wrap (1 + v477.1) = lt) (hlt : 1 ≤ lt ∧ lt ≤ 2) (h1 : IntKind.i64.wrap (1 + v836.1) = sz) (hs : 1 ≤ sz ∧ sz ≤ 3) (ht : TapeOk t)
    (hr : rs.length ≤ 1000) (hp : p.length ≤ 100) (hn : nx.length ≤ 1000) (hw : w874 ≤ 1000) :
    ∃ (ms : List (List Int)) (t' : Tape), loopG (law26_build_b15 v477 v836 (w874 : Int) nx rs p) LFm (0, t.l, t.at_, []) = some (.inl (((w874 + 1 : Nat) : Int), t'.l, t'.at_, rs ++ [⟨p, ms⟩], nx ++ nextOf sz p)) ∧ TapeOk t' ∧ ms.length = lt ∧ ∀ m ∈ ms, mapB sz m = true := by
  refine Exists.elim (loopG_rule (b := law26_build_b15 v477 v836 (w874 : Int) nx rs p) (fun s => ∃ (k : Nat) (t : Tape) (ms : List (List Int)), k ≤ lt ∧ TapeOk t ∧ ms.length = k ∧ (∀ m ∈ ms, mapB sz m = true) ∧ s = ((k : Int), t.l, t.at_, ms)) (fun s => lt - s.1.toNat)
    (fun o => ∃ (ms : List (List Int)) (t' : Tape), o = .inl (((w874 + 1 : Nat) : Int), t'.l, t'.at_, rs ++ [⟨p, ms⟩], nx ++ nextOf sz p) ∧ TapeOk t' ∧ ms.length = lt ∧ ∀ m ∈ ms, mapB sz m = true) ?_ LFm _ ⟨0, t, [], by omega, ht, rfl, by simp, rfl⟩ (by simp only [LFm]; omega)) fun r h => ?_
  · rintro _ ⟨k, t, ms, hk, htk, hm, hin, rfl⟩
    simp only [law26_build_b15, h0]
    by_cases hkl : k < lt
    case neg =>
      right
      rw [if_neg (by omega), chk_pos _ (by unfold capOk; omega)]
      rw [pfx_loop (p := p) (sz := sz) (X := fun n => nextG (((w874 + 1 : Nat) : Int), t.l, t.at_, rs ++ [⟨p, ms⟩], n)) nx hp (by omega)]
      · exact ⟨_, rfl, ms, t, rfl, htk, by omega, hin⟩
      · intro s n
        simp only [law26_build_b31a, h1]
        rw [wrapS (k := w874) (by omega)]
    left
    rw [if_pos (by omega)]
    obtain ⟨v, t2, e2, v0, v1, ht2⟩ := next_in htk 3 (by omega) (by omega)
    rw [show (⟨t.l, t.at_⟩ : Tape) = t from rfl, e2]
    simp only [Option.bind_some]
    obtain ⟨u, t3, e3, u0, u1, ht3⟩ := next_in ht2 sz (by omega) (by omega)
    rw [h1, e3]
    simp only [Option.bind_some]
    obtain ⟨m, t4, e4, ht4, hmb⟩ := cells_in v836 (u, t3) (k : Int) ms (v, t2) sz h1 hs ⟨u0, u1⟩ ht3 (by omega) (by omega)
    rw [e4]
    refine ⟨_, rfl, ⟨k + 1, t4, ms ++ [m], by omega, ht4, by simp [hm], ?_, by simp⟩, by simp only; omega⟩
    intro y hy
    rcases List.mem_append.1 hy with h | h
    · exact hin y h
    · have : y = m := by simpa using h
      rw [this]; exact hmb
  · obtain ⟨h2, m, t', rfl, h3, h4⟩ := h
    exact ⟨m, t', h2, h3, h4⟩
/-- A component: its rows and the next prefixes. -/
theorem comp_in (v477 v836 : Int × Tape) (n : Int) (szs : List Int) (ps : List (List Int)) (rs : List CRow) (t : Tape) (lt : Nat) (sz : Nat) (h0 : IntKind.i64.wrap (1 + v477.1) = lt) (hlt : 1 ≤ lt ∧ lt ≤ 2) (h1 : IntKind.i64.wrap (1 + v836.1) = sz) (hs : 1 ≤ sz ∧ sz ≤ 3) (ht : TapeOk t)
    (hn : 0 < n ∧ n ≤ 3) (hz : szs.length ≤ 2) (hr : RowsOk lt szs rs) (hp : PfxOk szs ps) (hrl : rs.length ≤ 40 * szs.length) :
    ∃ (rs' : List CRow) (t' : Tape), loopG (law26_build_b10 v477 n szs ps v836) LFm (0, t.l, t.at_, rs, []) = some (.inl (n - 1, t'.l, t'.at_, szs ++ [(sz : Int)], rs', nextP sz ps)) ∧ TapeOk t' ∧ RowsOk lt (szs ++ [(sz : Int)]) rs' ∧ rs'.length ≤ 40 * (szs.length + 1) := by
  have hpc : ps.length ≤ 27 := Nat.le_trans hp.cnt (pow3_le (by omega))
  refine Exists.elim (loopG_rule (b := law26_build_b10 v477 n szs ps v836) (fun s => ∃ (k : Nat) (t : Tape) (rs' : List CRow), k ≤ ps.length ∧ TapeOk t ∧ RowsOk lt (szs ++ [(sz : Int)]) rs' ∧ rs'.length ≤ 40 * szs.length + k ∧ Ahead rs' ps k ∧ s = ((k : Int), t.l, t.at_, rs', nextP sz (ps.take k))) (fun s => ps.length - s.1.toNat)
    (fun o => ∃ (rs' : List CRow) (t' : Tape), o = .inl (n - 1, t'.l, t'.at_, szs ++ [(sz : Int)], rs', nextP sz ps) ∧ TapeOk t' ∧ RowsOk lt (szs ++ [(sz : Int)]) rs' ∧ rs'.length ≤ 40 * (szs.length + 1)) ?_ LFm (0, t.l, t.at_, rs, [])
    ⟨0, t, rs, by omega, ht, rowsOk_size hr _, by omega, ahead_first hr hp, by simp [nextP]⟩ (by simp only [LFm]; omega)) fun r h => ?_
  · rintro _ ⟨k, t, rs', hk, htk, hrok, hrl', hah, rfl⟩
    simp only [law26_build_b10]
    by_cases hkl : k < ps.length
    case neg =>
      right
      rw [if_neg (by omega), h1, wrapI (by omega) (by omega), List.take_of_length_le (by omega)]
      exact ⟨_, rfl, rs', t, rfl, htk, hrok, by omega⟩
    left
    rw [if_pos (by omega), atI_nat hkl]
    simp only [Option.bind_some]
    obtain ⟨v, t2, e2, v0, v1, ht2⟩ := next_in htk 12 (by omega) (by omega)
    rw [show (⟨t.l, t.at_⟩ : Tape) = t from rfl, e2]
    simp only [Option.bind_some]
    have hpl := hp.len _ (List.getElem_mem hkl)
    have hpk : ps.take (k + 1) = ps.take k ++ [ps[k]] := by rw [List.take_add_one, List.getElem?_eq_getElem hkl]; rfl
    have hnx : nextP sz (ps.take (k + 1)) = nextP sz (ps.take k) ++ nextOf sz ps[k] := by rw [hpk, nextP, nextP, List.flatMap_append]; simp
    have hnl : (nextP sz (ps.take k)).length ≤ 100 := by
      rw [nextP_len]
      have h1 : (ps.take k).length ≤ 27 := by simp; omega
      have := Nat.mul_le_mul hs.2 h1
      omega
    by_cases hm : v = 11
    · rw [if_pos hm]
      rw [pfx_loop (p := ps[k]) (sz := sz) (X := fun n => nextG (((k + 1 : Nat) : Int), t2.l, t2.at_, rs', n)) (nextP sz (ps.take k)) (by omega) (by omega)]
      · exact ⟨_, rfl, ⟨k + 1, t2, rs', by omega, ht2, hrok, by omega, ahead_next hah, by rw [hnx]⟩, by simp only [Int.toNat_natCast]; omega⟩
      · intro s n
        simp only [law26_build_b31, h1]
        rw [wrapS (k := k) (by omega)]
    · rw [if_neg hm]
      obtain ⟨ms, t3, e3, ht3, hml, hmm⟩ := maps_in v477 v836 k (nextP sz (ps.take k)) rs' ps[k] t2 lt sz h0 hlt h1 hs ht2 (by omega) (by omega) (by omega) (by omega)
      rw [e3]
      exact ⟨_, rfl, ⟨k + 1, t3, rs' ++ [⟨ps[k], ms⟩], by omega, ht3, rowsOk_snoc hrok hpl (hp.inn _ (List.getElem_mem hkl)) (by omega) hmm (fun r hr => hah r hr k hkl (Nat.le_refl k)), by simp; omega, ahead_snoc hp hkl hah, by rw [hnx]⟩, by simp only [Int.toNat_natCast]; omega⟩
  · obtain ⟨h2, m, t', rfl, h3, h4⟩ := h
    exact ⟨m, t', h2, h3, h4⟩
theorem build_in {t : Tape} (ht : TapeOk t) : ∃ c t', law26_build t = some (c, t') ∧ Built c ∧ TapeOk t' := by
  unfold law26_build
  obtain ⟨v, t2, e2, v0, v1, ht2⟩ := next_in ht 2 (by omega) (by omega)
  rw [e2]
  simp only [Option.bind_some]
  obtain ⟨N, t3, e3, n0, n1, ht3⟩ := next_in ht2 4 (by omega) (by omega)
  rw [e3]
  simp only [Option.bind_some]
  obtain ⟨lt, hlt⟩ : ∃ lt : Nat, (lt : Int) = 1 + v := ⟨(1 + v).toNat, by omega⟩
  have hw : IntKind.i64.wrap (1 + v) = lt := by rw [wrapI (by omega) (by omega)]; omega
  refine Exists.elim (loopG_rule (b := law26_build_b4 (v, t2)) (fun s => ∃ (n : Int) (t : Tape) (szs : List Int) (rs : List CRow) (ps : List (List Int)), 0 ≤ n ∧ n + szs.length = N ∧ TapeOk t ∧ (∀ z ∈ szs, 1 ≤ z ∧ z ≤ 3) ∧ RowsOk lt szs rs ∧ PfxOk szs ps ∧ rs.length ≤ 40 * szs.length ∧ s = (n, t.l, t.at_, szs, rs, ps)) (fun s => s.1.toNat)
    (fun r => Built r.1 ∧ TapeOk r.2) ?_ LFm _ ⟨N, t3, [], [], [[]], n0, by simp, ht3, by simp, rowsOk_start _, pfxOk_start, by simp, rfl⟩ (by simp only [LFm]; omega)) fun r h => ⟨r.1, r.2, h.1, h.2.1, h.2.2⟩
  rintro _ ⟨n, t, szs, rs, ps, hn0, hn, htk, hz, hr, hp, hrl, rfl⟩
  simp only [law26_build_b4]
  by_cases hpos : 0 < n
  case neg =>
    right
    rw [if_neg hpos, hw]
    exact ⟨_, rfl, ⟨by simp only; omega, by simp only; omega, by simp only; omega, hz, hrl, hr⟩, htk⟩
  left
  rw [if_pos hpos]
  obtain ⟨z, t4, e4, z0, z1, ht4⟩ := next_in htk 3 (by omega) (by omega)
  rw [show (⟨t.l, t.at_⟩ : Tape) = t from rfl, e4]
  simp only [Option.bind_some]
  obtain ⟨sz, hsz⟩ : ∃ sz : Nat, (sz : Int) = 1 + z := ⟨(1 + z).toNat, by omega⟩
  have hwz : IntKind.i64.wrap (1 + z) = sz := by rw [wrapI (by omega) (by omega)]; omega
  rw [chk_pos _ (by unfold capOk; omega)]
  obtain ⟨rs', t5, e5, ht5, hr5, hrl5⟩ := comp_in (v, t2) (z, t4) n szs ps rs t4 lt sz hw (by omega) hwz (by omega) ht4 (by omega) (by omega) hr hp hrl
  rw [e5]
  refine ⟨_, rfl, ⟨n - 1, t5, szs ++ [(sz : Int)], rs', nextP sz ps, by omega, by simp; omega, ht5, ?_, hr5, pfxOk_next hp sz (by omega), by simp; omega, rfl⟩, by simp only; omega⟩
  intro y hy
  rcases List.mem_append.1 hy with h | h
  · exact hz y h
  · have : y = sz := by simpa using h
    omega
theorem tuple_in {t : Tape} (ht : TapeOk t) (c : Casc) (hz : ∀ z ∈ c.sizes, 1 ≤ z ∧ z ≤ 32) (hs : c.sizes.length ≤ 24) : ∃ x t', law26_tuple t c = some (x, t') ∧ tupB c.sizes x = true ∧ TapeOk t' := by
  unfold law26_tuple
  refine Exists.elim (loopG_rule (b := law26_tuple_b3 c) (fun s => ∃ (k : Nat) (t : Tape) (x : List Int), k ≤ c.sizes.length ∧ TapeOk t ∧ x.length = k ∧ (∀ i, i < k → 0 ≤ x.getD i 0 ∧ x.getD i 0 < c.sizes.getD i 0) ∧ s = ((k : Int), t.l, t.at_, x)) (fun s => c.sizes.length - s.1.toNat)
    (fun r => tupB c.sizes r.1 = true ∧ TapeOk r.2) ?_ LFm _ ⟨0, t, [], by omega, ht, rfl, fun i hi => by omega, rfl⟩ (by simp only [LFm]; omega)) fun r h => ⟨r.1, r.2, h.1, h.2.1, h.2.2⟩
  rintro _ ⟨k, t, x, hk, htk, hx, hin, rfl⟩
  simp only [law26_tuple_b3]
  by_cases hkl : k < c.sizes.length
  case neg =>
    right
    rw [if_neg (by omega)]
    refine ⟨_, rfl, ?_, htk⟩
    unfold tupB
    rw [Bool.and_eq_true, decide_eq_true_eq, inB_iff _ _ (by simp only; omega)]
    exact ⟨by simp only; omega, fun i hi => hin i (by simp only at hi; omega)⟩
  left
  have hzk := hz _ (List.getElem_mem hkl)
  rw [if_pos (by omega), atI_nat hkl]
  simp only [Option.bind_some]
  obtain ⟨v, t2, e2, v0, v1, ht2⟩ := next_in htk c.sizes[k] (by omega) (by omega)
  rw [show (⟨t.l, t.at_⟩ : Tape) = t from rfl, e2]
  simp only [Option.bind_some]
  rw [chk_pos _ (by unfold capOk; omega), wrapS (by omega)]
  refine ⟨_, rfl, ⟨k + 1, t2, x ++ [v], by omega, ht2, by simp [hx], ?_, rfl⟩, by simp only [Int.toNat_natCast]; omega⟩
  intro i hi
  by_cases e : i = k
  · subst e
    rw [getD_of_lt 0 (show i < (x ++ [v]).length by simp; omega), List.getElem_append_right (by omega), getD_of_lt 0 hkl]
    simp only [List.getElem_singleton]
    exact ⟨v0, v1⟩
  · have hi2 : i < x.length := by omega
    have := hin i (by omega)
    rw [getD_of_lt 0 hi2] at this
    rw [getD_of_lt 0 (show i < (x ++ [v]).length by simp; omega), List.getElem_append_left hi2]
    exact this
end Go.Proofs.YthalofddjlhcjaaDoor
end
section
/- What a level answers, all higher ones do. Over any program. -/
namespace Go.Proofs.YthalofddjlhcjaaDoor
set_option linter.unusedVariables false
set_option linter.unusedSimpArgs false

/-- The second knows all that the first does. -/
def Mo (C0 C1 : Contract) : Prop := ∀ f a o, C0 f a = some o → C1 f a = some o
section
variable {P : Program} {C0 C1 : Contract}

theorem callF_mo (hMo : Mo C0 C1) {wio : FuncId → Nat → Bool} {fr fr' : Fr} {f : FuncId} {args : List E} {dst : Option Nat} (h : callF C0 wio fr f args dst = some fr') : Ev fun m => callF C1 wio fr f args dst = some fr' := by
  unfold callF at h ⊢
  split at h
  · cases h
  · rename_i ts deps io ha
    split at h
    · cases h
    · rename_i r outs hc
      refine ⟨0, fun m _ => ?_⟩
      show (match C1 f ts with | none => none | some (r, outs) => _) = _
      rw [hMo _ _ _ hc]
      exact h

theorem opF_mo (hMo : Mo C0 C1) {wio : FuncId → Nat → Bool} {fr fr' : Fr} {o : Oper} (h : opF P C0 wio fr o = some fr') : Ev fun m => opF P C1 wio fr o = some fr' := by
  unfold opF at h ⊢
  split at h
  · exact .pure fun _ => h
  · split at h
    · exact callF_mo hMo h
    · cases h
  · exact .pure fun _ => h
theorem calmF_mo (hMo : Mo C0 C1) {wio : FuncId → Nat → Bool} {fr fr' : Fr} {o : Oper} (h : calmF P C0 wio fr o = some fr') : Ev fun m => calmF P C1 wio fr o = some fr' := by
  unfold calmF at h ⊢
  split at h
  · split at h
    · split at h
      · exact callF_mo hMo h
      · cases h
    · cases h
  · exact .pure fun _ => h
theorem wrF_mo (hMo : Mo C0 C1) {wio : FuncId → Nat → Bool} {M : Nat → Bool} {fr fr' : Fr} {o : Oper} (h : wrF C0 wio M fr o = some fr') : Ev fun m => wrF C1 wio M fr o = some fr' := by
  unfold wrF at h ⊢
  split at h
  · split at h
    · cases h
    · split at h
      · exact callF_mo hMo h
      · split at h
        · rename_i hM
          simp only [hM, if_true]
          exact callF_mo hMo h
        · cases h
      · cases h
  · cases h

theorem regF_mo (hMo : Mo C0 C1) {wio : FuncId → Nat → Bool} {ops : Array Oper} : ∀ {l : List Oper} {fr fr' : Fr}, regF P C0 wio ops l fr = some fr' → Ev fun m => regF P C1 wio ops l fr = some fr'
  | [], fr, fr', h => .pure fun _ => h
  | o :: rest, fr, fr', h => by
    simp only [regF] at h ⊢
    split at h
    · cases h
    · split at h
      · rename_i fr1 h1
        exact (opF_mo hMo h1).both (regF_mo hMo h) fun m a1 a2 => by rw [a1]; exact a2
      · cases h
    · split at h
      · rename_i fr1 h1
        exact (regF_mo hMo h)
      · cases h
theorem drawZ_mo (hMo : Mo C0 C1) {wio : FuncId → Nat → Bool} {same : Bool} {M : Nat → Bool} {ops : Array Oper} : ∀ {l : List (Nat × Oper × Nat)} {fr fr' : Fr}, drawZ P C0 wio same M ops l fr = some fr' → Ev fun m => drawZ P C1 wio same M ops l fr = some fr'
  | [], fr, fr', h => .pure fun _ => h
  | (k, o, mk) :: rest, fr, fr', h => by
    simp only [drawZ] at h ⊢
    split at h
    · cases h
    · split at h
      · exact drawZ_mo hMo h
      · cases h
    · split at h
      · rename_i hm
        simp only [if_pos hm]
        split at h
        · split at h
          · exact drawZ_mo hMo h
          · cases h
        · cases h
      · rename_i hm
        simp only [if_neg hm]
        split at h
        · rename_i fr1 h1
          have h2 : Ev fun m => (if mk = 2 then opF P C1 wio fr o else if same = true then calmF P C1 wio fr o else wrF C1 wio M fr o) = some fr1 := by
            by_cases e : mk = 2
            · simp only [if_pos e] at h1 ⊢; exact opF_mo hMo h1
            · simp only [if_neg e] at h1 ⊢
              by_cases e2 : same = true
              · simp only [if_pos e2] at h1 ⊢; exact calmF_mo hMo h1
              · simp only [if_neg e2] at h1 ⊢; exact wrF_mo hMo h1
          exact h2.both (drawZ_mo hMo h) fun m a1 a2 => by rw [a1]; exact a2
        · cases h

theorem iterF_mo (hMo : Mo C0 C1) {B : Contract → Fr → Option (X × Fr)} {cn : Fr → Fr} (hB : ∀ fr o, B C0 fr = some o → Ev fun m => B C1 fr = some o) : ∀ {n : Nat} {fr : Fr} {o : X × Fr}, iterF (B C0) cn n fr = some o → Ev fun m => iterF (B C1) cn n fr = some o
  | 0, fr, o, h => by cases h
  | n + 1, fr, o, h => by
    simp only [iterF] at h ⊢
    split at h
    · rename_i fr1 h1
      exact (hB _ _ h1).both (iterF_mo hMo hB h) fun m a1 a2 => by rw [a1]; exact a2
    · rename_i x fr1 hne h1
      refine (hB _ _ h1).imp fun m a1 => ?_
      rw [a1]
      cases x with
      | n => exact absurd rfl hne
      | x i => exact h
      | r => exact h
    · cases h

theorem codeF_mo (hMo : Mo C0 C1) {c : Cfg} {LF : Nat} : ∀ (b : Code) {fr : Fr} {o : X × Fr}, codeF P C0 c LF b fr = some o → Ev fun m => codeF P C1 c LF b fr = some o := by
  intro b
  induction b with
  | skip => intro fr o h; exact .pure fun _ => h
  | label l => intro fr o h; exact .pure fun _ => h
  | exit id => intro fr o h; exact .pure fun _ => h
  | ret => intro fr o h; exact .pure fun _ => h
  | goto l => intro fr o h; cases h
  | scope c ih => intro fr o h; cases h
  | refuse s => intro fr o h; cases h
  | rangeFunc => intro fr o h; cases h
  | region id ops draw =>
    intro fr o h
    simp only [codeF] at h ⊢
    split at h
    · rename_i hd
      simp only [hd, if_true]
      split at h
      · rename_i sch hs
        split at h
        · rename_i fr1 h1
          exact (drawZ_mo hMo h1).imp fun m a1 => by rw [a1]; exact h
        · cases h
      · cases h
    · rename_i hd
      simp only [hd, Bool.false_eq_true, if_false]
      split at h
      · rename_i fr1 h1
        exact (regF_mo hMo h1).imp fun m a1 => by rw [a1]; exact h
      · cases h
  | seq a b ih1 ih2 =>
    intro fr o h
    simp only [codeF] at h ⊢
    split at h
    · rename_i fr1 h1
      exact (ih1 h1).both (ih2 h) fun m a1 a2 => by rw [a1]; exact a2
    · rename_i hne
      refine (ih1 h).imp fun m a1 => ?_
      rw [a1]
      obtain ⟨x, fr1⟩ := o
      cases x with
      | n => exact absurd h (hne _)
      | x i => rfl
      | r => rfl
  | cond c x y ih1 ih2 =>
    intro fr o h
    simp only [codeF] at h ⊢
    split at h
    · exact ih1 h
    · exact ih2 h
    · cases h
  | block id c ih =>
    intro fr o h
    simp only [codeF] at h ⊢
    split at h
    · rename_i i fr1 h1
      exact (ih h1).imp fun m a1 => by rw [a1]; exact h
    · rename_i hne
      refine (ih h).imp fun m a1 => ?_
      rw [a1]
      obtain ⟨x, fr1⟩ := o
      cases x with
      | n => rfl
      | x i => exact absurd h (hne _ _)
      | r => rfl
  | loop b ih =>
    intro fr o h
    simp only [codeF] at h ⊢
    exact iterF_mo hMo (B := fun C fr => codeF P C c LF b fr) (fun fr o h => ih h) h

theorem runF_mo (hMo : Mo C0 C1) {c : Cfg} {LF : Nat} {fn : Func} {args : List T} {o : T × List T} (h : runF P C0 c LF fn args = some o) : Ev fun m => runF P C1 c LF fn args = some o := by
  unfold runF at h ⊢
  split at h
  · rename_i hc
    simp only [if_pos hc]
    split at h
    · cases h
    · rename_i b hb
      split at h
      · rename_i fr h1
        exact (codeF_mo hMo _ h1).imp fun m a1 => by rw [a1]; exact h
      · rename_i fr h1
        exact (codeF_mo hMo _ h1).imp fun m a1 => by rw [a1]; exact h
      · cases h
  · cases h

end
theorem level_le {P : Program} {X : Contract} {cf : FuncId → Option Cfg} : ∀ n, Mo (level P X cf n) (level P X cf (n + 1))
  | 0 => fun f a o h => by
    simp only [level] at h ⊢
    split at h
    · cases h
    · rename_i hc
      first
        | exact h
        | (rw [hc]; exact h)
  | n + 1 => fun f a o h => by
    simp only [level] at h
    split at h
    · rename_i c hc
      split at h
      · rename_i fn hfn
        obtain ⟨k, hk⟩ := runF_mo (level_le n) h
        exact level_run hc hfn (hk k (Nat.le_refl _))
      · cases h
    · rename_i hc
      simp only [level, hc]
      exact h
/-- One level's answer. -/
theorem lim_at {P : Program} {X : Contract} {cf : FuncId → Option Cfg} (n : Nat) {f : FuncId} {a : List T} {o : T × List T} (h : level P X cf n f a = some o) : Lim P X cf f a = some o := by
  refine lim_of (d := n) fun m hm => ?_
  obtain ⟨k, rfl⟩ := Nat.exists_eq_add_of_le hm
  clear hm
  induction k with
  | zero => exact h
  | succ k ih => exact level_le (n + k) f a o ih
end Go.Proofs.YthalofddjlhcjaaDoor
end
section
/- The chapter's example: program, by the kernel. -/
namespace Go.Proofs.YthalofddjlhcjaaDoor
open Go
set_option maxRecDepth 100000
set_option linter.unusedVariables false

theorem c18l : level Tryd.prog xt cfAll 12 18 [] = some (.sc (.bool true), []) := by kernel_rfl
theorem c18 : L 18 [] = some (.sc (.bool true), []) := lim_at 12 c18l
def xKnown : Option Bool := some true
theorem xKnown_ok {r : Bool} (h : xKnown = some r) : L 18 [] = some (.sc (.bool r), []) := by cases h; exact c18
end Go.Proofs.YthalofddjlhcjaaDoor
end
