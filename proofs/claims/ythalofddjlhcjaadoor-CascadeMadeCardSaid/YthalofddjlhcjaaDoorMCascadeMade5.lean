/- Proved here: a part of the proof of the law at hand, in one text: no condition. -/
import Derived.Test.YthalofddjlhcjaaDoorMCascadeMade4
set_option linter.unusedVariables false
set_option linter.unusedSimpArgs false
section
/- Functions by value: program. -/
namespace Go.Proofs.YthalofddjlhcjaaDoor
open Go
set_option maxRecDepth 100000
set_option maxHeartbeats 1000000
set_option linter.unusedVariables false
set_option linter.unusedSimpArgs false



-- semigroup/cascade.parseNumber
def cascade_parseNumber_b5 (a0 : ByteArray) : Int × Int → Option ((Int × Int) ⊕ (Int × Bool))
  | (w28, w29) =>
  if w29 < (a0.size : Int) then
    (byteI a0 w29).bind fun v33 =>
    if v33 < 48 then
      exitG <|
      some (0, false)
    else
      if 57 < v33 then
        exitG <|
        some (0, false)
      else
        nextG (IntKind.i64.wrap ((IntKind.i64.wrap (10 * w28)) + (IntKind.i64.wrap (IntKind.u8.wrap (v33 - 48)))), IntKind.i64.wrap (w29 + 1))
  else
    exitG <|
    some (w28, decide (w28 ≤ 1000000000))
def cascade_parseNumber_h5 (a0 : ByteArray) : Int × Int → Fr
  | (w28, w29) => ⟨50, [(0, .one (.t none (.sc (.string a0)))), (4, .one (.t none (.sc (.int .i64 w28)))), (24, .one (.t none (.sc (.int .i64 (a0.size : Int))))), (25, .one (.t none (.sc (.int .i64 w29))))], []⟩
def cascade_parseNumber_b5a (a0 : ByteArray) : Int × Int → Option ((Int × Int) ⊕ (Int × Bool))
  | (w39, w40) =>
  if w40 < (a0.size : Int) then
    (byteI a0 w40).bind fun v44 =>
    if v44 < 48 then
      exitG <|
      some (0, false)
    else
      if 57 < v44 then
        exitG <|
        some (0, false)
      else
        nextG (IntKind.i64.wrap ((IntKind.i64.wrap (10 * w39)) + (IntKind.i64.wrap (IntKind.u8.wrap (v44 - 48)))), IntKind.i64.wrap (w40 + 1))
  else
    exitG <|
    some (w39, decide (w39 ≤ 1000000000))
def cascade_parseNumber_h5a (a0 : ByteArray) : Int × Int → Fr
  | (w39, w40) => ⟨50, [(0, .one (.t none (.sc (.string a0)))), (4, .one (.t none (.sc (.int .i64 w39)))), (24, .one (.t none (.sc (.int .i64 (a0.size : Int))))), (25, .one (.t none (.sc (.int .i64 w40))))], []⟩
def cascade_parseNumber (a0 : ByteArray) : Option (Int × Bool) :=
  if a0 = ByteArray.empty then
    some (0, false)
  else
    if 10 < (a0.size : Int) then
      some (0, false)
    else
      (byteI a0 0).bind fun v24 =>
      if v24 = 48 then
        if 1 < (a0.size : Int) then
          some (0, false)
        else
          loopG (cascade_parseNumber_b5 a0) LFm (0, 0)
      else
        loopG (cascade_parseNumber_b5a a0) LFm (0, 0)
theorem cascade_parseNumber_ok {a0 : ByteArray} {r : Int × Bool} (h0 : cascade_parseNumber a0 = some r) : L 69 [.sc (.string a0)] = some (.tup [.sc (.int .i64 r.1), .sc (.bool r.2)], [.dead]) := by
  simp only [cascade_parseNumber] at h0
  refine L_run cfn69 fn69 (runF_of bd69 ⟨of_decide_eq_true rfl, of_decide_eq_true rfl⟩ ?_)
  simp only [entryF, entryT, entryO, entryE, isIo]
  refine zq rfl (zr rfl rfl rfl (by simp; rfl) ?_)
  refine thenC_n (zq rfl (zq rfl ?_))
  by_cases c30 : a0 = ByteArray.empty
  · rw [if_pos c30] at h0
    have c30e := eq_true c30
    refine zr rfl rfl rfl (by simp [c30e]; rfl) ?_
    refine thenC_n (q_ifT rfl (by simp) (zq rfl (zr rfl rfl rfl (by simp; rfl) ?_)))
    refine thenC_n (q_ret rfl (thenC_r ?_))
    cases h0
    simp
  · rw [if_neg c30] at h0
    have c30e := eq_false c30
    by_cases c31 : 10 < (a0.size : Int)
    · rw [if_pos c31] at h0
      refine zr rfl rfl rfl (by simp [c30e, c31]; rfl) ?_
      refine thenC_n (q_ifT rfl (by simp) (zq rfl (zr rfl rfl rfl (by simp; rfl) ?_)))
      refine thenC_n (q_ret rfl (thenC_r ?_))
      cases h0
      simp
    · rw [if_neg c31] at h0
      obtain ⟨v24, f32, h1⟩ := bnd_some h0
      obtain ⟨f32a, f32b, f32w, f32c, f32d, f32g⟩ := byteI_some f32
      have f32d := f32d.symm
      have f32g := f32g (by omega)
      simp only [Int.reduceToNat] at f32g
      simp only [Int.reduceToNat, Int.toNat_natCast] at f32c
      have f32e := f32b
      try simp at f32e
      by_cases c33 : v24 = 48
      · rw [if_pos c33] at h1
        have c33e := eq_true c33
        refine zr rfl rfl rfl (by simp [c30e, c31, f32a, f32b, f32c, f32d, f32g, f32e, c33e]; rfl) ?_
        refine thenC_n ?_
        by_cases c34 : 1 < (a0.size : Int)
        · rw [if_pos c34] at h1
          refine q_ifT rfl (by simp [c34]) (zq rfl (zr rfl rfl rfl (by simp; rfl) ?_))
          refine thenC_n (q_ret rfl (thenC_r ?_))
          cases h1
          simp
        · rw [if_neg c34] at h1
          refine q_ifF rfl (by simp [c34]) (q_skip rfl (thenC_n (zq rfl (zr rfl rfl rfl (by simp; rfl) ?_))))
          refine thenC_n (zq rfl (zq rfl (zr rfl rfl rfl (by simp; rfl) ?_)))
          refine thenC_n (zb rfl (q_loopG h1 (cascade_parseNumber_h5 a0) rfl rfl (by simp [cascade_parseNumber_h5]) fun s o1 h2 hr1 => ?_))
          obtain ⟨w28, w29⟩ := s
          simp only [cascade_parseNumber_b5] at h2
          simp only [cascade_parseNumber_h5]
          refine zq rfl (zr rfl rfl rfl (by simp; rfl) ?_)
          refine thenC_n (zq rfl ?_)
          by_cases c43 : w29 < (a0.size : Int)
          · rw [if_pos c43] at h2
            refine q_ifT rfl (by simp [c43]) (q_skip rfl (thenC_n (zq rfl (zb rfl (zq rfl (zr rfl rfl rfl (by simp; rfl) ?_))))))
            refine thenC_n (zq rfl (zq rfl ?_))
            obtain ⟨v33, f44, h3⟩ := bnd_some h2
            obtain ⟨f44a, f44b, f44w, f44c, f44d, f44g⟩ := byteI_some f44
            have f44d := f44d.symm
            by_cases c45 : v33 < 48
            · rw [if_pos c45] at h3
              refine zr rfl rfl rfl (by simp [f44a, f44b, f44c, f44d, f44g, c45]; rfl) ?_
              refine thenC_n (q_ifT rfl (by simp) (zq rfl (zr rfl rfl rfl (by simp; rfl) ?_)))
              refine thenC_n (q_ret rfl (thenC_r (blockC_r (thenC_r ?_))))
              obtain ⟨rr1, h4, ho1⟩ := exit_some h3
              have hs1 := hr1 _ ho1
              subst hs1
              refine roundC_r ho1 (blockC_r (thenC_r ?_))
              cases h4
              simp
            · rw [if_neg c45] at h3
              refine zr rfl rfl rfl (by simp [f44a, f44b, f44c, f44d, f44g, c45]; rfl) ?_
              refine thenC_n ?_
              by_cases c46 : 57 < v33
              · rw [if_pos c46] at h3
                refine q_ifT rfl (by simp [c46]) (zq rfl (zr rfl rfl rfl (by simp; rfl) ?_))
                refine thenC_n (q_ret rfl (thenC_r (blockC_r (thenC_r ?_))))
                obtain ⟨rr1, h4, ho1⟩ := exit_some h3
                have hs1 := hr1 _ ho1
                subst hs1
                refine roundC_r ho1 (blockC_r (thenC_r ?_))
                cases h4
                simp
              · rw [if_neg c46] at h3
                refine q_ifF rfl (by simp [c46]) (q_skip rfl (thenC_n (zr rfl rfl rfl (by simp [f44a, f44b, f44c, f44d, f44g]; rfl) ?_)))
                refine blockC_n (thenC_n (zr rfl rfl rfl (by simp; rfl) ?_))
                have ho := next_some h3
                refine roundC_n ho ?_
                simp [cascade_parseNumber_h5]
          · rw [if_neg c43] at h2
            refine q_ifF rfl (by simp [c43]) (q_exit rfl (thenC_x ?_))
            obtain ⟨rr1, h3, ho1⟩ := exit_some h2
            have hs1 := hr1 _ ho1
            subst hs1
            refine roundC_x ho1 (blockC_hit2 rfl (thenC_n (zq rfl (zr rfl rfl rfl (by simp; rfl) ?_))))
            refine thenC_n (q_ret rfl ?_)
            cases h3
            simp
      · rw [if_neg c33] at h1
        have c33e := eq_false c33
        refine zr rfl rfl rfl (by simp [c30e, c31, f32a, f32b, f32c, f32d, f32g, f32e, c33e]; rfl) ?_
        refine thenC_n (q_ifF rfl (by simp) (q_skip rfl (thenC_n (zq rfl (zr rfl rfl rfl (by simp; rfl) ?_)))))
        refine thenC_n (zq rfl (zq rfl (zr rfl rfl rfl (by simp; rfl) ?_)))
        refine thenC_n (zb rfl (q_loopG h1 (cascade_parseNumber_h5a a0) rfl rfl (by simp [cascade_parseNumber_h5a]) fun s o2 h2 hr2 => ?_))
        obtain ⟨w39, w40⟩ := s
        simp only [cascade_parseNumber_b5a] at h2
        simp only [cascade_parseNumber_h5a]
        refine zq rfl (zr rfl rfl rfl (by simp; rfl) ?_)
        refine thenC_n (zq rfl ?_)
        by_cases c55 : w40 < (a0.size : Int)
        · rw [if_pos c55] at h2
          refine q_ifT rfl (by simp [c55]) (q_skip rfl (thenC_n (zq rfl (zb rfl (zq rfl (zr rfl rfl rfl (by simp; rfl) ?_))))))
          refine thenC_n (zq rfl (zq rfl ?_))
          obtain ⟨v44, f56, h3⟩ := bnd_some h2
          obtain ⟨f56a, f56b, f56w, f56c, f56d, f56g⟩ := byteI_some f56
          have f56d := f56d.symm
          by_cases c57 : v44 < 48
          · rw [if_pos c57] at h3
            refine zr rfl rfl rfl (by simp [f56a, f56b, f56c, f56d, f56g, c57]; rfl) ?_
            refine thenC_n (q_ifT rfl (by simp) (zq rfl (zr rfl rfl rfl (by simp; rfl) ?_)))
            refine thenC_n (q_ret rfl (thenC_r (blockC_r (thenC_r ?_))))
            obtain ⟨rr2, h4, ho2⟩ := exit_some h3
            have hs2 := hr2 _ ho2
            subst hs2
            refine roundC_r ho2 (blockC_r (thenC_r ?_))
            cases h4
            simp
          · rw [if_neg c57] at h3
            refine zr rfl rfl rfl (by simp [f56a, f56b, f56c, f56d, f56g, c57]; rfl) ?_
            refine thenC_n ?_
            by_cases c58 : 57 < v44
            · rw [if_pos c58] at h3
              refine q_ifT rfl (by simp [c58]) (zq rfl (zr rfl rfl rfl (by simp; rfl) ?_))
              refine thenC_n (q_ret rfl (thenC_r (blockC_r (thenC_r ?_))))
              obtain ⟨rr2, h4, ho2⟩ := exit_some h3
              have hs2 := hr2 _ ho2
              subst hs2
              refine roundC_r ho2 (blockC_r (thenC_r ?_))
              cases h4
              simp
            · rw [if_neg c58] at h3
              refine q_ifF rfl (by simp [c58]) (q_skip rfl (thenC_n (zr rfl rfl rfl (by simp [f56a, f56b, f56c, f56d, f56g]; rfl) ?_)))
              refine blockC_n (thenC_n (zr rfl rfl rfl (by simp; rfl) ?_))
              have ho := next_some h3
              refine roundC_n ho ?_
              simp [cascade_parseNumber_h5a]
        · rw [if_neg c55] at h2
          refine q_ifF rfl (by simp [c55]) (q_exit rfl (thenC_x ?_))
          obtain ⟨rr2, h3, ho2⟩ := exit_some h2
          have hs2 := hr2 _ ho2
          subst hs2
          refine roundC_x ho2 (blockC_hit2 rfl (thenC_n (zq rfl (zr rfl rfl rfl (by simp; rfl) ?_))))
          refine thenC_n (q_ret rfl ?_)
          cases h3
          simp

-- semigroup/cascade.parseNumbers
def cascade_parseNumbers_b3 (a0 : List ByteArray) : Int × List Int → Option ((Int × List Int) ⊕ (List Int × Bool))
  | (w11, w12) =>
  if w11 < (a0.length : Int) then
    (atI a0 w11).bind fun v15 =>
    (cascade_parseNumber v15).bind fun v16 =>
    if v16.2 = true then
      chk (capOk 8 (w12.length + 1)) <|
      nextG (IntKind.i64.wrap (w11 + 1), w12 ++ [v16.1])
    else
      exitG <|
      some ([], false)
  else
    exitG <|
    some (w12, true)
def cascade_parseNumbers_h3 (a0 : List ByteArray) : Int × List Int → Fr
  | (w11, w12) => ⟨28, [(4, .one (.h 4 [])), (9, .one (.t none (.sl a0.length (a0.map fun x0 => .sc (.string x0))))), (10, .one (.t none (.sc (.int .i64 (a0.length : Int))))), (11, .one (.t none (.sc (.int .i64 w11))))], [(4, .os 1 w12.length (w12.map fun x0 => .sc (.int .i64 x0)))]⟩
def cascade_parseNumbers (a0 : List ByteArray) : Option (List Int × Bool) :=
  loopG (cascade_parseNumbers_b3 a0) LFm (0, [])
theorem cascade_parseNumbers_ok {a0 : List ByteArray} {r : List Int × Bool} (h0 : cascade_parseNumbers a0 = some r) : L 51 [.sl a0.length (a0.map fun x0 => .sc (.string x0))] = some (.tup [.os 1 r.1.length (r.1.map fun x0 => .sc (.int .i64 x0)), .sc (.bool r.2)], [.dead]) := by
  simp only [cascade_parseNumbers] at h0
  refine L_run cfn51 fn51 (runF_of bd51 ⟨of_decide_eq_true rfl, of_decide_eq_true rfl⟩ ?_)
  simp only [entryF, entryT, entryO, entryE, isIo]
  refine zq rfl (zr rfl rfl rfl (by simp; rfl) ?_)
  refine thenC_n (zq rfl (zr rfl rfl rfl (by simp; rfl) ?_))
  refine thenC_n (zq rfl (zq rfl (zr rfl rfl rfl (by simp; rfl) ?_)))
  refine thenC_n (zb rfl (q_loopG h0 (cascade_parseNumbers_h3 a0) rfl rfl (by simp [cascade_parseNumbers_h3]) fun s o1 h1 hr1 => ?_))
  obtain ⟨w11, w12⟩ := s
  simp only [cascade_parseNumbers_b3] at h1
  simp only [cascade_parseNumbers_h3]
  refine zq rfl (zr rfl rfl rfl (by simp; rfl) ?_)
  refine thenC_n (zq rfl ?_)
  by_cases c24 : w11 < (a0.length : Int)
  · rw [if_pos c24] at h1
    refine q_ifT rfl (by simp [c24]) (q_skip rfl (thenC_n (zq rfl (zb rfl (zq rfl ?_)))))
    obtain ⟨v15, f25, h2⟩ := bnd_some h1
    obtain ⟨f25a, f25b, f25c, f25d, f25e⟩ := atI_some f25
    refine zr rfl rfl rfl (by simp [f25a, f25b, f25c, f25d, f25e]; rfl) ?_
    refine thenC_n (zq rfl ?_)
    obtain ⟨v16, f26, h3⟩ := bnd_some h2
    have f26k := cascade_parseNumber_ok f26
    try simp at f26k
    refine zr rfl rfl rfl (by simp [f26k]; rfl) ?_
    refine thenC_n (zq rfl (zq rfl (zr rfl rfl rfl (by simp; rfl) ?_)))
    refine thenC_n ?_
    by_cases c27 : v16.2 = true
    · rw [if_pos c27] at h3
      refine q_ifF rfl (by simp [c27]) (q_skip rfl (thenC_n ?_))
      obtain ⟨f28, h4⟩ := chk_some h3
      obtain ⟨f28a, f28b⟩ := f28
      refine zr rfl rfl rfl (by simp [f28a, f28b]; rfl) ?_
      refine blockC_n (thenC_n (zr rfl rfl rfl (by simp; rfl) ?_))
      have ho := next_some h4
      refine roundC_n ho ?_
      simp [cascade_parseNumbers_h3, c27]
    · rw [if_neg c27] at h3
      refine q_ifT rfl (by simp [c27]) (zq rfl (zr rfl rfl rfl (by simp; rfl) ?_))
      refine thenC_n (q_ret rfl (thenC_r (blockC_r (thenC_r ?_))))
      obtain ⟨rr1, h4, ho1⟩ := exit_some h3
      have hs1 := hr1 _ ho1
      subst hs1
      refine roundC_r ho1 (blockC_r (thenC_r ?_))
      cases h4
      simp [c27]
  · rw [if_neg c24] at h1
    refine q_ifF rfl (by simp [c24]) (q_exit rfl (thenC_x ?_))
    obtain ⟨rr1, h2, ho1⟩ := exit_some h1
    have hs1 := hr1 _ ho1
    subst hs1
    refine roundC_x ho1 (blockC_hit2 rfl (thenC_n (zq rfl (zr rfl rfl rfl (by simp; rfl) ?_))))
    refine thenC_n (q_ret rfl ?_)
    cases h2
    simp

-- semigroup/cascade.parseRow
def cascade_parseRow_b6 (a0 : List ByteArray) : Int × Int × List Int × List (List Int) → Option ((Int × Int × List Int × List (List Int)) ⊕ (CRow × Bool))
  | (w27, w28, w29, w30) =>
  if w28 ≤ (a0.length : Int) then
    if w28 < (a0.length : Int) then
      (atI a0 w28).bind fun v36 =>
      if v36 = ⟨#[59]⟩ then
        (pieceL a0 w27 w28).bind fun v37 =>
        (cascade_parseNumbers v37).bind fun v38 =>
        if v38.2 = true then
          if w27 = 1 then
            nextG (IntKind.i64.wrap (w28 + 1), IntKind.i64.wrap (w28 + 1), v38.1, w30)
          else
            chk (capOk 24 (w30.length + 1)) <|
            nextG (IntKind.i64.wrap (w28 + 1), IntKind.i64.wrap (w28 + 1), w29, w30 ++ [v38.1])
        else
          exitG <|
          some ((⟨w29, w30⟩ : CRow), false)
      else
        nextG (w27, IntKind.i64.wrap (w28 + 1), w29, w30)
    else
      (pieceL a0 w27 w28).bind fun v39 =>
      (cascade_parseNumbers v39).bind fun v40 =>
      if v40.2 = true then
        if w27 = 1 then
          nextG (IntKind.i64.wrap (w28 + 1), IntKind.i64.wrap (w28 + 1), v40.1, w30)
        else
          chk (capOk 24 (w30.length + 1)) <|
          nextG (IntKind.i64.wrap (w28 + 1), IntKind.i64.wrap (w28 + 1), w29, w30 ++ [v40.1])
      else
        exitG <|
        some ((⟨w29, w30⟩ : CRow), false)
  else
    exitG <|
    some ((⟨w29, w30⟩ : CRow), true)
def cascade_parseRow_h6 (a0 : List ByteArray) : Int × Int × List Int × List (List Int) → Fr
  | (w27, w28, w29, w30) => ⟨55, [(0, .one (.t none (.sl a0.length (a0.map fun x0 => .sc (.string x0))))), (2, .one (.a 2 [] (0))), (4, .one (.a 4 [] (0))), (5, .one (.t none (.sc (.int .i64 w27)))), (6, .one (.t none (.sc (.int .i64 w28))))], [(2, .vr [.os 1 0 [], .os 1 0 []]), (4, .vr [.os 1 w29.length (w29.map fun x0 => .sc (.int .i64 x0)), .os 1 w30.length (w30.map fun x0 => .os 1 x0.length (x0.map fun x1 => .sc (.int .i64 x1)))])]⟩
def cascade_parseRow (a0 : List ByteArray) : Option (CRow × Bool) :=
  (atI a0 0).bind fun v21 =>
  if v21 = ⟨#[114, 111, 119]⟩ then
    loopG (cascade_parseRow_b6 a0) LFm (1, 1, [], [])
  else
    some ((⟨[], []⟩ : CRow), false)
theorem cascade_parseRow_ok {a0 : List ByteArray} {r : CRow × Bool} (h0 : cascade_parseRow a0 = some r) : L 50 [.sl a0.length (a0.map fun x0 => .sc (.string x0))] = some (.tup [.agg [.sl r.1.pre.length (r.1.pre.map fun x0 => .sc (.int .i64 x0)), .sl r.1.maps.length (r.1.maps.map fun x0 => .sl x0.length (x0.map fun x1 => .sc (.int .i64 x1)))], .sc (.bool r.2)], [.dead]) := by
  simp only [cascade_parseRow] at h0
  refine L_run cfn50 fn50 (runF_of bd50 ⟨of_decide_eq_true rfl, of_decide_eq_true rfl⟩ ?_)
  simp only [entryF, entryT, entryO, entryE, isIo]
  refine zq rfl (zr rfl rfl rfl (by simp; rfl) ?_)
  refine thenC_n (zq rfl (zr rfl rfl rfl (by simp; rfl) ?_))
  refine thenC_n (zq rfl (zq rfl ?_))
  obtain ⟨v21, f43, h1⟩ := bnd_some h0
  obtain ⟨f43a, f43b, f43c, f43d, f43e⟩ := atI_some f43
  simp only [Int.reduceToNat, Int.toNat_natCast] at f43c f43d f43e
  have f43j : a0 ≠ [] := by intro hh; rw [hh] at f43c; simp at f43c
  have f43l : 0 < a0.length := by omega
  refine zr rfl rfl rfl (by simp [f43a, f43b, f43c, f43d, f43e, f43j, f43l]; rfl) ?_
  refine thenC_n ?_
  by_cases c44 : v21 = ⟨#[114, 111, 119]⟩
  · rw [if_pos c44] at h1
    have c44e := eq_true c44
    refine q_ifF rfl (by simp [c44e]) (q_skip rfl (thenC_n (zq rfl (zr rfl rfl rfl (by simp; rfl) ?_))))
    refine thenC_n (zq rfl (zq rfl (zr rfl rfl rfl (by simp; rfl) ?_)))
    refine thenC_n (zb rfl (q_loopG h1 (cascade_parseRow_h6 a0) rfl rfl (by simp [cascade_parseRow_h6]) fun s o1 h2 hr1 => ?_))
    obtain ⟨w27, w28, w29, w30⟩ := s
    simp only [cascade_parseRow_b6] at h2
    simp only [cascade_parseRow_h6]
    refine zq rfl (zq rfl (zr rfl rfl rfl (by simp; rfl) ?_))
    refine thenC_n ?_
    by_cases c71 : w28 ≤ (a0.length : Int)
    · rw [if_pos c71] at h2
      refine q_ifT rfl (by simp [c71]) (q_skip rfl (thenC_n (zq rfl (zb rfl (zq rfl (zq rfl ?_))))))
      by_cases c72 : w28 < (a0.length : Int)
      · rw [if_pos c72] at h2
        obtain ⟨v36, f73, h3⟩ := bnd_some h2
        obtain ⟨f73a, f73b, f73c, f73d, f73e⟩ := atI_some f73
        refine zr rfl rfl rfl (by simp [c72, f73a, f73b, f73c, f73d, f73e]; rfl) ?_
        refine thenC_n ?_
        by_cases c74 : v36 = ⟨#[59]⟩
        · rw [if_pos c74] at h3
          have c74e := eq_true c74
          refine q_ifF rfl (by simp [c74e]) (q_skip rfl (thenC_n (zq rfl ?_)))
          obtain ⟨v37, f75, h4⟩ := bnd_some h3
          obtain ⟨f75a, f75b, f75c, -⟩ := pieceL_some f75
          obtain ⟨f75d, f75g⟩ := piece_hi f75a f75b
          have f75e := pieceL_map (g := fun x : ByteArray => (.sc (.string x) : T)) f75
          try simp at f75e
          have f75f := pieceL_slm f75
          try simp only [Int.reduceToNat, Int.toNat_natCast, Nat.sub_zero] at f75f
          have f75m : w27 ≤ max w28 0 := by omega
          obtain ⟨v38, f76, h5⟩ := bnd_some h4
          have f76k := cascade_parseNumbers_ok f76
          try simp at f76k
          refine zr rfl rfl rfl (by simp [f75a, f75b, f75c, f75d, f75g, f75e, f75f, f75m, f76k]; rfl) ?_
          refine thenC_n (zq rfl (zq rfl (zr rfl rfl rfl (by simp; rfl) ?_)))
          refine thenC_n ?_
          by_cases c77 : v38.2 = true
          · rw [if_pos c77] at h5
            refine q_ifF rfl (by simp [c77]) (q_skip rfl (thenC_n (zq rfl (zq rfl (zr rfl rfl rfl (by simp; rfl) ?_)))))
            refine thenC_n ?_
            by_cases c78 : w27 = 1
            · rw [if_pos c78] at h5
              have c78e := eq_true c78
              refine q_ifT rfl (by simp [c78e]) (zr rfl rfl rfl (by simp; rfl) ?_)
              refine thenC_n (zr rfl rfl rfl (by simp; rfl) ?_)
              refine blockC_n (thenC_n (zr rfl rfl rfl (by simp; rfl) ?_))
              have ho := next_some h5
              refine roundC_n ho ?_
              simp [cascade_parseRow_h6, c77]
            · rw [if_neg c78] at h5
              have c78e := eq_false c78
              refine q_ifF rfl (by simp [c78e]) ?_
              obtain ⟨f79, h6⟩ := chk_some h5
              obtain ⟨f79a, f79b⟩ := f79
              refine zr rfl rfl rfl (by simp [f79a, f79b]; rfl) ?_
              refine thenC_n (zr rfl rfl rfl (by simp; rfl) ?_)
              refine blockC_n (thenC_n (zr rfl rfl rfl (by simp; rfl) ?_))
              have ho := next_some h6
              refine roundC_n ho ?_
              simp [cascade_parseRow_h6, c77]
          · rw [if_neg c77] at h5
            refine q_ifT rfl (by simp [c77]) (zq rfl (zr rfl rfl rfl (by simp; rfl) ?_))
            refine thenC_n (q_ret rfl (thenC_r (blockC_r (thenC_r ?_))))
            obtain ⟨rr1, h6, ho1⟩ := exit_some h5
            have hs1 := hr1 _ ho1
            subst hs1
            refine roundC_r ho1 (blockC_r (thenC_r ?_))
            cases h6
            simp [c77]
        · rw [if_neg c74] at h3
          have c74e := eq_false c74
          refine q_ifT rfl (by simp [c74e]) (q_exit rfl (thenC_x (blockC_hit2 rfl (thenC_n (zr rfl rfl rfl (by simp; rfl) ?_)))))
          have ho := next_some h3
          refine roundC_n ho ?_
          simp [cascade_parseRow_h6]
      · rw [if_neg c72] at h2
        refine zr rfl rfl rfl (by simp [c72]; rfl) ?_
        refine thenC_n (q_ifF rfl (by simp) (q_skip rfl (thenC_n (zq rfl ?_))))
        obtain ⟨v39, f80, h3⟩ := bnd_some h2
        obtain ⟨f80a, f80b, f80c, -⟩ := pieceL_some f80
        obtain ⟨f80d, f80g⟩ := piece_hi f80a f80b
        have f80e := pieceL_map (g := fun x : ByteArray => (.sc (.string x) : T)) f80
        try simp at f80e
        have f80f := pieceL_slm f80
        try simp only [Int.reduceToNat, Int.toNat_natCast, Nat.sub_zero] at f80f
        have f80m : w27 ≤ max w28 0 := by omega
        obtain ⟨v40, f81, h4⟩ := bnd_some h3
        have f81k := cascade_parseNumbers_ok f81
        try simp at f81k
        refine zr rfl rfl rfl (by simp [f80a, f80b, f80c, f80d, f80g, f80e, f80f, f80m, f81k]; rfl) ?_
        refine thenC_n (zq rfl (zq rfl (zr rfl rfl rfl (by simp; rfl) ?_)))
        refine thenC_n ?_
        by_cases c82 : v40.2 = true
        · rw [if_pos c82] at h4
          refine q_ifF rfl (by simp [c82]) (q_skip rfl (thenC_n (zq rfl (zq rfl (zr rfl rfl rfl (by simp; rfl) ?_)))))
          refine thenC_n ?_
          by_cases c83 : w27 = 1
          · rw [if_pos c83] at h4
            have c83e := eq_true c83
            refine q_ifT rfl (by simp [c83e]) (zr rfl rfl rfl (by simp; rfl) ?_)
            refine thenC_n (zr rfl rfl rfl (by simp; rfl) ?_)
            refine blockC_n (thenC_n (zr rfl rfl rfl (by simp; rfl) ?_))
            have ho := next_some h4
            refine roundC_n ho ?_
            simp [cascade_parseRow_h6, c82]
          · rw [if_neg c83] at h4
            have c83e := eq_false c83
            refine q_ifF rfl (by simp [c83e]) ?_
            obtain ⟨f84, h5⟩ := chk_some h4
            obtain ⟨f84a, f84b⟩ := f84
            refine zr rfl rfl rfl (by simp [f84a, f84b]; rfl) ?_
            refine thenC_n (zr rfl rfl rfl (by simp; rfl) ?_)
            refine blockC_n (thenC_n (zr rfl rfl rfl (by simp; rfl) ?_))
            have ho := next_some h5
            refine roundC_n ho ?_
            simp [cascade_parseRow_h6, c82]
        · rw [if_neg c82] at h4
          refine q_ifT rfl (by simp [c82]) (zq rfl (zr rfl rfl rfl (by simp; rfl) ?_))
          refine thenC_n (q_ret rfl (thenC_r (blockC_r (thenC_r ?_))))
          obtain ⟨rr1, h5, ho1⟩ := exit_some h4
          have hs1 := hr1 _ ho1
          subst hs1
          refine roundC_r ho1 (blockC_r (thenC_r ?_))
          cases h5
          simp [c82]
    · rw [if_neg c71] at h2
      refine q_ifF rfl (by simp [c71]) (q_exit rfl (thenC_x ?_))
      obtain ⟨rr1, h3, ho1⟩ := exit_some h2
      have hs1 := hr1 _ ho1
      subst hs1
      refine roundC_x ho1 (blockC_hit2 rfl (thenC_n (zq rfl (zr rfl rfl rfl (by simp; rfl) ?_))))
      refine thenC_n (q_ret rfl ?_)
      cases h3
      simp
  · rw [if_neg c44] at h1
    have c44e := eq_false c44
    refine q_ifT rfl (by simp [c44e]) (zq rfl (zr rfl rfl rfl (by simp; rfl) ?_))
    refine thenC_n (q_ret rfl (thenC_r ?_))
    cases h1
    simp

-- semigroup/semigroupref26.split
def ref26_split_b4 (a0 : ByteArray) : ByteArray × Int × List ByteArray → Option ((ByteArray × Int × List ByteArray) ⊕ List ByteArray)
  | (w14, w12, w13) =>
  if w12 < (a0.size : Int) then
    (byteI a0 w12).bind fun v17 =>
    if v17 = 32 then
      chk (capOk 16 (w13.length + 1)) <|
      nextG (ByteArray.empty, IntKind.i64.wrap (w12 + 1), w13 ++ [w14])
    else
      (pieceS a0 w12 (IntKind.i64.wrap (w12 + 1))).bind fun v18 =>
      chk (catOk w14 v18) <|
      nextG (w14 ++ v18, IntKind.i64.wrap (w12 + 1), w13)
  else
    exitG <|
    chk (capOk 16 (w13.length + 1)) <|
    some (w13 ++ [w14])
def ref26_split_h4 (a0 : ByteArray) : ByteArray × Int × List ByteArray → Fr
  | (w14, w12, w13) => ⟨31, [(0, .one (.t none (.sc (.string a0)))), (3, .one (.h 3 [])), (4, .one (.t none (.sc (.string w14)))), (5, .one (.t none (.sc (.int .i64 w12))))], [(3, .os 1 w13.length (w13.map fun x0 => .sc (.string x0)))]⟩
def ref26_split (a0 : ByteArray) : Option (List ByteArray) :=
  loopG (ref26_split_b4 a0) LFm (ByteArray.empty, 0, [])
theorem ref26_split_ok {a0 : ByteArray} {r : List ByteArray} (h0 : ref26_split a0 = some r) : L 52 [.sc (.string a0)] = some (.os 1 r.length (r.map fun x0 => .sc (.string x0)), [.dead]) := by
  simp only [ref26_split] at h0
  refine L_run cfn52 fn52 (runF_of bd52 ⟨of_decide_eq_true rfl, of_decide_eq_true rfl⟩ ?_)
  simp only [entryF, entryT, entryO, entryE, isIo]
  refine zq rfl (zr rfl rfl rfl (by simp; rfl) ?_)
  refine thenC_n (zq rfl (zr rfl rfl rfl (by simp; rfl) ?_))
  refine thenC_n (zq rfl (zr rfl rfl rfl (by simp; rfl) ?_))
  refine thenC_n (zq rfl (zq rfl (zr rfl rfl rfl (by simp; rfl) ?_)))
  refine thenC_n (zb rfl (q_loopG h0 (ref26_split_h4 a0) rfl rfl (by simp [ref26_split_h4]) fun s o1 h1 hr1 => ?_))
  obtain ⟨w14, w12, w13⟩ := s
  simp only [ref26_split_b4] at h1
  simp only [ref26_split_h4]
  refine zq rfl (zq rfl (zr rfl rfl rfl (by simp; rfl) ?_))
  refine thenC_n ?_
  by_cases c30 : w12 < (a0.size : Int)
  · rw [if_pos c30] at h1
    refine q_ifT rfl (by simp [c30]) (q_skip rfl (thenC_n (zq rfl (zb rfl (zq rfl (zq rfl ?_))))))
    obtain ⟨v17, f31, h2⟩ := bnd_some h1
    obtain ⟨f31a, f31b, f31w, f31c, f31d, f31g⟩ := byteI_some f31
    have f31d := f31d.symm
    refine zr rfl rfl rfl (by simp [f31a, f31b, f31c, f31d, f31g]; rfl) ?_
    refine thenC_n ?_
    by_cases c32 : v17 = 32
    · rw [if_pos c32] at h2
      have c32e := eq_true c32
      refine q_ifT rfl (by simp [c32e]) (zq rfl ?_)
      obtain ⟨f33, h3⟩ := chk_some h2
      obtain ⟨f33a, f33b⟩ := f33
      refine zr rfl rfl rfl (by simp [f33a, f33b]; rfl) ?_
      refine thenC_n (zq rfl (zr rfl rfl rfl (by simp; rfl) ?_))
      refine thenC_n (q_exit rfl (thenC_x (blockC_hit2 rfl (thenC_n (zr rfl rfl rfl (by simp; rfl) ?_)))))
      have ho := next_some h3
      refine roundC_n ho ?_
      simp [ref26_split_h4]
    · rw [if_neg c32] at h2
      have c32e := eq_false c32
      refine q_ifF rfl (by simp [c32e]) (q_skip rfl (thenC_n ?_))
      obtain ⟨v18, f34, h3⟩ := bnd_some h2
      obtain ⟨f34a, f34b, f34c, f34d⟩ := pieceS_some f34
      obtain ⟨f34e, f34f⟩ := piece_hi f34a f34b
      have f34d := f34d.symm
      have f34g : w12 ≤ max (IntKind.i64.wrap (w12 + 1)) 0 := by omega
      obtain ⟨f35, h4⟩ := chk_some h3
      refine zr rfl rfl rfl (by simp [f34a, f34b, f34c, f34d, f34e, f34f, f34g, f35]; rfl) ?_
      refine blockC_n (thenC_n (zr rfl rfl rfl (by simp; rfl) ?_))
      have ho := next_some h4
      refine roundC_n ho ?_
      simp [ref26_split_h4]
  · rw [if_neg c30] at h1
    refine q_ifF rfl (by simp [c30]) (q_exit rfl (thenC_x ?_))
    obtain ⟨rr1, h2, ho1⟩ := exit_some h1
    have hs1 := hr1 _ ho1
    subst hs1
    refine roundC_x ho1 (blockC_hit2 rfl (thenC_n (zq rfl ?_)))
    obtain ⟨f36, h3⟩ := chk_some h2
    obtain ⟨f36a, f36b⟩ := f36
    refine zr rfl rfl rfl (by simp [f36a, f36b]; rfl) ?_
    refine thenC_n (q_ret rfl ?_)
    cases h3
    simp

-- semigroup/semigroupref26.number
def ref26_number_b5 (a0 : ByteArray) : Int × Int → Option ((Int × Int) ⊕ Int)
  | (w28, w29) =>
  if w29 < (a0.size : Int) then
    (byteI a0 w29).bind fun v33 =>
    if v33 < 48 then
      exitG <|
      some (-1)
    else
      if 57 < v33 then
        exitG <|
        some (-1)
      else
        nextG (IntKind.i64.wrap ((IntKind.i64.wrap (10 * w28)) + (IntKind.i64.wrap (IntKind.u8.wrap (v33 - 48)))), IntKind.i64.wrap (w29 + 1))
  else
    exitG <|
    if 1000000000 < w28 then
      some (-1)
    else
      some w28
def ref26_number_h5 (a0 : ByteArray) : Int × Int → Fr
  | (w28, w29) => ⟨49, [(0, .one (.t none (.sc (.string a0)))), (3, .one (.t none (.sc (.int .i64 w28)))), (4, .one (.t none (.sc (.int .i64 w29))))], []⟩
def ref26_number_b5a (a0 : ByteArray) : Int × Int → Option ((Int × Int) ⊕ Int)
  | (w39, w40) =>
  if w40 < (a0.size : Int) then
    (byteI a0 w40).bind fun v44 =>
    if v44 < 48 then
      exitG <|
      some (-1)
    else
      if 57 < v44 then
        exitG <|
        some (-1)
      else
        nextG (IntKind.i64.wrap ((IntKind.i64.wrap (10 * w39)) + (IntKind.i64.wrap (IntKind.u8.wrap (v44 - 48)))), IntKind.i64.wrap (w40 + 1))
  else
    exitG <|
    if 1000000000 < w39 then
      some (-1)
    else
      some w39
def ref26_number_h5a (a0 : ByteArray) : Int × Int → Fr
  | (w39, w40) => ⟨49, [(0, .one (.t none (.sc (.string a0)))), (3, .one (.t none (.sc (.int .i64 w39)))), (4, .one (.t none (.sc (.int .i64 w40))))], []⟩
def ref26_number (a0 : ByteArray) : Option (Int) :=
  if a0 = ByteArray.empty then
    some (-1)
  else
    if 10 < (a0.size : Int) then
      some (-1)
    else
      if 1 < (a0.size : Int) then
        (byteI a0 0).bind fun v24 =>
        if v24 = 48 then
          some (-1)
        else
          loopG (ref26_number_b5 a0) LFm (0, 0)
      else
        loopG (ref26_number_b5a a0) LFm (0, 0)
theorem ref26_number_ok {a0 : ByteArray} {r : Int} (h0 : ref26_number a0 = some r) : L 53 [.sc (.string a0)] = some (.sc (.int .i64 r), [.dead]) := by
  simp only [ref26_number] at h0
  refine L_run cfn53 fn53 (runF_of bd53 ⟨of_decide_eq_true rfl, of_decide_eq_true rfl⟩ ?_)
  simp only [entryF, entryT, entryO, entryE, isIo]
  refine zq rfl (zr rfl rfl rfl (by simp; rfl) ?_)
  refine thenC_n (zq rfl (zq rfl ?_))
  by_cases c32 : a0 = ByteArray.empty
  · rw [if_pos c32] at h0
    have c32e := eq_true c32
    refine zr rfl rfl rfl (by simp [c32e]; rfl) ?_
    refine thenC_n (q_ifT rfl (by simp) (zq rfl (zr rfl rfl rfl (by simp; rfl) ?_)))
    refine thenC_n (q_ret rfl (thenC_r ?_))
    cases h0
    simp
  · rw [if_neg c32] at h0
    have c32e := eq_false c32
    by_cases c33 : 10 < (a0.size : Int)
    · rw [if_pos c33] at h0
      refine zr rfl rfl rfl (by simp [c32e, c33]; rfl) ?_
      refine thenC_n (q_ifT rfl (by simp) (zq rfl (zr rfl rfl rfl (by simp; rfl) ?_)))
      refine thenC_n (q_ret rfl (thenC_r ?_))
      cases h0
      simp
    · rw [if_neg c33] at h0
      by_cases c34 : 1 < (a0.size : Int)
      · rw [if_pos c34] at h0
        obtain ⟨v24, f35, h1⟩ := bnd_some h0
        obtain ⟨f35a, f35b, f35w, f35c, f35d, f35g⟩ := byteI_some f35
        have f35d := f35d.symm
        have f35g := f35g (by omega)
        simp only [Int.reduceToNat] at f35g
        simp only [Int.reduceToNat, Int.toNat_natCast] at f35c
        have f35e := f35b
        try simp at f35e
        refine zr rfl rfl rfl (by simp [c32e, c33, c34, f35a, f35b, f35c, f35d, f35g, f35e]; rfl) ?_
        refine thenC_n ?_
        by_cases c36 : v24 = 48
        · rw [if_pos c36] at h1
          have c36e := eq_true c36
          refine q_ifT rfl (by simp [c36e]) (zq rfl (zr rfl rfl rfl (by simp; rfl) ?_))
          refine thenC_n (q_ret rfl (thenC_r ?_))
          cases h1
          simp
        · rw [if_neg c36] at h1
          have c36e := eq_false c36
          refine q_ifF rfl (by simp [c36e]) (q_skip rfl (thenC_n (zq rfl (zr rfl rfl rfl (by simp; rfl) ?_))))
          refine thenC_n (zq rfl (zq rfl (zr rfl rfl rfl (by simp; rfl) ?_)))
          refine thenC_n (zb rfl (q_loopG h1 (ref26_number_h5 a0) rfl rfl (by simp [ref26_number_h5]) fun s o1 h2 hr1 => ?_))
          obtain ⟨w28, w29⟩ := s
          simp only [ref26_number_b5] at h2
          simp only [ref26_number_h5]
          refine zq rfl (zq rfl (zr rfl rfl rfl (by simp; rfl) ?_))
          refine thenC_n ?_
          by_cases c45 : w29 < (a0.size : Int)
          · rw [if_pos c45] at h2
            refine q_ifT rfl (by simp [c45]) (q_skip rfl (thenC_n (zq rfl (zb rfl (zq rfl (zq rfl ?_))))))
            obtain ⟨v33, f46, h3⟩ := bnd_some h2
            obtain ⟨f46a, f46b, f46w, f46c, f46d, f46g⟩ := byteI_some f46
            have f46d := f46d.symm
            by_cases c47 : v33 < 48
            · rw [if_pos c47] at h3
              refine zr rfl rfl rfl (by simp [f46a, f46b, f46c, f46d, f46g, c47]; rfl) ?_
              refine thenC_n (q_ifT rfl (by simp) (zq rfl (zr rfl rfl rfl (by simp; rfl) ?_)))
              refine thenC_n (q_ret rfl (thenC_r (blockC_r (thenC_r ?_))))
              obtain ⟨rr1, h4, ho1⟩ := exit_some h3
              have hs1 := hr1 _ ho1
              subst hs1
              refine roundC_r ho1 (blockC_r (thenC_r ?_))
              cases h4
              simp
            · rw [if_neg c47] at h3
              refine zr rfl rfl rfl (by simp [f46a, f46b, f46c, f46d, f46g, c47]; rfl) ?_
              refine thenC_n ?_
              by_cases c48 : 57 < v33
              · rw [if_pos c48] at h3
                refine q_ifT rfl (by simp [c48]) (zq rfl (zr rfl rfl rfl (by simp; rfl) ?_))
                refine thenC_n (q_ret rfl (thenC_r (blockC_r (thenC_r ?_))))
                obtain ⟨rr1, h4, ho1⟩ := exit_some h3
                have hs1 := hr1 _ ho1
                subst hs1
                refine roundC_r ho1 (blockC_r (thenC_r ?_))
                cases h4
                simp
              · rw [if_neg c48] at h3
                refine q_ifF rfl (by simp [c48]) (q_skip rfl (thenC_n (zr rfl rfl rfl (by simp [f46a, f46b, f46c, f46d, f46g]; rfl) ?_)))
                refine blockC_n (thenC_n (zr rfl rfl rfl (by simp; rfl) ?_))
                have ho := next_some h3
                refine roundC_n ho ?_
                simp [ref26_number_h5]
          · rw [if_neg c45] at h2
            refine q_ifF rfl (by simp [c45]) (q_exit rfl (thenC_x ?_))
            obtain ⟨rr1, h3, ho1⟩ := exit_some h2
            have hs1 := hr1 _ ho1
            subst hs1
            refine roundC_x ho1 (blockC_hit2 rfl (thenC_n (zq rfl (zq rfl (zr rfl rfl rfl (by simp; rfl) ?_)))))
            refine thenC_n ?_
            by_cases c49 : 1000000000 < w28
            · rw [if_pos c49] at h3
              refine q_ifT rfl (by simp [c49]) (zq rfl (zr rfl rfl rfl (by simp; rfl) ?_))
              refine thenC_n (q_ret rfl (thenC_r ?_))
              cases h3
              simp
            · rw [if_neg c49] at h3
              refine q_ifF rfl (by simp [c49]) (q_skip rfl (thenC_n (zq rfl (zr rfl rfl rfl (by simp; rfl) ?_))))
              refine thenC_n (q_ret rfl ?_)
              cases h3
              simp
      · rw [if_neg c34] at h0
        refine zr rfl rfl rfl (by simp [c32e, c33, c34]; rfl) ?_
        refine thenC_n (q_ifF rfl (by simp) (q_skip rfl (thenC_n (zq rfl (zr rfl rfl rfl (by simp; rfl) ?_)))))
        refine thenC_n (zq rfl (zq rfl (zr rfl rfl rfl (by simp; rfl) ?_)))
        refine thenC_n (zb rfl (q_loopG h0 (ref26_number_h5a a0) rfl rfl (by simp [ref26_number_h5a]) fun s o2 h1 hr2 => ?_))
        obtain ⟨w39, w40⟩ := s
        simp only [ref26_number_b5a] at h1
        simp only [ref26_number_h5a]
        refine zq rfl (zq rfl (zr rfl rfl rfl (by simp; rfl) ?_))
        refine thenC_n ?_
        by_cases c58 : w40 < (a0.size : Int)
        · rw [if_pos c58] at h1
          refine q_ifT rfl (by simp [c58]) (q_skip rfl (thenC_n (zq rfl (zb rfl (zq rfl (zq rfl ?_))))))
          obtain ⟨v44, f59, h2⟩ := bnd_some h1
          obtain ⟨f59a, f59b, f59w, f59c, f59d, f59g⟩ := byteI_some f59
          have f59d := f59d.symm
          by_cases c60 : v44 < 48
          · rw [if_pos c60] at h2
            refine zr rfl rfl rfl (by simp [f59a, f59b, f59c, f59d, f59g, c60]; rfl) ?_
            refine thenC_n (q_ifT rfl (by simp) (zq rfl (zr rfl rfl rfl (by simp; rfl) ?_)))
            refine thenC_n (q_ret rfl (thenC_r (blockC_r (thenC_r ?_))))
            obtain ⟨rr2, h3, ho2⟩ := exit_some h2
            have hs2 := hr2 _ ho2
            subst hs2
            refine roundC_r ho2 (blockC_r (thenC_r ?_))
            cases h3
            simp
          · rw [if_neg c60] at h2
            refine zr rfl rfl rfl (by simp [f59a, f59b, f59c, f59d, f59g, c60]; rfl) ?_
            refine thenC_n ?_
            by_cases c61 : 57 < v44
            · rw [if_pos c61] at h2
              refine q_ifT rfl (by simp [c61]) (zq rfl (zr rfl rfl rfl (by simp; rfl) ?_))
              refine thenC_n (q_ret rfl (thenC_r (blockC_r (thenC_r ?_))))
              obtain ⟨rr2, h3, ho2⟩ := exit_some h2
              have hs2 := hr2 _ ho2
              subst hs2
              refine roundC_r ho2 (blockC_r (thenC_r ?_))
              cases h3
              simp
            · rw [if_neg c61] at h2
              refine q_ifF rfl (by simp [c61]) (q_skip rfl (thenC_n (zr rfl rfl rfl (by simp [f59a, f59b, f59c, f59d, f59g]; rfl) ?_)))
              refine blockC_n (thenC_n (zr rfl rfl rfl (by simp; rfl) ?_))
              have ho := next_some h2
              refine roundC_n ho ?_
              simp [ref26_number_h5a]
        · rw [if_neg c58] at h1
          refine q_ifF rfl (by simp [c58]) (q_exit rfl (thenC_x ?_))
          obtain ⟨rr2, h2, ho2⟩ := exit_some h1
          have hs2 := hr2 _ ho2
          subst hs2
          refine roundC_x ho2 (blockC_hit2 rfl (thenC_n (zq rfl (zq rfl (zr rfl rfl rfl (by simp; rfl) ?_)))))
          refine thenC_n ?_
          by_cases c62 : 1000000000 < w39
          · rw [if_pos c62] at h2
            refine q_ifT rfl (by simp [c62]) (zq rfl (zr rfl rfl rfl (by simp; rfl) ?_))
            refine thenC_n (q_ret rfl (thenC_r ?_))
            cases h2
            simp
          · rw [if_neg c62] at h2
            refine q_ifF rfl (by simp [c62]) (q_skip rfl (thenC_n (zq rfl (zr rfl rfl rfl (by simp; rfl) ?_))))
            refine thenC_n (q_ret rfl ?_)
            cases h2
            simp

-- semigroup/semigroupref26.kind
def ref26_kind_b8 (a0 : List Int) (w66 : Int) (v89 : Int) (v90 : Int) : Bool × Int → Option ((Bool × Int) ⊕ ((Bool × Bool × Bool × Int) ⊕ (Bool × Bool × Bool)))
  | (w92, w93) =>
  if w93 < w66 then
    if w92 = true then
      (atI a0 w93).bind fun v95 =>
      nextG (!decide (v95 = v89), IntKind.i64.wrap (w93 + 1))
    else
      nextG (false, IntKind.i64.wrap (w93 + 1))
  else
    exitG <|
    nextG (w92, decide (v89 = v90), decide (v89 = w66), IntKind.i64.wrap (w66 + 1))
def ref26_kind_h8 (a0 : List Int) (w66 : Int) (v89 : Int) (v90 : Int) : Bool × Int → Fr
  | (w92, w93) => ⟨47, [(0, .one (.t none (.sl a0.length (a0.map fun x0 => .sc (.int .i64 x0))))), (2, .one (.t none (.sc (.bool w92)))), (3, .one (.t none (.sc (.bool (decide (v89 = v90)))))), (4, .one (.t none (.sc (.bool (decide (v89 = w66)))))), (5, .one (.t none (.sc (.int .i64 w66)))), (6, .one (.t none (.sc (.int .i64 v89)))), (7, .one (.t none (.sc (.int .i64 w93)))), (8, .one (.t none (.sl a0.length (a0.map fun x0 => .sc (.int .i64 x0))))), (9, .one (.t none (.sc (.int .i64 (a0.length : Int))))), (10, .one (.t none (.sc (.int .i64 w66))))], []⟩
def ref26_kind_b8a (a0 : List Int) (w66 : Int) (v89 : Int) (v90 : Int) : Bool × Int → Option ((Bool × Int) ⊕ ((Bool × Bool × Bool × Int) ⊕ (Bool × Bool × Bool)))
  | (w97, w98) =>
  if w98 < w66 then
    if w97 = true then
      (atI a0 w98).bind fun v100 =>
      nextG (!decide (v100 = v89), IntKind.i64.wrap (w98 + 1))
    else
      nextG (false, IntKind.i64.wrap (w98 + 1))
  else
    exitG <|
    nextG (w97, decide (v89 = v90), false, IntKind.i64.wrap (w66 + 1))
def ref26_kind_h8a (a0 : List Int) (w66 : Int) (v89 : Int) (v90 : Int) : Bool × Int → Fr
  | (w97, w98) => ⟨47, [(0, .one (.t none (.sl a0.length (a0.map fun x0 => .sc (.int .i64 x0))))), (2, .one (.t none (.sc (.bool w97)))), (3, .one (.t none (.sc (.bool (decide (v89 = v90)))))), (4, .one (.t none (.sc (.bool false)))), (5, .one (.t none (.sc (.int .i64 w66)))), (6, .one (.t none (.sc (.int .i64 v89)))), (7, .one (.t none (.sc (.int .i64 w98)))), (8, .one (.t none (.sl a0.length (a0.map fun x0 => .sc (.int .i64 x0))))), (9, .one (.t none (.sc (.int .i64 (a0.length : Int))))), (10, .one (.t none (.sc (.int .i64 w66))))], []⟩
def ref26_kind_b8b (a0 : List Int) (w66 : Int) (v89 : Int) : Bool × Int → Option ((Bool × Int) ⊕ ((Bool × Bool × Bool × Int) ⊕ (Bool × Bool × Bool)))
  | (w102, w103) =>
  if w103 < w66 then
    if w102 = true then
      (atI a0 w103).bind fun v105 =>
      nextG (!decide (v105 = v89), IntKind.i64.wrap (w103 + 1))
    else
      nextG (false, IntKind.i64.wrap (w103 + 1))
  else
    exitG <|
    nextG (w102, false, decide (v89 = w66), IntKind.i64.wrap (w66 + 1))
def ref26_kind_h8b (a0 : List Int) (w66 : Int) (v89 : Int) : Bool × Int → Fr
  | (w102, w103) => ⟨47, [(0, .one (.t none (.sl a0.length (a0.map fun x0 => .sc (.int .i64 x0))))), (2, .one (.t none (.sc (.bool w102)))), (3, .one (.t none (.sc (.bool false)))), (4, .one (.t none (.sc (.bool (decide (v89 = w66)))))), (5, .one (.t none (.sc (.int .i64 w66)))), (6, .one (.t none (.sc (.int .i64 v89)))), (7, .one (.t none (.sc (.int .i64 w103)))), (8, .one (.t none (.sl a0.length (a0.map fun x0 => .sc (.int .i64 x0))))), (9, .one (.t none (.sc (.int .i64 (a0.length : Int))))), (10, .one (.t none (.sc (.int .i64 w66))))], []⟩
def ref26_kind_b8c (a0 : List Int) (w66 : Int) (v89 : Int) : Bool × Int → Option ((Bool × Int) ⊕ ((Bool × Bool × Bool × Int) ⊕ (Bool × Bool × Bool)))
  | (w107, w108) =>
  if w108 < w66 then
    if w107 = true then
      (atI a0 w108).bind fun v110 =>
      nextG (!decide (v110 = v89), IntKind.i64.wrap (w108 + 1))
    else
      nextG (false, IntKind.i64.wrap (w108 + 1))
  else
    exitG <|
    nextG (w107, false, false, IntKind.i64.wrap (w66 + 1))
def ref26_kind_h8c (a0 : List Int) (w66 : Int) (v89 : Int) : Bool × Int → Fr
  | (w107, w108) => ⟨47, [(0, .one (.t none (.sl a0.length (a0.map fun x0 => .sc (.int .i64 x0))))), (2, .one (.t none (.sc (.bool w107)))), (3, .one (.t none (.sc (.bool false)))), (4, .one (.t none (.sc (.bool false)))), (5, .one (.t none (.sc (.int .i64 w66)))), (6, .one (.t none (.sc (.int .i64 v89)))), (7, .one (.t none (.sc (.int .i64 w108)))), (8, .one (.t none (.sl a0.length (a0.map fun x0 => .sc (.int .i64 x0))))), (9, .one (.t none (.sc (.int .i64 (a0.length : Int))))), (10, .one (.t none (.sc (.int .i64 w66))))], []⟩
def ref26_kind_b3 (a0 : List Int) : Bool × Bool × Bool × Int → Option ((Bool × Bool × Bool × Int) ⊕ (Bool × Bool × Bool))
  | (w63, w64, w65, w66) =>
  if w66 < (a0.length : Int) then
    (atI a0 w66).bind fun v89 =>
    if w64 = true then
      (atI a0 0).bind fun v90 =>
      if w65 = true then
        loopG (ref26_kind_b8 a0 w66 v89 v90) LFm (w63, 0)
      else
        loopG (ref26_kind_b8a a0 w66 v89 v90) LFm (w63, 0)
    else
      if w65 = true then
        loopG (ref26_kind_b8b a0 w66 v89) LFm (w63, 0)
      else
        loopG (ref26_kind_b8c a0 w66 v89) LFm (w63, 0)
  else
    exitG <|
    some (w63, w64, w65)
def ref26_kind_h3 (a0 : List Int) : Bool × Bool × Bool × Int → Fr
  | (w63, w64, w65, w66) => ⟨47, [(0, .one (.t none (.sl a0.length (a0.map fun x0 => .sc (.int .i64 x0))))), (2, .one (.t none (.sc (.bool w63)))), (3, .one (.t none (.sc (.bool w64)))), (4, .one (.t none (.sc (.bool w65)))), (8, .one (.t none (.sl a0.length (a0.map fun x0 => .sc (.int .i64 x0))))), (9, .one (.t none (.sc (.int .i64 (a0.length : Int))))), (10, .one (.t none (.sc (.int .i64 w66))))], []⟩
def ref26_kind (a0 : List Int) : Option (Bool × Bool × Bool) :=
  loopG (ref26_kind_b3 a0) LFm (true, true, true, 0)
theorem ref26_kind_ok {a0 : List Int} {r : Bool × Bool × Bool} (h0 : ref26_kind a0 = some r) : L 65 [.sl a0.length (a0.map fun x0 => .sc (.int .i64 x0))] = some (.tup [.sc (.bool r.1), .sc (.bool r.2.1), .sc (.bool r.2.2)], [.dead]) := by
  simp only [ref26_kind] at h0
  refine L_run cfn65 fn65 (runF_of bd65 ⟨of_decide_eq_true rfl, of_decide_eq_true rfl⟩ ?_)
  simp only [entryF, entryT, entryO, entryE, isIo]
  refine zq rfl (zr rfl rfl rfl (by simp; rfl) ?_)
  refine thenC_n (zq rfl (zr rfl rfl rfl (by simp; rfl) ?_))
  refine thenC_n (zq rfl (zq rfl (zr rfl rfl rfl (by simp; rfl) ?_)))
  refine thenC_n (zb rfl (q_loopG h0 (ref26_kind_h3 a0) rfl rfl (by simp [ref26_kind_h3]) fun s o1 h1 hr1 => ?_))
  obtain ⟨w63, w64, w65, w66⟩ := s
  simp only [ref26_kind_b3] at h1
  simp only [ref26_kind_h3]
  refine zq rfl (zr rfl rfl rfl (by simp; rfl) ?_)
  refine thenC_n (zq rfl ?_)
  by_cases c147 : w66 < (a0.length : Int)
  · rw [if_pos c147] at h1
    refine q_ifT rfl (by simp [c147]) (q_skip rfl (thenC_n (zq rfl (zb rfl (zq rfl ?_)))))
    obtain ⟨v89, f148, h2⟩ := bnd_some h1
    obtain ⟨f148a, f148b, f148c, f148d, f148e⟩ := atI_some f148
    refine zr rfl rfl rfl (by simp [f148a, f148b, f148c, f148d, f148e]; rfl) ?_
    refine thenC_n (zq rfl ?_)
    by_cases c149 : w64 = true
    · rw [if_pos c149] at h2
      obtain ⟨v90, f150, h3⟩ := bnd_some h2
      obtain ⟨f150a, f150b, f150c, f150d, f150e⟩ := atI_some f150
      simp only [Int.reduceToNat, Int.toNat_natCast] at f150c f150d f150e
      have f150j : a0 ≠ [] := by intro hh; rw [hh] at f150c; simp at f150c
      have f150l : 0 < a0.length := by omega
      refine zr rfl rfl rfl (by simp [c149, f150a, f150b, f150c, f150d, f150e, f150j, f150l]; rfl) ?_
      refine thenC_n (zq rfl ?_)
      by_cases c151 : w65 = true
      · rw [if_pos c151] at h3
        refine zr rfl rfl rfl (by simp [c151]; rfl) ?_
        refine thenC_n (zq rfl (zr rfl rfl rfl (by simp; rfl) ?_))
        refine thenC_n (zb rfl (q_loopG h3 (ref26_kind_h8 a0 w66 v89 v90) rfl rfl (by simp [ref26_kind_h8]) fun s o2 h4 hr2 => ?_))
        obtain ⟨w92, w93⟩ := s
        simp only [ref26_kind_b8] at h4
        simp only [ref26_kind_h8]
        refine zq rfl (zq rfl (zr rfl rfl rfl (by simp; rfl) ?_))
        refine thenC_n ?_
        by_cases c158 : w93 < w66
        · rw [if_pos c158] at h4
          refine q_ifT rfl (by simp [c158]) (q_skip rfl (thenC_n (zq rfl (zb rfl ?_))))
          by_cases c159 : w92 = true
          · rw [if_pos c159] at h4
            obtain ⟨v95, f160, h5⟩ := bnd_some h4
            obtain ⟨f160a, f160b, f160c, f160d, f160e⟩ := atI_some f160
            refine zr rfl rfl rfl (by simp [c159, f160a, f160b, f160c, f160d, f160e]; rfl) ?_
            refine blockC_n (thenC_n (zr rfl rfl rfl (by simp; rfl) ?_))
            have ho := next_some h5
            refine roundC_n ho ?_
            simp [ref26_kind_h8, c159]
          · rw [if_neg c159] at h4
            refine zr rfl rfl rfl (by simp [c159]; rfl) ?_
            refine blockC_n (thenC_n (zr rfl rfl rfl (by simp; rfl) ?_))
            have ho := next_some h4
            refine roundC_n ho ?_
            simp [ref26_kind_h8, c159]
        · rw [if_neg c158] at h4
          refine q_ifF rfl (by simp [c158]) (q_exit rfl (thenC_x ?_))
          obtain ⟨rr2, h5, ho2⟩ := exit_some h4
          have hs2 := hr2 _ ho2
          subst hs2
          refine roundC_x ho2 (blockC_hit2 rfl (blockC_n (thenC_n (zr rfl rfl rfl (by simp; rfl) ?_))))
          have ho := next_some h5
          refine roundC_n ho ?_
          simp [ref26_kind_h3]
      · rw [if_neg c151] at h3
        refine zr rfl rfl rfl (by simp [c151]; rfl) ?_
        refine thenC_n (zq rfl (zr rfl rfl rfl (by simp; rfl) ?_))
        refine thenC_n (zb rfl (q_loopG h3 (ref26_kind_h8a a0 w66 v89 v90) rfl rfl (by simp [ref26_kind_h8a]) fun s o3 h4 hr3 => ?_))
        obtain ⟨w97, w98⟩ := s
        simp only [ref26_kind_b8a] at h4
        simp only [ref26_kind_h8a]
        refine zq rfl (zq rfl (zr rfl rfl rfl (by simp; rfl) ?_))
        refine thenC_n ?_
        by_cases c167 : w98 < w66
        · rw [if_pos c167] at h4
          refine q_ifT rfl (by simp [c167]) (q_skip rfl (thenC_n (zq rfl (zb rfl ?_))))
          by_cases c168 : w97 = true
          · rw [if_pos c168] at h4
            obtain ⟨v100, f169, h5⟩ := bnd_some h4
            obtain ⟨f169a, f169b, f169c, f169d, f169e⟩ := atI_some f169
            refine zr rfl rfl rfl (by simp [c168, f169a, f169b, f169c, f169d, f169e]; rfl) ?_
            refine blockC_n (thenC_n (zr rfl rfl rfl (by simp; rfl) ?_))
            have ho := next_some h5
            refine roundC_n ho ?_
            simp [ref26_kind_h8a, c168]
          · rw [if_neg c168] at h4
            refine zr rfl rfl rfl (by simp [c168]; rfl) ?_
            refine blockC_n (thenC_n (zr rfl rfl rfl (by simp; rfl) ?_))
            have ho := next_some h4
            refine roundC_n ho ?_
            simp [ref26_kind_h8a, c168]
        · rw [if_neg c167] at h4
          refine q_ifF rfl (by simp [c167]) (q_exit rfl (thenC_x ?_))
          obtain ⟨rr3, h5, ho3⟩ := exit_some h4
          have hs3 := hr3 _ ho3
          subst hs3
          refine roundC_x ho3 (blockC_hit2 rfl (blockC_n (thenC_n (zr rfl rfl rfl (by simp; rfl) ?_))))
          have ho := next_some h5
          refine roundC_n ho ?_
          simp [ref26_kind_h3]
    · rw [if_neg c149] at h2
      refine zr rfl rfl rfl (by simp [c149]; rfl) ?_
      refine thenC_n (zq rfl ?_)
      by_cases c170 : w65 = true
      · rw [if_pos c170] at h2
        refine zr rfl rfl rfl (by simp [c170]; rfl) ?_
        refine thenC_n (zq rfl (zr rfl rfl rfl (by simp; rfl) ?_))
        refine thenC_n (zb rfl (q_loopG h2 (ref26_kind_h8b a0 w66 v89) rfl rfl (by simp [ref26_kind_h8b]) fun s o4 h3 hr4 => ?_))
        obtain ⟨w102, w103⟩ := s
        simp only [ref26_kind_b8b] at h3
        simp only [ref26_kind_h8b]
        refine zq rfl (zq rfl (zr rfl rfl rfl (by simp; rfl) ?_))
        refine thenC_n ?_
        by_cases c177 : w103 < w66
        · rw [if_pos c177] at h3
          refine q_ifT rfl (by simp [c177]) (q_skip rfl (thenC_n (zq rfl (zb rfl ?_))))
          by_cases c178 : w102 = true
          · rw [if_pos c178] at h3
            obtain ⟨v105, f179, h4⟩ := bnd_some h3
            obtain ⟨f179a, f179b, f179c, f179d, f179e⟩ := atI_some f179
            refine zr rfl rfl rfl (by simp [c178, f179a, f179b, f179c, f179d, f179e]; rfl) ?_
            refine blockC_n (thenC_n (zr rfl rfl rfl (by simp; rfl) ?_))
            have ho := next_some h4
            refine roundC_n ho ?_
            simp [ref26_kind_h8b, c178]
          · rw [if_neg c178] at h3
            refine zr rfl rfl rfl (by simp [c178]; rfl) ?_
            refine blockC_n (thenC_n (zr rfl rfl rfl (by simp; rfl) ?_))
            have ho := next_some h3
            refine roundC_n ho ?_
            simp [ref26_kind_h8b, c178]
        · rw [if_neg c177] at h3
          refine q_ifF rfl (by simp [c177]) (q_exit rfl (thenC_x ?_))
          obtain ⟨rr4, h4, ho4⟩ := exit_some h3
          have hs4 := hr4 _ ho4
          subst hs4
          refine roundC_x ho4 (blockC_hit2 rfl (blockC_n (thenC_n (zr rfl rfl rfl (by simp; rfl) ?_))))
          have ho := next_some h4
          refine roundC_n ho ?_
          simp [ref26_kind_h3]
      · rw [if_neg c170] at h2
        refine zr rfl rfl rfl (by simp [c170]; rfl) ?_
        refine thenC_n (zq rfl (zr rfl rfl rfl (by simp; rfl) ?_))
        refine thenC_n (zb rfl (q_loopG h2 (ref26_kind_h8c a0 w66 v89) rfl rfl (by simp [ref26_kind_h8c]) fun s o5 h3 hr5 => ?_))
        obtain ⟨w107, w108⟩ := s
        simp only [ref26_kind_b8c] at h3
        simp only [ref26_kind_h8c]
        refine zq rfl (zq rfl (zr rfl rfl rfl (by simp; rfl) ?_))
        refine thenC_n ?_
        by_cases c186 : w108 < w66
        · rw [if_pos c186] at h3
          refine q_ifT rfl (by simp [c186]) (q_skip rfl (thenC_n (zq rfl (zb rfl ?_))))
          by_cases c187 : w107 = true
          · rw [if_pos c187] at h3
            obtain ⟨v110, f188, h4⟩ := bnd_some h3
            obtain ⟨f188a, f188b, f188c, f188d, f188e⟩ := atI_some f188
            refine zr rfl rfl rfl (by simp [c187, f188a, f188b, f188c, f188d, f188e]; rfl) ?_
            refine blockC_n (thenC_n (zr rfl rfl rfl (by simp; rfl) ?_))
            have ho := next_some h4
            refine roundC_n ho ?_
            simp [ref26_kind_h8c, c187]
          · rw [if_neg c187] at h3
            refine zr rfl rfl rfl (by simp [c187]; rfl) ?_
            refine blockC_n (thenC_n (zr rfl rfl rfl (by simp; rfl) ?_))
            have ho := next_some h3
            refine roundC_n ho ?_
            simp [ref26_kind_h8c, c187]
        · rw [if_neg c186] at h3
          refine q_ifF rfl (by simp [c186]) (q_exit rfl (thenC_x ?_))
          obtain ⟨rr5, h4, ho5⟩ := exit_some h3
          have hs5 := hr5 _ ho5
          subst hs5
          refine roundC_x ho5 (blockC_hit2 rfl (blockC_n (thenC_n (zr rfl rfl rfl (by simp; rfl) ?_))))
          have ho := next_some h4
          refine roundC_n ho ?_
          simp [ref26_kind_h3]
  · rw [if_neg c147] at h1
    refine q_ifF rfl (by simp [c147]) (q_exit rfl (thenC_x ?_))
    obtain ⟨rr1, h2, ho1⟩ := exit_some h1
    have hs1 := hr1 _ ho1
    subst hs1
    refine roundC_x ho1 (blockC_hit2 rfl (thenC_n (zq rfl (zr rfl rfl rfl (by simp; rfl) ?_))))
    refine thenC_n (q_ret rfl ?_)
    cases h2
    simp

-- semigroup/semigroupref26.Kinds
def ref26_Kinds_b12 (w169 : Int) (w228 : Int) (v241 : CRow) : Bool × Bool × Bool × Bool × Int → Option ((Bool × Bool × Bool × Bool × Int) ⊕ ((Bool × Bool × Bool × Bool × Int) ⊕ ((Int × List Int) ⊕ List Int)))
  | (w244, w245, w246, w247, w248) =>
  if w248 < (v241.maps.length : Int) then
    (atI v241.maps w248).bind fun v251 =>
    if (v241.pre.length : Int) = w169 then
      (ref26_kind v251).bind fun v252 =>
      if w245 = true then
        if w246 = true then
          if v252.2.1 = true then
            if w247 = true then
              if v252.1 = true then
                nextG (true, v252.1, true, true, IntKind.i64.wrap (w248 + 1))
              else
                nextG (true, v252.1, true, v252.2.1, IntKind.i64.wrap (w248 + 1))
            else
              nextG (true, v252.1, true, false, IntKind.i64.wrap (w248 + 1))
          else
            if w247 = true then
              if v252.1 = true then
                nextG (true, v252.1, v252.2.2, true, IntKind.i64.wrap (w248 + 1))
              else
                nextG (true, v252.1, v252.2.2, v252.2.1, IntKind.i64.wrap (w248 + 1))
            else
              nextG (true, v252.1, v252.2.2, false, IntKind.i64.wrap (w248 + 1))
        else
          if w247 = true then
            if v252.1 = true then
              nextG (true, v252.1, false, true, IntKind.i64.wrap (w248 + 1))
            else
              nextG (true, v252.1, false, v252.2.1, IntKind.i64.wrap (w248 + 1))
          else
            nextG (true, v252.1, false, false, IntKind.i64.wrap (w248 + 1))
      else
        if w246 = true then
          if v252.2.1 = true then
            if w247 = true then
              if v252.1 = true then
                nextG (true, false, true, true, IntKind.i64.wrap (w248 + 1))
              else
                nextG (true, false, true, v252.2.1, IntKind.i64.wrap (w248 + 1))
            else
              nextG (true, false, true, false, IntKind.i64.wrap (w248 + 1))
          else
            if w247 = true then
              if v252.1 = true then
                nextG (true, false, v252.2.2, true, IntKind.i64.wrap (w248 + 1))
              else
                nextG (true, false, v252.2.2, v252.2.1, IntKind.i64.wrap (w248 + 1))
            else
              nextG (true, false, v252.2.2, false, IntKind.i64.wrap (w248 + 1))
        else
          if w247 = true then
            if v252.1 = true then
              nextG (true, false, false, true, IntKind.i64.wrap (w248 + 1))
            else
              nextG (true, false, false, v252.2.1, IntKind.i64.wrap (w248 + 1))
          else
            nextG (true, false, false, false, IntKind.i64.wrap (w248 + 1))
    else
      nextG (w244, w245, w246, w247, IntKind.i64.wrap (w248 + 1))
  else
    exitG <|
    nextG (w244, w245, w246, w247, IntKind.i64.wrap (w228 + 1))
def ref26_Kinds_h12 (a0 : Casc) (w169 : Int) (w170 : List Int) (w228 : Int) (v241 : CRow) : Bool × Bool × Bool × Bool × Int → Fr
  | (w244, w245, w246, w247, w248) => ⟨96, [(1, .one (.a 1 [] (0))), (3, .one (.h 3 [])), (4, .one (.t none (.sc (.int .i64 w169)))), (5, .one (.t none (.sc (.bool w244)))), (6, .one (.t none (.sc (.bool w245)))), (7, .one (.t none (.sc (.bool w246)))), (8, .one (.t none (.sc (.bool w247)))), (10, .one (.a 10 [] (0))), (21, .one (.t none (.sc (.int .i64 (a0.sizes.length : Int))))), (22, .one (.t none (.sc (.int .i64 w169)))), (26, .one (.t none (.sl a0.rows.length (a0.rows.flatMap fun x0 => [.sl x0.pre.length (x0.pre.map fun x1 => .sc (.int .i64 x1)), .sl x0.maps.length (x0.maps.map fun x1 => .sl x1.length (x1.map fun x2 => .sc (.int .i64 x2)))])))), (27, .one (.t none (.sc (.int .i64 (a0.rows.length : Int))))), (28, .one (.t none (.sc (.int .i64 w228)))), (33, .one (.t none (.sl v241.maps.length (v241.maps.map fun x0 => .sl x0.length (x0.map fun x1 => .sc (.int .i64 x1)))))), (34, .one (.t none (.sc (.int .i64 (v241.maps.length : Int))))), (35, .one (.t none (.sc (.int .i64 w248))))], [(1, .vr [.sc (.int .i64 a0.letters), .sl a0.sizes.length (a0.sizes.map fun x0 => .sc (.int .i64 x0)), .sl a0.rows.length (a0.rows.flatMap fun x0 => [.sl x0.pre.length (x0.pre.map fun x1 => .sc (.int .i64 x1)), .sl x0.maps.length (x0.maps.map fun x1 => .sl x1.length (x1.map fun x2 => .sc (.int .i64 x2)))])]), (3, .os 1 w170.length (w170.map fun x0 => .sc (.int .i64 x0))), (10, .vr [.sl v241.pre.length (v241.pre.map fun x0 => .sc (.int .i64 x0)), .sl v241.maps.length (v241.maps.map fun x0 => .sl x0.length (x0.map fun x1 => .sc (.int .i64 x1)))])]⟩
def ref26_Kinds_b9 (a0 : Casc) (w169 : Int) (w170 : List Int) : Bool × Bool × Bool × Bool × Int → Option ((Bool × Bool × Bool × Bool × Int) ⊕ ((Int × List Int) ⊕ List Int))
  | (w224, w225, w226, w227, w228) =>
  if w228 < (a0.rows.length : Int) then
    (atI a0.rows w228).bind fun v241 =>
    loopG (ref26_Kinds_b12 w169 w228 v241) LFm (w224, w225, w226, w227, 0)
  else
    exitG <|
    if w224 = true then
      if w225 = true then
        chk (capOk 8 (w170.length + 1)) <|
        nextG (IntKind.i64.wrap (w169 + 1), w170 ++ [1])
      else
        if w226 = true then
          chk (capOk 8 (w170.length + 1)) <|
          nextG (IntKind.i64.wrap (w169 + 1), w170 ++ [2])
        else
          if w227 = true then
            chk (capOk 8 (w170.length + 1)) <|
            nextG (IntKind.i64.wrap (w169 + 1), w170 ++ [3])
          else
            chk (capOk 8 (w170.length + 1)) <|
            nextG (IntKind.i64.wrap (w169 + 1), w170 ++ [4])
    else
      chk (capOk 8 (w170.length + 1)) <|
      nextG (IntKind.i64.wrap (w169 + 1), w170 ++ [0])
def ref26_Kinds_h9 (a0 : Casc) (w169 : Int) (w170 : List Int) : Bool × Bool × Bool × Bool × Int → Fr
  | (w224, w225, w226, w227, w228) => ⟨96, [(1, .one (.a 1 [] (0))), (3, .one (.h 3 [])), (4, .one (.t none (.sc (.int .i64 w169)))), (5, .one (.t none (.sc (.bool w224)))), (6, .one (.t none (.sc (.bool w225)))), (7, .one (.t none (.sc (.bool w226)))), (8, .one (.t none (.sc (.bool w227)))), (21, .one (.t none (.sc (.int .i64 (a0.sizes.length : Int))))), (22, .one (.t none (.sc (.int .i64 w169)))), (26, .one (.t none (.sl a0.rows.length (a0.rows.flatMap fun x0 => [.sl x0.pre.length (x0.pre.map fun x1 => .sc (.int .i64 x1)), .sl x0.maps.length (x0.maps.map fun x1 => .sl x1.length (x1.map fun x2 => .sc (.int .i64 x2)))])))), (27, .one (.t none (.sc (.int .i64 (a0.rows.length : Int))))), (28, .one (.t none (.sc (.int .i64 w228))))], [(1, .vr [.sc (.int .i64 a0.letters), .sl a0.sizes.length (a0.sizes.map fun x0 => .sc (.int .i64 x0)), .sl a0.rows.length (a0.rows.flatMap fun x0 => [.sl x0.pre.length (x0.pre.map fun x1 => .sc (.int .i64 x1)), .sl x0.maps.length (x0.maps.map fun x1 => .sl x1.length (x1.map fun x2 => .sc (.int .i64 x2)))])]), (3, .os 1 w170.length (w170.map fun x0 => .sc (.int .i64 x0)))]⟩
def ref26_Kinds_b5 (a0 : Casc) : Int × List Int → Option ((Int × List Int) ⊕ List Int)
  | (w169, w170) =>
  if w169 < (a0.sizes.length : Int) then
    loopG (ref26_Kinds_b9 a0 w169 w170) LFm (false, true, true, true, 0)
  else
    exitG <|
    some w170
def ref26_Kinds_h5 (a0 : Casc) : Int × List Int → Fr
  | (w169, w170) => ⟨96, [(1, .one (.a 1 [] (0))), (3, .one (.h 3 [])), (21, .one (.t none (.sc (.int .i64 (a0.sizes.length : Int))))), (22, .one (.t none (.sc (.int .i64 w169))))], [(1, .vr [.sc (.int .i64 a0.letters), .sl a0.sizes.length (a0.sizes.map fun x0 => .sc (.int .i64 x0)), .sl a0.rows.length (a0.rows.flatMap fun x0 => [.sl x0.pre.length (x0.pre.map fun x1 => .sc (.int .i64 x1)), .sl x0.maps.length (x0.maps.map fun x1 => .sl x1.length (x1.map fun x2 => .sc (.int .i64 x2)))])]), (3, .os 1 w170.length (w170.map fun x0 => .sc (.int .i64 x0)))]⟩
def ref26_Kinds (a0 : Casc) : Option (List Int) :=
  (ref26_Validate a0).bind fun v127 =>
  if v127 = 0 then
    loopG (ref26_Kinds_b5 a0) LFm (0, [])
  else
    some []
theorem ref26_Kinds_ok {a0 : Casc} {r : List Int} (h0 : ref26_Kinds a0 = some r) : L 45 [.agg [.sc (.int .i64 a0.letters), .sl a0.sizes.length (a0.sizes.map fun x0 => .sc (.int .i64 x0)), .sl a0.rows.length (a0.rows.flatMap fun x0 => [.sl x0.pre.length (x0.pre.map fun x1 => .sc (.int .i64 x1)), .sl x0.maps.length (x0.maps.map fun x1 => .sl x1.length (x1.map fun x2 => .sc (.int .i64 x2)))])]] = some (.os 1 r.length (r.map fun x0 => .sc (.int .i64 x0)), [.dead]) := by
  simp only [ref26_Kinds] at h0
  refine L_run cfn45 fn45 (runF_of bd45 ⟨of_decide_eq_true rfl, of_decide_eq_true rfl⟩ ?_)
  simp only [entryF, entryT, entryO, entryE, isIo]
  refine zq rfl (zr rfl rfl rfl (by simp; rfl) ?_)
  refine thenC_n (zq rfl (zq rfl ?_))
  obtain ⟨v127, f571, h1⟩ := bnd_some h0
  have f571k := ref26_Validate_ok f571
  try simp at f571k
  refine zr rfl rfl rfl (by simp [f571k]; rfl) ?_
  refine thenC_n ?_
  by_cases c572 : v127 = 0
  · rw [if_pos c572] at h1
    have c572e := eq_true c572
    refine q_ifF rfl (by simp [c572e]) (q_skip rfl (thenC_n (zq rfl (zr rfl rfl rfl (by simp; rfl) ?_))))
    refine thenC_n (zq rfl (zq rfl (zr rfl rfl rfl (by simp; rfl) ?_)))
    refine thenC_n (zb rfl (q_loopG h1 (ref26_Kinds_h5 a0) rfl rfl (by simp [ref26_Kinds_h5]) fun s o1 h2 hr1 => ?_))
    obtain ⟨w169, w170⟩ := s
    simp only [ref26_Kinds_b5] at h2
    simp only [ref26_Kinds_h5]
    refine zq rfl (zr rfl rfl rfl (by simp; rfl) ?_)
    refine thenC_n (zq rfl ?_)
    by_cases c950 : w169 < (a0.sizes.length : Int)
    · rw [if_pos c950] at h2
      refine q_ifT rfl (by simp [c950]) (q_skip rfl (thenC_n (zq rfl (zb rfl (zq rfl (zr rfl rfl rfl (by simp; rfl) ?_))))))
      refine thenC_n (zq rfl (zr rfl rfl rfl (by simp; rfl) ?_))
      refine thenC_n (zq rfl (zq rfl (zr rfl rfl rfl (by simp; rfl) ?_)))
      refine thenC_n (zb rfl (q_loopG h2 (ref26_Kinds_h9 a0 w169 w170) rfl rfl (by simp [ref26_Kinds_h9]) fun s o2 h3 hr2 => ?_))
      obtain ⟨w224, w225, w226, w227, w228⟩ := s
      simp only [ref26_Kinds_b9] at h3
      simp only [ref26_Kinds_h9]
      refine zq rfl (zr rfl rfl rfl (by simp; rfl) ?_)
      refine thenC_n (zq rfl ?_)
      by_cases c1067 : w228 < (a0.rows.length : Int)
      · rw [if_pos c1067] at h3
        refine q_ifT rfl (by simp [c1067]) (q_skip rfl (thenC_n (zq rfl (zb rfl (zq rfl ?_)))))
        obtain ⟨v241, f1068, h4⟩ := bnd_some h3
        obtain ⟨f1068a, f1068b, f1068c, f1068d, f1068e⟩ := atI_some f1068
        have f1068g := flat_some (g := fun x : CRow => ([.sl x.pre.length (x.pre.map fun x0 => .sc (.int .i64 x0)), .sl x.maps.length (x.maps.map fun x0 => .sl x0.length (x0.map fun x1 => .sc (.int .i64 x1)))] : List T)) (m := 2) (fun _ => rfl) f1068d
        have f1068h := flat_len (g := fun x : CRow => ([.sl x.pre.length (x.pre.map fun x0 => .sc (.int .i64 x0)), .sl x.maps.length (x.maps.map fun x0 => .sl x0.length (x0.map fun x1 => .sc (.int .i64 x1)))] : List T)) (m := 2) (fun _ => rfl) a0.rows
        have f1068k0 := f1068g.2.2.1 0 (by decide)
        have f1068m0 := f1068g.2.2.2 0 _ rfl
        have f1068k1 := f1068g.2.2.1 1 (by decide)
        have f1068m1 := f1068g.2.2.2 1 _ rfl
        obtain ⟨f1068g, f1068i, -⟩ := f1068g
        try simp at f1068i f1068h f1068k0 f1068m0 f1068k1 f1068m1
        refine zr rfl rfl rfl (by simp [f1068a, f1068b, f1068c, f1068d, f1068e, f1068g, f1068i, f1068h, f1068k0, f1068k1, f1068m0, f1068m1]; rfl) ?_
        refine thenC_n (zq rfl (zr rfl rfl rfl (by simp; rfl) ?_))
        refine thenC_n (zb rfl (q_loopG h4 (ref26_Kinds_h12 a0 w169 w170 w228 v241) rfl rfl (by simp [ref26_Kinds_h12]) fun s o3 h5 hr3 => ?_))
        obtain ⟨w244, w245, w246, w247, w248⟩ := s
        simp only [ref26_Kinds_b12] at h5
        simp only [ref26_Kinds_h12]
        refine zq rfl (zr rfl rfl rfl (by simp; rfl) ?_)
        refine thenC_n (zq rfl ?_)
        by_cases c1111 : w248 < (v241.maps.length : Int)
        · rw [if_pos c1111] at h5
          refine q_ifT rfl (by simp [c1111]) (q_skip rfl (thenC_n (zq rfl (zb rfl (zq rfl ?_)))))
          obtain ⟨v251, f1112, h6⟩ := bnd_some h5
          obtain ⟨f1112a, f1112b, f1112c, f1112d, f1112e⟩ := atI_some f1112
          refine zr rfl rfl rfl (by simp [f1112a, f1112b, f1112c, f1112d, f1112e]; rfl) ?_
          refine thenC_n (zq rfl (zq rfl (zr rfl rfl rfl (by simp; rfl) ?_)))
          refine thenC_n ?_
          by_cases c1113 : (v241.pre.length : Int) = w169
          · rw [if_pos c1113] at h6
            have c1113e := eq_true c1113
            refine q_ifF rfl (by simp [c1113e]) (q_skip rfl (thenC_n (zq rfl ?_)))
            obtain ⟨v252, f1114, h7⟩ := bnd_some h6
            have f1114k := ref26_kind_ok f1114
            try simp at f1114k
            refine zr rfl rfl rfl (by simp [f1114k]; rfl) ?_
            refine thenC_n ?_
            by_cases c1115 : w245 = true
            · rw [if_pos c1115] at h7
              by_cases c1116 : w246 = true
              · rw [if_pos c1116] at h7
                by_cases c1117 : v252.2.1 = true
                · rw [if_pos c1117] at h7
                  by_cases c1118 : w247 = true
                  · rw [if_pos c1118] at h7
                    by_cases c1119 : v252.1 = true
                    · rw [if_pos c1119] at h7
                      refine zr rfl rfl rfl (by simp [c1115, c1116, c1117, c1118, c1119]; rfl) ?_
                      refine blockC_n (thenC_n (zr rfl rfl rfl (by simp; rfl) ?_))
                      have ho := next_some h7
                      refine roundC_n ho ?_
                      simp [ref26_Kinds_h12, c1115, c1116, c1117, c1118, c1119]
                    · rw [if_neg c1119] at h7
                      refine zr rfl rfl rfl (by simp [c1115, c1116, c1117, c1118, c1119]; rfl) ?_
                      refine blockC_n (thenC_n (zr rfl rfl rfl (by simp; rfl) ?_))
                      have ho := next_some h7
                      refine roundC_n ho ?_
                      simp [ref26_Kinds_h12, c1115, c1116, c1117, c1118, c1119]
                  · rw [if_neg c1118] at h7
                    refine zr rfl rfl rfl (by simp [c1115, c1116, c1117, c1118]; rfl) ?_
                    refine blockC_n (thenC_n (zr rfl rfl rfl (by simp; rfl) ?_))
                    have ho := next_some h7
                    refine roundC_n ho ?_
                    simp [ref26_Kinds_h12, c1115, c1116, c1117, c1118]
                · rw [if_neg c1117] at h7
                  by_cases c1120 : w247 = true
                  · rw [if_pos c1120] at h7
                    by_cases c1121 : v252.1 = true
                    · rw [if_pos c1121] at h7
                      refine zr rfl rfl rfl (by simp [c1115, c1116, c1117, c1120, c1121]; rfl) ?_
                      refine blockC_n (thenC_n (zr rfl rfl rfl (by simp; rfl) ?_))
                      have ho := next_some h7
                      refine roundC_n ho ?_
                      simp [ref26_Kinds_h12, c1115, c1116, c1117, c1120, c1121]
                    · rw [if_neg c1121] at h7
                      refine zr rfl rfl rfl (by simp [c1115, c1116, c1117, c1120, c1121]; rfl) ?_
                      refine blockC_n (thenC_n (zr rfl rfl rfl (by simp; rfl) ?_))
                      have ho := next_some h7
                      refine roundC_n ho ?_
                      simp [ref26_Kinds_h12, c1115, c1116, c1117, c1120, c1121]
                  · rw [if_neg c1120] at h7
                    refine zr rfl rfl rfl (by simp [c1115, c1116, c1117, c1120]; rfl) ?_
                    refine blockC_n (thenC_n (zr rfl rfl rfl (by simp; rfl) ?_))
                    have ho := next_some h7
                    refine roundC_n ho ?_
                    simp [ref26_Kinds_h12, c1115, c1116, c1117, c1120]
              · rw [if_neg c1116] at h7
                by_cases c1122 : w247 = true
                · rw [if_pos c1122] at h7
                  by_cases c1123 : v252.1 = true
                  · rw [if_pos c1123] at h7
                    refine zr rfl rfl rfl (by simp [c1115, c1116, c1122, c1123]; rfl) ?_
                    refine blockC_n (thenC_n (zr rfl rfl rfl (by simp; rfl) ?_))
                    have ho := next_some h7
                    refine roundC_n ho ?_
                    simp [ref26_Kinds_h12, c1115, c1116, c1122, c1123]
                  · rw [if_neg c1123] at h7
                    refine zr rfl rfl rfl (by simp [c1115, c1116, c1122, c1123]; rfl) ?_
                    refine blockC_n (thenC_n (zr rfl rfl rfl (by simp; rfl) ?_))
                    have ho := next_some h7
                    refine roundC_n ho ?_
                    simp [ref26_Kinds_h12, c1115, c1116, c1122, c1123]
                · rw [if_neg c1122] at h7
                  refine zr rfl rfl rfl (by simp [c1115, c1116, c1122]; rfl) ?_
                  refine blockC_n (thenC_n (zr rfl rfl rfl (by simp; rfl) ?_))
                  have ho := next_some h7
                  refine roundC_n ho ?_
                  simp [ref26_Kinds_h12, c1115, c1116, c1122]
            · rw [if_neg c1115] at h7
              by_cases c1124 : w246 = true
              · rw [if_pos c1124] at h7
                by_cases c1125 : v252.2.1 = true
                · rw [if_pos c1125] at h7
                  by_cases c1126 : w247 = true
                  · rw [if_pos c1126] at h7
                    by_cases c1127 : v252.1 = true
                    · rw [if_pos c1127] at h7
                      refine zr rfl rfl rfl (by simp [c1115, c1124, c1125, c1126, c1127]; rfl) ?_
                      refine blockC_n (thenC_n (zr rfl rfl rfl (by simp; rfl) ?_))
                      have ho := next_some h7
                      refine roundC_n ho ?_
                      simp [ref26_Kinds_h12, c1115, c1124, c1125, c1126, c1127]
                    · rw [if_neg c1127] at h7
                      refine zr rfl rfl rfl (by simp [c1115, c1124, c1125, c1126, c1127]; rfl) ?_
                      refine blockC_n (thenC_n (zr rfl rfl rfl (by simp; rfl) ?_))
                      have ho := next_some h7
                      refine roundC_n ho ?_
                      simp [ref26_Kinds_h12, c1115, c1124, c1125, c1126, c1127]
                  · rw [if_neg c1126] at h7
                    refine zr rfl rfl rfl (by simp [c1115, c1124, c1125, c1126]; rfl) ?_
                    refine blockC_n (thenC_n (zr rfl rfl rfl (by simp; rfl) ?_))
                    have ho := next_some h7
                    refine roundC_n ho ?_
                    simp [ref26_Kinds_h12, c1115, c1124, c1125, c1126]
                · rw [if_neg c1125] at h7
                  by_cases c1128 : w247 = true
                  · rw [if_pos c1128] at h7
                    by_cases c1129 : v252.1 = true
                    · rw [if_pos c1129] at h7
                      refine zr rfl rfl rfl (by simp [c1115, c1124, c1125, c1128, c1129]; rfl) ?_
                      refine blockC_n (thenC_n (zr rfl rfl rfl (by simp; rfl) ?_))
                      have ho := next_some h7
                      refine roundC_n ho ?_
                      simp [ref26_Kinds_h12, c1115, c1124, c1125, c1128, c1129]
                    · rw [if_neg c1129] at h7
                      refine zr rfl rfl rfl (by simp [c1115, c1124, c1125, c1128, c1129]; rfl) ?_
                      refine blockC_n (thenC_n (zr rfl rfl rfl (by simp; rfl) ?_))
                      have ho := next_some h7
                      refine roundC_n ho ?_
                      simp [ref26_Kinds_h12, c1115, c1124, c1125, c1128, c1129]
                  · rw [if_neg c1128] at h7
                    refine zr rfl rfl rfl (by simp [c1115, c1124, c1125, c1128]; rfl) ?_
                    refine blockC_n (thenC_n (zr rfl rfl rfl (by simp; rfl) ?_))
                    have ho := next_some h7
                    refine roundC_n ho ?_
                    simp [ref26_Kinds_h12, c1115, c1124, c1125, c1128]
              · rw [if_neg c1124] at h7
                by_cases c1130 : w247 = true
                · rw [if_pos c1130] at h7
                  by_cases c1131 : v252.1 = true
                  · rw [if_pos c1131] at h7
                    refine zr rfl rfl rfl (by simp [c1115, c1124, c1130, c1131]; rfl) ?_
                    refine blockC_n (thenC_n (zr rfl rfl rfl (by simp; rfl) ?_))
                    have ho := next_some h7
                    refine roundC_n ho ?_
                    simp [ref26_Kinds_h12, c1115, c1124, c1130, c1131]
                  · rw [if_neg c1131] at h7
                    refine zr rfl rfl rfl (by simp [c1115, c1124, c1130, c1131]; rfl) ?_
                    refine blockC_n (thenC_n (zr rfl rfl rfl (by simp; rfl) ?_))
                    have ho := next_some h7
                    refine roundC_n ho ?_
                    simp [ref26_Kinds_h12, c1115, c1124, c1130, c1131]
                · rw [if_neg c1130] at h7
                  refine zr rfl rfl rfl (by simp [c1115, c1124, c1130]; rfl) ?_
                  refine blockC_n (thenC_n (zr rfl rfl rfl (by simp; rfl) ?_))
                  have ho := next_some h7
                  refine roundC_n ho ?_
                  simp [ref26_Kinds_h12, c1115, c1124, c1130]
          · rw [if_neg c1113] at h6
            have c1113e := eq_false c1113
            refine q_ifT rfl (by simp [c1113e]) (q_exit rfl (thenC_x (blockC_hit2 rfl (thenC_n (zr rfl rfl rfl (by simp; rfl) ?_)))))
            have ho := next_some h6
            refine roundC_n ho ?_
            simp [ref26_Kinds_h12]
        · rw [if_neg c1111] at h5
          refine q_ifF rfl (by simp [c1111]) (q_exit rfl (thenC_x ?_))
          obtain ⟨rr3, h6, ho3⟩ := exit_some h5
          have hs3 := hr3 _ ho3
          subst hs3
          refine roundC_x ho3 (blockC_hit2 rfl (blockC_n (thenC_n (zr rfl rfl rfl (by simp; rfl) ?_))))
          have ho := next_some h6
          refine roundC_n ho ?_
          simp [ref26_Kinds_h9]
      · rw [if_neg c1067] at h3
        refine q_ifF rfl (by simp [c1067]) (q_exit rfl (thenC_x ?_))
        obtain ⟨rr2, h4, ho2⟩ := exit_some h3
        have hs2 := hr2 _ ho2
        subst hs2
        refine roundC_x ho2 (blockC_hit2 rfl (thenC_n (zb rfl (zq rfl (zr rfl rfl rfl (by simp; rfl) ?_)))))
        refine thenC_n ?_
        by_cases c1132 : w224 = true
        · rw [if_pos c1132] at h4
          refine q_ifF rfl (by simp [c1132]) (zq rfl (zr rfl rfl rfl (by simp; rfl) ?_))
          refine thenC_n ?_
          by_cases c1133 : w225 = true
          · rw [if_pos c1133] at h4
            refine q_ifT rfl (by simp [c1133]) ?_
            obtain ⟨f1134, h5⟩ := chk_some h4
            obtain ⟨f1134a, f1134b⟩ := f1134
            refine zr rfl rfl rfl (by simp [f1134a, f1134b]; rfl) ?_
            refine blockC_n (blockC_n (thenC_n (zr rfl rfl rfl (by simp; rfl) ?_)))
            have ho := next_some h5
            refine roundC_n ho ?_
            simp [ref26_Kinds_h5, c1132, c1133]
          · rw [if_neg c1133] at h4
            refine q_ifF rfl (by simp [c1133]) (zq rfl (zr rfl rfl rfl (by simp; rfl) ?_))
            refine thenC_n ?_
            by_cases c1135 : w226 = true
            · rw [if_pos c1135] at h4
              refine q_ifT rfl (by simp [c1135]) ?_
              obtain ⟨f1136, h5⟩ := chk_some h4
              obtain ⟨f1136a, f1136b⟩ := f1136
              refine zr rfl rfl rfl (by simp [f1136a, f1136b]; rfl) ?_
              refine blockC_n (blockC_n (thenC_n (zr rfl rfl rfl (by simp; rfl) ?_)))
              have ho := next_some h5
              refine roundC_n ho ?_
              simp [ref26_Kinds_h5, c1132, c1133, c1135]
            · rw [if_neg c1135] at h4
              refine q_ifF rfl (by simp [c1135]) (zq rfl (zr rfl rfl rfl (by simp; rfl) ?_))
              refine thenC_n ?_
              by_cases c1137 : w227 = true
              · rw [if_pos c1137] at h4
                refine q_ifT rfl (by simp [c1137]) ?_
                obtain ⟨f1138, h5⟩ := chk_some h4
                obtain ⟨f1138a, f1138b⟩ := f1138
                refine zr rfl rfl rfl (by simp [f1138a, f1138b]; rfl) ?_
                refine blockC_n (blockC_n (thenC_n (zr rfl rfl rfl (by simp; rfl) ?_)))
                have ho := next_some h5
                refine roundC_n ho ?_
                simp [ref26_Kinds_h5, c1132, c1133, c1135, c1137]
              · rw [if_neg c1137] at h4
                refine q_ifF rfl (by simp [c1137]) ?_
                obtain ⟨f1139, h5⟩ := chk_some h4
                obtain ⟨f1139a, f1139b⟩ := f1139
                refine zr rfl rfl rfl (by simp [f1139a, f1139b]; rfl) ?_
                refine blockC_n (blockC_n (thenC_n (zr rfl rfl rfl (by simp; rfl) ?_)))
                have ho := next_some h5
                refine roundC_n ho ?_
                simp [ref26_Kinds_h5, c1132, c1133, c1135, c1137]
        · rw [if_neg c1132] at h4
          refine q_ifT rfl (by simp [c1132]) ?_
          obtain ⟨f1140, h5⟩ := chk_some h4
          obtain ⟨f1140a, f1140b⟩ := f1140
          refine zr rfl rfl rfl (by simp [f1140a, f1140b]; rfl) ?_
          refine blockC_n (blockC_n (thenC_n (zr rfl rfl rfl (by simp; rfl) ?_)))
          have ho := next_some h5
          refine roundC_n ho ?_
          simp [ref26_Kinds_h5, c1132]
    · rw [if_neg c950] at h2
      refine q_ifF rfl (by simp [c950]) (q_exit rfl (thenC_x ?_))
      obtain ⟨rr1, h3, ho1⟩ := exit_some h2
      have hs1 := hr1 _ ho1
      subst hs1
      refine roundC_x ho1 (blockC_hit2 rfl (thenC_n (zq rfl (zr rfl rfl rfl (by simp; rfl) ?_))))
      refine thenC_n (q_ret rfl ?_)
      cases h3
      simp
  · rw [if_neg c572] at h1
    have c572e := eq_false c572
    refine q_ifT rfl (by simp [c572e]) (zq rfl (zr rfl rfl rfl (by simp; rfl) ?_))
    refine thenC_n (q_ret rfl (thenC_r ?_))
    cases h1
    simp

-- semigroup/semigroupmade.FewRows
def made_FewRows_b4 (a0 : List (List Int)) : Int → Option (Int ⊕ Bool)
  | w6 =>
  if w6 < (a0.length : Int) then
    (atI a0 w6).bind fun v8 =>
    if 30 < (v8.length : Int) then
      exitG <|
      some false
    else
      nextG (IntKind.i64.wrap (w6 + 1))
  else
    exitG <|
    some true
def made_FewRows_h4 (a0 : List (List Int)) : Int → Fr
  | w6 => ⟨18, [(8, .one (.t none (.sl a0.length (a0.map fun x0 => .sl x0.length (x0.map fun x1 => .sc (.int .i64 x1)))))), (9, .one (.t none (.sc (.int .i64 (a0.length : Int))))), (10, .one (.t none (.sc (.int .i64 w6))))], []⟩
def made_FewRows (a0 : List (List Int)) : Option (Bool) :=
  if 30 < (a0.length : Int) then
    some false
  else
    loopG (made_FewRows_b4 a0) LFm 0
theorem made_FewRows_ok {a0 : List (List Int)} {r : Bool} (h0 : made_FewRows a0 = some r) : L 42 [.sl a0.length (a0.map fun x0 => .sl x0.length (x0.map fun x1 => .sc (.int .i64 x1)))] = some (.sc (.bool r), [.dead]) := by
  simp only [made_FewRows] at h0
  refine L_run cfn42 fn42 (runF_of bd42 ⟨of_decide_eq_true rfl, of_decide_eq_true rfl⟩ ?_)
  simp only [entryF, entryT, entryO, entryE, isIo]
  refine zq rfl (zr rfl rfl rfl (by simp; rfl) ?_)
  refine thenC_n (zq rfl (zq rfl (zr rfl rfl rfl (by simp; rfl) ?_)))
  refine thenC_n ?_
  by_cases c11 : 30 < (a0.length : Int)
  · rw [if_pos c11] at h0
    refine q_ifT rfl (by simp [c11]) (zq rfl (zr rfl rfl rfl (by simp; rfl) ?_))
    refine thenC_n (q_ret rfl (thenC_r ?_))
    cases h0
    simp
  · rw [if_neg c11] at h0
    refine q_ifF rfl (by simp [c11]) (q_skip rfl (thenC_n (zq rfl (zq rfl (zr rfl rfl rfl (by simp; rfl) ?_)))))
    refine thenC_n (zb rfl (q_loopG h0 (made_FewRows_h4 a0) rfl rfl (by simp [made_FewRows_h4]) fun s o1 h1 hr1 => ?_))
    obtain ⟨w6, hs1⟩ : ∃ y, y = s := ⟨_, rfl⟩
    subst hs1
    simp only [made_FewRows_b4] at h1
    simp only [made_FewRows_h4]
    refine zq rfl (zr rfl rfl rfl (by simp; rfl) ?_)
    refine thenC_n (zq rfl ?_)
    by_cases c18 : w6 < (a0.length : Int)
    · rw [if_pos c18] at h1
      refine q_ifT rfl (by simp [c18]) (q_skip rfl (thenC_n (zq rfl (zb rfl (zq rfl ?_)))))
      obtain ⟨v8, f19, h2⟩ := bnd_some h1
      obtain ⟨f19a, f19b, f19c, f19d, f19e⟩ := atI_some f19
      refine zr rfl rfl rfl (by simp [f19a, f19b, f19c, f19d, f19e]; rfl) ?_
      refine thenC_n (zq rfl (zr rfl rfl rfl (by simp; rfl) ?_))
      refine thenC_n ?_
      by_cases c20 : 30 < (v8.length : Int)
      · rw [if_pos c20] at h2
        refine q_ifT rfl (by simp [c20]) (zq rfl (zr rfl rfl rfl (by simp; rfl) ?_))
        refine thenC_n (q_ret rfl (blockC_r (thenC_r ?_)))
        obtain ⟨rr1, h3, ho1⟩ := exit_some h2
        have hs1 := hr1 _ ho1
        subst hs1
        refine roundC_r ho1 (blockC_r (thenC_r ?_))
        cases h3
        simp
      · rw [if_neg c20] at h2
        refine q_ifF rfl (by simp [c20]) (q_skip rfl (blockC_n (thenC_n (zr rfl rfl rfl (by simp; rfl) ?_))))
        have ho := next_some h2
        refine roundC_n ho ?_
        simp [made_FewRows_h4]
    · rw [if_neg c18] at h1
      refine q_ifF rfl (by simp [c18]) (q_exit rfl (thenC_x ?_))
      obtain ⟨rr1, h2, ho1⟩ := exit_some h1
      have hs1 := hr1 _ ho1
      subst hs1
      refine roundC_x ho1 (blockC_hit2 rfl (thenC_n (zq rfl (zr rfl rfl rfl (by simp; rfl) ?_))))
      refine thenC_n (q_ret rfl ?_)
      cases h2
      simp

-- semigroup/semigrouplaw26.few
def law26_few_b4 (a0 : Casc) : Int → Option (Int ⊕ Bool)
  | w10 =>
  if w10 < (a0.rows.length : Int) then
    (atI a0.rows w10).bind fun v13 =>
    if 12 < (v13.pre.length : Int) then
      exitG <|
      some false
    else
      (made_FewRows v13.maps).bind fun v14 =>
      if v14 = true then
        nextG (IntKind.i64.wrap (w10 + 1))
      else
        exitG <|
        some false
  else
    exitG <|
    some true
def law26_few_h4 (a0 : Casc) : Int → Fr
  | w10 => ⟨33, [(16, .one (.t none (.sl a0.rows.length (a0.rows.flatMap fun x0 => [.sl x0.pre.length (x0.pre.map fun x1 => .sc (.int .i64 x1)), .sl x0.maps.length (x0.maps.map fun x1 => .sl x1.length (x1.map fun x2 => .sc (.int .i64 x2)))])))), (17, .one (.t none (.sc (.int .i64 (a0.rows.length : Int))))), (18, .one (.t none (.sc (.int .i64 w10))))], []⟩
def law26_few (a0 : Casc) : Option (Bool) :=
  if 10 < (a0.sizes.length : Int) then
    some false
  else
    if 40 < (a0.rows.length : Int) then
      some false
    else
      loopG (law26_few_b4 a0) LFm 0
theorem law26_few_ok {a0 : Casc} {r : Bool} (h0 : law26_few a0 = some r) : L 23 [.agg [.sc (.int .i64 a0.letters), .sl a0.sizes.length (a0.sizes.map fun x0 => .sc (.int .i64 x0)), .sl a0.rows.length (a0.rows.flatMap fun x0 => [.sl x0.pre.length (x0.pre.map fun x1 => .sc (.int .i64 x1)), .sl x0.maps.length (x0.maps.map fun x1 => .sl x1.length (x1.map fun x2 => .sc (.int .i64 x2)))])]] = some (.sc (.bool r), [.dead]) := by
  simp only [law26_few] at h0
  refine L_run cfn23 fn23 (runF_of bd23 ⟨of_decide_eq_true rfl, of_decide_eq_true rfl⟩ ?_)
  simp only [entryF, entryT, entryO, entryE, isIo]
  refine zq rfl (zr rfl rfl rfl (by simp; rfl) ?_)
  refine thenC_n (zq rfl (zq rfl ?_))
  by_cases c18 : 10 < (a0.sizes.length : Int)
  · rw [if_pos c18] at h0
    refine zr rfl rfl rfl (by simp [c18]; rfl) ?_
    refine thenC_n (q_ifT rfl (by simp) (zq rfl (zr rfl rfl rfl (by simp; rfl) ?_)))
    refine thenC_n (q_ret rfl (thenC_r ?_))
    cases h0
    simp
  · rw [if_neg c18] at h0
    refine zr rfl rfl rfl (by simp [c18]; rfl) ?_
    refine thenC_n ?_
    by_cases c19 : 40 < (a0.rows.length : Int)
    · rw [if_pos c19] at h0
      refine q_ifT rfl (by simp [c19]) (zq rfl (zr rfl rfl rfl (by simp; rfl) ?_))
      refine thenC_n (q_ret rfl (thenC_r ?_))
      cases h0
      simp
    · rw [if_neg c19] at h0
      refine q_ifF rfl (by simp [c19]) (q_skip rfl (thenC_n (zq rfl (zq rfl (zr rfl rfl rfl (by simp; rfl) ?_)))))
      refine thenC_n (zb rfl (q_loopG h0 (law26_few_h4 a0) rfl rfl (by simp [law26_few_h4]) fun s o1 h1 hr1 => ?_))
      obtain ⟨w10, hs1⟩ : ∃ y, y = s := ⟨_, rfl⟩
      subst hs1
      simp only [law26_few_b4] at h1
      simp only [law26_few_h4]
      refine zq rfl (zr rfl rfl rfl (by simp; rfl) ?_)
      refine thenC_n (zq rfl ?_)
      by_cases c30 : w10 < (a0.rows.length : Int)
      · rw [if_pos c30] at h1
        refine q_ifT rfl (by simp [c30]) (q_skip rfl (thenC_n (zq rfl (zb rfl (zq rfl ?_)))))
        obtain ⟨v13, f31, h2⟩ := bnd_some h1
        obtain ⟨f31a, f31b, f31c, f31d, f31e⟩ := atI_some f31
        have f31g := flat_some (g := fun x : CRow => ([.sl x.pre.length (x.pre.map fun x0 => .sc (.int .i64 x0)), .sl x.maps.length (x.maps.map fun x0 => .sl x0.length (x0.map fun x1 => .sc (.int .i64 x1)))] : List T)) (m := 2) (fun _ => rfl) f31d
        have f31h := flat_len (g := fun x : CRow => ([.sl x.pre.length (x.pre.map fun x0 => .sc (.int .i64 x0)), .sl x.maps.length (x.maps.map fun x0 => .sl x0.length (x0.map fun x1 => .sc (.int .i64 x1)))] : List T)) (m := 2) (fun _ => rfl) a0.rows
        have f31k0 := f31g.2.2.1 0 (by decide)
        have f31m0 := f31g.2.2.2 0 _ rfl
        have f31k1 := f31g.2.2.1 1 (by decide)
        have f31m1 := f31g.2.2.2 1 _ rfl
        obtain ⟨f31g, f31i, -⟩ := f31g
        try simp at f31i f31h f31k0 f31m0 f31k1 f31m1
        refine zr rfl rfl rfl (by simp [f31a, f31b, f31c, f31d, f31e, f31g, f31i, f31h, f31k0, f31k1, f31m0, f31m1]; rfl) ?_
        refine thenC_n (zq rfl ?_)
        by_cases c32 : 12 < (v13.pre.length : Int)
        · rw [if_pos c32] at h2
          refine zr rfl rfl rfl (by simp [c32]; rfl) ?_
          refine thenC_n (q_ifT rfl (by simp) (zq rfl (zr rfl rfl rfl (by simp; rfl) ?_)))
          refine thenC_n (q_ret rfl (blockC_r (thenC_r ?_)))
          obtain ⟨rr1, h3, ho1⟩ := exit_some h2
          have hs1 := hr1 _ ho1
          subst hs1
          refine roundC_r ho1 (blockC_r (thenC_r ?_))
          cases h3
          simp
        · rw [if_neg c32] at h2
          obtain ⟨v14, f33, h3⟩ := bnd_some h2
          have f33k := made_FewRows_ok f33
          try simp at f33k
          refine zr rfl rfl rfl (by simp [c32, f33k]; rfl) ?_
          refine thenC_n ?_
          by_cases c34 : v14 = true
          · rw [if_pos c34] at h3
            refine q_ifF rfl (by simp [c34]) (q_skip rfl (blockC_n (thenC_n (zr rfl rfl rfl (by simp; rfl) ?_))))
            have ho := next_some h3
            refine roundC_n ho ?_
            simp [law26_few_h4, c34]
          · rw [if_neg c34] at h3
            refine q_ifT rfl (by simp [c34]) (zq rfl (zr rfl rfl rfl (by simp; rfl) ?_))
            refine thenC_n (q_ret rfl (blockC_r (thenC_r ?_)))
            obtain ⟨rr1, h4, ho1⟩ := exit_some h3
            have hs1 := hr1 _ ho1
            subst hs1
            refine roundC_r ho1 (blockC_r (thenC_r ?_))
            cases h4
            simp [c34]
      · rw [if_neg c30] at h1
        refine q_ifF rfl (by simp [c30]) (q_exit rfl (thenC_x ?_))
        obtain ⟨rr1, h2, ho1⟩ := exit_some h1
        have hs1 := hr1 _ ho1
        subst hs1
        refine roundC_x ho1 (blockC_hit2 rfl (thenC_n (zq rfl (zr rfl rfl rfl (by simp; rfl) ?_))))
        refine thenC_n (q_ret rfl ?_)
        cases h2
        simp
end Go.Proofs.YthalofddjlhcjaaDoor
end
section
/- The outside functions, for the printer. -/
namespace Go.Proofs.YthalofddjlhcjaaDoor
open Go
set_option linter.unusedVariables false
set_option linter.unusedSimpArgs false
theorem vClone_ok {a0 : List Int} {r : List Int} (h : vClone a0 = some r) : L 33 [.sl a0.length (a0.map fun x0 => .sc (.int .i64 x0))] = some (.os 1 r.length (r.map fun x0 => .sc (.int .i64 x0)), [.dead]) := by
  unfold vClone at h
  split at h
  · rename_i hl
    cases h
    exact lim_ext rfl (xClone_ints a0 hl)
  · cases h
theorem vIndex79_ok {a0 a1 : ByteArray} {r : Int} (h : vIndex a0 a1 = some r) : L 79 [.sc (.string a0), .sc (.string a1)] = some (.sc (.int .i64 r), [.dead, .dead]) := lim_ext rfl (xIndex_v h)
theorem vIndex76_ok {a0 a1 : ByteArray} {r : Int} (h : vIndex a0 a1 = some r) : L 76 [.sc (.string a0), .sc (.string a1)] = some (.sc (.int .i64 r), [.dead, .dead]) := lim_ext rfl (xIndex_v h)
theorem vCount_ok {a0 a1 : ByteArray} {r : Int} (h : vCount a0 a1 = some r) : L 78 [.sc (.string a0), .sc (.string a1)] = some (.sc (.int .i64 r), [.dead, .dead]) := lim_ext rfl (xCount_v h)
end Go.Proofs.YthalofddjlhcjaaDoor
end
section
/- Functions by value: program. -/
namespace Go.Proofs.YthalofddjlhcjaaDoor
open Go
set_option maxRecDepth 100000
set_option maxHeartbeats 1000000
set_option linter.unusedVariables false
set_option linter.unusedSimpArgs false

structure Traits where
  some_ : Bool
  perms : Bool
  resets : Bool
  mixed : Bool
deriving Inhabited

-- (*semigroup/cascade.traits).include
def cascade_traits_include_b3 (a0 : Traits) (a1 : List Int) : Bool × Bool × Bool × Int × List Bool → Option ((Bool × Bool × Bool × Int × List Bool) ⊕ Traits)
  | (w44, w45, w46, w47, w48) =>
  if w47 < (a1.length : Int) then
    (atI a1 w47).bind fun v64 =>
    if w44 = true then
      if w45 = true then
        (atI a1 0).bind fun v65 =>
        if w46 = true then
          chk (0 ≤ v64 ∧ v64 < 32) <|
          (atI w48 v64).bind fun v66 =>
          nextG (decide (w47 = v64), decide (v64 = v65), !v66, IntKind.i64.wrap (w47 + 1), (w48.set v64.toNat true))
        else
          chk (0 ≤ v64 ∧ v64 < 32) <|
          (atI w48 v64).bind fun v68 =>
          nextG (decide (w47 = v64), decide (v64 = v65), false, IntKind.i64.wrap (w47 + 1), (w48.set v64.toNat true))
      else
        if w46 = true then
          chk (0 ≤ v64 ∧ v64 < 32) <|
          (atI w48 v64).bind fun v69 =>
          nextG (decide (w47 = v64), false, !v69, IntKind.i64.wrap (w47 + 1), (w48.set v64.toNat true))
        else
          chk (0 ≤ v64 ∧ v64 < 32) <|
          (atI w48 v64).bind fun v71 =>
          nextG (decide (w47 = v64), false, false, IntKind.i64.wrap (w47 + 1), (w48.set v64.toNat true))
    else
      if w45 = true then
        (atI a1 0).bind fun v72 =>
        if w46 = true then
          chk (0 ≤ v64 ∧ v64 < 32) <|
          (atI w48 v64).bind fun v73 =>
          nextG (false, decide (v64 = v72), !v73, IntKind.i64.wrap (w47 + 1), (w48.set v64.toNat true))
        else
          chk (0 ≤ v64 ∧ v64 < 32) <|
          (atI w48 v64).bind fun v75 =>
          nextG (false, decide (v64 = v72), false, IntKind.i64.wrap (w47 + 1), (w48.set v64.toNat true))
      else
        if w46 = true then
          chk (0 ≤ v64 ∧ v64 < 32) <|
          (atI w48 v64).bind fun v76 =>
          nextG (false, false, !v76, IntKind.i64.wrap (w47 + 1), (w48.set v64.toNat true))
        else
          chk (0 ≤ v64 ∧ v64 < 32) <|
          (atI w48 v64).bind fun v78 =>
          nextG (false, false, false, IntKind.i64.wrap (w47 + 1), (w48.set v64.toNat true))
  else
    exitG <|
    if a0.perms = true then
      if a0.resets = true then
        if w45 = true then
          if a0.mixed = true then
            if w46 = true then
              some (⟨true, w46, true, true⟩ : Traits)
            else
              some (⟨true, w46, true, w45⟩ : Traits)
          else
            some (⟨true, w46, true, false⟩ : Traits)
        else
          if a0.mixed = true then
            if w46 = true then
              some (⟨true, w46, w44, true⟩ : Traits)
            else
              some (⟨true, w46, w44, w45⟩ : Traits)
          else
            some (⟨true, w46, w44, false⟩ : Traits)
      else
        if a0.mixed = true then
          if w46 = true then
            some (⟨true, w46, false, true⟩ : Traits)
          else
            some (⟨true, w46, false, w45⟩ : Traits)
        else
          some (⟨true, w46, false, false⟩ : Traits)
    else
      if a0.resets = true then
        if w45 = true then
          if a0.mixed = true then
            if w46 = true then
              some (⟨true, false, true, true⟩ : Traits)
            else
              some (⟨true, false, true, w45⟩ : Traits)
          else
            some (⟨true, false, true, false⟩ : Traits)
        else
          if a0.mixed = true then
            if w46 = true then
              some (⟨true, false, w44, true⟩ : Traits)
            else
              some (⟨true, false, w44, w45⟩ : Traits)
          else
            some (⟨true, false, w44, false⟩ : Traits)
      else
        if a0.mixed = true then
          if w46 = true then
            some (⟨true, false, false, true⟩ : Traits)
          else
            some (⟨true, false, false, w45⟩ : Traits)
        else
          some (⟨true, false, false, false⟩ : Traits)
def cascade_traits_include_h3 (a0 : Traits) (a1 : List Int) (p0 : List T) (q0 : List T) : Bool × Bool × Bool × Int × List Bool → Fr
  | (w44, w45, w46, w47, w48) => ⟨80, [(0, .one (.a 0 [] (p0.length))), (1, .one (.t none (.sl a1.length (a1.map fun x0 => .sc (.int .i64 x0))))), (4, .one (.t none (.sc (.bool w44)))), (5, .one (.t none (.sc (.bool w45)))), (6, .one (.t none (.sc (.bool w46)))), (7, .one (.a 7 [] (0))), (10, .one (.t none (.sl a1.length (a1.map fun x0 => .sc (.int .i64 x0))))), (11, .one (.t none (.sc (.int .i64 (a1.length : Int))))), (12, .one (.t none (.sc (.int .i64 w47)))), (1080, .one (.a 0 [] (p0.length)))], [(0, .vr (p0 ++ (.sc (.bool a0.some_)) :: (.sc (.bool a0.perms)) :: (.sc (.bool a0.resets)) :: (.sc (.bool a0.mixed)) :: q0)), (7, .vr (w48.map fun x0 => .sc (.bool x0)))]⟩
def cascade_traits_include (a0 : Traits) (a1 : List Int) : Option (Traits) :=
  loopG (cascade_traits_include_b3 a0 a1) LFm (true, true, true, 0, (List.replicate 32 false))
theorem cascade_traits_include_ok {a0 : Traits} {a1 : List Int} {p0 q0 : List T} {r : Traits} (h0 : cascade_traits_include a0 a1 = some r) : L 63 [.vo p0.length (p0 ++ (.sc (.bool a0.some_)) :: (.sc (.bool a0.perms)) :: (.sc (.bool a0.resets)) :: (.sc (.bool a0.mixed)) :: q0), .sl a1.length (a1.map fun x0 => .sc (.int .i64 x0))] = some (.tup [], [.vo p0.length (p0 ++ (.sc (.bool r.some_)) :: (.sc (.bool r.perms)) :: (.sc (.bool r.resets)) :: (.sc (.bool r.mixed)) :: q0), .dead]) := by
  simp only [cascade_traits_include] at h0
  refine L_run cfn63 fn63 (runF_of bd63 ⟨of_decide_eq_true rfl, of_decide_eq_true rfl⟩ ?_)
  simp only [entryF, entryT, entryO, entryE, isIo]
  refine zq rfl (zr rfl rfl rfl (by simp; rfl) ?_)
  refine thenC_n (zq rfl (zr rfl rfl rfl (by simp; rfl) ?_))
  refine thenC_n (zq rfl (zq rfl (zr rfl rfl rfl (by simp; rfl) ?_)))
  refine thenC_n (zb rfl (q_loopG h0 (cascade_traits_include_h3 a0 a1 p0 q0) rfl rfl (by simp [cascade_traits_include_h3]) fun s o1 h1 hr1 => ?_))
  obtain ⟨w44, w45, w46, w47, w48⟩ := s
  simp only [cascade_traits_include_b3] at h1
  simp only [cascade_traits_include_h3]
  refine zq rfl (zr rfl rfl rfl (by simp; rfl) ?_)
  refine thenC_n (zq rfl ?_)
  by_cases c107 : w47 < (a1.length : Int)
  · rw [if_pos c107] at h1
    refine q_ifT rfl (by simp [c107]) (q_skip rfl (thenC_n (zq rfl (zb rfl (zq rfl ?_)))))
    obtain ⟨v64, f108, h2⟩ := bnd_some h1
    obtain ⟨f108a, f108b, f108c, f108d, f108e⟩ := atI_some f108
    refine zr rfl rfl rfl (by simp [f108a, f108b, f108c, f108d, f108e]; rfl) ?_
    refine thenC_n (zq rfl ?_)
    by_cases c109 : w44 = true
    · rw [if_pos c109] at h2
      refine zr rfl rfl rfl (by simp [c109]; rfl) ?_
      refine thenC_n (zq rfl ?_)
      by_cases c110 : w45 = true
      · rw [if_pos c110] at h2
        obtain ⟨v65, f111, h3⟩ := bnd_some h2
        obtain ⟨f111a, f111b, f111c, f111d, f111e⟩ := atI_some f111
        simp only [Int.reduceToNat, Int.toNat_natCast] at f111c f111d f111e
        have f111j : a1 ≠ [] := by intro hh; rw [hh] at f111c; simp at f111c
        have f111l : 0 < a1.length := by omega
        refine zr rfl rfl rfl (by simp [c110, f111a, f111b, f111c, f111d, f111e, f111j, f111l]; rfl) ?_
        refine thenC_n (zq rfl ?_)
        by_cases c112 : w46 = true
        · rw [if_pos c112] at h3
          obtain ⟨f113, h4⟩ := chk_some h3
          obtain ⟨f113a, f113b⟩ := f113
          have f113c : v64.toNat < 32 := by omega
          obtain ⟨v66, f114, h5⟩ := bnd_some h4
          obtain ⟨f114a, f114b, f114c, f114d, f114e⟩ := atI_some f114
          refine zr rfl rfl rfl (by simp [c112, f113a, f113b, f113c, f114a, f114b, f114c, f114d, f114e]; rfl) ?_
          refine thenC_n (zr rfl rfl rfl (by simp [f113a, f113b, f113c, f114a, f114b, f114c, f114d, f114e]; rfl) ?_)
          refine blockC_n (thenC_n (zr rfl rfl rfl (by simp; rfl) ?_))
          have ho := next_some h5
          refine roundC_n ho ?_
          simp [cascade_traits_include_h3, c109, c110, c112]
        · rw [if_neg c112] at h3
          refine zr rfl rfl rfl (by simp [c112]; rfl) ?_
          refine thenC_n ?_
          obtain ⟨f115, h4⟩ := chk_some h3
          obtain ⟨f115a, f115b⟩ := f115
          have f115c : v64.toNat < 32 := by omega
          obtain ⟨v68, f116, h5⟩ := bnd_some h4
          obtain ⟨f116a, f116b, f116c, f116d, f116e⟩ := atI_some f116
          refine zr rfl rfl rfl (by simp [f115a, f115b, f115c, f116a, f116b, f116c, f116d, f116e]; rfl) ?_
          refine blockC_n (thenC_n (zr rfl rfl rfl (by simp; rfl) ?_))
          have ho := next_some h5
          refine roundC_n ho ?_
          simp [cascade_traits_include_h3, c109, c110, c112]
      · rw [if_neg c110] at h2
        refine zr rfl rfl rfl (by simp [c110]; rfl) ?_
        refine thenC_n (zq rfl ?_)
        by_cases c117 : w46 = true
        · rw [if_pos c117] at h2
          obtain ⟨f118, h3⟩ := chk_some h2
          obtain ⟨f118a, f118b⟩ := f118
          have f118c : v64.toNat < 32 := by omega
          obtain ⟨v69, f119, h4⟩ := bnd_some h3
          obtain ⟨f119a, f119b, f119c, f119d, f119e⟩ := atI_some f119
          refine zr rfl rfl rfl (by simp [c117, f118a, f118b, f118c, f119a, f119b, f119c, f119d, f119e]; rfl) ?_
          refine thenC_n (zr rfl rfl rfl (by simp [f118a, f118b, f118c, f119a, f119b, f119c, f119d, f119e]; rfl) ?_)
          refine blockC_n (thenC_n (zr rfl rfl rfl (by simp; rfl) ?_))
          have ho := next_some h4
          refine roundC_n ho ?_
          simp [cascade_traits_include_h3, c109, c110, c117]
        · rw [if_neg c117] at h2
          refine zr rfl rfl rfl (by simp [c117]; rfl) ?_
          refine thenC_n ?_
          obtain ⟨f120, h3⟩ := chk_some h2
          obtain ⟨f120a, f120b⟩ := f120
          have f120c : v64.toNat < 32 := by omega
          obtain ⟨v71, f121, h4⟩ := bnd_some h3
          obtain ⟨f121a, f121b, f121c, f121d, f121e⟩ := atI_some f121
          refine zr rfl rfl rfl (by simp [f120a, f120b, f120c, f121a, f121b, f121c, f121d, f121e]; rfl) ?_
          refine blockC_n (thenC_n (zr rfl rfl rfl (by simp; rfl) ?_))
          have ho := next_some h4
          refine roundC_n ho ?_
          simp [cascade_traits_include_h3, c109, c110, c117]
    · rw [if_neg c109] at h2
      refine zr rfl rfl rfl (by simp [c109]; rfl) ?_
      refine thenC_n (zq rfl ?_)
      by_cases c122 : w45 = true
      · rw [if_pos c122] at h2
        obtain ⟨v72, f123, h3⟩ := bnd_some h2
        obtain ⟨f123a, f123b, f123c, f123d, f123e⟩ := atI_some f123
        simp only [Int.reduceToNat, Int.toNat_natCast] at f123c f123d f123e
        have f123j : a1 ≠ [] := by intro hh; rw [hh] at f123c; simp at f123c
        have f123l : 0 < a1.length := by omega
        refine zr rfl rfl rfl (by simp [c122, f123a, f123b, f123c, f123d, f123e, f123j, f123l]; rfl) ?_
        refine thenC_n (zq rfl ?_)
        by_cases c124 : w46 = true
        · rw [if_pos c124] at h3
          obtain ⟨f125, h4⟩ := chk_some h3
          obtain ⟨f125a, f125b⟩ := f125
          have f125c : v64.toNat < 32 := by omega
          obtain ⟨v73, f126, h5⟩ := bnd_some h4
          obtain ⟨f126a, f126b, f126c, f126d, f126e⟩ := atI_some f126
          refine zr rfl rfl rfl (by simp [c124, f125a, f125b, f125c, f126a, f126b, f126c, f126d, f126e]; rfl) ?_
          refine thenC_n (zr rfl rfl rfl (by simp [f125a, f125b, f125c, f126a, f126b, f126c, f126d, f126e]; rfl) ?_)
          refine blockC_n (thenC_n (zr rfl rfl rfl (by simp; rfl) ?_))
          have ho := next_some h5
          refine roundC_n ho ?_
          simp [cascade_traits_include_h3, c109, c122, c124]
        · rw [if_neg c124] at h3
          refine zr rfl rfl rfl (by simp [c124]; rfl) ?_
          refine thenC_n ?_
          obtain ⟨f127, h4⟩ := chk_some h3
          obtain ⟨f127a, f127b⟩ := f127
          have f127c : v64.toNat < 32 := by omega
          obtain ⟨v75, f128, h5⟩ := bnd_some h4
          obtain ⟨f128a, f128b, f128c, f128d, f128e⟩ := atI_some f128
          refine zr rfl rfl rfl (by simp [f127a, f127b, f127c, f128a, f128b, f128c, f128d, f128e]; rfl) ?_
          refine blockC_n (thenC_n (zr rfl rfl rfl (by simp; rfl) ?_))
          have ho := next_some h5
          refine roundC_n ho ?_
          simp [cascade_traits_include_h3, c109, c122, c124]
      · rw [if_neg c122] at h2
        refine zr rfl rfl rfl (by simp [c122]; rfl) ?_
        refine thenC_n (zq rfl ?_)
        by_cases c129 : w46 = true
        · rw [if_pos c129] at h2
          obtain ⟨f130, h3⟩ := chk_some h2
          obtain ⟨f130a, f130b⟩ := f130
          have f130c : v64.toNat < 32 := by omega
          obtain ⟨v76, f131, h4⟩ := bnd_some h3
          obtain ⟨f131a, f131b, f131c, f131d, f131e⟩ := atI_some f131
          refine zr rfl rfl rfl (by simp [c129, f130a, f130b, f130c, f131a, f131b, f131c, f131d, f131e]; rfl) ?_
          refine thenC_n (zr rfl rfl rfl (by simp [f130a, f130b, f130c, f131a, f131b, f131c, f131d, f131e]; rfl) ?_)
          refine blockC_n (thenC_n (zr rfl rfl rfl (by simp; rfl) ?_))
          have ho := next_some h4
          refine roundC_n ho ?_
          simp [cascade_traits_include_h3, c109, c122, c129]
        · rw [if_neg c129] at h2
          refine zr rfl rfl rfl (by simp [c129]; rfl) ?_
          refine thenC_n ?_
          obtain ⟨f132, h3⟩ := chk_some h2
          obtain ⟨f132a, f132b⟩ := f132
          have f132c : v64.toNat < 32 := by omega
          obtain ⟨v78, f133, h4⟩ := bnd_some h3
          obtain ⟨f133a, f133b, f133c, f133d, f133e⟩ := atI_some f133
          refine zr rfl rfl rfl (by simp [f132a, f132b, f132c, f133a, f133b, f133c, f133d, f133e]; rfl) ?_
          refine blockC_n (thenC_n (zr rfl rfl rfl (by simp; rfl) ?_))
          have ho := next_some h4
          refine roundC_n ho ?_
          simp [cascade_traits_include_h3, c109, c122, c129]
  · rw [if_neg c107] at h1
    refine q_ifF rfl (by simp [c107]) (q_exit rfl (thenC_x ?_))
    obtain ⟨rr1, h2, ho1⟩ := exit_some h1
    have hs1 := hr1 _ ho1
    subst hs1
    refine roundC_x ho1 (blockC_hit2 rfl (thenC_n (zq rfl (zr rfl rfl rfl (by simp; rfl) ?_))))
    refine thenC_n (zq rfl ?_)
    by_cases c134 : a0.perms = true
    · rw [if_pos c134] at h2
      refine zr rfl rfl rfl (by simp [c134]; rfl) ?_
      refine thenC_n (zq rfl ?_)
      by_cases c135 : a0.resets = true
      · rw [if_pos c135] at h2
        by_cases c136 : w45 = true
        · rw [if_pos c136] at h2
          refine zr rfl rfl rfl (by simp [c135, c136]; rfl) ?_
          refine thenC_n ?_
          by_cases c137 : a0.mixed = true
          · rw [if_pos c137] at h2
            by_cases c138 : w46 = true
            · rw [if_pos c138] at h2
              refine zr rfl rfl rfl (by simp [c137, c138]; rfl) ?_
              cases h2
              simp [c134, c135, c136, c137, c138]
            · rw [if_neg c138] at h2
              refine zr rfl rfl rfl (by simp [c137, c138]; rfl) ?_
              cases h2
              simp [c134, c135, c136, c137, c138]
          · rw [if_neg c137] at h2
            refine zr rfl rfl rfl (by simp [c137]; rfl) ?_
            cases h2
            simp [c134, c135, c136, c137]
        · rw [if_neg c136] at h2
          refine zr rfl rfl rfl (by simp [c135, c136]; rfl) ?_
          refine thenC_n ?_
          by_cases c139 : a0.mixed = true
          · rw [if_pos c139] at h2
            by_cases c140 : w46 = true
            · rw [if_pos c140] at h2
              refine zr rfl rfl rfl (by simp [c139, c140]; rfl) ?_
              cases h2
              simp [c134, c135, c136, c139, c140]
            · rw [if_neg c140] at h2
              refine zr rfl rfl rfl (by simp [c139, c140]; rfl) ?_
              cases h2
              simp [c134, c135, c136, c139, c140]
          · rw [if_neg c139] at h2
            refine zr rfl rfl rfl (by simp [c139]; rfl) ?_
            cases h2
            simp [c134, c135, c136, c139]
      · rw [if_neg c135] at h2
        refine zr rfl rfl rfl (by simp [c135]; rfl) ?_
        refine thenC_n ?_
        by_cases c141 : a0.mixed = true
        · rw [if_pos c141] at h2
          by_cases c142 : w46 = true
          · rw [if_pos c142] at h2
            refine zr rfl rfl rfl (by simp [c141, c142]; rfl) ?_
            cases h2
            simp [c134, c135, c141, c142]
          · rw [if_neg c142] at h2
            refine zr rfl rfl rfl (by simp [c141, c142]; rfl) ?_
            cases h2
            simp [c134, c135, c141, c142]
        · rw [if_neg c141] at h2
          refine zr rfl rfl rfl (by simp [c141]; rfl) ?_
          cases h2
          simp [c134, c135, c141]
    · rw [if_neg c134] at h2
      refine zr rfl rfl rfl (by simp [c134]; rfl) ?_
      refine thenC_n (zq rfl ?_)
      by_cases c143 : a0.resets = true
      · rw [if_pos c143] at h2
        by_cases c144 : w45 = true
        · rw [if_pos c144] at h2
          refine zr rfl rfl rfl (by simp [c143, c144]; rfl) ?_
          refine thenC_n ?_
          by_cases c145 : a0.mixed = true
          · rw [if_pos c145] at h2
            by_cases c146 : w46 = true
            · rw [if_pos c146] at h2
              refine zr rfl rfl rfl (by simp [c145, c146]; rfl) ?_
              cases h2
              simp [c134, c143, c144, c145, c146]
            · rw [if_neg c146] at h2
              refine zr rfl rfl rfl (by simp [c145, c146]; rfl) ?_
              cases h2
              simp [c134, c143, c144, c145, c146]
          · rw [if_neg c145] at h2
            refine zr rfl rfl rfl (by simp [c145]; rfl) ?_
            cases h2
            simp [c134, c143, c144, c145]
        · rw [if_neg c144] at h2
          refine zr rfl rfl rfl (by simp [c143, c144]; rfl) ?_
          refine thenC_n ?_
          by_cases c147 : a0.mixed = true
          · rw [if_pos c147] at h2
            by_cases c148 : w46 = true
            · rw [if_pos c148] at h2
              refine zr rfl rfl rfl (by simp [c147, c148]; rfl) ?_
              cases h2
              simp [c134, c143, c144, c147, c148]
            · rw [if_neg c148] at h2
              refine zr rfl rfl rfl (by simp [c147, c148]; rfl) ?_
              cases h2
              simp [c134, c143, c144, c147, c148]
          · rw [if_neg c147] at h2
            refine zr rfl rfl rfl (by simp [c147]; rfl) ?_
            cases h2
            simp [c134, c143, c144, c147]
      · rw [if_neg c143] at h2
        refine zr rfl rfl rfl (by simp [c143]; rfl) ?_
        refine thenC_n ?_
        by_cases c149 : a0.mixed = true
        · rw [if_pos c149] at h2
          by_cases c150 : w46 = true
          · rw [if_pos c150] at h2
            refine zr rfl rfl rfl (by simp [c149, c150]; rfl) ?_
            cases h2
            simp [c134, c143, c149, c150]
          · rw [if_neg c150] at h2
            refine zr rfl rfl rfl (by simp [c149, c150]; rfl) ?_
            cases h2
            simp [c134, c143, c149, c150]
        · rw [if_neg c149] at h2
          refine zr rfl rfl rfl (by simp [c149]; rfl) ?_
          cases h2
          simp [c134, c143, c149]

-- (semigroup/cascade.traits).kind
def cascade_traits_kind (a0 : Traits) : Option (Int) :=
  if a0.some_ = true then
    if a0.perms = true then
      some 1
    else
      if a0.resets = true then
        some 2
      else
        if a0.mixed = true then
          some 3
        else
          some 4
  else
    some 0
theorem cascade_traits_kind_ok {a0 : Traits} {r : Int} (h0 : cascade_traits_kind a0 = some r) : L 64 [.agg [.sc (.bool a0.some_), .sc (.bool a0.perms), .sc (.bool a0.resets), .sc (.bool a0.mixed)]] = some (.sc (.int .i64 r), [.dead]) := by
  simp only [cascade_traits_kind] at h0
  refine L_run cfn64 fn64 (runF_of bd64 ⟨of_decide_eq_true rfl, of_decide_eq_true rfl⟩ ?_)
  simp only [entryF, entryT, entryO, entryE, isIo]
  refine zq rfl (zr rfl rfl rfl (by simp; rfl) ?_)
  refine thenC_n (zq rfl (zb rfl (zq rfl (zr rfl rfl rfl (by simp; rfl) ?_))))
  refine thenC_n ?_
  by_cases c5 : a0.some_ = true
  · rw [if_pos c5] at h0
    refine q_ifF rfl (by simp [c5]) (zq rfl (zr rfl rfl rfl (by simp; rfl) ?_))
    refine thenC_n ?_
    by_cases c6 : a0.perms = true
    · rw [if_pos c6] at h0
      refine q_ifT rfl (by simp [c6]) (zq rfl (zr rfl rfl rfl (by simp; rfl) ?_))
      refine thenC_n (q_ret rfl (blockC_r (thenC_r ?_)))
      cases h0
      simp [c5, c6]
    · rw [if_neg c6] at h0
      refine q_ifF rfl (by simp [c6]) (zq rfl (zr rfl rfl rfl (by simp; rfl) ?_))
      refine thenC_n ?_
      by_cases c7 : a0.resets = true
      · rw [if_pos c7] at h0
        refine q_ifT rfl (by simp [c7]) (zq rfl (zr rfl rfl rfl (by simp; rfl) ?_))
        refine thenC_n (q_ret rfl (blockC_r (thenC_r ?_)))
        cases h0
        simp [c5, c6, c7]
      · rw [if_neg c7] at h0
        refine q_ifF rfl (by simp [c7]) (zq rfl (zr rfl rfl rfl (by simp; rfl) ?_))
        refine thenC_n ?_
        by_cases c8 : a0.mixed = true
        · rw [if_pos c8] at h0
          refine q_ifT rfl (by simp [c8]) (zq rfl (zr rfl rfl rfl (by simp; rfl) ?_))
          refine thenC_n (q_ret rfl (blockC_r (thenC_r ?_)))
          cases h0
          simp [c5, c6, c7, c8]
        · rw [if_neg c8] at h0
          refine q_ifF rfl (by simp [c8]) (q_skip rfl (blockC_n (thenC_n (zq rfl (zr rfl rfl rfl (by simp; rfl) ?_)))))
          refine thenC_n (q_ret rfl ?_)
          cases h0
          simp [c5, c6, c7, c8]
  · rw [if_neg c5] at h0
    refine q_ifT rfl (by simp [c5]) (zq rfl (zr rfl rfl rfl (by simp; rfl) ?_))
    refine thenC_n (q_ret rfl (blockC_r (thenC_r ?_)))
    cases h0
    simp [c5]

-- semigroup/cascade.Kinds
def cascade_Kinds_b13 (w74 : Int) (v88 : CRow) : Int × List Traits → Option ((Int × List Traits) ⊕ ((Int × List Traits) ⊕ List Int))
  | (w92, w93) =>
  if w92 < (v88.maps.length : Int) then
    (atI v88.maps w92).bind fun v97 =>
    (atI w93 (v88.pre.length : Int)).bind fun v98 =>
    (cascade_traits_include v98 v97).bind fun v99 =>
    nextG (IntKind.i64.wrap (w92 + 1), (w93.set (v88.pre.length : Int).toNat v99))
  else
    exitG <|
    nextG (IntKind.i64.wrap (w74 + 1), w93)
def cascade_Kinds_h13 (a0 : Casc) (w74 : Int) (v88 : CRow) : Int × List Traits → Fr
  | (w92, w93) => ⟨69, [(3, .one (.h 3 [])), (6, .one (.a 6 [] (0))), (30, .one (.t none (.sl a0.rows.length (a0.rows.flatMap fun x0 => [.sl x0.pre.length (x0.pre.map fun x1 => .sc (.int .i64 x1)), .sl x0.maps.length (x0.maps.map fun x1 => .sl x1.length (x1.map fun x2 => .sc (.int .i64 x2)))])))), (31, .one (.t none (.sc (.int .i64 (a0.rows.length : Int))))), (32, .one (.t none (.sc (.int .i64 w74)))), (37, .one (.t none (.sl v88.maps.length (v88.maps.map fun x0 => .sl x0.length (x0.map fun x1 => .sc (.int .i64 x1)))))), (38, .one (.t none (.sc (.int .i64 (v88.maps.length : Int))))), (39, .one (.t none (.sc (.int .i64 w92))))], [(3, .os 4 w93.length (w93.flatMap fun x0 => [.sc (.bool x0.some_), .sc (.bool x0.perms), .sc (.bool x0.resets), .sc (.bool x0.mixed)])), (6, .vr [.sl v88.pre.length (v88.pre.map fun x0 => .sc (.int .i64 x0)), .sl v88.maps.length (v88.maps.map fun x0 => .sl x0.length (x0.map fun x1 => .sc (.int .i64 x1)))])]⟩
def cascade_Kinds_b20 (w75 : List Traits) : Int × List Int → Option ((Int × List Int) ⊕ List Int)
  | (w103, w104) =>
  if w103 < (w75.length : Int) then
    (atI w75 w103).bind fun v108 =>
    (cascade_traits_kind v108).bind fun v109 =>
    (atI w104 w103).bind fun v110 =>
    nextG (IntKind.i64.wrap (w103 + 1), (w104.set w103.toNat v109))
  else
    exitG <|
    some w104
def cascade_Kinds_h20 (w75 : List Traits) : Int × List Int → Fr
  | (w103, w104) => ⟨69, [(9, .one (.h 9 [])), (55, .one (.h 3 [])), (56, .one (.t none (.sc (.int .i64 (w75.length : Int))))), (57, .one (.t none (.sc (.int .i64 w103))))], [(9, .os 1 w104.length (w104.map fun x0 => .sc (.int .i64 x0))), (3, .os 4 w75.length (w75.flatMap fun x0 => [.sc (.bool x0.some_), .sc (.bool x0.perms), .sc (.bool x0.resets), .sc (.bool x0.mixed)]))]⟩
def cascade_Kinds_b10 (a0 : Casc) : Int × List Traits → Option ((Int × List Traits) ⊕ List Int)
  | (w74, w75) =>
  if w74 < (a0.rows.length : Int) then
    (atI a0.rows w74).bind fun v88 =>
    loopG (cascade_Kinds_b13 w74 v88) LFm (0, w75)
  else
    exitG <|
    chk (makeOk 8 (w75.length : Int)) <|
    loopG (cascade_Kinds_b20 w75) LFm (0, List.replicate (w75.length : Int).toNat (0 : Int))
def cascade_Kinds_h10 (a0 : Casc) : Int × List Traits → Fr
  | (w74, w75) => ⟨69, [(3, .one (.h 3 [])), (30, .one (.t none (.sl a0.rows.length (a0.rows.flatMap fun x0 => [.sl x0.pre.length (x0.pre.map fun x1 => .sc (.int .i64 x1)), .sl x0.maps.length (x0.maps.map fun x1 => .sl x1.length (x1.map fun x2 => .sc (.int .i64 x2)))])))), (31, .one (.t none (.sc (.int .i64 (a0.rows.length : Int))))), (32, .one (.t none (.sc (.int .i64 w74))))], [(3, .os 4 w75.length (w75.flatMap fun x0 => [.sc (.bool x0.some_), .sc (.bool x0.perms), .sc (.bool x0.resets), .sc (.bool x0.mixed)]))]⟩
def cascade_Kinds_b5 (a0 : Casc) : Int × List Traits → Option ((Int × List Traits) ⊕ List Int)
  | (w58, w59) =>
  if w58 < (a0.sizes.length : Int) then
    (atI w59 w58).bind fun v61 =>
    nextG (IntKind.i64.wrap (w58 + 1), (w59.set w58.toNat (⟨false, true, true, true⟩ : Traits)))
  else
    exitG <|
    loopG (cascade_Kinds_b10 a0) LFm (0, w59)
def cascade_Kinds_h5 (a0 : Casc) : Int × List Traits → Fr
  | (w58, w59) => ⟨69, [(1, .one (.a 1 [] (0))), (3, .one (.h 3 [])), (20, .one (.t none (.sc (.int .i64 (a0.sizes.length : Int))))), (21, .one (.t none (.sc (.int .i64 w58))))], [(1, .vr [.sc (.int .i64 a0.letters), .sl a0.sizes.length (a0.sizes.map fun x0 => .sc (.int .i64 x0)), .sl a0.rows.length (a0.rows.flatMap fun x0 => [.sl x0.pre.length (x0.pre.map fun x1 => .sc (.int .i64 x1)), .sl x0.maps.length (x0.maps.map fun x1 => .sl x1.length (x1.map fun x2 => .sc (.int .i64 x2)))])]), (3, .os 4 w59.length (w59.flatMap fun x0 => [.sc (.bool x0.some_), .sc (.bool x0.perms), .sc (.bool x0.resets), .sc (.bool x0.mixed)]))]⟩
def cascade_Kinds (a0 : Casc) : Option (List Int) :=
  (cascade_Validate a0).bind fun v56 =>
  if v56 = 0 then
    chk (makeOk 4 (a0.sizes.length : Int)) <|
    loopG (cascade_Kinds_b5 a0) LFm (0, List.replicate (a0.sizes.length : Int).toNat ((⟨false, false, false, false⟩ : Traits) : Traits))
  else
    some []
theorem cascade_Kinds_ok {a0 : Casc} {r : List Int} (h0 : cascade_Kinds a0 = some r) : L 44 [.agg [.sc (.int .i64 a0.letters), .sl a0.sizes.length (a0.sizes.map fun x0 => .sc (.int .i64 x0)), .sl a0.rows.length (a0.rows.flatMap fun x0 => [.sl x0.pre.length (x0.pre.map fun x1 => .sc (.int .i64 x1)), .sl x0.maps.length (x0.maps.map fun x1 => .sl x1.length (x1.map fun x2 => .sc (.int .i64 x2)))])]] = some (.os 1 r.length (r.map fun x0 => .sc (.int .i64 x0)), [.dead]) := by
  simp only [cascade_Kinds] at h0
  refine L_run cfn44 fn44 (runF_of bd44 ⟨of_decide_eq_true rfl, of_decide_eq_true rfl⟩ ?_)
  simp only [entryF, entryT, entryO, entryE, isIo]
  refine zq rfl (zr rfl rfl rfl (by simp; rfl) ?_)
  refine thenC_n (zq rfl (zq rfl ?_))
  obtain ⟨v56, f66, h1⟩ := bnd_some h0
  have f66k := cascade_Validate_ok f66
  try simp at f66k
  refine zr rfl rfl rfl (by simp [f66k]; rfl) ?_
  refine thenC_n ?_
  by_cases c67 : v56 = 0
  · rw [if_pos c67] at h1
    have c67e := eq_true c67
    refine q_ifF rfl (by simp [c67e]) (q_skip rfl (thenC_n (zq rfl ?_)))
    obtain ⟨f68, h2⟩ := chk_some h1
    obtain ⟨f68a, f68b, f68c⟩ := f68
    have f69 := zeroL_flat (g := fun x : Traits => ([.sc (.bool x.some_), .sc (.bool x.perms), .sc (.bool x.resets), .sc (.bool x.mixed)] : List T)) (⟨false, false, false, false⟩ : Traits) (a0.sizes.length : Int).toNat
    try simp at f69
    refine zr rfl rfl rfl (by simp [f68a, f68b, f68c, f69]; rfl) ?_
    refine thenC_n (zq rfl (zq rfl (zr rfl rfl rfl (by simp; rfl) ?_)))
    refine thenC_n (zb rfl (q_loopG h2 (cascade_Kinds_h5 a0) rfl rfl (by simp [cascade_Kinds_h5]) fun s o1 h3 hr1 => ?_))
    obtain ⟨w58, w59⟩ := s
    simp only [cascade_Kinds_b5] at h3
    simp only [cascade_Kinds_h5]
    refine zq rfl (zr rfl rfl rfl (by simp; rfl) ?_)
    refine thenC_n (zq rfl ?_)
    by_cases c74 : w58 < (a0.sizes.length : Int)
    · rw [if_pos c74] at h3
      refine q_ifT rfl (by simp [c74]) (q_skip rfl (thenC_n (zq rfl (zb rfl (zq rfl (zr rfl rfl rfl (by simp; rfl) ?_))))))
      refine thenC_n ?_
      obtain ⟨v61, f75, h4⟩ := bnd_some h3
      obtain ⟨f75a, f75b, f75c, f75d, f75e⟩ := atI_some f75
      have f75g := flat_some (g := fun x : Traits => ([.sc (.bool x.some_), .sc (.bool x.perms), .sc (.bool x.resets), .sc (.bool x.mixed)] : List T)) (m := 4) (fun _ => rfl) f75d
      have f75h := flat_len (g := fun x : Traits => ([.sc (.bool x.some_), .sc (.bool x.perms), .sc (.bool x.resets), .sc (.bool x.mixed)] : List T)) (m := 4) (fun _ => rfl) w59
      have f75k0 := f75g.2.2.1 0 (by decide)
      have f75m0 := f75g.2.2.2 0 _ rfl
      have f75k1 := f75g.2.2.1 1 (by decide)
      have f75m1 := f75g.2.2.2 1 _ rfl
      have f75k2 := f75g.2.2.1 2 (by decide)
      have f75m2 := f75g.2.2.2 2 _ rfl
      have f75k3 := f75g.2.2.1 3 (by decide)
      have f75m3 := f75g.2.2.2 3 _ rfl
      obtain ⟨f75g, f75i, -⟩ := f75g
      try simp at f75i f75h f75k0 f75m0 f75k1 f75m1 f75k2 f75m2 f75k3 f75m3
      have f76 := flat_put (g := fun x0 : Traits => ([.sc (.bool x0.some_), .sc (.bool x0.perms), .sc (.bool x0.resets), .sc (.bool x0.mixed)] : List T)) (m := 4) (fun _ => rfl) ((⟨false, true, true, true⟩ : Traits)) w58.toNat w59
      try simp at f76
      refine zr rfl rfl rfl (by simp [f75a, f75b, f75c, f75d, f75e, f75g, f75i, f75h, f75k0, f75k1, f75k2, f75k3, f75m0, f75m1, f75m2, f75m3, f76]; rfl) ?_
      refine blockC_n (thenC_n (zr rfl rfl rfl (by simp; rfl) ?_))
      have ho := next_some h4
      refine roundC_n ho ?_
      simp [cascade_Kinds_h5]
    · rw [if_neg c74] at h3
      refine q_ifF rfl (by simp [c74]) (q_exit rfl (thenC_x ?_))
      obtain ⟨rr1, h4, ho1⟩ := exit_some h3
      have hs1 := hr1 _ ho1
      subst hs1
      refine roundC_x ho1 (blockC_hit2 rfl (thenC_n (zq rfl (zq rfl (zr rfl rfl rfl (by simp; rfl) ?_)))))
      refine thenC_n (zb rfl (q_loopG h4 (cascade_Kinds_h10 a0) rfl rfl (by simp [cascade_Kinds_h10]) fun s o2 h5 hr2 => ?_))
      obtain ⟨w74, w75⟩ := s
      simp only [cascade_Kinds_b10] at h5
      simp only [cascade_Kinds_h10]
      refine zq rfl (zr rfl rfl rfl (by simp; rfl) ?_)
      refine thenC_n (zq rfl ?_)
      by_cases c105 : w74 < (a0.rows.length : Int)
      · rw [if_pos c105] at h5
        refine q_ifT rfl (by simp [c105]) (q_skip rfl (thenC_n (zq rfl (zb rfl (zq rfl ?_)))))
        obtain ⟨v88, f106, h6⟩ := bnd_some h5
        obtain ⟨f106a, f106b, f106c, f106d, f106e⟩ := atI_some f106
        have f106g := flat_some (g := fun x : CRow => ([.sl x.pre.length (x.pre.map fun x0 => .sc (.int .i64 x0)), .sl x.maps.length (x.maps.map fun x0 => .sl x0.length (x0.map fun x1 => .sc (.int .i64 x1)))] : List T)) (m := 2) (fun _ => rfl) f106d
        have f106h := flat_len (g := fun x : CRow => ([.sl x.pre.length (x.pre.map fun x0 => .sc (.int .i64 x0)), .sl x.maps.length (x.maps.map fun x0 => .sl x0.length (x0.map fun x1 => .sc (.int .i64 x1)))] : List T)) (m := 2) (fun _ => rfl) a0.rows
        have f106k0 := f106g.2.2.1 0 (by decide)
        have f106m0 := f106g.2.2.2 0 _ rfl
        have f106k1 := f106g.2.2.1 1 (by decide)
        have f106m1 := f106g.2.2.2 1 _ rfl
        obtain ⟨f106g, f106i, -⟩ := f106g
        try simp at f106i f106h f106k0 f106m0 f106k1 f106m1
        refine zr rfl rfl rfl (by simp [f106a, f106b, f106c, f106d, f106e, f106g, f106i, f106h, f106k0, f106k1, f106m0, f106m1]; rfl) ?_
        refine thenC_n (zq rfl (zr rfl rfl rfl (by simp; rfl) ?_))
        refine thenC_n (zb rfl (q_loopG h6 (cascade_Kinds_h13 a0 w74 v88) rfl rfl (by simp [cascade_Kinds_h13]) fun s o3 h7 hr3 => ?_))
        obtain ⟨w92, w93⟩ := s
        simp only [cascade_Kinds_b13] at h7
        simp only [cascade_Kinds_h13]
        refine zq rfl (zr rfl rfl rfl (by simp; rfl) ?_)
        refine thenC_n (zq rfl ?_)
        by_cases c115 : w92 < (v88.maps.length : Int)
        · rw [if_pos c115] at h7
          refine q_ifT rfl (by simp [c115]) (q_skip rfl (thenC_n (zq rfl (zb rfl (zq rfl ?_)))))
          obtain ⟨v97, f116, h8⟩ := bnd_some h7
          obtain ⟨f116a, f116b, f116c, f116d, f116e⟩ := atI_some f116
          refine zr rfl rfl rfl (by simp [f116a, f116b, f116c, f116d, f116e]; rfl) ?_
          refine thenC_n ?_
          obtain ⟨v98, f117, h9⟩ := bnd_some h8
          obtain ⟨f117a, f117b, f117c, f117d, f117e⟩ := atI_some f117
          simp only [Int.toNat_natCast] at f117c f117d f117e
          have f117l : v88.pre.length < w93.length := by omega
          have f117g := flat_some (g := fun x : Traits => ([.sc (.bool x.some_), .sc (.bool x.perms), .sc (.bool x.resets), .sc (.bool x.mixed)] : List T)) (m := 4) (fun _ => rfl) f117d
          have f117h := flat_len (g := fun x : Traits => ([.sc (.bool x.some_), .sc (.bool x.perms), .sc (.bool x.resets), .sc (.bool x.mixed)] : List T)) (m := 4) (fun _ => rfl) w93
          have f117k0 := f117g.2.2.1 0 (by decide)
          have f117m0 := f117g.2.2.2 0 _ rfl
          have f117k1 := f117g.2.2.1 1 (by decide)
          have f117m1 := f117g.2.2.2 1 _ rfl
          have f117k2 := f117g.2.2.1 2 (by decide)
          have f117m2 := f117g.2.2.2 2 _ rfl
          have f117k3 := f117g.2.2.1 3 (by decide)
          have f117m3 := f117g.2.2.2 3 _ rfl
          obtain ⟨f117g, f117i, -⟩ := f117g
          try simp at f117i f117h f117k0 f117m0 f117k1 f117m1 f117k2 f117m2 f117k3 f117m3
          obtain ⟨v99, f118, h10⟩ := bnd_some h9
          have f118k : L 63 [.vo ((v88.pre.length : Int).toNat * 4) (w93.flatMap (fun x0 : Traits => ([.sc (.bool x0.some_), .sc (.bool x0.perms), .sc (.bool x0.resets), .sc (.bool x0.mixed)] : List T))), .sl v97.length (v97.map fun x0 => .sc (.int .i64 x0))] = some (.tup [], [.vo ((v88.pre.length : Int).toNat * 4) ((w93.set (v88.pre.length : Int).toNat v99).flatMap (fun x0 : Traits => ([.sc (.bool x0.some_), .sc (.bool x0.perms), .sc (.bool x0.resets), .sc (.bool x0.mixed)] : List T))), .dead]) := by obtain ⟨q1, q2, q3⟩ := vo_at (g := (fun x0 : Traits => ([.sc (.bool x0.some_), .sc (.bool x0.perms), .sc (.bool x0.resets), .sc (.bool x0.mixed)] : List T))) (m := 4) (fun _ => rfl) (v99) (k := (v88.pre.length : Int).toNat) (by simpa using f117d); rw [q1, q2, ← q3]; exact cascade_traits_include_ok f118
          try simp at f118k
          have f118kl := flat_len (g := (fun x0 : Traits => ([.sc (.bool x0.some_), .sc (.bool x0.perms), .sc (.bool x0.resets), .sc (.bool x0.mixed)] : List T))) (m := 4) (fun _ => rfl) (w93.set (v88.pre.length : Int).toNat v99)
          try simp at f118kl
          refine zr rfl rfl rfl (by simp [f117a, f117b, f117c, f117d, f117e, f117l, f117g, f117i, f117h, f117k0, f117k1, f117k2, f117k3, f117m0, f117m1, f117m2, f117m3, f118k, f118kl]; rfl) ?_
          refine blockC_n (thenC_n (zr rfl rfl rfl (by simp; rfl) ?_))
          have ho := next_some h10
          refine roundC_n ho ?_
          simp [cascade_Kinds_h13]
        · rw [if_neg c115] at h7
          refine q_ifF rfl (by simp [c115]) (q_exit rfl (thenC_x ?_))
          obtain ⟨rr3, h8, ho3⟩ := exit_some h7
          have hs3 := hr3 _ ho3
          subst hs3
          refine roundC_x ho3 (blockC_hit2 rfl (blockC_n (thenC_n (zr rfl rfl rfl (by simp; rfl) ?_))))
          have ho := next_some h8
          refine roundC_n ho ?_
          simp [cascade_Kinds_h10]
      · rw [if_neg c105] at h5
        refine q_ifF rfl (by simp [c105]) (q_exit rfl (thenC_x ?_))
        obtain ⟨rr2, h6, ho2⟩ := exit_some h5
        have hs2 := hr2 _ ho2
        subst hs2
        refine roundC_x ho2 (blockC_hit2 rfl (thenC_n (zq rfl ?_)))
        obtain ⟨f119, h7⟩ := chk_some h6
        obtain ⟨f119a, f119b, f119c⟩ := f119
        refine zr rfl rfl rfl (by simp [f119a, f119b, f119c]; rfl) ?_
        refine thenC_n (zq rfl (zq rfl (zr rfl rfl rfl (by simp; rfl) ?_)))
        refine thenC_n (zb rfl (q_loopG h7 (cascade_Kinds_h20 w75) rfl rfl (by simp [cascade_Kinds_h20]) fun s o4 h8 hr4 => ?_))
        obtain ⟨w103, w104⟩ := s
        simp only [cascade_Kinds_b20] at h8
        simp only [cascade_Kinds_h20]
        refine zq rfl (zr rfl rfl rfl (by simp; rfl) ?_)
        refine thenC_n (zq rfl ?_)
        by_cases c128 : w103 < (w75.length : Int)
        · rw [if_pos c128] at h8
          refine q_ifT rfl (by simp [c128]) (q_skip rfl (thenC_n (zq rfl (zb rfl (zq rfl ?_)))))
          obtain ⟨v108, f129, h9⟩ := bnd_some h8
          obtain ⟨f129a, f129b, f129c, f129d, f129e⟩ := atI_some f129
          have f129g := flat_some (g := fun x : Traits => ([.sc (.bool x.some_), .sc (.bool x.perms), .sc (.bool x.resets), .sc (.bool x.mixed)] : List T)) (m := 4) (fun _ => rfl) f129d
          have f129h := flat_len (g := fun x : Traits => ([.sc (.bool x.some_), .sc (.bool x.perms), .sc (.bool x.resets), .sc (.bool x.mixed)] : List T)) (m := 4) (fun _ => rfl) w75
          have f129k0 := f129g.2.2.1 0 (by decide)
          have f129m0 := f129g.2.2.2 0 _ rfl
          have f129k1 := f129g.2.2.1 1 (by decide)
          have f129m1 := f129g.2.2.2 1 _ rfl
          have f129k2 := f129g.2.2.1 2 (by decide)
          have f129m2 := f129g.2.2.2 2 _ rfl
          have f129k3 := f129g.2.2.1 3 (by decide)
          have f129m3 := f129g.2.2.2 3 _ rfl
          obtain ⟨f129g, f129i, -⟩ := f129g
          try simp at f129i f129h f129k0 f129m0 f129k1 f129m1 f129k2 f129m2 f129k3 f129m3
          refine zr rfl rfl rfl (by simp [f129a, f129b, f129c, f129d, f129e, f129g, f129i, f129h, f129k0, f129k1, f129k2, f129k3, f129m0, f129m1, f129m2, f129m3]; rfl) ?_
          refine thenC_n ?_
          obtain ⟨v109, f130, h10⟩ := bnd_some h9
          have f130k := cascade_traits_kind_ok f130
          try simp at f130k
          obtain ⟨v110, f131, h11⟩ := bnd_some h10
          obtain ⟨f131a, f131b, f131c, f131d, f131e⟩ := atI_some f131
          refine zr rfl rfl rfl (by simp [f130k, f131a, f131b, f131c, f131d, f131e]; rfl) ?_
          refine blockC_n (thenC_n (zr rfl rfl rfl (by simp; rfl) ?_))
          have ho := next_some h11
          refine roundC_n ho ?_
          simp [cascade_Kinds_h20]
        · rw [if_neg c128] at h8
          refine q_ifF rfl (by simp [c128]) (q_exit rfl (thenC_x ?_))
          obtain ⟨rr4, h9, ho4⟩ := exit_some h8
          have hs4 := hr4 _ ho4
          subst hs4
          refine roundC_x ho4 (blockC_hit2 rfl (thenC_n (zq rfl (zr rfl rfl rfl (by simp; rfl) ?_))))
          refine thenC_n (q_ret rfl ?_)
          cases h9
          simp
  · rw [if_neg c67] at h1
    have c67e := eq_false c67
    refine q_ifT rfl (by simp [c67e]) (zq rfl (zr rfl rfl rfl (by simp; rfl) ?_))
    refine thenC_n (q_ret rfl (thenC_r ?_))
    cases h1
    simp

-- semigroup/cascade.Step
def cascade_Step (a0 : Casc) (a1 : List Int) (a2 : Int) : Option (List Int × Int) :=
  (cascade_NewRunner a0).bind fun v6 =>
  match v6 with
  | (.inl v7) =>
    if v7.2 = 0 then
      (cascade_Runner_Step v7.1 a1 a2).bind fun v8 =>
      some (v8.1, v8.2)
    else
      some ([], v7.2)
  | (.inr v9) =>
    if v9.2 = 0 then
      (cascade_Runner_Step (⟨⟨v9.1.c.letters, [], []⟩⟩ : Runner) a1 a2).bind fun v10 =>
      some (v10.1, v10.2)
    else
      some ([], v9.2)
theorem cascade_Step_ok {a0 : Casc} {a1 : List Int} {a2 : Int} {r : List Int × Int} (h0 : cascade_Step a0 a1 a2 = some r) : L 35 [.agg [.sc (.int .i64 a0.letters), .sl a0.sizes.length (a0.sizes.map fun x0 => .sc (.int .i64 x0)), .sl a0.rows.length (a0.rows.flatMap fun x0 => [.sl x0.pre.length (x0.pre.map fun x1 => .sc (.int .i64 x1)), .sl x0.maps.length (x0.maps.map fun x1 => .sl x1.length (x1.map fun x2 => .sc (.int .i64 x2)))])], .sl a1.length (a1.map fun x0 => .sc (.int .i64 x0)), .sc (.int .i64 a2)] = some (.tup [.os 1 r.1.length (r.1.map fun x0 => .sc (.int .i64 x0)), .sc (.int .i64 r.2)], [.dead, .dead, .dead]) := by
  simp only [cascade_Step] at h0
  refine L_run cfn35 fn35 (runF_of bd35 ⟨of_decide_eq_true rfl, of_decide_eq_true rfl⟩ ?_)
  simp only [entryF, entryT, entryO, entryE, isIo]
  refine zq rfl (zr rfl rfl rfl (by simp; rfl) ?_)
  refine thenC_n (zq rfl ?_)
  obtain ⟨v6, f6, h1⟩ := bnd_some h0
  rcases v6 with v7 | v9
  · dsimp only at h1
    have f6k := cascade_NewRunner_ok f6
    try simp at f6k
    refine zr rfl rfl rfl (by simp [f6k]; rfl) ?_
    refine thenC_n (zq rfl (zq rfl (zr rfl rfl rfl (by simp; rfl) ?_)))
    refine thenC_n ?_
    by_cases c7 : v7.2 = 0
    · rw [if_pos c7] at h1
      have c7e := eq_true c7
      refine q_ifF rfl (by simp [c7e]) (q_skip rfl (thenC_n (zq rfl ?_)))
      obtain ⟨v8, f8, h2⟩ := bnd_some h1
      have f8k := cascade_Runner_Step_ok f8
      try simp at f8k
      refine zr rfl rfl rfl (by simp [f8k]; rfl) ?_
      refine thenC_n (q_ret rfl ?_)
      cases h2
      simp
    · rw [if_neg c7] at h1
      have c7e := eq_false c7
      refine q_ifT rfl (by simp [c7e]) (zq rfl (zr rfl rfl rfl (by simp; rfl) ?_))
      refine thenC_n (q_ret rfl (thenC_r ?_))
      cases h1
      simp
  · dsimp only at h1
    have f6k := cascade_NewRunner_ok f6
    try simp at f6k
    refine zr rfl rfl rfl (by simp [f6k]; rfl) ?_
    refine thenC_n (zq rfl (zq rfl (zr rfl rfl rfl (by simp; rfl) ?_)))
    refine thenC_n ?_
    by_cases c9 : v9.2 = 0
    · rw [if_pos c9] at h1
      have c9e := eq_true c9
      refine q_ifF rfl (by simp [c9e]) (q_skip rfl (thenC_n (zq rfl ?_)))
      obtain ⟨v10, f10, h2⟩ := bnd_some h1
      have f10k := cascade_Runner_Step_ok f10
      try simp at f10k
      refine zr rfl rfl rfl (by simp [f10k]; rfl) ?_
      refine thenC_n (q_ret rfl ?_)
      cases h2
      simp
    · rw [if_neg c9] at h1
      have c9e := eq_false c9
      refine q_ifT rfl (by simp [c9e]) (zq rfl (zr rfl rfl rfl (by simp; rfl) ?_))
      refine thenC_n (q_ret rfl (thenC_r ?_))
      cases h1
      simp

-- semigroup/word.Valid
def word_Valid_b4 (a0 : ByteArray) (a1 : Int) : Int → Option (Int ⊕ Bool)
  | w10 =>
  if w10 < (a0.size : Int) then
    (byteI a0 w10).bind fun v13 =>
    if v13 < 97 then
      exitG <|
      some false
    else
      if a1 ≤ (IntKind.i64.wrap (IntKind.u8.wrap (v13 - 97))) then
        exitG <|
        some false
      else
        nextG (IntKind.i64.wrap (w10 + 1))
  else
    exitG <|
    some true
def word_Valid_h4 (a0 : ByteArray) (a1 : Int) : Int → Fr
  | w10 => ⟨36, [(0, .one (.t none (.sc (.string a0)))), (1, .one (.t none (.sc (.int .i64 a1)))), (18, .one (.t none (.sc (.int .i64 (a0.size : Int))))), (19, .one (.t none (.sc (.int .i64 w10))))], []⟩
def word_Valid (a0 : ByteArray) (a1 : Int) : Option (Bool) :=
  if a1 < 1 then
    some false
  else
    if 6 < a1 then
      some false
    else
      if 2048 < (a0.size : Int) then
        some false
      else
        loopG (word_Valid_b4 a0 a1) LFm 0
theorem word_Valid_ok {a0 : ByteArray} {a1 : Int} {r : Bool} (h0 : word_Valid a0 a1 = some r) : L 32 [.sc (.string a0), .sc (.int .i64 a1)] = some (.sc (.bool r), [.dead, .dead]) := by
  simp only [word_Valid] at h0
  refine L_run cfn32 fn32 (runF_of bd32 ⟨of_decide_eq_true rfl, of_decide_eq_true rfl⟩ ?_)
  simp only [entryF, entryT, entryO, entryE, isIo]
  refine zq rfl (zr rfl rfl rfl (by simp; rfl) ?_)
  refine thenC_n (zq rfl (zq rfl ?_))
  by_cases c16 : a1 < 1
  · rw [if_pos c16] at h0
    refine zr rfl rfl rfl (by simp [c16]; rfl) ?_
    refine thenC_n (q_ifT rfl (by simp) (zq rfl (zr rfl rfl rfl (by simp; rfl) ?_)))
    refine thenC_n (q_ret rfl (thenC_r ?_))
    cases h0
    simp
  · rw [if_neg c16] at h0
    by_cases c17 : 6 < a1
    · rw [if_pos c17] at h0
      refine zr rfl rfl rfl (by simp [c16, c17]; rfl) ?_
      refine thenC_n (q_ifT rfl (by simp) (zq rfl (zr rfl rfl rfl (by simp; rfl) ?_)))
      refine thenC_n (q_ret rfl (thenC_r ?_))
      cases h0
      simp
    · rw [if_neg c17] at h0
      refine zr rfl rfl rfl (by simp [c16, c17]; rfl) ?_
      refine thenC_n ?_
      by_cases c18 : 2048 < (a0.size : Int)
      · rw [if_pos c18] at h0
        refine q_ifT rfl (by simp [c18]) (zq rfl (zr rfl rfl rfl (by simp; rfl) ?_))
        refine thenC_n (q_ret rfl (thenC_r ?_))
        cases h0
        simp
      · rw [if_neg c18] at h0
        refine q_ifF rfl (by simp [c18]) (q_skip rfl (thenC_n (zq rfl (zq rfl (zr rfl rfl rfl (by simp; rfl) ?_)))))
        refine thenC_n (zb rfl (q_loopG h0 (word_Valid_h4 a0 a1) rfl rfl (by simp [word_Valid_h4]) fun s o1 h1 hr1 => ?_))
        obtain ⟨w10, hs1⟩ : ∃ y, y = s := ⟨_, rfl⟩
        subst hs1
        simp only [word_Valid_b4] at h1
        simp only [word_Valid_h4]
        refine zq rfl (zr rfl rfl rfl (by simp; rfl) ?_)
        refine thenC_n (zq rfl ?_)
        by_cases c27 : w10 < (a0.size : Int)
        · rw [if_pos c27] at h1
          refine q_ifT rfl (by simp [c27]) (q_skip rfl (thenC_n (zq rfl (zb rfl (zq rfl (zr rfl rfl rfl (by simp; rfl) ?_))))))
          refine thenC_n (zq rfl ?_)
          obtain ⟨v13, f28, h2⟩ := bnd_some h1
          obtain ⟨f28a, f28b, f28w, f28c, f28d, f28g⟩ := byteI_some f28
          have f28d := f28d.symm
          by_cases c29 : v13 < 97
          · rw [if_pos c29] at h2
            refine zr rfl rfl rfl (by simp [f28a, f28b, f28c, f28d, f28g, c29]; rfl) ?_
            refine thenC_n (q_ifT rfl (by simp) (zq rfl (zr rfl rfl rfl (by simp; rfl) ?_)))
            refine thenC_n (q_ret rfl (blockC_r (thenC_r ?_)))
            obtain ⟨rr1, h3, ho1⟩ := exit_some h2
            have hs1 := hr1 _ ho1
            subst hs1
            refine roundC_r ho1 (blockC_r (thenC_r ?_))
            cases h3
            simp
          · rw [if_neg c29] at h2
            refine zr rfl rfl rfl (by simp [f28a, f28b, f28c, f28d, f28g, c29]; rfl) ?_
            refine thenC_n ?_
            by_cases c30 : a1 ≤ (IntKind.i64.wrap (IntKind.u8.wrap (v13 - 97)))
            · rw [if_pos c30] at h2
              refine q_ifT rfl (by simp [c30]) (zq rfl (zr rfl rfl rfl (by simp; rfl) ?_))
              refine thenC_n (q_ret rfl (blockC_r (thenC_r ?_)))
              obtain ⟨rr1, h3, ho1⟩ := exit_some h2
              have hs1 := hr1 _ ho1
              subst hs1
              refine roundC_r ho1 (blockC_r (thenC_r ?_))
              cases h3
              simp
            · rw [if_neg c30] at h2
              refine q_ifF rfl (by simp [c30]) (q_skip rfl (blockC_n (thenC_n (zr rfl rfl rfl (by simp; rfl) ?_))))
              have ho := next_some h2
              refine roundC_n ho ?_
              simp [word_Valid_h4]
        · rw [if_neg c27] at h1
          refine q_ifF rfl (by simp [c27]) (q_exit rfl (thenC_x ?_))
          obtain ⟨rr1, h2, ho1⟩ := exit_some h1
          have hs1 := hr1 _ ho1
          subst hs1
          refine roundC_x ho1 (blockC_hit2 rfl (thenC_n (zq rfl (zr rfl rfl rfl (by simp; rfl) ?_))))
          refine thenC_n (q_ret rfl ?_)
          cases h2
          simp

-- semigroup/cascade.Run
def cascade_Run_b8 (a2 : ByteArray) (v27 : Runner × Int) : Int × List Int → Option ((Int × List Int) ⊕ (List Int × Int))
  | (w33, w34) =>
  if w33 < (a2.size : Int) then
    (byteI a2 w33).bind fun v37 =>
    (cascade_Runner_Step v27.1 w34 (IntKind.i64.wrap (IntKind.u8.wrap (v37 - 97)))).bind fun v38 =>
    if v38.2 = 0 then
      nextG (IntKind.i64.wrap (w33 + 1), v38.1)
    else
      exitG <|
      some ([], v38.2)
  else
    exitG <|
    some (w34, 0)
def cascade_Run_h8 (a2 : ByteArray) (v27 : Runner × Int) : Int × List Int → Fr
  | (w33, w34) => ⟨55, [(2, .one (.t none (.sc (.string a2)))), (8, .one (.a 8 [] (0))), (10, .one (.h 10 [])), (35, .one (.t none (.sc (.int .i64 (a2.size : Int))))), (36, .one (.t none (.sc (.int .i64 w33))))], [(8, .vr [.sc (.int .i64 v27.1.c.letters), .sl v27.1.c.sizes.length (v27.1.c.sizes.map fun x0 => .sc (.int .i64 x0)), .sl v27.1.c.rows.length (v27.1.c.rows.flatMap fun x0 => [.sl x0.pre.length (x0.pre.map fun x1 => .sc (.int .i64 x1)), .sl x0.maps.length (x0.maps.map fun x1 => .sl x1.length (x1.map fun x2 => .sc (.int .i64 x2)))])]), (10, .os 1 w34.length (w34.map fun x0 => .sc (.int .i64 x0)))]⟩
def cascade_Run_b8a (a2 : ByteArray) (v39 : Runner × Int) : Int × List Int → Option ((Int × List Int) ⊕ (List Int × Int))
  | (w45, w46) =>
  if w45 < (a2.size : Int) then
    (byteI a2 w45).bind fun v49 =>
    (cascade_Runner_Step (⟨⟨v39.1.c.letters, [], []⟩⟩ : Runner) w46 (IntKind.i64.wrap (IntKind.u8.wrap (v49 - 97)))).bind fun v50 =>
    if v50.2 = 0 then
      nextG (IntKind.i64.wrap (w45 + 1), v50.1)
    else
      exitG <|
      some ([], v50.2)
  else
    exitG <|
    some (w46, 0)
def cascade_Run_h8a (a2 : ByteArray) (v39 : Runner × Int) : Int × List Int → Fr
  | (w45, w46) => ⟨55, [(2, .one (.t none (.sc (.string a2)))), (8, .one (.a 8 [] (0))), (10, .one (.h 10 [])), (35, .one (.t none (.sc (.int .i64 (a2.size : Int))))), (36, .one (.t none (.sc (.int .i64 w45))))], [(8, .vr [.sc (.int .i64 v39.1.c.letters), .os 1 0 [], .os 2 0 []]), (10, .os 1 w46.length (w46.map fun x0 => .sc (.int .i64 x0)))]⟩
def cascade_Run (a0 : Casc) (a1 : List Int) (a2 : ByteArray) : Option (List Int × Int) :=
  (cascade_NewRunner a0).bind fun v26 =>
  match v26 with
  | (.inl v27) =>
    if v27.2 = 0 then
      (cascade_isTuple a0.sizes a1).bind fun v28 =>
      if v28 = true then
        (word_Valid a2 a0.letters).bind fun v29 =>
        if v29 = true then
          (vClone a1).bind fun v30 =>
          loopG (cascade_Run_b8 a2 v27) LFm (0, v30)
        else
          some ([], 1)
      else
        some ([], 1)
    else
      some ([], v27.2)
  | (.inr v39) =>
    if v39.2 = 0 then
      (cascade_isTuple a0.sizes a1).bind fun v40 =>
      if v40 = true then
        (word_Valid a2 a0.letters).bind fun v41 =>
        if v41 = true then
          (vClone a1).bind fun v42 =>
          loopG (cascade_Run_b8a a2 v39) LFm (0, v42)
        else
          some ([], 1)
      else
        some ([], 1)
    else
      some ([], v39.2)
theorem cascade_Run_ok {a0 : Casc} {a1 : List Int} {a2 : ByteArray} {r : List Int × Int} (h0 : cascade_Run a0 a1 a2 = some r) : L 17 [.agg [.sc (.int .i64 a0.letters), .sl a0.sizes.length (a0.sizes.map fun x0 => .sc (.int .i64 x0)), .sl a0.rows.length (a0.rows.flatMap fun x0 => [.sl x0.pre.length (x0.pre.map fun x1 => .sc (.int .i64 x1)), .sl x0.maps.length (x0.maps.map fun x1 => .sl x1.length (x1.map fun x2 => .sc (.int .i64 x2)))])], .sl a1.length (a1.map fun x0 => .sc (.int .i64 x0)), .sc (.string a2)] = some (.tup [.os 1 r.1.length (r.1.map fun x0 => .sc (.int .i64 x0)), .sc (.int .i64 r.2)], [.dead, .dead, .dead]) := by
  simp only [cascade_Run] at h0
  refine L_run cfn17 fn17 (runF_of bd17 ⟨of_decide_eq_true rfl, of_decide_eq_true rfl⟩ ?_)
  simp only [entryF, entryT, entryO, entryE, isIo]
  refine zq rfl (zr rfl rfl rfl (by simp; rfl) ?_)
  refine thenC_n (zq rfl ?_)
  obtain ⟨v26, f38, h1⟩ := bnd_some h0
  rcases v26 with v27 | v39
  · dsimp only at h1
    have f38k := cascade_NewRunner_ok f38
    try simp at f38k
    refine zr rfl rfl rfl (by simp [f38k]; rfl) ?_
    refine thenC_n (zq rfl (zq rfl (zr rfl rfl rfl (by simp; rfl) ?_)))
    refine thenC_n ?_
    by_cases c39 : v27.2 = 0
    · rw [if_pos c39] at h1
      have c39e := eq_true c39
      refine q_ifF rfl (by simp [c39e]) (q_skip rfl (thenC_n (zq rfl (zq rfl ?_))))
      obtain ⟨v28, f40, h2⟩ := bnd_some h1
      have f40k := cascade_isTuple_ok f40
      try simp at f40k
      by_cases c41 : v28 = true
      · rw [if_pos c41] at h2
        obtain ⟨v29, f42, h3⟩ := bnd_some h2
        have f42k := word_Valid_ok f42
        try simp at f42k
        refine zr rfl rfl rfl (by simp [f40k, c41, f42k]; rfl) ?_
        refine thenC_n ?_
        by_cases c43 : v29 = true
        · rw [if_pos c43] at h3
          refine q_ifF rfl (by simp [c43]) (q_skip rfl (thenC_n (zq rfl ?_)))
          obtain ⟨v30, f44, h4⟩ := bnd_some h3
          have f44k := vClone_ok f44
          try simp at f44k
          refine zr rfl rfl rfl (by simp [f44k]; rfl) ?_
          refine thenC_n (zq rfl (zq rfl (zr rfl rfl rfl (by simp; rfl) ?_)))
          refine thenC_n (zb rfl (q_loopG h4 (cascade_Run_h8 a2 v27) rfl rfl (by simp [cascade_Run_h8]) fun s o1 h5 hr1 => ?_))
          obtain ⟨w33, w34⟩ := s
          simp only [cascade_Run_b8] at h5
          simp only [cascade_Run_h8]
          refine zq rfl (zr rfl rfl rfl (by simp; rfl) ?_)
          refine thenC_n (zq rfl ?_)
          by_cases c53 : w33 < (a2.size : Int)
          · rw [if_pos c53] at h5
            refine q_ifT rfl (by simp [c53]) (q_skip rfl (thenC_n (zq rfl (zb rfl (zq rfl (zr rfl rfl rfl (by simp; rfl) ?_))))))
            refine thenC_n (zq rfl ?_)
            obtain ⟨v37, f54, h6⟩ := bnd_some h5
            obtain ⟨f54a, f54b, f54w, f54c, f54d, f54g⟩ := byteI_some f54
            have f54d := f54d.symm
            obtain ⟨v38, f55, h7⟩ := bnd_some h6
            have f55k := cascade_Runner_Step_ok f55
            try simp at f55k
            refine q_drawW rfl rfl rfl rfl ?_; repeat' (first | (refine q_drawW_op rfl rfl fun Q' hQ => ?_; simp [f54a, f54b, f54c, f54d, f54g, f55k]; refine hQ.out _ ?_; clear hQ; clear Q') | (refine q_drawW_guard rfl rfl fun Q1 Q2 h1 h2 => ?_; simp [f54a, f54b, f54c, f54d, f54g, f55k, twoB_some]; (first | refine h1.out ?_ | refine h2.out ?_); clear h1 h2; clear Q1 Q2; intro Q' hQ; simp [f54a, f54b, f54c, f54d, f54g, f55k]; refine hQ.out _ ?_; clear hQ; clear Q') | (refine q_drawW_nil rfl fun Q' hQ => ?_; simp [f54a, f54b, f54c, f54d, f54g, f55k]; refine hQ.out _ ?_; clear hQ; clear Q'))
            refine thenC_n (zq rfl (zr rfl rfl rfl (by simp; rfl) ?_))
            refine thenC_n ?_
            by_cases c56 : v38.2 = 0
            · rw [if_pos c56] at h7
              have c56e := eq_true c56
              refine q_ifF rfl (by simp [c56e]) (q_skip rfl (blockC_n (thenC_n (zr rfl rfl rfl (by simp; rfl) ?_))))
              have ho := next_some h7
              refine roundC_n ho ?_
              simp [cascade_Run_h8]
            · rw [if_neg c56] at h7
              have c56e := eq_false c56
              refine q_ifT rfl (by simp [c56e]) (zq rfl (zr rfl rfl rfl (by simp; rfl) ?_))
              refine thenC_n (q_ret rfl (blockC_r (thenC_r ?_)))
              obtain ⟨rr1, h8, ho1⟩ := exit_some h7
              have hs1 := hr1 _ ho1
              subst hs1
              refine roundC_r ho1 (blockC_r (thenC_r ?_))
              cases h8
              simp
          · rw [if_neg c53] at h5
            refine q_ifF rfl (by simp [c53]) (q_exit rfl (thenC_x ?_))
            obtain ⟨rr1, h6, ho1⟩ := exit_some h5
            have hs1 := hr1 _ ho1
            subst hs1
            refine roundC_x ho1 (blockC_hit2 rfl (thenC_n (zq rfl (zr rfl rfl rfl (by simp; rfl) ?_))))
            refine thenC_n (q_ret rfl ?_)
            cases h6
            simp
        · rw [if_neg c43] at h3
          refine q_ifT rfl (by simp [c43]) (zq rfl (zr rfl rfl rfl (by simp; rfl) ?_))
          refine thenC_n (q_ret rfl (thenC_r ?_))
          cases h3
          simp [c41, c43]
      · rw [if_neg c41] at h2
        refine zr rfl rfl rfl (by simp [f40k, c41]; rfl) ?_
        refine thenC_n (q_ifT rfl (by simp) (zq rfl (zr rfl rfl rfl (by simp; rfl) ?_)))
        refine thenC_n (q_ret rfl (thenC_r ?_))
        cases h2
        simp [c41]
    · rw [if_neg c39] at h1
      have c39e := eq_false c39
      refine q_ifT rfl (by simp [c39e]) (zq rfl (zr rfl rfl rfl (by simp; rfl) ?_))
      refine thenC_n (q_ret rfl (thenC_r ?_))
      cases h1
      simp
  · dsimp only at h1
    have f38k := cascade_NewRunner_ok f38
    try simp at f38k
    refine zr rfl rfl rfl (by simp [f38k]; rfl) ?_
    refine thenC_n (zq rfl (zq rfl (zr rfl rfl rfl (by simp; rfl) ?_)))
    refine thenC_n ?_
    by_cases c57 : v39.2 = 0
    · rw [if_pos c57] at h1
      have c57e := eq_true c57
      refine q_ifF rfl (by simp [c57e]) (q_skip rfl (thenC_n (zq rfl (zq rfl ?_))))
      obtain ⟨v40, f58, h2⟩ := bnd_some h1
      have f58k := cascade_isTuple_ok f58
      try simp at f58k
      by_cases c59 : v40 = true
      · rw [if_pos c59] at h2
        obtain ⟨v41, f60, h3⟩ := bnd_some h2
        have f60k := word_Valid_ok f60
        try simp at f60k
        refine zr rfl rfl rfl (by simp [f58k, c59, f60k]; rfl) ?_
        refine thenC_n ?_
        by_cases c61 : v41 = true
        · rw [if_pos c61] at h3
          refine q_ifF rfl (by simp [c61]) (q_skip rfl (thenC_n (zq rfl ?_)))
          obtain ⟨v42, f62, h4⟩ := bnd_some h3
          have f62k := vClone_ok f62
          try simp at f62k
          refine zr rfl rfl rfl (by simp [f62k]; rfl) ?_
          refine thenC_n (zq rfl (zq rfl (zr rfl rfl rfl (by simp; rfl) ?_)))
          refine thenC_n (zb rfl (q_loopG h4 (cascade_Run_h8a a2 v39) rfl rfl (by simp [cascade_Run_h8a]) fun s o2 h5 hr2 => ?_))
          obtain ⟨w45, w46⟩ := s
          simp only [cascade_Run_b8a] at h5
          simp only [cascade_Run_h8a]
          refine zq rfl (zr rfl rfl rfl (by simp; rfl) ?_)
          refine thenC_n (zq rfl ?_)
          by_cases c71 : w45 < (a2.size : Int)
          · rw [if_pos c71] at h5
            refine q_ifT rfl (by simp [c71]) (q_skip rfl (thenC_n (zq rfl (zb rfl (zq rfl (zr rfl rfl rfl (by simp; rfl) ?_))))))
            refine thenC_n (zq rfl ?_)
            obtain ⟨v49, f72, h6⟩ := bnd_some h5
            obtain ⟨f72a, f72b, f72w, f72c, f72d, f72g⟩ := byteI_some f72
            have f72d := f72d.symm
            obtain ⟨v50, f73, h7⟩ := bnd_some h6
            have f73k := cascade_Runner_Step_ok f73
            try simp at f73k
            refine q_drawW rfl rfl rfl rfl ?_; repeat' (first | (refine q_drawW_op rfl rfl fun Q' hQ => ?_; simp [f72a, f72b, f72c, f72d, f72g, f73k]; refine hQ.out _ ?_; clear hQ; clear Q') | (refine q_drawW_guard rfl rfl fun Q1 Q2 h1 h2 => ?_; simp [f72a, f72b, f72c, f72d, f72g, f73k, twoB_some]; (first | refine h1.out ?_ | refine h2.out ?_); clear h1 h2; clear Q1 Q2; intro Q' hQ; simp [f72a, f72b, f72c, f72d, f72g, f73k]; refine hQ.out _ ?_; clear hQ; clear Q') | (refine q_drawW_nil rfl fun Q' hQ => ?_; simp [f72a, f72b, f72c, f72d, f72g, f73k]; refine hQ.out _ ?_; clear hQ; clear Q'))
            refine thenC_n (zq rfl (zr rfl rfl rfl (by simp; rfl) ?_))
            refine thenC_n ?_
            by_cases c74 : v50.2 = 0
            · rw [if_pos c74] at h7
              have c74e := eq_true c74
              refine q_ifF rfl (by simp [c74e]) (q_skip rfl (blockC_n (thenC_n (zr rfl rfl rfl (by simp; rfl) ?_))))
              have ho := next_some h7
              refine roundC_n ho ?_
              simp [cascade_Run_h8a]
            · rw [if_neg c74] at h7
              have c74e := eq_false c74
              refine q_ifT rfl (by simp [c74e]) (zq rfl (zr rfl rfl rfl (by simp; rfl) ?_))
              refine thenC_n (q_ret rfl (blockC_r (thenC_r ?_)))
              obtain ⟨rr2, h8, ho2⟩ := exit_some h7
              have hs2 := hr2 _ ho2
              subst hs2
              refine roundC_r ho2 (blockC_r (thenC_r ?_))
              cases h8
              simp
          · rw [if_neg c71] at h5
            refine q_ifF rfl (by simp [c71]) (q_exit rfl (thenC_x ?_))
            obtain ⟨rr2, h6, ho2⟩ := exit_some h5
            have hs2 := hr2 _ ho2
            subst hs2
            refine roundC_x ho2 (blockC_hit2 rfl (thenC_n (zq rfl (zr rfl rfl rfl (by simp; rfl) ?_))))
            refine thenC_n (q_ret rfl ?_)
            cases h6
            simp
        · rw [if_neg c61] at h3
          refine q_ifT rfl (by simp [c61]) (zq rfl (zr rfl rfl rfl (by simp; rfl) ?_))
          refine thenC_n (q_ret rfl (thenC_r ?_))
          cases h3
          simp [c59, c61]
      · rw [if_neg c59] at h2
        refine zr rfl rfl rfl (by simp [f58k, c59]; rfl) ?_
        refine thenC_n (q_ifT rfl (by simp) (zq rfl (zr rfl rfl rfl (by simp; rfl) ?_)))
        refine thenC_n (q_ret rfl (thenC_r ?_))
        cases h2
        simp [c59]
    · rw [if_neg c57] at h1
      have c57e := eq_false c57
      refine q_ifT rfl (by simp [c57e]) (zq rfl (zr rfl rfl rfl (by simp; rfl) ?_))
      refine thenC_n (q_ret rfl (thenC_r ?_))
      cases h1
      simp

-- semigroup/semigroupref26.Run
def ref26_Run_b8 (a0 : Casc) (a2 : ByteArray) : Int × List Int → Option ((Int × List Int) ⊕ (List Int × Int))
  | (w17, w18) =>
  if w17 < (a2.size : Int) then
    (byteI a2 w17).bind fun v21 =>
    (ref26_step a0 w18 (IntKind.i64.wrap (IntKind.u8.wrap (v21 - 97)))).bind fun v22 =>
    if v22.2 = 0 then
      nextG (IntKind.i64.wrap (w17 + 1), v22.1)
    else
      exitG <|
      some ([], v22.2)
  else
    exitG <|
    some (w18, 0)
def ref26_Run_h8 (a0 : Casc) (a2 : ByteArray) : Int × List Int → Fr
  | (w17, w18) => ⟨54, [(2, .one (.t none (.sc (.string a2)))), (3, .one (.a 3 [] (0))), (9, .one (.h 9 [])), (10, .one (.t none (.sc (.int .i64 w17))))], [(3, .vr [.sc (.int .i64 a0.letters), .sl a0.sizes.length (a0.sizes.map fun x0 => .sc (.int .i64 x0)), .sl a0.rows.length (a0.rows.flatMap fun x0 => [.sl x0.pre.length (x0.pre.map fun x1 => .sc (.int .i64 x1)), .sl x0.maps.length (x0.maps.map fun x1 => .sl x1.length (x1.map fun x2 => .sc (.int .i64 x2)))])]), (9, .os 1 w18.length (w18.map fun x0 => .sc (.int .i64 x0)))]⟩
def ref26_Run (a0 : Casc) (a1 : List Int) (a2 : ByteArray) : Option (List Int × Int) :=
  (ref26_Validate a0).bind fun v12 =>
  if v12 = 0 then
    (ref26_IsTuple a0 a1).bind fun v13 =>
    if v13 = true then
      (ref01_Valid a2 a0.letters).bind fun v14 =>
      if v14 = true then
        chk (capOk 8 (a1.length)) <|
        loopG (ref26_Run_b8 a0 a2) LFm (0, a1)
      else
        some ([], 1)
    else
      some ([], 1)
  else
    some ([], v12)
theorem ref26_Run_ok {a0 : Casc} {a1 : List Int} {a2 : ByteArray} {r : List Int × Int} (h0 : ref26_Run a0 a1 a2 = some r) : L 47 [.agg [.sc (.int .i64 a0.letters), .sl a0.sizes.length (a0.sizes.map fun x0 => .sc (.int .i64 x0)), .sl a0.rows.length (a0.rows.flatMap fun x0 => [.sl x0.pre.length (x0.pre.map fun x1 => .sc (.int .i64 x1)), .sl x0.maps.length (x0.maps.map fun x1 => .sl x1.length (x1.map fun x2 => .sc (.int .i64 x2)))])], .sl a1.length (a1.map fun x0 => .sc (.int .i64 x0)), .sc (.string a2)] = some (.tup [.os 1 r.1.length (r.1.map fun x0 => .sc (.int .i64 x0)), .sc (.int .i64 r.2)], [.dead, .dead, .dead]) := by
  simp only [ref26_Run] at h0
  refine L_run cfn47 fn47 (runF_of bd47 ⟨of_decide_eq_true rfl, of_decide_eq_true rfl⟩ ?_)
  simp only [entryF, entryT, entryO, entryE, isIo]
  refine zq rfl (zr rfl rfl rfl (by simp; rfl) ?_)
  refine thenC_n (zq rfl (zq rfl ?_))
  obtain ⟨v12, f20, h1⟩ := bnd_some h0
  have f20k := ref26_Validate_ok f20
  try simp at f20k
  refine zr rfl rfl rfl (by simp [f20k]; rfl) ?_
  refine thenC_n (zq rfl (zr rfl rfl rfl (by simp; rfl) ?_))
  refine thenC_n ?_
  by_cases c21 : v12 = 0
  · rw [if_pos c21] at h1
    have c21e := eq_true c21
    refine q_ifF rfl (by simp [c21e]) (q_skip rfl (thenC_n (zq rfl (zq rfl ?_))))
    obtain ⟨v13, f22, h2⟩ := bnd_some h1
    have f22k := ref26_IsTuple_ok f22
    try simp at f22k
    by_cases c23 : v13 = true
    · rw [if_pos c23] at h2
      obtain ⟨v14, f24, h3⟩ := bnd_some h2
      have f24k := ref01_Valid_ok f24
      try simp at f24k
      refine zr rfl rfl rfl (by simp [f22k, c23, f24k]; rfl) ?_
      refine thenC_n ?_
      by_cases c25 : v14 = true
      · rw [if_pos c25] at h3
        refine q_ifF rfl (by simp [c25]) (q_skip rfl (thenC_n (zq rfl ?_)))
        obtain ⟨f26, h4⟩ := chk_some h3
        obtain ⟨f26a, f26b⟩ := f26
        refine zr rfl rfl rfl (by simp [f26a, f26b]; rfl) ?_
        refine thenC_n (zq rfl (zq rfl (zr rfl rfl rfl (by simp; rfl) ?_)))
        refine thenC_n (zb rfl (q_loopG h4 (ref26_Run_h8 a0 a2) rfl rfl (by simp [ref26_Run_h8]) fun s o1 h5 hr1 => ?_))
        obtain ⟨w17, w18⟩ := s
        simp only [ref26_Run_b8] at h5
        simp only [ref26_Run_h8]
        refine zq rfl (zq rfl (zr rfl rfl rfl (by simp; rfl) ?_))
        refine thenC_n ?_
        by_cases c35 : w17 < (a2.size : Int)
        · rw [if_pos c35] at h5
          refine q_ifT rfl (by simp [c35]) (q_skip rfl (thenC_n (zq rfl (zb rfl (zq rfl ?_)))))
          obtain ⟨v21, f36, h6⟩ := bnd_some h5
          obtain ⟨f36a, f36b, f36w, f36c, f36d, f36g⟩ := byteI_some f36
          have f36d := f36d.symm
          obtain ⟨v22, f37, h7⟩ := bnd_some h6
          have f37k := ref26_step_ok f37
          try simp at f37k
          refine q_drawW rfl rfl rfl rfl ?_; repeat' (first | (refine q_drawW_op rfl rfl fun Q' hQ => ?_; simp [f36a, f36b, f36c, f36d, f36g, f37k]; refine hQ.out _ ?_; clear hQ; clear Q') | (refine q_drawW_guard rfl rfl fun Q1 Q2 h1 h2 => ?_; simp [f36a, f36b, f36c, f36d, f36g, f37k, twoB_some]; (first | refine h1.out ?_ | refine h2.out ?_); clear h1 h2; clear Q1 Q2; intro Q' hQ; simp [f36a, f36b, f36c, f36d, f36g, f37k]; refine hQ.out _ ?_; clear hQ; clear Q') | (refine q_drawW_nil rfl fun Q' hQ => ?_; simp [f36a, f36b, f36c, f36d, f36g, f37k]; refine hQ.out _ ?_; clear hQ; clear Q'))
          refine thenC_n (zq rfl (zq rfl (zr rfl rfl rfl (by simp; rfl) ?_)))
          refine thenC_n ?_
          by_cases c38 : v22.2 = 0
          · rw [if_pos c38] at h7
            have c38e := eq_true c38
            refine q_ifF rfl (by simp [c38e]) (q_skip rfl (thenC_n (zr rfl rfl rfl (by simp; rfl) ?_)))
            refine blockC_n (thenC_n (zr rfl rfl rfl (by simp; rfl) ?_))
            have ho := next_some h7
            refine roundC_n ho ?_
            simp [ref26_Run_h8]
          · rw [if_neg c38] at h7
            have c38e := eq_false c38
            refine q_ifT rfl (by simp [c38e]) (zq rfl (zr rfl rfl rfl (by simp; rfl) ?_))
            refine thenC_n (q_ret rfl (thenC_r (blockC_r (thenC_r ?_))))
            obtain ⟨rr1, h8, ho1⟩ := exit_some h7
            have hs1 := hr1 _ ho1
            subst hs1
            refine roundC_r ho1 (blockC_r (thenC_r ?_))
            cases h8
            simp
        · rw [if_neg c35] at h5
          refine q_ifF rfl (by simp [c35]) (q_exit rfl (thenC_x ?_))
          obtain ⟨rr1, h6, ho1⟩ := exit_some h5
          have hs1 := hr1 _ ho1
          subst hs1
          refine roundC_x ho1 (blockC_hit2 rfl (thenC_n (zq rfl (zr rfl rfl rfl (by simp; rfl) ?_))))
          refine thenC_n (q_ret rfl ?_)
          cases h6
          simp
      · rw [if_neg c25] at h3
        refine q_ifT rfl (by simp [c25]) (zq rfl (zr rfl rfl rfl (by simp; rfl) ?_))
        refine thenC_n (q_ret rfl (thenC_r ?_))
        cases h3
        simp [c23, c25]
    · rw [if_neg c23] at h2
      refine zr rfl rfl rfl (by simp [f22k, c23]; rfl) ?_
      refine thenC_n (q_ifT rfl (by simp) (zq rfl (zr rfl rfl rfl (by simp; rfl) ?_)))
      refine thenC_n (q_ret rfl (thenC_r ?_))
      cases h2
      simp [c23]
  · rw [if_neg c21] at h1
    have c21e := eq_false c21
    refine q_ifT rfl (by simp [c21e]) (zq rfl (zr rfl rfl rfl (by simp; rfl) ?_))
    refine thenC_n (q_ret rfl (thenC_r ?_))
    cases h1
    simp

-- semigroup/semigroupref26.Step
def ref26_Step (a0 : Casc) (a1 : List Int) (a2 : Int) : Option (List Int × Int) :=
  (ref26_Validate a0).bind fun v4 =>
  if v4 = 0 then
    (ref26_IsTuple a0 a1).bind fun v5 =>
    if v5 = true then
      if a2 < 0 then
        some ([], 1)
      else
        if a0.letters ≤ a2 then
          some ([], 1)
        else
          (ref26_step a0 a1 a2).bind fun v6 =>
          some (v6.1, v6.2)
    else
      some ([], 1)
  else
    some ([], v4)
theorem ref26_Step_ok {a0 : Casc} {a1 : List Int} {a2 : Int} {r : List Int × Int} (h0 : ref26_Step a0 a1 a2 = some r) : L 46 [.agg [.sc (.int .i64 a0.letters), .sl a0.sizes.length (a0.sizes.map fun x0 => .sc (.int .i64 x0)), .sl a0.rows.length (a0.rows.flatMap fun x0 => [.sl x0.pre.length (x0.pre.map fun x1 => .sc (.int .i64 x1)), .sl x0.maps.length (x0.maps.map fun x1 => .sl x1.length (x1.map fun x2 => .sc (.int .i64 x2)))])], .sl a1.length (a1.map fun x0 => .sc (.int .i64 x0)), .sc (.int .i64 a2)] = some (.tup [.os 1 r.1.length (r.1.map fun x0 => .sc (.int .i64 x0)), .sc (.int .i64 r.2)], [.dead, .dead, .dead]) := by
  simp only [ref26_Step] at h0
  refine L_run cfn46 fn46 (runF_of bd46 ⟨of_decide_eq_true rfl, of_decide_eq_true rfl⟩ ?_)
  simp only [entryF, entryT, entryO, entryE, isIo]
  refine zq rfl (zr rfl rfl rfl (by simp; rfl) ?_)
  refine thenC_n (zq rfl (zq rfl ?_))
  obtain ⟨v4, f8, h1⟩ := bnd_some h0
  have f8k := ref26_Validate_ok f8
  try simp at f8k
  refine zr rfl rfl rfl (by simp [f8k]; rfl) ?_
  refine thenC_n (zq rfl (zr rfl rfl rfl (by simp; rfl) ?_))
  refine thenC_n ?_
  by_cases c9 : v4 = 0
  · rw [if_pos c9] at h1
    have c9e := eq_true c9
    refine q_ifF rfl (by simp [c9e]) (q_skip rfl (thenC_n (zq rfl (zq rfl ?_))))
    obtain ⟨v5, f10, h2⟩ := bnd_some h1
    have f10k := ref26_IsTuple_ok f10
    try simp at f10k
    by_cases c11 : v5 = true
    · rw [if_pos c11] at h2
      by_cases c12 : a2 < 0
      · rw [if_pos c12] at h2
        refine zr rfl rfl rfl (by simp [f10k, c11, c12]; rfl) ?_
        refine thenC_n (q_ifT rfl (by simp) (zq rfl (zr rfl rfl rfl (by simp; rfl) ?_)))
        refine thenC_n (q_ret rfl (thenC_r ?_))
        cases h2
        simp [c11]
      · rw [if_neg c12] at h2
        refine zr rfl rfl rfl (by simp [f10k, c11, c12]; rfl) ?_
        refine thenC_n ?_
        by_cases c13 : a0.letters ≤ a2
        · rw [if_pos c13] at h2
          refine q_ifT rfl (by simp [c13]) (zq rfl (zr rfl rfl rfl (by simp; rfl) ?_))
          refine thenC_n (q_ret rfl (thenC_r ?_))
          cases h2
          simp [c11]
        · rw [if_neg c13] at h2
          refine q_ifF rfl (by simp [c13]) (q_skip rfl (thenC_n (zq rfl ?_)))
          obtain ⟨v6, f14, h3⟩ := bnd_some h2
          have f14k := ref26_step_ok f14
          try simp at f14k
          refine zr rfl rfl rfl (by simp [f14k]; rfl) ?_
          refine thenC_n (q_ret rfl ?_)
          cases h3
          simp [c11]
    · rw [if_neg c11] at h2
      refine zr rfl rfl rfl (by simp [f10k, c11]; rfl) ?_
      refine thenC_n (q_ifT rfl (by simp) (zq rfl (zr rfl rfl rfl (by simp; rfl) ?_)))
      refine thenC_n (q_ret rfl (thenC_r ?_))
      cases h2
      simp [c11]
  · rw [if_neg c9] at h1
    have c9e := eq_false c9
    refine q_ifT rfl (by simp [c9e]) (zq rfl (zr rfl rfl rfl (by simp; rfl) ?_))
    refine thenC_n (q_ret rfl (thenC_r ?_))
    cases h1
    simp

-- semigroup/semigrouplaw26.all
def law26_all (a0 : Casc) (a1 : List Int) (a2 : Int) (a3 : ByteArray) : Option (Bool) :=
  (cascade_Validate a0).bind fun v14 =>
  (ref26_Validate a0).bind fun v15 =>
  if v14 = v15 then
    (cascade_Kinds a0).bind fun v16 =>
    (ref26_Kinds a0).bind fun v17 =>
    (ref03_Same v16 v17).bind fun v18 =>
    if v18 = true then
      (cascade_Step a0 a1 a2).bind fun v19 =>
      (ref26_Step a0 a1 a2).bind fun v20 =>
      (cascade_Run a0 a1 a3).bind fun v21 =>
      (ref26_Run a0 a1 a3).bind fun v22 =>
      (cascade_Format a0).bind fun v23 =>
      (ref26_Format a0).bind fun v24 =>
      if v19.2 = v20.2 then
        (ref03_Same v19.1 v20.1).bind fun v25 =>
        if v25 = true then
          if v21.2 = v22.2 then
            (ref03_Same v21.1 v22.1).bind fun v26 =>
            if v26 = true then
              if v23.2 = v24.2 then
                some (decide (v23.1 = v24.1))
              else
                some false
            else
              some false
          else
            some false
        else
          some false
      else
        some false
    else
      some false
  else
    some false
theorem law26_all_ok {a0 : Casc} {a1 : List Int} {a2 : Int} {a3 : ByteArray} {r : Bool} (h0 : law26_all a0 a1 a2 a3 = some r) : L 24 [.agg [.sc (.int .i64 a0.letters), .sl a0.sizes.length (a0.sizes.map fun x0 => .sc (.int .i64 x0)), .sl a0.rows.length (a0.rows.flatMap fun x0 => [.sl x0.pre.length (x0.pre.map fun x1 => .sc (.int .i64 x1)), .sl x0.maps.length (x0.maps.map fun x1 => .sl x1.length (x1.map fun x2 => .sc (.int .i64 x2)))])], .sl a1.length (a1.map fun x0 => .sc (.int .i64 x0)), .sc (.int .i64 a2), .sc (.string a3)] = some (.sc (.bool r), [.dead, .dead, .dead, .dead]) := by
  simp only [law26_all] at h0
  refine L_run cfn24 fn24 (runF_of bd24 ⟨of_decide_eq_true rfl, of_decide_eq_true rfl⟩ ?_)
  simp only [entryF, entryT, entryO, entryE, isIo]
  refine zq rfl (zr rfl rfl rfl (by simp; rfl) ?_)
  refine thenC_n (zq rfl (zq rfl ?_))
  obtain ⟨v14, f21, h1⟩ := bnd_some h0
  have f21k := cascade_Validate_ok f21
  try simp at f21k
  obtain ⟨v15, f22, h2⟩ := bnd_some h1
  have f22k := ref26_Validate_ok f22
  try simp at f22k
  by_cases c23 : v14 = v15
  · rw [if_pos c23] at h2
    have c23e := eq_true c23
    obtain ⟨v16, f24, h3⟩ := bnd_some h2
    have f24k := cascade_Kinds_ok f24
    try simp at f24k
    obtain ⟨v17, f25, h4⟩ := bnd_some h3
    have f25k := ref26_Kinds_ok f25
    try simp at f25k
    obtain ⟨v18, f26, h5⟩ := bnd_some h4
    have f26k := ref03_Same_ok f26
    try simp at f26k
    refine q_drawW rfl rfl rfl rfl ?_; repeat' (first | (refine q_drawW_op rfl rfl fun Q' hQ => ?_; simp [f21k, f22k, c23e, f24k, f25k, f26k]; refine hQ.out _ ?_; clear hQ; clear Q') | (refine q_drawW_guard rfl rfl fun Q1 Q2 h1 h2 => ?_; simp [f21k, f22k, c23e, f24k, f25k, f26k, twoB_some]; (first | refine h1.out ?_ | refine h2.out ?_); clear h1 h2; clear Q1 Q2; intro Q' hQ; simp [f21k, f22k, c23e, f24k, f25k, f26k]; refine hQ.out _ ?_; clear hQ; clear Q') | (refine q_drawW_nil rfl fun Q' hQ => ?_; simp [f21k, f22k, c23e, f24k, f25k, f26k]; refine hQ.out _ ?_; clear hQ; clear Q'))
    refine thenC_n ?_
    by_cases c27 : v18 = true
    · rw [if_pos c27] at h5
      refine q_ifF rfl (by simp [c27]) (q_skip rfl (thenC_n (zq rfl ?_)))
      obtain ⟨v19, f28, h6⟩ := bnd_some h5
      have f28k := cascade_Step_ok f28
      try simp at f28k
      refine zr rfl rfl rfl (by simp [f28k]; rfl) ?_
      refine thenC_n (zq rfl ?_)
      obtain ⟨v20, f29, h7⟩ := bnd_some h6
      have f29k := ref26_Step_ok f29
      try simp at f29k
      refine zr rfl rfl rfl (by simp [f29k]; rfl) ?_
      refine thenC_n (zq rfl ?_)
      obtain ⟨v21, f30, h8⟩ := bnd_some h7
      have f30k := cascade_Run_ok f30
      try simp at f30k
      refine zr rfl rfl rfl (by simp [f30k]; rfl) ?_
      refine thenC_n (zq rfl ?_)
      obtain ⟨v22, f31, h9⟩ := bnd_some h8
      have f31k := ref26_Run_ok f31
      try simp at f31k
      refine zr rfl rfl rfl (by simp [f31k]; rfl) ?_
      refine thenC_n (zq rfl ?_)
      obtain ⟨v23, f32, h10⟩ := bnd_some h9
      have f32k := cascade_Format_ok f32
      try simp at f32k
      refine zr rfl rfl rfl (by simp [f32k]; rfl) ?_
      refine thenC_n (zq rfl ?_)
      obtain ⟨v24, f33, h11⟩ := bnd_some h10
      have f33k := ref26_Format_ok f33
      try simp at f33k
      refine zr rfl rfl rfl (by simp [f33k]; rfl) ?_
      refine thenC_n (zq rfl ?_)
      by_cases c34 : v19.2 = v20.2
      · rw [if_pos c34] at h11
        have c34e := eq_true c34
        obtain ⟨v25, f35, h12⟩ := bnd_some h11
        have f35k := ref03_Same_ok f35
        try simp at f35k
        by_cases c36 : v25 = true
        · rw [if_pos c36] at h12
          by_cases c37 : v21.2 = v22.2
          · rw [if_pos c37] at h12
            have c37e := eq_true c37
            obtain ⟨v26, f38, h13⟩ := bnd_some h12
            have f38k := ref03_Same_ok f38
            try simp at f38k
            by_cases c39 : v26 = true
            · rw [if_pos c39] at h13
              by_cases c40 : v23.2 = v24.2
              · rw [if_pos c40] at h13
                have c40e := eq_true c40
                refine zr rfl rfl rfl (by simp [c34e, f35k, c36, c37e, f38k, c39, c40e]; rfl) ?_
                refine thenC_n (q_ret rfl ?_)
                cases h13
                simp [c27, c36, c39]
              · rw [if_neg c40] at h13
                have c40e := eq_false c40
                refine zr rfl rfl rfl (by simp [c34e, f35k, c36, c37e, f38k, c39, c40e]; rfl) ?_
                refine thenC_n (q_ret rfl ?_)
                cases h13
                simp [c27, c36, c39]
            · rw [if_neg c39] at h13
              refine zr rfl rfl rfl (by simp [c34e, f35k, c36, c37e, f38k, c39]; rfl) ?_
              refine thenC_n (q_ret rfl ?_)
              cases h13
              simp [c27, c36, c39]
          · rw [if_neg c37] at h12
            have c37e := eq_false c37
            refine zr rfl rfl rfl (by simp [c34e, f35k, c36, c37e]; rfl) ?_
            refine thenC_n (q_ret rfl ?_)
            cases h12
            simp [c27, c36]
        · rw [if_neg c36] at h12
          refine zr rfl rfl rfl (by simp [c34e, f35k, c36]; rfl) ?_
          refine thenC_n (q_ret rfl ?_)
          cases h12
          simp [c27, c36]
      · rw [if_neg c34] at h11
        have c34e := eq_false c34
        refine zr rfl rfl rfl (by simp [c34e]; rfl) ?_
        refine thenC_n (q_ret rfl ?_)
        cases h11
        simp [c27]
    · rw [if_neg c27] at h5
      refine q_ifT rfl (by simp [c27]) (zq rfl (zr rfl rfl rfl (by simp; rfl) ?_))
      refine thenC_n (q_ret rfl (thenC_r ?_))
      cases h5
      simp [c27]
  · rw [if_neg c23] at h2
    have c23e := eq_false c23
    refine q_drawW rfl rfl rfl rfl ?_; repeat' (first | (refine q_drawW_op rfl rfl fun Q' hQ => ?_; simp [f21k, f22k, c23e]; refine hQ.out _ ?_; clear hQ; clear Q') | (refine q_drawW_guard rfl rfl fun Q1 Q2 h1 h2 => ?_; simp [f21k, f22k, c23e, twoB_some]; (first | refine h1.out ?_ | refine h2.out ?_); clear h1 h2; clear Q1 Q2; intro Q' hQ; simp [f21k, f22k, c23e]; refine hQ.out _ ?_; clear hQ; clear Q') | (refine q_drawW_nil rfl fun Q' hQ => ?_; simp [f21k, f22k, c23e]; refine hQ.out _ ?_; clear hQ; clear Q'))
    refine thenC_n (q_ifT rfl (by simp) (zq rfl (zr rfl rfl rfl (by simp; rfl) ?_)))
    refine thenC_n (q_ret rfl (thenC_r ?_))
    cases h2
    simp
end Go.Proofs.YthalofddjlhcjaaDoor
end
section
/- Plain: numbers as text. -/
namespace Go.Proofs.YthalofddjlhcjaaDoor
open Go
set_option linter.unusedVariables false
set_option linter.unusedSimpArgs false

/-- The digits of a number below 100. -/
def digL (n : Int) : List Int := if n < 10 then [48 + n] else [48 + n / 10, 48 + n % 10]
theorem small1 : ∀ k : Nat, k < 10 → intsOf (ByteArray.extract ⟨#[48,49,50,51,52,53,54,55,56,57,97,98,99,100,101,102,103,104,105,106,107,108,109,110,111,112,113,114,115,116,117,118,119,120,121,122]⟩ k (k + 1)) = digL (k : Int) := by decide +kernel
theorem small2 : ∀ k : Nat, k < 100 → ¬ k < 10 → intsOf (ByteArray.extract ⟨#[48,48,48,49,48,50,48,51,48,52,48,53,48,54,48,55,48,56,48,57,49,48,49,49,49,50,49,51,49,52,49,53,49,54,49,55,49,56,49,57,50,48,50,49,50,50,50,51,50,52,50,53,50,54,50,55,50,56,50,57,51,48,51,49,51,50,51,51,51,52,51,53,51,54,51,55,51,56,51,57,52,48,52,49,52,50,52,51,52,52,52,53,52,54,52,55,52,56,52,57,53,48,53,49,53,50,53,51,53,52,53,53,53,54,53,55,53,56,53,57,54,48,54,49,54,50,54,51,54,52,54,53,54,54,54,55,54,56,54,57,55,48,55,49,55,50,55,51,55,52,55,53,55,54,55,55,55,56,55,57,56,48,56,49,56,50,56,51,56,52,56,53,56,54,56,55,56,56,56,57,57,48,57,49,57,50,57,51,57,52,57,53,57,54,57,55,57,56,57,57]⟩ (k * 2) (k * 2 + 2)) = digL (k : Int) := by decide +kernel
theorem digL_len (n : Int) : 1 ≤ (digL n).length ∧ (digL n).length ≤ 2 := by unfold digL; split <;> simp
theorem small_eq (x : Int) (h0 : 0 ≤ x) (h1 : x < 100) : ∃ s, i_strconv_small x = some s ∧ intsOf s = digL x ∧ s.size ≤ 2 := by
  obtain ⟨k, rfl⟩ := Int.eq_ofNat_of_zero_le h0
  unfold i_strconv_small
  split
  · rename_i h
    rw [wrapS (by omega)]
    unfold pieceS
    rw [if_pos (by refine ⟨by omega, by omega, ?_⟩; show ((k + 1 : Nat) : Int) ≤ 36; omega)]
    refine ⟨_, rfl, ?_, ?_⟩
    · rw [Int.toNat_natCast, Int.toNat_natCast]; exact small1 k (by omega)
    · simp only [Int.toNat_natCast, ByteArray.size_extract]; omega
  · rename_i h
    rw [wrapI (x := (k : Int) * 2) (by omega) (by omega), wrapI (by omega) (by omega)]
    unfold pieceS
    rw [if_pos (by refine ⟨by omega, by omega, ?_⟩; show (k : Int) * 2 + 2 ≤ 200; omega)]
    have e1 : ((k : Int) * 2).toNat = k * 2 := by omega
    have e2 : ((k : Int) * 2 + 2).toNat = k * 2 + 2 := by omega
    refine ⟨_, rfl, ?_, ?_⟩
    · rw [e1, e2]; exact small2 k (by omega) (by omega)
    · simp only [e1, e2, ByteArray.size_extract]; omega
theorem intsOf_len (s : ByteArray) : (intsOf s).length = s.size := by simp [intsOf]
theorem AppendInt_eq (a : List Int) (x : Int) (h0 : 0 ≤ x) (h1 : x < 100) (ha : a.length < 100000000) : strconv_AppendInt a x 10 = some (a ++ digL x) := by
  obtain ⟨s, e, e2, e3⟩ := small_eq x h0 h1
  have w1 : IntKind.u64.wrap x = x := by rw [IntKind.wrap_u64]; omega
  unfold strconv_AppendInt i_strconv_AppendInt
  rw [if_neg (by omega), w1]
  unfold i_strconv_AppendUint
  rw [if_pos rfl, if_pos (by omega), wrapI (by omega) (by omega), e]
  simp only [Option.bind_some]
  rw [chk_pos _ (by unfold capOk; omega), e2]
  rfl
def numsT (xs : List Int) : List Int := xs.flatMap fun x => 32 :: digL x
theorem numsT_snoc (xs : List Int) (k : Nat) (h : k < xs.length) : numsT (xs.take (k + 1)) = numsT (xs.take k) ++ (32 :: digL (xs.getD k 0)) := by
  have e : xs.getD k 0 = xs[k] := by simp [List.getD, List.getElem?_eq_getElem h]
  rw [List.take_succ_eq_append_getElem h, e]
  unfold numsT
  rw [List.flatMap_append]
  simp
theorem numsT_len : ∀ xs : List Int, (numsT xs).length ≤ 3 * xs.length
  | [] => by simp [numsT]
  | x :: xs => by
    have := numsT_len xs
    have h2 := (digL_len x).2
    simp only [numsT, List.flatMap_cons, List.length_append, List.length_cons] at this ⊢
    omega
theorem atI_D {α : Type} {xs : List α} {k : Nat} (d : α) (h : k < xs.length) : atI xs (k : Int) = some (xs.getD k d) := by
  rw [atI_nat h]; simp [List.getD, List.getElem?_eq_getElem h]
theorem getD_mem {α : Type} {xs : List α} {k : Nat} (d : α) (h : k < xs.length) : xs.getD k d ∈ xs := by
  rw [show xs.getD k d = xs[k] by simp [List.getD, List.getElem?_eq_getElem h]]; exact List.getElem_mem h
theorem appendNumbers_eq (a xs : List Int) (hx : ∀ x ∈ xs, 0 ≤ x ∧ x < 100) (ha : a.length + 3 * xs.length < 100000000) : cascade_appendNumbers a xs = some (a ++ numsT xs) := by
  unfold cascade_appendNumbers
  refine (loop_to (x := some (a ++ numsT xs)) xs.length (fun k => ((k : Int), a ++ numsT (xs.take k))) (by simp [numsT]) (by simp only [LFm]; omega) (fun k hk => ?_) ?_)
  · have hm := hx _ (getD_mem 0 hk)
    have hl := numsT_len (xs.take k)
    rw [List.length_take] at hl
    simp only [cascade_appendNumbers_b2]
    rw [if_pos (by omega), atI_D 0 hk]
    simp only [Option.bind_some]
    rw [chk_pos _ (by unfold capOk; simp only [List.length_append]; omega), AppendInt_eq _ _ hm.1 hm.2 (by simp only [List.length_append, List.length_singleton]; omega)]
    simp only [Option.bind_some]
    rw [wrapS (by omega), numsT_snoc xs k hk]
    simp
  · simp only [cascade_appendNumbers_b2]
    rw [if_neg (by omega), List.take_length]
theorem digits_eq (n : Int) (h0 : 0 ≤ n) (h1 : n < 100) : ref26_digits 12 n = some (bytesOf (digL n)) := by
  have d9 : ∀ (k : Nat) (m : Int), 0 ≤ m → m < 10 → ref26_digits (k + 1) m = some (bytesOf [48 + m]) := by
    intro k m a b
    simp only [ref26_digits, ref26_digits_r]
    rw [if_pos b, wrapI (by omega) (by omega), wrap8 (by omega) (by omega)]
    rfl
  unfold digL
  by_cases h : n < 10
  · rw [if_pos h]; exact d9 11 n h0 h
  · rw [if_neg h]
    have e1 : quoI .i64 n 10 = n / 10 := by
      unfold quoI
      rw [Int.tdiv_eq_ediv_of_nonneg h0]
      exact wrapI (by omega) (by omega)
    have e2 : n.tmod 10 = n % 10 := Int.tmod_eq_emod_of_nonneg h0
    rw [show ref26_digits 12 n = ref26_digits_r (ref26_digits 11) n from rfl]
    unfold ref26_digits_r
    rw [if_neg h, e1, d9 10 _ (by omega) (by omega), e2, wrapI (x := 48 + n % 10) (by omega) (by omega), wrap8 (by omega) (by omega)]
    simp only [Option.bind_some]
    rw [chk_pos _ (by unfold catOk; show ((1 : Nat) : Int) + ((1 : Nat) : Int) ≤ _; omega)]
    rfl
end Go.Proofs.YthalofddjlhcjaaDoor
end
section
/- Plain facts on lists of numbers and cascades. No program. -/
namespace Go.Proofs.YthalofddjlhcjaaDoor
set_option linter.unusedVariables false
set_option linter.unusedSimpArgs false

/-- The lexicographic order of lists. -/
def lexLt : List Int → List Int → Bool
  | _, [] => false
  | [], _ :: _ => true
  | a :: x, b :: y => decide (a < b) || (decide (a = b) && lexLt x y)

/-- What slices.Compare answers. -/
def cmpL : List Int → List Int → Int
  | [], [] => 0
  | [], _ :: _ => -1
  | _ :: _, [] => 1
  | a :: x, b :: y => if a < b then -1 else if b < a then 1 else cmpL x y

/-- The order of prefixes. -/
def cmpR (a b : List Int) : Int := if a.length < b.length then -1 else if b.length < a.length then 1 else cmpL a b

/-- All states lie below the sizes. -/
def inB (sizes xs : List Int) : Bool := (xs.zip sizes).all fun p => decide (0 ≤ p.1) && decide (p.1 < p.2)

def tupB (sizes xs : List Int) : Bool := decide (xs.length = sizes.length) && inB sizes xs

theorem getD_of_lt {α : Type} {l : List α} {i : Nat} (d : α) (h : i < l.length) : l.getD i d = l[i] := by simp [List.getD, List.getElem?_eq_getElem h]

theorem list_ext_getD {xs ys : List Int} (hl : xs.length = ys.length) (h : ∀ i, i < xs.length → xs.getD i 0 = ys.getD i 0) : xs = ys := by
  apply List.ext_getElem hl
  intro i h1 h2
  have := h i h1
  rwa [getD_of_lt 0 h1, getD_of_lt 0 h2] at this

theorem inB_iff (sizes xs : List Int) (hl : xs.length ≤ sizes.length) : inB sizes xs = true ↔ ∀ i, i < xs.length → 0 ≤ xs.getD i 0 ∧ xs.getD i 0 < sizes.getD i 0 := by
  unfold inB
  rw [List.all_eq_true]
  constructor
  · intro h i hi
    have hz : i < (xs.zip sizes).length := by simp; omega
    have := h (xs.zip sizes)[i] (List.getElem_mem _)
    simp only [List.getElem_zip, Bool.and_eq_true, decide_eq_true_eq] at this
    rw [getD_of_lt 0 hi, getD_of_lt 0 (by omega)]
    exact this
  · intro h p hp
    obtain ⟨i, hi, rfl⟩ := List.getElem_of_mem hp
    have hz : i < xs.length := by simp at hi; omega
    have := h i hz
    rw [getD_of_lt 0 hz, getD_of_lt 0 (by omega)] at this
    simp only [List.getElem_zip, Bool.and_eq_true, decide_eq_true_eq]
    exact this

theorem inB_false (sizes xs : List Int) (hl : xs.length ≤ sizes.length) (i : Nat) (hi : i < xs.length) (h : ¬ (0 ≤ xs.getD i 0 ∧ xs.getD i 0 < sizes.getD i 0)) : inB sizes xs = false := by
  rw [← Bool.not_eq_true, inB_iff _ _ hl]
  exact fun h' => h (h' i hi)

theorem lexLt_take : ∀ (xs ys : List Int) (k : Nat), k < xs.length → k < ys.length → (∀ i, i < k → xs.getD i 0 = ys.getD i 0) → xs.getD k 0 ≠ ys.getD k 0 → lexLt xs ys = decide (xs.getD k 0 < ys.getD k 0)
  | [], _, k, h, _, _, _ => by simp at h
  | _ :: _, [], k, _, h, _, _ => by simp at h
  | a :: x, b :: y, 0, _, _, _, hne => by
    simp at hne
    simp [lexLt, hne]
  | a :: x, b :: y, k + 1, h1, h2, he, hne => by
    have h0 := he 0 (by omega)
    simp at h0
    subst h0
    have ih := lexLt_take x y k (by simpa using h1) (by simpa using h2) (fun i hi => by have := he (i + 1) (by omega); simpa using this) (by simpa using hne)
    simp [lexLt] at ih ⊢
    exact ih

theorem lexLt_end : ∀ (xs ys : List Int), (∀ i, i < xs.length → i < ys.length → xs.getD i 0 = ys.getD i 0) → lexLt xs ys = decide (xs.length < ys.length)
  | [], [], _ => by simp [lexLt]
  | [], _ :: _, _ => by simp [lexLt]
  | _ :: _, [], _ => by simp [lexLt]
  | a :: x, b :: y, he => by
    have h0 := he 0 (by simp) (by simp)
    simp at h0
    subst h0
    have ih := lexLt_end x y (fun i h1 h2 => by have := he (i + 1) (by simpa using h1) (by simpa using h2); simpa using this)
    simp [lexLt, ih]

theorem cmpL_take : ∀ (xs ys : List Int) (k : Nat), k < xs.length → k < ys.length → (∀ i, i < k → xs.getD i 0 = ys.getD i 0) → xs.getD k 0 ≠ ys.getD k 0 → cmpL xs ys = if xs.getD k 0 < ys.getD k 0 then -1 else 1
  | [], _, k, h, _, _, _ => by simp at h
  | _ :: _, [], k, _, h, _, _ => by simp at h
  | a :: x, b :: y, 0, _, _, _, hne => by
    simp at hne
    simp only [cmpL, List.getD_cons_zero]
    by_cases h : a < b
    · simp [h]
    · have : b < a := by omega
      simp [h, this]
  | a :: x, b :: y, k + 1, h1, h2, he, hne => by
    have h0 := he 0 (by omega)
    simp at h0
    subst h0
    have ih := cmpL_take x y k (by simpa using h1) (by simpa using h2) (fun i hi => by have := he (i + 1) (by omega); simpa using this) (by simpa using hne)
    simp [cmpL] at ih ⊢
    exact ih

theorem cmpL_end : ∀ (xs ys : List Int), (∀ i, i < xs.length → i < ys.length → xs.getD i 0 = ys.getD i 0) → cmpL xs ys = if xs.length < ys.length then -1 else if ys.length < xs.length then 1 else 0
  | [], [], _ => by simp [cmpL]
  | [], _ :: _, _ => by simp [cmpL]
  | _ :: _, [], _ => by simp [cmpL]
  | a :: x, b :: y, he => by
    have h0 := he 0 (by simp) (by simp)
    simp at h0
    subst h0
    have ih := cmpL_end x y (fun i h1 h2 => by have := he (i + 1) (by simpa using h1) (by simpa using h2); simpa using this)
    simp [cmpL, ih]

theorem cmpL_lt : ∀ (xs ys : List Int), lexLt xs ys = decide (cmpL xs ys < 0)
  | [], [] => by simp [cmpL, lexLt]
  | [], _ :: _ => by simp [cmpL, lexLt]
  | _ :: _, [] => by simp [cmpL, lexLt]
  | a :: x, b :: y => by
    have ih := cmpL_lt x y
    simp only [cmpL, lexLt, ih]
    by_cases h : a < b
    · simp [h]
    · by_cases h2 : b < a
      · have : a ≠ b := by omega
        simp [h, h2, this]
      · have : a = b := by omega
        simp [this]

theorem cmpL_range : ∀ (xs ys : List Int), cmpL xs ys = -1 ∨ cmpL xs ys = 0 ∨ cmpL xs ys = 1
  | [], [] => by simp [cmpL]
  | [], _ :: _ => by simp [cmpL]
  | _ :: _, [] => by simp [cmpL]
  | a :: x, b :: y => by
    have ih := cmpL_range x y
    simp only [cmpL]
    split
    · simp
    · split
      · simp
      · exact ih

theorem cmpL_zero : ∀ (xs ys : List Int), cmpL xs ys = 0 ↔ xs = ys
  | [], [] => by simp [cmpL]
  | [], _ :: _ => by simp [cmpL]
  | _ :: _, [] => by simp [cmpL]
  | a :: x, b :: y => by
    have ih := cmpL_zero x y
    simp only [cmpL]
    by_cases h : a < b
    · have : a ≠ b := by omega
      simp [h, this]
    · by_cases h2 : b < a
      · have : a ≠ b := by omega
        simp [h, h2, this]
      · have : a = b := by omega
        simp [this, ih]

theorem cmpR_range (a b : List Int) : cmpR a b = -1 ∨ cmpR a b = 0 ∨ cmpR a b = 1 := by
  have := cmpL_range a b
  unfold cmpR; split
  · simp
  · split
    · simp
    · exact this

theorem cmpR_zero (a b : List Int) : cmpR a b = 0 ↔ a = b := by
  have := cmpL_zero a b
  unfold cmpR
  by_cases h : a.length < b.length
  · simp only [if_pos h]
    constructor
    · omega
    · intro e; subst e; omega
  · by_cases h2 : b.length < a.length
    · simp only [if_neg h, if_pos h2]
      constructor
      · omega
      · intro e; subst e; omega
    · simp only [if_neg h, if_neg h2]; exact this

/-- A map of a component with n states. -/
def mapB (n : Int) (m : List Int) : Bool := decide ((m.length : Int) = n) && m.all fun s => decide (0 ≤ s) && decide (s < n)

/-- A row of the right form. -/
def rowB (c : Casc) (r : CRow) : Bool := decide (r.pre.length < c.sizes.length) && inB c.sizes r.pre && decide ((r.maps.length : Int) = c.letters) && r.maps.all (mapB (c.sizes.getD r.pre.length 0))

theorem tupB_take (sizes xs : List Int) (h : xs.length < sizes.length) : tupB (sizes.take xs.length) xs = inB sizes xs := by
  have hl : (sizes.take xs.length).length = xs.length := by rw [List.length_take]; omega
  have e : ∀ i, i < xs.length → (sizes.take xs.length).getD i 0 = sizes.getD i 0 := fun i hi => by
    simp only [List.getD, List.getElem?_take_of_lt hi]
  have : tupB (sizes.take xs.length) xs = inB (sizes.take xs.length) xs := by simp [tupB, hl]
  rw [this, Bool.eq_iff_iff, inB_iff _ _ (by omega), inB_iff _ _ (by omega)]
  constructor
  · intro h i hi; have := h i hi; rwa [e i hi] at this
  · intro h i hi; rw [e i hi]; exact h i hi

theorem all_getD {α : Type} (p : α → Bool) (l : List α) (d : α) : l.all p = true ↔ ∀ i, i < l.length → p (l.getD i d) = true := by
  rw [List.all_eq_true]
  constructor
  · intro h i hi; rw [getD_of_lt d hi]; exact h _ (List.getElem_mem _)
  · intro h x hx
    obtain ⟨i, hi, rfl⟩ := List.getElem_of_mem hx
    have := h i hi
    rwa [getD_of_lt d hi] at this

theorem all_getD_false {α : Type} (p : α → Bool) (l : List α) (d : α) (i : Nat) (hi : i < l.length) (h : p (l.getD i d) = false) : l.all p = false := by
  rw [← Bool.not_eq_true, all_getD p l d]
  intro h'
  rw [h' i hi] at h
  cases h

theorem mapB_iff (n : Int) (m : List Int) (hl : (m.length : Int) = n) : mapB n m = true ↔ ∀ i, i < m.length → 0 ≤ m.getD i 0 ∧ m.getD i 0 < n := by
  unfold mapB
  rw [decide_eq_true hl, Bool.true_and, all_getD _ _ 0]
  simp

theorem rowB_short (c : Casc) (r : CRow) (h : ¬ r.pre.length < c.sizes.length) : rowB c r = false := by simp [rowB, h]
theorem rowB_in (c : Casc) (r : CRow) (h : inB c.sizes r.pre = false) : rowB c r = false := by simp [rowB, h]
theorem rowB_letters (c : Casc) (r : CRow) (h : ¬ (r.maps.length : Int) = c.letters) : rowB c r = false := by simp [rowB, h]
theorem rowB_maps (c : Casc) (r : CRow) (h1 : r.pre.length < c.sizes.length) (h2 : inB c.sizes r.pre = true) (h3 : (r.maps.length : Int) = c.letters) : rowB c r = r.maps.all (mapB (c.sizes.getD r.pre.length 0)) := by
  simp [rowB, h1, h2, h3]

/-- The rows have the right form and ascend. -/
def rowsUpB (c : Casc) (k : Nat) : Bool := (List.range k).all fun i => rowB c (c.rows.getD i ⟨[], []⟩) && (decide (i = 0) || decide (cmpR (c.rows.getD (i - 1) ⟨[], []⟩).pre (c.rows.getD i ⟨[], []⟩).pre < 0))

/-- The first error of a cascade. -/
def validE (c : Casc) : Int :=
  if c.letters < 1 ∨ 6 < c.letters then 1
  else if 24 < c.sizes.length ∨ 48000 < c.rows.length then 3
  else if (c.sizes.all fun n => decide (1 ≤ n) && decide (n ≤ 32)) && rowsUpB c c.rows.length then 0 else 23

theorem rowsUpB_succ (c : Casc) (k : Nat) : rowsUpB c (k + 1) = (rowsUpB c k && (rowB c (c.rows.getD k ⟨[], []⟩) && (decide (k = 0) || decide (cmpR (c.rows.getD (k - 1) ⟨[], []⟩).pre (c.rows.getD k ⟨[], []⟩).pre < 0)))) := by
  simp [rowsUpB, List.range_succ, List.all_append]

theorem rowsUpB_mono (c : Casc) {k n : Nat} (h : k ≤ n) (hf : rowsUpB c k = false) : rowsUpB c n = false := by
  rw [← Bool.not_eq_true] at hf ⊢
  intro h'
  apply hf
  simp only [rowsUpB, List.all_eq_true, List.mem_range] at h' ⊢
  exact fun i hi => h' i (by omega)
end Go.Proofs.YthalofddjlhcjaaDoor
end
section
/- More plain facts on cascades. No program. -/
namespace Go.Proofs.YthalofddjlhcjaaDoor
set_option linter.unusedVariables false
set_option linter.unusedSimpArgs false

theorem cmpL_trans : ∀ (a b c : List Int), cmpL a b < 0 → cmpL b c < 0 → cmpL a c < 0
  | [], _, [] => by intro h1 h2; cases ‹List Int› <;> simp [cmpL] at *
  | [], _, _ :: _ => by simp [cmpL]
  | _ :: _, [], _ => by simp [cmpL]
  | _ :: _, _ :: _, [] => by simp [cmpL]
  | a :: us, b :: bs, c :: cs => by
    have h := cmpL_trans us bs cs
    simp only [cmpL]
    intro h1 h2
    by_cases ab : a < b
    · by_cases bc : b < c
      · rw [if_pos (by omega)]; omega
      · by_cases cb : c < b
        · rw [if_neg bc, if_pos cb] at h2; omega
        · rw [if_pos (by omega)]; omega
    · by_cases ba : b < a
      · rw [if_neg ab, if_pos ba] at h1; omega
      · have : a = b := by omega
        subst this
        rw [if_neg ab, if_neg ba] at h1
        by_cases bc : a < c
        · rw [if_pos bc]; omega
        · by_cases cb : c < a
          · rw [if_neg bc, if_pos cb] at h2; omega
          · rw [if_neg bc, if_neg cb] at h2 ⊢
            exact h h1 h2

theorem cmpR_trans (a b c : List Int) (h1 : cmpR a b < 0) (h2 : cmpR b c < 0) : cmpR a c < 0 := by
  have := cmpL_trans a b c
  unfold cmpR at *
  by_cases ab : a.length < b.length
  · by_cases cb : c.length < b.length
    · rw [if_neg (by omega), if_pos cb] at h2; omega
    · rw [if_pos (by omega)]; omega
  · by_cases ba : b.length < a.length
    · rw [if_neg ab, if_pos ba] at h1; omega
    · rw [if_neg ab, if_neg ba] at h1
      by_cases bc : b.length < c.length
      · rw [if_pos (by omega)]; omega
      · by_cases cb : c.length < b.length
        · rw [if_neg bc, if_pos cb] at h2; omega
        · rw [if_neg bc, if_neg cb] at h2
          rw [if_neg (by omega), if_neg (by omega)]
          exact this h1 h2

/-- The rows ascend. -/
def UpR (rows : List CRow) : Prop := ∀ i j (hi : i < rows.length) (hj : j < rows.length), i < j → cmpR rows[i].pre rows[j].pre < 0

theorem upR_of (c : Casc) (h : rowsUpB c c.rows.length = true) : UpR c.rows := by
  have adj : ∀ i (h1 : i + 1 < c.rows.length), cmpR c.rows[i].pre c.rows[i + 1].pre < 0 := fun i h1 => by
    simp only [rowsUpB, List.all_eq_true, List.mem_range] at h
    have := h (i + 1) h1
    simp only [Nat.add_sub_cancel, getD_of_lt _ h1, getD_of_lt _ (show i < c.rows.length by omega)] at this
    rw [Bool.and_eq_true] at this
    simpa using this.2
  intro i j hi hj hij
  induction j with
  | zero => omega
  | succ j ih =>
    by_cases e : i = j
    · subst e; exact adj i hj
    · exact cmpR_trans _ _ _ (ih (by omega) (by omega)) (adj j hj)

/-- What a cascade without an error is like. -/
structure Valid (c : Casc) : Prop where
  l1 : 1 ≤ c.letters
  l2 : c.letters ≤ 6
  s1 : c.sizes.length ≤ 24
  r1 : c.rows.length ≤ 48000
  sz : ∀ i, i < c.sizes.length → 1 ≤ c.sizes.getD i 0 ∧ c.sizes.getD i 0 ≤ 32
  up : UpR c.rows
  row : ∀ i (h : i < c.rows.length), rowB c c.rows[i] = true

theorem valid_of (c : Casc) (h : validE c = 0) : Valid c := by
  unfold validE at h
  split at h
  · cases h
  · rename_i a1
    split at h
    · cases h
    · rename_i a2
      split at h
      · rename_i a3
        rw [Bool.and_eq_true] at a3
        obtain ⟨b1, b2⟩ := a3
        refine ⟨by omega, by omega, by omega, by omega, fun i hi => ?_, upR_of c b2, fun i hi => ?_⟩
        · have := (all_getD _ _ 0).1 b1 i hi
          rw [Bool.and_eq_true, decide_eq_true_iff, decide_eq_true_iff] at this
          exact this
        · simp only [rowsUpB, List.all_eq_true, List.mem_range] at b2
          have := b2 i hi
          rw [Bool.and_eq_true, getD_of_lt _ hi] at this
          exact this.1
      · cases h

theorem rowB_facts {c : Casc} {r : CRow} (h : rowB c r = true) : r.pre.length < c.sizes.length ∧ inB c.sizes r.pre = true ∧ (r.maps.length : Int) = c.letters ∧
    ∀ i, i < r.maps.length → ((r.maps.getD i []).length : Int) = c.sizes.getD r.pre.length 0 ∧ ∀ j, j < (r.maps.getD i []).length → 0 ≤ (r.maps.getD i []).getD j 0 ∧ (r.maps.getD i []).getD j 0 < c.sizes.getD r.pre.length 0 := by
  unfold rowB at h
  simp only [Bool.and_eq_true, decide_eq_true_eq] at h
  obtain ⟨⟨⟨h1, h2⟩, h3⟩, h4⟩ := h
  refine ⟨h1, h2, h3, fun i hi => ?_⟩
  have := (all_getD _ _ []).1 h4 i hi
  have hl : ((r.maps.getD i []).length : Int) = c.sizes.getD r.pre.length 0 := by
    unfold mapB at this
    rw [Bool.and_eq_true, decide_eq_true_iff] at this
    exact this.1
  exact ⟨hl, (mapB_iff _ _ hl).1 this⟩
end Go.Proofs.YthalofddjlhcjaaDoor
end
section
/- Plain: comparisons of lists. -/
namespace Go.Proofs.YthalofddjlhcjaaDoor
open Go
set_option linter.unusedVariables false
set_option linter.unusedSimpArgs false

theorem atI_getD {α : Type} {xs : List α} {k : Nat} (d : α) (h : k < xs.length) : atI xs (k : Int) = some (xs.getD k d) := by
  rw [atI_nat h, getD_of_lt d h]
def cmpI (a b : Int) : Int := if a < b then -1 else if b < a then 1 else 0
theorem cmpI_zero (a b : Int) : cmpI a b = 0 ↔ a = b := by unfold cmpI; split <;> (try split) <;> omega
theorem Compare_eq (a b : Int) : cmp_Compare_int a b = some (cmpI a b) := by
  simp [cmp_Compare_int, cmp_isNaN_int, cmpI]
  split <;> (try split) <;> simp_all
theorem Or_eq (a b : Int) : cmp_Or_int [a, b] = some (if a ≠ 0 then a else b) := by
  unfold cmp_Or_int
  rw [loop_find (s := (0 : Int)) 2 (fun k => (k : Int)) (fun k => decide (([a, b].getD k 0) ≠ 0)) (fun k => some ([a, b].getD k 0)) (x := some 0) rfl (by simp only [LFm]; omega)]
  · by_cases ha : a = 0 <;> by_cases hb : b = 0 <;> simp [List.range, List.range.loop, ha, hb]
  · intro k hk
    simp only [cmp_Or_int_b3]
    rw [if_pos (by simp; omega), atI_getD 0 (by simpa using hk), wrapS (by omega)]
    simp only [Option.bind_some]
    by_cases h : [a, b].getD k 0 = 0 <;> simp [h]
  · simp [cmp_Or_int_b3]
theorem Same_eq (xs ys : List Int) (h : xs.length < 4611686018427387904) : ref03_Same xs ys = some (decide (xs = ys)) := by
  unfold ref03_Same
  split
  · rename_i hl
    have hl : xs.length = ys.length := by omega
    rw [loop_find (s := (0 : Int)) xs.length (fun k => (k : Int)) (fun k => !decide (xs.getD k 0 = ys.getD k 0)) (fun _ => some false) (x := some true) rfl (by simp only [LFm]; omega)]
    · rw [find_all]
      simp only [Bool.not_not]
      by_cases he : xs = ys
      · subst he; simp
      · rw [if_neg, decide_eq_false he]
        intro hh
        simp only [List.all_eq_true, List.mem_range, decide_eq_true_eq] at hh
        exact he (list_ext_getD hl hh)
    · intro k hk
      simp only [ref03_Same_b4]
      rw [if_pos (by omega), atI_getD 0 hk, atI_getD 0 (by omega), wrapS (by omega)]
      simp only [Option.bind_some]
      by_cases h : xs.getD k 0 = ys.getD k 0 <;> simp [h]
    · simp [ref03_Same_b4]
  · rename_i hl
    rw [decide_eq_false]
    intro e; subst e; exact hl rfl
def short (xss : List (List Int)) : Prop := xss.length < 4611686018427387904 ∧ ∀ m ∈ xss, m.length < 4611686018427387904
theorem SameRows_eq (xs ys : List (List Int)) (h : short xs) : ref03_SameRows xs ys = some (decide (xs = ys)) := by
  unfold ref03_SameRows
  split
  · rename_i hl
    have hl : xs.length = ys.length := by omega
    rw [loop_find (s := (0 : Int)) xs.length (fun k => (k : Int)) (fun k => !decide (xs.getD k [] = ys.getD k [])) (fun _ => some false) (x := some true) rfl (by simp only [LFm]; have := h.1; omega)]
    · rw [find_all]
      simp only [Bool.not_not]
      by_cases he : xs = ys
      · subst he; simp
      · rw [if_neg, decide_eq_false he]
        intro hh
        simp only [List.all_eq_true, List.mem_range, decide_eq_true_eq] at hh
        apply he
        apply List.ext_getElem hl
        intro i h1 h2
        have := hh i h1
        rwa [getD_of_lt _ h1, getD_of_lt _ h2] at this
    · intro k hk
      have := h.1
      simp only [ref03_SameRows_b4]
      rw [if_pos (by omega), atI_getD [] hk, atI_getD [] (by omega), wrapS (by omega)]
      simp only [Option.bind_some]
      rw [Same_eq _ _ (by rw [getD_of_lt _ hk]; exact h.2 _ (List.getElem_mem hk))]
      simp only [Option.bind_some]
      by_cases h : xs.getD k [] = ys.getD k [] <;> simp [h]
    · simp [ref03_SameRows_b4]
  · rename_i hl
    rw [decide_eq_false]
    intro e; subst e; exact hl rfl
theorem Compare_list (xs ys : List Int) (h : xs.length < 4611686018427387904) : slices_Compare_Lint_int xs ys = some (cmpL xs ys) := by
  unfold slices_Compare_Lint_int
  rw [loop_find (s := (0 : Int)) xs.length (fun k => (k : Int)) (fun k => decide (ys.length ≤ k) || !decide (xs.getD k 0 = ys.getD k 0)) (fun k => some (if ys.length ≤ k then 1 else cmpI (xs.getD k 0) (ys.getD k 0))) (x := some (if xs.length < ys.length then -1 else 0)) rfl (by simp only [LFm]; omega)]
  · split
    · rename_i k hk
      rw [find_some] at hk
      obtain ⟨k1, k2, k3⟩ := hk
      have k3' : ∀ j, j < k → xs.getD j 0 = ys.getD j 0 ∧ j < ys.length := fun j hj => by have := k3 j hj; simp only [Bool.or_eq_false_iff, decide_eq_false_iff_not, Bool.not_eq_false', decide_eq_true_eq] at this; omega
      split
      · rename_i hy
        have hyk : k = ys.length := by
          rcases Nat.eq_or_lt_of_le hy with h | h
          · exact h.symm
          · exact absurd (k3' _ h).2 (by omega)
        rw [cmpL_end xs ys (fun i h1 h2 => (k3' i (by omega)).1), if_neg (by omega), if_pos (by omega)]
      · rename_i hy
        have hne : xs.getD k 0 ≠ ys.getD k 0 := by simp [hy] at k2; exact k2
        rw [cmpL_take xs ys k k1 (by omega) (fun i hi => (k3' i hi).1) hne]
        unfold cmpI
        split <;> (try split) <;> first | rfl | omega
    · rename_i hk
      rw [find_none] at hk
      have hk' : ∀ j, j < xs.length → xs.getD j 0 = ys.getD j 0 ∧ j < ys.length := fun j hj => by have := hk j hj; simp only [Bool.or_eq_false_iff, decide_eq_false_iff_not, Bool.not_eq_false', decide_eq_true_eq] at this; omega
      rw [cmpL_end xs ys (fun i h1 h2 => (hk' i h1).1)]
      split
      · rfl
      · rw [if_neg]
        intro hh
        have := (hk' ys.length hh).2
        omega
  · intro k hk
    simp only [slices_Compare_Lint_int_b2]
    rw [if_pos (by omega), atI_getD 0 hk]
    simp only [Option.bind_some]
    by_cases hy : ys.length ≤ k
    · rw [if_pos (by omega)]
      simp [hy]
    · rw [if_neg (by omega), atI_getD 0 (by omega), wrapS (by omega)]
      simp only [Option.bind_some, Compare_eq, cmpI_zero]
      by_cases h : xs.getD k 0 = ys.getD k 0 <;> simp [h, hy]
  · simp only [slices_Compare_Lint_int_b2]
    rw [if_neg (by omega)]
    split <;> rfl
theorem Less_eq (xs ys : List Int) (h : xs.length < 4611686018427387904) : ref03_Less xs ys = some (lexLt xs ys) := by
  unfold ref03_Less
  rw [loop_find (s := (0 : Int)) xs.length (fun k => (k : Int)) (fun k => decide (ys.length ≤ k) || !decide (xs.getD k 0 = ys.getD k 0)) (fun k => some (if ys.length ≤ k then decide (xs.length < ys.length) else decide (xs.getD k 0 < ys.getD k 0))) (x := some (decide (xs.length < ys.length))) rfl (by simp only [LFm]; omega)]
  · split
    · rename_i k hk
      rw [find_some] at hk
      obtain ⟨k1, k2, k3⟩ := hk
      have k3' : ∀ j, j < k → xs.getD j 0 = ys.getD j 0 ∧ j < ys.length := fun j hj => by have := k3 j hj; simp only [Bool.or_eq_false_iff, decide_eq_false_iff_not, Bool.not_eq_false', decide_eq_true_eq] at this; omega
      split
      · rename_i hy
        have hyk : k = ys.length := by
          rcases Nat.eq_or_lt_of_le hy with h | h
          · exact h.symm
          · exact absurd (k3' _ h).2 (by omega)
        rw [lexLt_end xs ys (fun i h1 h2 => (k3' i (by omega)).1)]
      · rename_i hy
        have hne : xs.getD k 0 ≠ ys.getD k 0 := by simp [hy] at k2; exact k2
        rw [lexLt_take xs ys k k1 (by omega) (fun i hi => (k3' i hi).1) hne]
    · rename_i hk
      rw [find_none] at hk
      have hk' : ∀ j, j < xs.length → xs.getD j 0 = ys.getD j 0 ∧ j < ys.length := fun j hj => by have := hk j hj; simp only [Bool.or_eq_false_iff, decide_eq_false_iff_not, Bool.not_eq_false', decide_eq_true_eq] at this; omega
      rw [lexLt_end xs ys (fun i h1 h2 => (hk' i h1).1)]
  · intro k hk
    simp only [ref03_Less_b2]
    rw [if_pos (by omega)]
    by_cases hy : ys.length ≤ k
    · rw [if_neg (by omega)]
      simp [hy]
    · rw [if_pos (by omega), atI_getD 0 (by omega), atI_getD 0 (by omega), wrapS (by omega)]
      simp only [Option.bind_some]
      by_cases h : xs.getD k 0 = ys.getD k 0 <;> simp [h, hy]
  · simp [ref03_Less_b2]
end Go.Proofs.YthalofddjlhcjaaDoor
end
section
/- Plain facts on a search among rows that ascend. No program. -/
namespace Go.Proofs.YthalofddjlhcjaaDoor
set_option linter.unusedVariables false
set_option linter.unusedSimpArgs false

/-- Where the search ends. -/
def lowB (rows : List CRow) (p : List Int) : Nat := (rows.takeWhile fun r => decide (cmpR r.pre p < 0)).length
def hasB (rows : List CRow) (p : List Int) : Bool := rows.any fun r => decide (r.pre = p)

/-- What the search answers. -/
def Found (rows : List CRow) (p : List Int) (i : Nat) (b : Bool) : Prop := i = lowB rows p ∧ b = hasB rows p

theorem takeWhile_len {α : Type} (q : α → Bool) : ∀ (l : List α) (i : Nat), i ≤ l.length → (∀ k (h : k < l.length), k < i → q l[k] = true) → (∀ h : i < l.length, q l[i] = false) → (l.takeWhile q).length = i
  | [], i, hi, _, _ => by simp at hi; simp [hi]
  | a :: l, 0, _, _, h2 => by
    have := h2 (by simp)
    simp at this
    simp [List.takeWhile_cons, this]
  | a :: l, i + 1, hi, h1, h2 => by
    have e := h1 0 (by simp) (by omega)
    simp at e
    have ih := takeWhile_len q l i (by simpa using hi) (fun k h hk => by have := h1 (k + 1) (by simpa using h) (by omega); simpa using this) (fun h => by have := h2 (by simpa using h); simpa using this)
    simp [List.takeWhile_cons, e, ih]

theorem hasB_iff (rows : List CRow) (p : List Int) : hasB rows p = true ↔ ∃ j, ∃ h : j < rows.length, rows[j].pre = p := by
  unfold hasB
  rw [List.any_eq_true]
  constructor
  · rintro ⟨r, hr, e⟩
    obtain ⟨j, hj, rfl⟩ := List.getElem_of_mem hr
    exact ⟨j, hj, of_decide_eq_true e⟩
  · rintro ⟨j, hj, e⟩
    exact ⟨rows[j], List.getElem_mem _, decide_eq_true e⟩

/-- All rows before i are less, all from j on are not. -/
def Between (rows : List CRow) (p : List Int) (i j : Nat) : Prop :=
  (∀ k (h : k < rows.length), k < i → cmpR rows[k].pre p < 0) ∧ (∀ k (h : k < rows.length), j ≤ k → ¬ cmpR rows[k].pre p < 0)

theorem between_up {rows : List CRow} (hu : UpR rows) {p : List Int} {i j k : Nat} (h : Between rows p i j) (hk : k < rows.length) (hc : cmpR rows[k].pre p < 0) : Between rows p (k + 1) j :=
  ⟨fun l hl hlk => by
    by_cases e : l = k
    · subst e; exact hc
    · exact cmpR_trans _ _ _ (hu l k hl hk (by omega)) hc, h.2⟩
theorem between_down {rows : List CRow} (hu : UpR rows) {p : List Int} {i j k : Nat} (h : Between rows p i j) (hk : k < rows.length) (hc : ¬ cmpR rows[k].pre p < 0) : Between rows p i k :=
  ⟨h.1, fun l hl hlk => by
    by_cases e : l = k
    · subst e; exact hc
    · exact fun h' => hc (cmpR_trans _ _ _ (hu k l hk hl (by omega)) h')⟩
theorem low_of {rows : List CRow} {p : List Int} {i : Nat} (h : Between rows p i i) (hi : i ≤ rows.length) : lowB rows p = i :=
  takeWhile_len _ rows i hi (fun k hk hki => decide_eq_true (h.1 k hk hki)) (fun hk => decide_eq_false (h.2 i hk (Nat.le_refl _)))
theorem found_of {rows : List CRow} (hu : UpR rows) {p : List Int} {i : Nat} (h : Between rows p i i) (hi : i < rows.length) : Found rows p i (decide (cmpR rows[i].pre p = 0)) := by
  refine ⟨(low_of h (by omega)).symm, ?_⟩
  rw [Bool.eq_iff_iff, decide_eq_true_iff, hasB_iff]
  constructor
  · exact fun e => ⟨i, hi, (cmpR_zero _ _).1 e⟩
  · rintro ⟨j, hj, e⟩
    rcases Nat.lt_trichotomy j i with hl | hl | hl
    · have := h.1 j hj hl; rw [(cmpR_zero _ _).2 e] at this; omega
    · subst hl; exact (cmpR_zero _ _).2 e
    · have := hu i j hi hj hl
      rw [e] at this
      exact absurd this (h.2 i hi (Nat.le_refl _))
theorem found_none {rows : List CRow} {p : List Int} {i : Nat} (h : Between rows p i i) (hi : ¬ i < rows.length) (hi2 : i ≤ rows.length) : Found rows p i false := by
  refine ⟨(low_of h hi2).symm, ?_⟩
  rw [eq_comm, ← Bool.not_eq_true, hasB_iff]
  rintro ⟨j, hj, e⟩
  have := h.1 j hj (by omega)
  rw [(cmpR_zero _ _).2 e] at this
  omega
theorem low_row {rows : List CRow} (hu : UpR rows) {p : List Int} (h : hasB rows p = true) : ∃ hl : lowB rows p < rows.length, rows[lowB rows p].pre = p := by
  obtain ⟨j, hj, e⟩ := (hasB_iff _ _).1 h
  have hb : Between rows p j j := ⟨fun k hk hkj => by rw [← e]; exact hu k j hk hj hkj, fun k hk hjk => by
    by_cases ek : k = j
    · subst ek; rw [(cmpR_zero _ _).2 e]; omega
    · intro hlt
      have := hu j k hj hk (by omega)
      rw [e] at this
      have h2 := cmpR_trans _ _ _ this hlt
      rw [(cmpR_zero p p).2 rfl] at h2
      omega⟩
  have hl := low_of hb (by omega)
  exact ⟨by omega, by simp only [hl]; exact e⟩

end Go.Proofs.YthalofddjlhcjaaDoor
end
section
/- What a step of a cascade is. No program. -/
namespace Go.Proofs.YthalofddjlhcjaaDoor
set_option linter.unusedVariables false
set_option linter.unusedSimpArgs false

/-- The number of the row of a prefix. -/
def rowIx (c : Casc) (p : List Int) : Option Nat := c.rows.findIdx? fun r => decide (r.pre = p)
/-- The coordinate behind a letter. -/
def stVal (c : Casc) (x : List Int) (l : Nat) (i : Nat) : Int := match rowIx c (x.take i) with
  | some k => ((c.rows.getD k ⟨[], []⟩).maps.getD l []).getD (x.getD i 0).toNat 0
  | none => 0
def stV (c : Casc) (x : List Int) (l : Nat) : List Int := (List.range x.length).map (stVal c x l)
def stOk (c : Casc) (x : List Int) : Bool := (List.range x.length).all fun i => hasB c.rows (x.take i)
/-- The tuple behind a letter, or an error. -/
def stepG (c : Casc) (x : List Int) (l : Int) : List Int × Int :=
  if tupB c.sizes x = true ∧ 0 ≤ l ∧ l < c.letters then (if stOk c x = true then (stV c x l.toNat, 0) else ([], 23)) else ([], 1)

theorem rowIx_has {c : Casc} (hu : UpR c.rows) {p : List Int} (h : hasB c.rows p = true) : rowIx c p = some (lowB c.rows p) := by
  obtain ⟨hl, e⟩ := low_row hu h
  unfold rowIx
  rw [List.findIdx?_eq_some_iff_getElem]
  refine ⟨hl, by simpa using e, fun j hj => ?_⟩
  intro hh
  have e2 : c.rows[j].pre = p := by simpa using hh
  have := hu j _ (by omega) hl hj
  rw [e, e2, (cmpR_zero p p).2 rfl] at this
  omega
theorem rowIx_none {c : Casc} {p : List Int} (h : hasB c.rows p = false) : rowIx c p = none := by
  unfold rowIx
  rw [List.findIdx?_eq_none_iff]
  intro r hr
  rw [← Bool.not_eq_true]
  intro e
  rw [← Bool.not_eq_true] at h
  apply h
  unfold hasB
  rw [List.any_eq_true]
  exact ⟨r, hr, e⟩
theorem stV_length (c : Casc) (x : List Int) (l : Nat) : (stV c x l).length = x.length := by simp [stV]
theorem stV_get (c : Casc) (x : List Int) (l i : Nat) (h : i < x.length) : (stV c x l)[i]? = some (stVal c x l i) := by
  simp [stV, h]

/-- The cell that a step reads. -/
theorem step_cell {c : Casc} (hv : Valid c) {x : List Int} (hx : tupB c.sizes x = true) {l k : Nat} (hl : (l : Int) < c.letters) (hk : k < x.length) (hh : hasB c.rows (x.take k) = true) :
    ∃ (low s : Nat) (h1 : low < c.rows.length) (h2 : l < c.rows[low].maps.length) (h3 : s < c.rows[low].maps[l].length), lowB c.rows (x.take k) = low ∧ x[k] = s ∧ stVal c x l k = c.rows[low].maps[l][s] := by
  obtain ⟨h1, e1⟩ := low_row hv.up hh
  obtain ⟨f1, f2, f3, f4⟩ := rowB_facts (hv.row _ h1)
  have h2 : l < c.rows[lowB c.rows (x.take k)].maps.length := by omega
  have hlen : x.length = c.sizes.length ∧ inB c.sizes x = true := by simpa [tupB] using hx
  have hxk := (inB_iff c.sizes x (by omega)).1 hlen.2 k hk
  rw [getD_of_lt 0 hk] at hxk
  obtain ⟨g1, -⟩ := f4 l h2
  rw [getD_of_lt _ h2, e1] at g1
  have hpl : (x.take k).length = k := by simp; omega
  rw [hpl] at g1
  obtain ⟨s, hs⟩ := Int.eq_ofNat_of_zero_le hxk.1
  have h3 : s < c.rows[lowB c.rows (x.take k)].maps[l].length := by omega
  refine ⟨_, s, h1, h2, h3, rfl, hs, ?_⟩
  unfold stVal
  rw [rowIx_has hv.up hh]
  simp only
  rw [getD_of_lt _ h1, getD_of_lt _ h2, getD_of_lt 0 hk, hs]
  simp only [Int.toNat_natCast]
  rw [getD_of_lt _ h3]
end Go.Proofs.YthalofddjlhcjaaDoor
end
section
/- Plain: cascades: what is valid, what a step is. -/
namespace Go.Proofs.YthalofddjlhcjaaDoor
open Go
set_option linter.unusedVariables false
set_option linter.unusedSimpArgs false

theorem compareRows_eq (a b : List Int) (h : a.length < 4611686018427387904) : cascade_compareRows a b = some (cmpR a b) := by
  unfold cascade_compareRows
  simp only [Compare_eq, Compare_list _ _ h, Option.bind_some, Or_eq]
  congr 1
  unfold cmpR cmpI
  split <;> (try split) <;> (try split) <;> simp_all <;> omega
theorem isTuple_eq (sz xs : List Int) (h : xs.length < 4611686018427387904) : cascade_isTuple sz xs = some (tupB sz xs) := by
  unfold cascade_isTuple tupB
  split
  · rename_i hl
    have hl : xs.length = sz.length := by omega
    rw [loop_find (s := (0 : Int)) xs.length (fun k => (k : Int)) (fun k => !decide (0 ≤ xs.getD k 0 ∧ xs.getD k 0 < sz.getD k 0)) (fun _ => some false) (x := some true) rfl (by simp only [LFm]; omega)]
    · rw [find_all, decide_eq_true hl]
      simp only [Bool.not_not, Bool.true_and]
      congr 1
      cases hb : inB sz xs with
      | true =>
        have := (inB_iff sz xs (by omega)).1 hb
        rw [if_pos]
        simp only [List.all_eq_true, List.mem_range, decide_eq_true_eq]
        exact this
      | false =>
        rw [if_neg]
        intro hh
        simp only [List.all_eq_true, List.mem_range, decide_eq_true_eq] at hh
        rw [(inB_iff sz xs (by omega)).2 hh] at hb
        cases hb
    · intro k hk
      simp only [cascade_isTuple_b4]
      rw [if_pos (by omega), atI_getD 0 hk, wrapS (by omega)]
      simp only [Option.bind_some]
      split
      · rename_i h0
        rw [if_pos]
        simp only [Bool.not_eq_true', decide_eq_false_iff_not]; omega
      · rw [atI_getD 0 (by omega)]
        simp only [Option.bind_some]
        split
        · rw [if_pos]
          simp only [Bool.not_eq_true', decide_eq_false_iff_not]; omega
        · rw [if_neg]
          simp only [Bool.not_eq_true', decide_eq_false_iff_not]; omega
    · simp [cascade_isTuple_b4]
  · rename_i hl
    rw [decide_eq_false (by omega)]; rfl
theorem in_eq (sz xs : List Int) (h : xs.length < 4611686018427387904) (hl : xs.length ≤ sz.length) : ref26_in sz xs = some (inB sz xs) := by
  unfold ref26_in
  rw [loop_find (s := (0 : Int)) xs.length (fun k => (k : Int)) (fun k => !decide (0 ≤ xs.getD k 0 ∧ xs.getD k 0 < sz.getD k 0)) (fun _ => some false) (x := some true) rfl (by simp only [LFm]; omega)]
  · rw [find_all]
    simp only [Bool.not_not]
    congr 1
    cases hb : inB sz xs with
    | true =>
      have := (inB_iff sz xs (by omega)).1 hb
      rw [if_pos]
      simp only [List.all_eq_true, List.mem_range, decide_eq_true_eq]
      exact this
    | false =>
      rw [if_neg]
      intro hh
      simp only [List.all_eq_true, List.mem_range, decide_eq_true_eq] at hh
      rw [(inB_iff sz xs (by omega)).2 hh] at hb
      cases hb
  · intro k hk
    simp only [ref26_in_b2]
    rw [if_pos (by omega), atI_getD 0 hk, wrapS (by omega)]
    simp only [Option.bind_some]
    split
    · rename_i h0
      rw [if_pos]
      simp only [Bool.not_eq_true', decide_eq_false_iff_not]; omega
    · rw [atI_getD 0 (by omega)]
      simp only [Option.bind_some]
      split
      · rw [if_pos]
        simp only [Bool.not_eq_true', decide_eq_false_iff_not]; omega
      · rw [if_neg]
        simp only [Bool.not_eq_true', decide_eq_false_iff_not]; omega
  · simp [ref26_in_b2]
theorem IsTuple_eq (c : Casc) (xs : List Int) (h : xs.length < 4611686018427387904) : ref26_IsTuple c xs = some (tupB c.sizes xs) := by
  unfold ref26_IsTuple tupB
  split
  · rename_i hl
    rw [in_eq _ _ h (by omega), decide_eq_true (by omega)]; rfl
  · rw [decide_eq_false (by omega)]; rfl
theorem Less26_eq (a b : List Int) (h : a.length < 4611686018427387904) : ref26_Less a b = some (decide (cmpR a b < 0)) := by
  unfold ref26_Less
  split
  · rename_i hl
    rw [Less_eq _ _ h, cmpL_lt]
    have : cmpR a b = cmpL a b := by unfold cmpR; rw [if_neg (by omega), if_neg (by omega)]
    rw [this]; rfl
  · rename_i hl
    congr 1
    unfold cmpR
    split
    · simp_all
    · rw [if_pos (by omega)]; simp_all
def findI {α : Type} (p : α → Bool) (l : List α) : Int := match l.findIdx? p with | some i => (i : Int) | none => -1
theorem findI_range {α : Type} (p : α → Bool) (l : List α) (d : α) : (match (List.range l.length).find? (fun k => p (l.getD k d)) with | some k => (k : Int) | none => -1) = findI p l := by
  unfold findI
  cases h : (List.range l.length).find? (fun k => p (l.getD k d)) with
  | none =>
    rw [find_none] at h
    have : l.findIdx? p = none := by
      rw [List.findIdx?_eq_none_iff]
      intro x hx
      obtain ⟨i, hi, rfl⟩ := List.getElem_of_mem hx
      have := h i hi
      rwa [getD_of_lt _ hi] at this
    rw [this]
  | some k =>
    rw [find_some] at h
    have : l.findIdx? p = some k := by
      rw [List.findIdx?_eq_some_iff_getElem]
      refine ⟨h.1, by have := h.2.1; rwa [getD_of_lt _ h.1] at this, fun j hj => ?_⟩
      have := h.2.2 j hj
      rw [getD_of_lt _ (by omega)] at this
      simp [this]
    rw [this]
theorem Find_eq (xs : List (List Int)) (x : List Int) (h : xs.length < 4611686018427387904) (h2 : x.length < 4611686018427387904) : ref26_Find xs x = some (findI (fun y => decide (x = y)) xs) := by
  unfold ref26_Find
  rw [loop_find (s := (0 : Int)) xs.length (fun k => (k : Int)) (fun k => decide (x = xs.getD k [])) (fun k => some (k : Int)) (x := some (-1)) rfl (by simp only [LFm]; omega)]
  · rw [← findI_range (fun y => decide (x = y)) xs []]
    split <;> rename_i hh <;> simp only [hh]
  · intro k hk
    simp only [ref26_Find_b2]
    rw [if_pos (by omega), atI_getD [] hk, wrapS (by omega)]
    simp only [Option.bind_some, Same_eq _ _ h2]
  · simp [ref26_Find_b2]
structure CB (c : Casc) : Prop where
  sz : c.sizes.length < 4611686018427387904
  rl : c.rows.length < 4611686018427387904
  row : ∀ r ∈ c.rows, r.pre.length < 4611686018427387904 ∧ r.maps.length < 4611686018427387904 ∧ ∀ m ∈ r.maps, m.length < 4611686018427387904
theorem Row_eq (c : Casc) (p : List Int) (h : CB c) : ref26_Row c p = some (findI (fun r => decide (r.pre = p)) c.rows) := by
  unfold ref26_Row
  have hr := h.rl
  rw [loop_find (s := (0 : Int)) c.rows.length (fun k => (k : Int)) (fun k => decide ((c.rows.getD k ⟨[], []⟩).pre = p)) (fun k => some (k : Int)) (x := some (-1)) rfl (by simp only [LFm]; omega)]
  · rw [← findI_range (fun r => decide (r.pre = p)) c.rows ⟨[], []⟩]
    split <;> rename_i hh <;> simp only [hh]
  · intro k hk
    simp only [ref26_Row_b2]
    rw [if_pos (by omega), atI_getD ⟨[], []⟩ hk, wrapS (by omega)]
    simp only [Option.bind_some]
    rw [Same_eq _ _ (by rw [getD_of_lt _ hk]; exact (h.row _ (List.getElem_mem hk)).1)]
    simp only [Option.bind_some]
  · simp [ref26_Row_b2]
/-- A row's maps, one by one. -/
theorem map_loop {ρ : Type} {b : Int → Option (Int ⊕ ρ)} {m : List Int} {n : Int} {A B : Option ρ} (h : m.length < 4611686018427387904) (step : ∀ k, (h : k < m.length) → b (k : Int) = if 0 ≤ m.getD k 0 ∧ m.getD k 0 < n then nextG ((k + 1 : Nat) : Int) else exitG A) (last : b (m.length : Int) = exitG B) :
    loopG b LFm 0 = if (m.all fun s => decide (0 ≤ s) && decide (s < n)) = true then B else A :=
  list_loop 0 _ h (fun k hk => by rw [step k hk]; simp only [Bool.and_eq_true, decide_eq_true_eq]) last
theorem maps_loop {ρ : Type} {b : Int → Option (Int ⊕ ρ)} {ms : List (List Int)} {n : Int} {A B : Option ρ} (h : ms.length < 4611686018427387904) (step : ∀ k, (h : k < ms.length) → b (k : Int) = if mapB n (ms.getD k []) = true then nextG ((k + 1 : Nat) : Int) else exitG A) (last : b (ms.length : Int) = exitG B) :
    loopG b LFm 0 = if ms.all (mapB n) = true then B else A := list_loop [] _ h step last
theorem validRow_eq (c : Casc) (r : CRow) (h : CB c) (hr : r.pre.length < 4611686018427387904 ∧ r.maps.length < 4611686018427387904 ∧ ∀ m ∈ r.maps, m.length < 4611686018427387904) : cascade_validRow c r = some (rowB c r) := by
  obtain ⟨h1, h2, h3⟩ := hr
  unfold cascade_validRow
  split
  · rename_i hp
    rw [rowB_short c r (by omega)]
  · rename_i hp
    have hp : r.pre.length < c.sizes.length := by omega
    rw [pieceL_to (by omega)]
    simp only [Option.bind_some]
    rw [isTuple_eq _ _ h1]
    simp only [Option.bind_some]
    rw [tupB_take _ _ hp]
    split
    · rename_i hin
      split
      · rename_i hl
        rw [rowB_maps c r hp hin hl]
        rw [maps_loop (ms := r.maps) (n := c.sizes.getD r.pre.length 0) (A := some false) (B := some true) h2]
        · split <;> simp_all
        · intro k hk
          have hm := h3 _ (List.getElem_mem hk)
          rw [← getD_of_lt [] hk] at hm
          generalize hg : r.maps.getD k [] = m at *
          simp only [cascade_validRow_b5]
          rw [if_pos (by omega), atI_getD [] hk, atI_getD 0 hp, hg]
          simp only [Option.bind_some]
          split
          · rename_i hml
            have hmb : mapB (c.sizes.getD r.pre.length 0) m = m.all fun s => decide (0 ≤ s) && decide (s < c.sizes.getD r.pre.length 0) := by
              unfold mapB; rw [decide_eq_true hml, Bool.true_and]
            rw [hmb]
            rw [map_loop (m := m) (n := c.sizes.getD r.pre.length 0) (A := exitG (some false)) (B := nextG ((k + 1 : Nat) : Int)) hm]
            · intro j hj
              simp only [cascade_validRow_b10]
              rw [if_pos (by omega), atI_getD 0 hj, wrapS (by omega)]
              simp only [Option.bind_some]
              split
              · rw [if_neg (by omega)]
              · rw [atI_getD 0 hp]
                simp only [Option.bind_some]
                split
                · rw [if_neg (by omega)]
                · rw [if_pos (by omega)]
            · simp only [cascade_validRow_b10]
              rw [if_neg (by omega), wrapS (by omega)]
          · rename_i hml
            rw [if_neg]
            unfold mapB
            rw [decide_eq_false hml]; simp
        · simp [cascade_validRow_b5]
      · rename_i hl
        rw [rowB_letters c r hl]
    · rename_i hin
      rw [rowB_in c r (by simpa using hin)]
theorem sizes_loop {ρ : Type} {b : Int → Option (Int ⊕ ρ)} {m : List Int} {A B : Option ρ} (h : m.length < 4611686018427387904) (step : ∀ k, (h : k < m.length) → b (k : Int) = if 1 ≤ m.getD k 0 ∧ m.getD k 0 ≤ 32 then nextG ((k + 1 : Nat) : Int) else exitG A) (last : b (m.length : Int) = exitG B) :
    loopG b LFm 0 = if (m.all fun n => decide (1 ≤ n) && decide (n ≤ 32)) = true then B else A :=
  list_loop 0 _ h (fun k hk => by rw [step k hk]; simp only [Bool.and_eq_true, decide_eq_true_eq]) last
theorem rows_loop {ρ : Type} {b : Int → Option (Int ⊕ ρ)} {c : Casc} {A B : Option ρ} (h : c.rows.length < 4611686018427387904) (step : ∀ k, (h : k < c.rows.length) → b (k : Int) = if (rowB c (c.rows.getD k ⟨[], []⟩) && (decide (k = 0) || decide (cmpR (c.rows.getD (k - 1) ⟨[], []⟩).pre (c.rows.getD k ⟨[], []⟩).pre < 0))) = true then nextG ((k + 1 : Nat) : Int) else exitG A) (last : b (c.rows.length : Int) = exitG B) :
    loopG b LFm 0 = if rowsUpB c c.rows.length = true then B else A := by
  rw [loop_find (s := (0 : Int)) c.rows.length (fun k => (k : Int)) (fun k => !(rowB c (c.rows.getD k ⟨[], []⟩) && (decide (k = 0) || decide (cmpR (c.rows.getD (k - 1) ⟨[], []⟩).pre (c.rows.getD k ⟨[], []⟩).pre < 0)))) (fun _ => A) (x := B) rfl (by simp only [LFm]; omega) (fun k hk => ?_) last]
  · rw [find_all]
    simp only [Bool.not_not]
    rfl
  · rw [step k hk]
    generalize (rowB c (c.rows.getD k ⟨[], []⟩) && (decide (k = 0) || decide (cmpR (c.rows.getD (k - 1) ⟨[], []⟩).pre (c.rows.getD k ⟨[], []⟩).pre < 0))) = q
    cases q <;> simp
end Go.Proofs.YthalofddjlhcjaaDoor
end
section
/- Plain: validity as the program and the reference say it; a step of the reference and of the program. -/
namespace Go.Proofs.YthalofddjlhcjaaDoor
open Go
set_option linter.unusedVariables false
set_option linter.unusedSimpArgs false

theorem valid_head (c : Casc) (x : Option Int) : (if c.letters < 1 then some 1 else if 6 < c.letters then some 1 else if 24 < (c.sizes.length : Int) then some 3 else if 48000 < (c.rows.length : Int) then some 3 else x) =
    if c.letters < 1 ∨ 6 < c.letters then some 1 else if 24 < c.sizes.length ∨ 48000 < c.rows.length then some 3 else x := by
  by_cases h1 : c.letters < 1 <;> by_cases h2 : 6 < c.letters <;> by_cases h3 : 24 < c.sizes.length <;> by_cases h4 : 48000 < c.rows.length <;>
    simp only [h1, h2, if_true, if_false, true_or, or_true, false_or, or_false, or_self] <;>
    (try (first | rw [if_pos (by omega), if_pos (by omega)] | (rw [if_neg (by omega)]; first | rw [if_pos (by omega), if_pos (by omega)] | rw [if_neg (by omega), if_neg (by omega)])))
theorem Validate_eq (c : Casc) (h : CB c) : cascade_Validate c = some (validE c) := by
  unfold cascade_Validate validE
  have h1 := h.sz
  have h2 := h.rl
  rw [valid_head]
  by_cases hl : c.letters < 1 ∨ 6 < c.letters
  · rw [if_pos hl, if_pos hl]
  rw [if_neg hl, if_neg hl]
  by_cases hs : 24 < c.sizes.length ∨ 48000 < c.rows.length
  · rw [if_pos hs, if_pos hs]
  rw [if_neg hs, if_neg hs]
  rw [sizes_loop (m := c.sizes) (A := some 23) (B := loopG (cascade_Validate_b12 c) LFm 0) h1]
  · rw [rows_loop (c := c) (A := some 23) (B := some 0) h2]
    · cases (c.sizes.all fun n => decide (1 ≤ n) && decide (n ≤ 32)) <;> cases rowsUpB c c.rows.length <;> simp
    · intro k hk
      have hr := h.row _ (List.getElem_mem hk)
      rw [← getD_of_lt ⟨[], []⟩ hk] at hr
      simp only [cascade_Validate_b12]
      rw [if_pos (by omega), atI_getD ⟨[], []⟩ hk, wrapS (by omega)]
      simp only [Option.bind_some]
      rw [validRow_eq c _ h hr]
      simp only [Option.bind_some]
      split
      · rename_i hv
        rw [hv]
        split
        · rename_i hk0
          have hk1 : k - 1 < c.rows.length := by omega
          have hr1 := h.row _ (List.getElem_mem hk1)
          rw [← getD_of_lt ⟨[], []⟩ hk1] at hr1
          have ek : IntKind.i64.wrap ((k : Int) - 1) = ((k - 1 : Nat) : Int) := by rw [wrapI (by omega) (by omega)]; omega
          rw [ek, atI_getD ⟨[], []⟩ hk1]
          simp only [Option.bind_some]
          rw [compareRows_eq _ _ hr1.1]
          simp only [Option.bind_some]
          have hk0' : ¬ k = 0 := by omega
          split
          · rw [if_neg]; simp only [Bool.and_eq_true, Bool.or_eq_true, decide_eq_true_eq]; omega
          · rw [if_pos]; simp only [Bool.and_eq_true, Bool.or_eq_true, decide_eq_true_eq, true_and]; omega
        · have hk0' : k = 0 := by omega
          rw [if_pos]; simp only [Bool.and_eq_true, Bool.or_eq_true, decide_eq_true_eq, true_and]; omega
      · rename_i hv
        rw [if_neg]; intro hh; simp only [Bool.and_eq_true] at hh; exact hv hh.1
    · simp [cascade_Validate_b12]
  · intro k hk
    simp only [cascade_Validate_b6]
    rw [if_pos (by omega), atI_getD 0 hk, wrapS (by omega)]
    simp only [Option.bind_some]
    split
    · rw [if_neg (by omega)]
    · split
      · rw [if_neg (by omega)]
      · rw [if_pos (by omega)]
  · simp only [cascade_Validate_b6]
    rw [if_neg (by omega)]
theorem rowB_split (c : Casc) (r : CRow) : rowB c r = (decide (r.pre.length < c.sizes.length) && (inB c.sizes r.pre && (decide ((r.maps.length : Int) = c.letters) && r.maps.all (mapB (c.sizes.getD r.pre.length 0))))) := by
  unfold rowB; simp [Bool.and_assoc]
theorem refValidate_maps {σ : Type} (n : Int) (ms : List (List Int)) (A B : Option σ) (b18 : Int → Option (Int ⊕ σ)) (b23 : Int → List Int → Int → Option (Int ⊕ (Int ⊕ σ))) (h2 : ms.length < 4611686018427387904) (h3 : ∀ m ∈ ms, m.length < 4611686018427387904)
    (h18 : ∀ w, b18 w = if w < (ms.length : Int) then (atI ms w).bind fun v => if (v.length : Int) = n then loopG (b23 w v) LFm 0 else exitG A else exitG B)
    (h23 : ∀ w v j, b23 w v j = if j < (v.length : Int) then (atI v j).bind fun x => if x < 0 then exitG (exitG A) else if n ≤ x then exitG (exitG A) else nextG (IntKind.i64.wrap (j + 1)) else exitG (nextG (IntKind.i64.wrap (w + 1)))) :
    loopG b18 LFm 0 = if ms.all (mapB n) = true then B else A := by
  rw [maps_loop (ms := ms) (n := n) (A := A) (B := B) h2]
  · intro k hk
    have hm := h3 _ (List.getElem_mem hk)
    rw [← getD_of_lt [] hk] at hm
    generalize hg : ms.getD k [] = m at *
    rw [h18, if_pos (by omega), atI_getD [] hk, hg]
    simp only [Option.bind_some]
    split
    · rename_i hml
      have hmb : mapB n m = m.all fun s => decide (0 ≤ s) && decide (s < n) := by
        unfold mapB; rw [decide_eq_true hml, Bool.true_and]
      rw [hmb]
      rw [map_loop (m := m) (n := n) (A := exitG A) (B := nextG ((k + 1 : Nat) : Int)) hm]
      · intro j hj
        rw [h23, if_pos (by omega), atI_getD 0 hj, wrapS (by omega)]
        simp only [Option.bind_some]
        split
        · rw [if_neg (by omega)]
        · split
          · rw [if_neg (by omega)]
          · rw [if_pos (by omega)]
      · rw [h23, if_neg (by omega), wrapS (by omega)]
    · rename_i hml
      rw [if_neg]
      unfold mapB
      rw [decide_eq_false hml]; simp
  · rw [h18, if_neg (by omega)]
theorem refValidate_eq (c : Casc) (h : CB c) : ref26_Validate c = some (validE c) := by
  unfold ref26_Validate validE
  have h1 := h.sz
  have h2 := h.rl
  rw [valid_head]
  by_cases hl : c.letters < 1 ∨ 6 < c.letters
  · rw [if_pos hl, if_pos hl]
  rw [if_neg hl, if_neg hl]
  by_cases hs : 24 < c.sizes.length ∨ 48000 < c.rows.length
  · rw [if_pos hs, if_pos hs]
  rw [if_neg hs, if_neg hs]
  rw [sizes_loop (m := c.sizes) (A := some 23) (B := loopG (ref26_Validate_b12 c) LFm 0) h1]
  · rw [rows_loop (c := c) (A := some 23) (B := some 0) h2]
    · cases (c.sizes.all fun n => decide (1 ≤ n) && decide (n ≤ 32)) <;> cases rowsUpB c c.rows.length <;> simp
    · intro k hk
      have hr := h.row _ (List.getElem_mem hk)
      rw [← getD_of_lt ⟨[], []⟩ hk] at hr
      simp only [ref26_Validate_b12]
      rw [if_pos (by omega), atI_getD ⟨[], []⟩ hk]
      simp only [Option.bind_some]
      rw [rowB_split]
      split
      · rename_i hp
        rw [if_neg]; simp only [Bool.and_eq_true, decide_eq_true_eq]; omega
      · rename_i hp
        have hp : (c.rows.getD k ⟨[], []⟩).pre.length < c.sizes.length := by omega
        rw [in_eq _ _ hr.1 (by omega), decide_eq_true hp, Bool.true_and]
        simp only [Option.bind_some]
        split
        · rename_i hin
          rw [hin, Bool.true_and]
          split
          · rename_i hk0
            have hk1 : k - 1 < c.rows.length := by omega
            have hr1 := h.row _ (List.getElem_mem hk1)
            rw [← getD_of_lt ⟨[], []⟩ hk1] at hr1
            have ek : IntKind.i64.wrap ((k : Int) - 1) = ((k - 1 : Nat) : Int) := by rw [wrapI (by omega) (by omega)]; omega
            have hk0' : ¬ k = 0 := by omega
            rw [ek, atI_getD ⟨[], []⟩ hk1, decide_eq_false hk0', Bool.false_or]
            simp only [Option.bind_some]
            rw [Less26_eq _ _ hr1.1]
            simp only [Option.bind_some]
            split
            · rename_i hlt
              rw [hlt, Bool.and_true]
              split
              · rename_i hl
                rw [decide_eq_true hl, Bool.true_and, atI_getD 0 hp]
                simp only [Option.bind_some]
                rw [refValidate_maps _ _ (exitG (some 23)) (nextG ((k + 1 : Nat) : Int)) _ (fun w v => ref26_Validate_b23 (c.sizes.getD (c.rows.getD k ⟨[], []⟩).pre.length 0) w v) hr.2.1 hr.2.2]
                · intro w
                  simp only [ref26_Validate_b18]
                  rw [wrapS (by omega)]
                · intro w v j
                  simp only [ref26_Validate_b23]
              · rename_i hl
                rw [if_neg]; rw [decide_eq_false hl]; simp
            · rename_i hlt
              rw [if_neg]; simp only [Bool.not_eq_true] at hlt; rw [hlt]; simp
          · have hk0' : k = 0 := by omega
            rw [decide_eq_true hk0', Bool.true_or, Bool.and_true]
            split
            · rename_i hl
              rw [decide_eq_true hl, Bool.true_and, atI_getD 0 hp]
              simp only [Option.bind_some]
              rw [refValidate_maps _ _ (exitG (some 23)) (nextG ((k + 1 : Nat) : Int)) _ (fun w v => ref26_Validate_b23a (c.sizes.getD (c.rows.getD k ⟨[], []⟩).pre.length 0) w v) hr.2.1 hr.2.2]
              · intro w
                simp only [ref26_Validate_b18a]
                rw [wrapS (by omega)]
              · intro w v j
                simp only [ref26_Validate_b23a]
            · rename_i hl
              rw [if_neg]; rw [decide_eq_false hl]; simp
        · rename_i hin
          rw [if_neg]; simp only [Bool.not_eq_true] at hin; rw [hin]; simp
    · simp [ref26_Validate_b12]
  · intro k hk
    simp only [ref26_Validate_b6]
    rw [if_pos (by omega), atI_getD 0 hk, wrapS (by omega)]
    simp only [Option.bind_some]
    split
    · rw [if_neg (by omega)]
    · split
      · rw [if_neg (by omega)]
      · rw [if_pos (by omega)]
  · simp only [ref26_Validate_b6]
    rw [if_neg (by omega)]
/-- The search among ascending rows. -/
theorem mid_eq (i j : Nat) (h : i + j < 4611686018427387904) : IntKind.i64.wrap (shrI .u64 (IntKind.u64.wrap (IntKind.i64.wrap ((i : Int) + j))) 1) = (((i + j) / 2 : Nat) : Int) := by
  rw [wrapI (x := (i : Int) + j) (by omega) (by omega)]
  have e : IntKind.u64.wrap ((i : Int) + j) = (i : Int) + j := by rw [IntKind.wrap_u64]; omega
  have e2 : shrI .u64 ((i : Int) + j) 1 = (((i + j) / 2 : Nat) : Int) := by
    unfold shrI
    have : (2 : Int) ^ (min (1 : Int).toNat IntKind.u64.bits) = 2 := by decide
    rw [this, Int.fdiv_eq_ediv_of_nonneg _ (by omega)]
    omega
  rw [e, e2, wrapI (by omega) (by omega)]
theorem Search_eq (rs : List CRow) (p : List Int) (hu : UpR rs) (hr : rs.length ≤ 48000) (hb : ∀ r ∈ rs, r.pre.length < 4611686018427387904) : slices_BinarySearchFunc_Lapi_CascadeRow_api_CascadeRow_Lint_cascade_Runner_Step_1 rs p = some ((lowB rs p : Int), hasB rs p) := by
  unfold slices_BinarySearchFunc_Lapi_CascadeRow_api_CascadeRow_Lint_cascade_Runner_Step_1
  refine loopG_eq (fun s => ∃ i j : Nat, s = ((i : Int), (j : Int)) ∧ i ≤ j ∧ j ≤ rs.length ∧ Between rs p i j) (fun s => (s.2 - s.1).toNat) ⟨0, rs.length, rfl, by omega, by omega, fun k h1 => by omega, fun k h1 h2 => by omega⟩ (by simp only [LFm]; omega) ?_
  rintro _ ⟨i, j, rfl, hij, hj, hB⟩
  simp only [slices_BinarySearchFunc_Lapi_CascadeRow_api_CascadeRow_Lint_cascade_Runner_Step_1_b3]
  by_cases hlt : i < j
  · left
    rw [if_pos (by omega), chk_pos _ (by omega), mid_eq i j (by omega)]
    have hm : (i + j) / 2 < rs.length := by omega
    rw [atI_nat hm]
    simp only [Option.bind_some, cascade_Runner_Step_1]
    rw [compareRows_eq _ _ (hb _ (List.getElem_mem hm))]
    simp only [Option.bind_some]
    split
    · rename_i hc
      rw [wrapS (by omega)]
      exact ⟨_, rfl, ⟨(i + j) / 2 + 1, j, rfl, by omega, hj, between_up hu hB hm hc⟩, by simp only; omega⟩
    · rename_i hc
      exact ⟨_, rfl, ⟨i, (i + j) / 2, rfl, by omega, by omega, between_down hu hB hm hc⟩, by simp only; omega⟩
  · right
    have : i = j := by omega
    subst this
    rw [if_neg (by omega)]
    congr 1
    have hl := low_of hB hj
    split
    · rename_i h
      have h : i < rs.length := by omega
      rw [atI_nat h]
      simp only [Option.bind_some, cascade_Runner_Step_1]
      rw [compareRows_eq _ _ (hb _ (List.getElem_mem h))]
      simp only [Option.bind_some]
      obtain ⟨f1, f2⟩ := found_of hu hB h
      rw [f2, hl]
    · rename_i h
      obtain ⟨f1, f2⟩ := found_none hB (by omega) hj
      rw [← f2, hl]
end Go.Proofs.YthalofddjlhcjaaDoor
end
section
/- Plain: Format is what the reference says. -/
namespace Go.Proofs.YthalofddjlhcjaaDoor
open Go
set_option linter.unusedVariables false
set_option linter.unusedSimpArgs false

/-- A row whose text is short. -/
structure SmR (r : CRow) : Prop where
  p1 : r.pre.length ≤ 24
  p2 : ∀ x ∈ r.pre, 0 ≤ x ∧ x < 100
  m1 : r.maps.length ≤ 6
  m2 : ∀ m ∈ r.maps, m.length ≤ 32 ∧ ∀ x ∈ m, 0 ≤ x ∧ x < 100
theorem smR_of {c : Casc} (hV : Valid c) {r : CRow} (hr : r ∈ c.rows) : SmR r := by
  obtain ⟨i, hi, rfl⟩ := List.getElem_of_mem hr
  have h := hV.row i hi
  have hs := hV.s1
  have hl := hV.l2
  have hz := hV.sz
  generalize c.rows[i] = r at h
  unfold rowB at h
  simp only [Bool.and_eq_true, decide_eq_true_eq, List.all_eq_true] at h
  obtain ⟨⟨⟨h1, h2⟩, h3⟩, h4⟩ := h
  have h5 := hz _ h1
  refine ⟨by omega, fun x hx => ?_, by omega, fun m hm => ?_⟩
  · obtain ⟨j, hj, rfl⟩ := List.getElem_of_mem hx
    have := (inB_iff _ _ (by omega)).1 h2 j hj
    have h6 := hz j (by omega)
    rw [show r.pre.getD j 0 = r.pre[j] by simp [List.getD, List.getElem?_eq_getElem hj]] at this
    omega
  · have := h4 m hm
    unfold mapB at this
    simp only [Bool.and_eq_true, decide_eq_true_eq, List.all_eq_true] at this
    refine ⟨by omega, fun x hx => ?_⟩
    have := this.2 x hx
    omega
def mapsT (ms : List (List Int)) : List Int := ms.flatMap fun m => [32, 59] ++ numsT m
def rowT (r : CRow) : List Int := [114, 111, 119] ++ numsT r.pre ++ mapsT r.maps ++ [10]
theorem mapsT_snoc (xs : List (List Int)) (k : Nat) (h : k < xs.length) : mapsT (xs.take (k + 1)) = mapsT (xs.take k) ++ ([32, 59] ++ numsT (xs.getD k [])) := by
  have e : xs.getD k [] = xs[k] := by simp [List.getD, List.getElem?_eq_getElem h]
  rw [List.take_succ_eq_append_getElem h, e]
  unfold mapsT
  rw [List.flatMap_append]
  simp
theorem mapsT_len : ∀ ms : List (List Int), (∀ m ∈ ms, m.length ≤ 32) → (mapsT ms).length ≤ 98 * ms.length
  | [], _ => by simp [mapsT]
  | m :: ms, h => by
    have h1 := mapsT_len ms fun x hx => h x (List.mem_cons_of_mem _ hx)
    have h2 := numsT_len m
    have h3 := h m List.mem_cons_self
    simp only [mapsT, List.flatMap_cons, List.length_append, List.length_cons, List.length_nil] at h1 ⊢
    omega
theorem rowT_len {r : CRow} (h : SmR r) : (rowT r).length ≤ 1000 := by
  have h1 := numsT_len r.pre
  have h2 := mapsT_len r.maps fun m hm => (h.m2 m hm).1
  have h3 := h.p1
  have h4 := h.m1
  simp only [rowT, List.length_append, List.length_cons, List.length_nil]
  omega
/-- The rows' text, if it is not too long. -/
def fmtRows : List CRow → List Int → Option (List Int)
  | [], t => some t
  | r :: rs, t => if 1048576 < (t ++ rowT r).length then none else fmtRows rs (t ++ rowT r)
def headT (c : Casc) : List Int := [99, 97, 115, 99, 97, 100, 101] ++ numsT [c.letters] ++ numsT c.sizes ++ [10]
def fmtR (c : Casc) : ByteArray × Int := match fmtRows c.rows (headT c) with | some t => (bytesOf t, 0) | none => (ByteArray.empty, 3)
def fmtV (c : Casc) : ByteArray × Int := if validE c = 0 then fmtR c else (ByteArray.empty, validE c)
theorem fmt_maps {r : CRow} (h : SmR r) (w : Int) (t : List Int) (ht : t.length ≤ 2000000) : loopG (cascade_Format_b11 w r) LFm (0, t) = if 1048576 < (t ++ mapsT r.maps).length + 1 then exitG (some (ByteArray.empty, 3)) else nextG (IntKind.i64.wrap (w + 1), t ++ mapsT r.maps ++ [10]) := by
  have hm := h.m1
  have hL := mapsT_len r.maps fun m hm => (h.m2 m hm).1
  refine loop_to (x := _) r.maps.length (fun k => ((k : Int), t ++ mapsT (r.maps.take k))) (by simp [mapsT]) (by simp only [LFm]; omega) (fun k hk => ?_) ?_
  · have hx := h.m2 _ (getD_mem [] hk)
    have hl := mapsT_len (r.maps.take k) fun m hm => (h.m2 m (List.mem_of_mem_take hm)).1
    rw [List.length_take] at hl
    simp only [cascade_Format_b11]
    rw [if_pos (by omega), atI_D [] hk]
    simp only [Option.bind_some]
    rw [chk_pos _ (by unfold capOk; simp only [List.length_append]; omega)]
    rw [show intsOf ⟨#[32, 59]⟩ = [32, 59] from rfl]
    rw [appendNumbers_eq _ _ hx.2 (by simp only [List.length_append, List.length_cons, List.length_nil]; omega)]
    simp only [Option.bind_some]
    rw [wrapS (by omega), mapsT_snoc _ k hk]
    simp
  · simp only [cascade_Format_b11]
    rw [if_neg (by omega), List.take_length]
    rw [chk_pos _ (by unfold capOk; simp only [List.length_append]; omega)]
    simp only [List.length_append] at hL ⊢
    by_cases hc : 1048576 < t.length + (mapsT r.maps).length + 1
    · rw [if_pos (by omega), if_pos hc]
    · rw [if_neg (by omega), if_neg hc]
theorem fmt_rows {c : Casc} (hV : Valid c) (t0 : List Int) (h0 : t0.length ≤ 1100000) : loopG (cascade_Format_b7 c) LFm (0, t0) = some (match fmtRows c.rows t0 with | some t => (bytesOf t, 0) | none => (ByteArray.empty, 3)) := by
  have hr := hV.r1
  refine loopG_eq (fun s => ∃ k : Nat, k ≤ c.rows.length ∧ s.1 = (k : Int) ∧ s.2.length ≤ 1100000 ∧ fmtRows (c.rows.drop k) s.2 = fmtRows c.rows t0) (fun s => c.rows.length - s.1.toNat) ⟨0, by omega, rfl, h0, rfl⟩ (by simp only [LFm]; omega) ?_
  rintro ⟨_, t⟩ ⟨k, hk, rfl, ht, he⟩
  simp only at ht he
  simp only [cascade_Format_b7]
  by_cases hlt : k < c.rows.length
  · have hS := smR_of hV (List.getElem_mem hlt)
    have hp := numsT_len c.rows[k].pre
    have hp1 := hS.p1
    have hR := rowT_len hS
    rw [List.drop_eq_getElem_cons hlt] at he
    simp only [fmtRows] at he
    rw [if_pos (by omega), atI_nat hlt]
    simp only [Option.bind_some]
    rw [chk_pos _ (by unfold capOk; omega), show intsOf ⟨#[114, 111, 119]⟩ = [114, 111, 119] from rfl]
    rw [appendNumbers_eq _ _ hS.p2 (by simp only [List.length_append, List.length_cons, List.length_nil]; omega)]
    simp only [Option.bind_some]
    rw [fmt_maps hS _ _ (by simp only [rowT, List.length_append, List.length_cons, List.length_nil] at hR ⊢; omega)]
    have e1 : t ++ [114, 111, 119] ++ numsT c.rows[k].pre ++ mapsT c.rows[k].maps ++ [10] = t ++ rowT c.rows[k] := by simp [rowT]
    have e2 : (t ++ [114, 111, 119] ++ numsT c.rows[k].pre ++ mapsT c.rows[k].maps).length + 1 = (t ++ rowT c.rows[k]).length := by rw [← e1]; simp; omega
    rw [e1, e2]
    by_cases hc : 1048576 < (t ++ rowT c.rows[k]).length
    · rw [if_pos hc] at he ⊢
      right
      rw [← he]
    · rw [if_neg hc] at he ⊢
      left
      refine ⟨_, rfl, ⟨k + 1, by omega, wrapS (by omega), by simp only; omega, he⟩, ?_⟩
      simp only
      rw [wrapS (by omega)]
      omega
  · right
    have : k = c.rows.length := by omega
    subst this
    rw [List.drop_length] at he
    simp only [fmtRows] at he
    rw [if_neg (by omega), ← he]
theorem headT_len {c : Casc} (hV : Valid c) : (headT c).length ≤ 100 := by
  have h1 := numsT_len [c.letters]
  have h2 := numsT_len c.sizes
  have h3 := hV.s1
  simp only [headT, List.length_append, List.length_cons, List.length_nil] at h1 ⊢
  omega
theorem Format_eq (c : Casc) (h : CB c) : cascade_Format c = some (fmtV c) := by
  unfold cascade_Format fmtV
  rw [Validate_eq c h]
  simp only [Option.bind_some]
  by_cases hv : validE c = 0
  case neg => rw [if_neg hv, if_neg hv]
  rw [if_pos hv, if_pos hv]
  have hV := valid_of c hv
  have l1 := hV.l1
  have l2 := hV.l2
  have s1 := hV.s1
  have hl := headT_len hV
  have hz : ∀ x ∈ c.sizes, 0 ≤ x ∧ x < 100 := fun x hx => by
    obtain ⟨j, hj, rfl⟩ := List.getElem_of_mem hx
    have := hV.sz j hj
    rw [show c.sizes.getD j 0 = c.sizes[j] by simp [List.getD, List.getElem?_eq_getElem hj]] at this
    omega
  rw [appendNumbers_eq _ _ (by intro x hx; have : x = c.letters := by simpa using hx
                               omega) (by simp)]
  simp only [Option.bind_some]
  rw [appendNumbers_eq _ _ hz (by have := numsT_len [c.letters]; simp only [List.length_append, List.length_cons, List.length_nil] at this ⊢; omega)]
  simp only [Option.bind_some]
  have e : [99, 97, 115, 99, 97, 100, 101] ++ numsT [c.letters] ++ numsT c.sizes ++ [10] = headT c := rfl
  rw [chk_pos _ (by unfold capOk; rw [← e] at hl; simp only [List.length_append, List.length_cons, List.length_nil] at hl ⊢; omega), e, fmt_rows hV _ (by omega)]
  rfl
end Go.Proofs.YthalofddjlhcjaaDoor
end
section
/- Plain: the kinds of the components are what the reference says. -/
namespace Go.Proofs.YthalofddjlhcjaaDoor
open Go
set_option linter.unusedVariables false
set_option linter.unusedSimpArgs false
set_option maxHeartbeats 1000000

def idF : Nat → List Int → Bool
  | _, [] => true
  | k, x :: l => decide ((k : Int) = x) && idF (k + 1) l
theorem idF_snoc : ∀ (l : List Int) (k : Nat) (x : Int), idF k (l ++ [x]) = (idF k l && decide (((k + l.length : Nat) : Int) = x))
  | [], k, x => by simp [idF]
  | y :: l, k, x => by
    simp only [List.cons_append, idF, idF_snoc l (k + 1) x, List.length_cons, Bool.and_assoc]
    rw [show k + 1 + l.length = k + (l.length + 1) by omega]
def eqF (h : Int) (l : List Int) : Bool := l.all fun x => decide (x = h)
def ndF (l : List Int) : Bool := decide l.Nodup
theorem eqF_snoc (h : Int) (l : List Int) (x : Int) : eqF h (l ++ [x]) = (eqF h l && decide (x = h)) := by simp [eqF]
theorem ndF_snoc (l : List Int) (x : Int) : ndF (l ++ [x]) = (ndF l && !decide (x ∈ l)) := by
  unfold ndF
  rw [Bool.eq_iff_iff]
  simp only [decide_eq_true_eq, Bool.and_eq_true, Bool.not_eq_true', decide_eq_false_iff_not, List.nodup_append]
  simp only [List.nodup_cons, List.not_mem_nil, not_false_eq_true, List.nodup_nil, and_self, true_and, List.mem_singleton, forall_eq]
  constructor
  · rintro ⟨h1, h2⟩; exact ⟨h1, fun h => h2 x h rfl⟩
  · rintro ⟨h1, h2⟩; exact ⟨h1, fun a ha e => h2 (e ▸ ha)⟩
def mkT (t : Traits) (p c i : Bool) : Traits := ⟨true, t.perms && p, t.resets && (c || i), t.mixed && (p || c)⟩
def inclV (t : Traits) (m : List Int) : Traits := mkT t (ndF m) (eqF (m.getD 0 0) m) (idF 0 m)
theorem take1 {α : Type} {m : List α} {k : Nat} (h : k < m.length) : m.take (k + 1) = m.take k ++ [m[k]] := List.take_succ_eq_append_getElem h
theorem include_eq (t : Traits) (m : List Int) (hl : m.length ≤ 32) (hm : ∀ x ∈ m, 0 ≤ x ∧ x < 32) : cascade_traits_include t m = some (inclV t m) := by
  unfold cascade_traits_include
  refine loop_to m.length (fun k => (idF 0 (m.take k), eqF (m.getD 0 0) (m.take k), ndF (m.take k), (k : Int), (List.range 32).map fun (v : Nat) => decide ((v : Int) ∈ m.take k))) (by simp [idF, eqF, ndF]; rfl) (by simp only [LFm]; omega) (fun k hlt => ?_) ?_
  · simp only [cascade_traits_include_b3]
    have hx := hm m[k] (List.getElem_mem hlt)
    have h0 : atI m 0 = some (m.getD 0 0) := atI_D (k := 0) 0 (by omega)
    rw [take1 hlt, idF_snoc, eqF_snoc, ndF_snoc, if_pos (by omega), atI_nat hlt, Option.bind_some, wrapS (by omega), h0, List.length_take, Nat.min_eq_left (by omega)]
    obtain ⟨v, hv⟩ : ∃ v : Nat, m[k] = v := ⟨m[k].toNat, by omega⟩
    rw [hv] at hx ⊢
    have hmet : atI ((List.range 32).map fun (v : Nat) => decide ((v : Int) ∈ m.take k)) (v : Int) = some (decide ((v : Int) ∈ m.take k)) := by
      rw [atI_nat (by simp; omega)]; simp
    have hset : ((List.range 32).map fun (v : Nat) => decide ((v : Int) ∈ m.take k)).set v true = (List.range 32).map fun (u : Nat) => decide ((u : Int) ∈ m.take k ++ [(v : Int)]) := by
      apply List.ext_getElem (by simp)
      intro j h1 h2
      rw [List.getElem_set]
      by_cases e : v = j
      · subst e; simp
      · rw [if_neg e]
        have : ¬ (j : Int) = v := by omega
        simp [this]
    simp only [Int.toNat_natCast, hmet, Option.bind_some, hset, Nat.zero_add]
    generalize idF 0 (m.take k) = bi
    generalize eqF (m.getD 0 0) (m.take k) = bc
    generalize ndF (m.take k) = bp
    cases bi <;> cases bc <;> cases bp <;> simp [chk, hx]
  · simp only [cascade_traits_include_b3]
    rw [if_neg (by omega), List.take_length]
    unfold inclV
    generalize idF 0 m = bi
    generalize eqF (m.getD 0 0) m = bc
    generalize ndF m = bp
    rcases t with ⟨a, b, c, d⟩
    cases b <;> cases c <;> cases d <;> cases bi <;> cases bc <;> cases bp <;> rfl

/-! The reference's kind of one map. -/
theorem perm_loop {ρ : Type} {b : Bool × Int → Option ((Bool × Int) ⊕ ρ)} {m : List Int} {i : Nat} {v : Int} (p : Bool) (R : Bool → Option ρ) (hi : i ≤ m.length) (hl : m.length ≤ 32)
    (hb : ∀ p j, b (p, j) = if j < (i : Int) then (if p = true then (atI m j).bind fun x => nextG (!decide (x = v), IntKind.i64.wrap (j + 1)) else nextG (false, IntKind.i64.wrap (j + 1))) else exitG (R p)) :
    loopG b LFm (p, 0) = R (p && !decide (v ∈ m.take i)) := by
  refine loop_to i (fun k => (p && !decide (v ∈ m.take k), (k : Int))) (by simp) (by simp only [LFm]; omega) (fun k hlt => ?_) ?_
  · have hk : k < m.length := by omega
    rw [hb, if_pos (by omega), take1 hk, wrapS (by omega), atI_nat hk, Option.bind_some]
    generalize m[k] = x
    by_cases h1 : v ∈ m.take k
    · simp [h1]
    · by_cases h2 : x = v
      · subst h2
        cases p <;> simp [h1]
      · have h3 : ¬ v = x := fun e => h2 e.symm
        cases p <;> simp [h1, h2, h3]
  · rw [hb, if_neg (by omega)]
theorem refKind_eq (m : List Int) (hl : m.length ≤ 32) : ref26_kind m = some (ndF m, eqF (m.getD 0 0) m, idF 0 m) := by
  unfold ref26_kind
  refine loop_to m.length (fun k => (ndF (m.take k), eqF (m.getD 0 0) (m.take k), idF 0 (m.take k), (k : Int))) (by simp [idF, eqF, ndF]) (by simp only [LFm]; omega) (fun k hlt => ?_) ?_
  · simp only [ref26_kind_b3]
    have h0 : atI m 0 = some (m.getD 0 0) := atI_D (k := 0) 0 (by omega)
    rw [take1 hlt, idF_snoc, eqF_snoc, ndF_snoc, if_pos (by omega), atI_nat hlt, Option.bind_some, h0, List.length_take, Nat.min_eq_left (by omega)]
    simp only [Option.bind_some, Nat.zero_add]
    have e1 : ∀ x : Int, decide (x = (k : Int)) = decide ((k : Int) = x) := fun x => by
      by_cases h : x = (k : Int)
      · simp [h]
      · have h' : ¬ (k : Int) = x := fun e => h e.symm
        simp [h, h']
    generalize eqF (m.getD 0 0) (m.take k) = bc
    generalize idF 0 (m.take k) = bi
    generalize ndF (m.take k) = bp
    have hw := wrapS (k := k) (by omega)
    have hk : k ≤ m.length := by omega
    cases bc with
    | true =>
      rw [if_pos rfl]
      cases bi with
      | true =>
        rw [if_pos rfl, perm_loop (b := ref26_kind_b8 m (k : Int) m[k] (m.getD 0 0)) bp (fun p => nextG (p, decide (m[k] = m.getD 0 0), decide (m[k] = (k : Int)), IntKind.i64.wrap ((k : Int) + 1))) hk hl (fun p j => rfl), hw, e1]
        simp
      | false =>
        rw [if_neg (by simp), perm_loop (b := ref26_kind_b8a m (k : Int) m[k] (m.getD 0 0)) bp (fun p => nextG (p, decide (m[k] = m.getD 0 0), false, IntKind.i64.wrap ((k : Int) + 1))) hk hl (fun p j => rfl), hw]
        simp
    | false =>
      rw [if_neg (by simp)]
      cases bi with
      | true =>
        rw [if_pos rfl, perm_loop (b := ref26_kind_b8b m (k : Int) m[k]) bp (fun p => nextG (p, false, decide (m[k] = (k : Int)), IntKind.i64.wrap ((k : Int) + 1))) hk hl (fun p j => rfl), hw, e1]
        simp
      | false =>
        rw [if_neg (by simp), perm_loop (b := ref26_kind_b8c m (k : Int) m[k]) bp (fun p => nextG (p, false, false, IntKind.i64.wrap ((k : Int) + 1))) hk hl (fun p j => rfl), hw]
        simp
  · simp only [ref26_kind_b3]
    rw [if_neg (by omega), List.take_length]

/-! All components. -/
def tr0 : Traits := ⟨false, true, true, true⟩
def trRow (i : Nat) (t : Traits) (r : CRow) : Traits := if r.pre.length = i then r.maps.foldl inclV t else t
def trAt (rs : List CRow) (i : Nat) : Traits := rs.foldl (trRow i) tr0
def kindV (t : Traits) : Int := if t.some_ = true then (if t.perms = true then 1 else if t.resets = true then 2 else if t.mixed = true then 3 else 4) else 0
def kindsV (c : Casc) : List Int := if validE c = 0 then (List.range c.sizes.length).map fun i => kindV (trAt c.rows i) else []
theorem kind_eq (t : Traits) : cascade_traits_kind t = some (kindV t) := by
  rcases t with ⟨a, b, c, d⟩
  cases a <;> cases b <;> cases c <;> cases d <;> rfl
theorem set_range {α : Type} (f : Nat → α) (n p : Nat) (v : α) : ((List.range n).map f).set p v = (List.range n).map fun i => if i = p then v else f i := by
  apply List.ext_getElem (by simp)
  intro j h1 h2
  rw [List.getElem_set]
  by_cases e : p = j
  · subst e; simp
  · rw [if_neg e]
    have : ¬ j = p := fun e' => e e'.symm
    simp [this]
theorem at_range {α : Type} (f : Nat → α) {n p : Nat} (h : p < n) : atI ((List.range n).map f) (p : Int) = some (f p) := by
  rw [atI_nat (by simpa using h)]; simp
theorem kin_row {c : Casc} (hV : Valid c) {r : CRow} (hr : r ∈ c.rows) : r.pre.length < c.sizes.length ∧ r.maps.length ≤ 6 ∧ ∀ m ∈ r.maps, m.length ≤ 32 ∧ ∀ x ∈ m, 0 ≤ x ∧ x < 32 := by
  obtain ⟨i, hi, rfl⟩ := List.getElem_of_mem hr
  have h := hV.row i hi
  have hl := hV.l2
  have hz := hV.sz
  generalize c.rows[i] = r at h
  unfold rowB at h
  simp only [Bool.and_eq_true, decide_eq_true_eq, List.all_eq_true] at h
  obtain ⟨⟨⟨h1, h2⟩, h3⟩, h4⟩ := h
  have h5 := hz _ h1
  refine ⟨h1, by omega, fun m hm => ?_⟩
  have := h4 m hm
  unfold mapB at this
  simp only [Bool.and_eq_true, decide_eq_true_eq, List.all_eq_true] at this
  refine ⟨by omega, fun x hx => ?_⟩
  have := this.2 x hx
  omega
theorem foldl_take {α β : Type} (f : β → α → β) (b : β) (l : List α) {k : Nat} (h : k < l.length) : (l.take (k + 1)).foldl f b = f ((l.take k).foldl f b) l[k] := by
  rw [take1 h, List.foldl_append]; rfl
theorem Kinds_eq (c : Casc) (h : CB c) : cascade_Kinds c = some (kindsV c) := by
  unfold cascade_Kinds kindsV
  rw [Validate_eq c h]
  simp only [Option.bind_some]
  by_cases hv : validE c = 0
  case neg => rw [if_neg hv, if_neg hv]
  rw [if_pos hv, if_pos hv]
  have hV := valid_of c hv
  have s1 := hV.s1
  have r1 := hV.r1
  rw [chk_pos _ (by unfold makeOk; omega)]
  have e0 : (List.replicate (c.sizes.length : Int).toNat ((⟨false, false, false, false⟩ : Traits) : Traits)) = (List.range c.sizes.length).map fun i => if i < 0 then tr0 else ⟨false, false, false, false⟩ := by
    apply List.ext_getElem (by simp)
    intro j h1 h2
    simp
  rw [e0]
  refine loop_to c.sizes.length (fun k => ((k : Int), (List.range c.sizes.length).map fun i => if i < k then tr0 else ⟨false, false, false, false⟩)) rfl (by simp only [LFm]; omega) (fun k hk => ?_) ?_
  · simp only [cascade_Kinds_b5]
    rw [if_pos (by omega), at_range _ hk, Option.bind_some, wrapS (by omega), Int.toNat_natCast, set_range]
    congr 4
    funext i
    by_cases e : i = k
    · subst e; simp [tr0]
    · rw [if_neg e]
      by_cases e2 : i < k
      · rw [if_pos e2, if_pos (by omega)]
      · rw [if_neg e2, if_neg (by omega)]
  simp only [cascade_Kinds_b5]
  rw [if_neg (by omega)]
  congr 1
  have e1 : ((List.range c.sizes.length).map fun i => if i < c.sizes.length then tr0 else ⟨false, false, false, false⟩) = (List.range c.sizes.length).map fun i => trAt (c.rows.take 0) i := by
    apply List.ext_getElem (by simp)
    intro j h1 h2
    have : j < c.sizes.length := by simpa using h1
    simp [this, trAt]
  rw [e1]
  refine loop_to c.rows.length (fun k => ((k : Int), (List.range c.sizes.length).map fun i => trAt (c.rows.take k) i)) rfl (by simp only [LFm]; omega) (fun k hk => ?_) ?_
  · simp only [cascade_Kinds_b10]
    rw [if_pos (by omega), atI_nat hk, Option.bind_some]
    obtain ⟨q1, q2, q3⟩ := kin_row hV (List.getElem_mem hk)
    obtain ⟨f, hf⟩ : ∃ f : Nat → Traits, ∀ i, trAt (c.rows.take k) i = f i := ⟨_, fun _ => rfl⟩
    have hf' : (fun i => trAt (c.rows.take k) i) = f := funext hf
    have e2 : (fun i => trAt (c.rows.take (k + 1)) i) = fun i => trRow i (f i) c.rows[k] := by
      funext i
      rw [← hf]
      unfold trAt
      exact foldl_take _ _ _ hk
    rw [e2, hf']
    generalize c.rows[k] = r at q1 q2 q3 ⊢
    refine loop_to r.maps.length (fun j => ((j : Int), (List.range c.sizes.length).map fun i => if i = r.pre.length then (r.maps.take j).foldl inclV (f r.pre.length) else f i)) ?_ (by simp only [LFm]; omega) (fun j hj => ?_) ?_
    · simp only [List.take_zero, List.foldl_nil]
      congr 2
      funext i
      split
      · rename_i e; rw [e]
      · rfl
    · simp only [cascade_Kinds_b13]
      obtain ⟨p1, p2⟩ := q3 _ (List.getElem_mem hj)
      rw [if_pos (by omega), atI_nat hj, Option.bind_some, at_range _ q1, Option.bind_some, if_pos rfl, include_eq _ _ p1 p2, Option.bind_some, wrapS (by omega), Int.toNat_natCast, set_range, foldl_take _ _ _ hj]
      congr 4
      funext i
      by_cases e : i = r.pre.length
      · rw [if_pos e, if_pos e]
      · rw [if_neg e, if_neg e, if_neg e]
    · simp only [cascade_Kinds_b13]
      rw [if_neg (by omega), wrapS (by omega), List.take_length]
      congr 4
      funext i
      unfold trRow
      by_cases e : i = r.pre.length
      · subst e; simp
      · rw [if_neg e, if_neg (fun e' => e e'.symm)]
  simp only [cascade_Kinds_b10]
  rw [if_neg (by omega), chk_pos _ (by unfold makeOk; simp; omega), List.take_length]
  congr 1
  obtain ⟨f, hf⟩ : ∃ f : Nat → Traits, ∀ i, trAt c.rows i = f i := ⟨_, fun _ => rfl⟩
  simp only [hf]
  have e3 : (List.replicate (((List.range c.sizes.length).map f).length : Int).toNat (0 : Int)) = (List.range c.sizes.length).map fun i => if i < 0 then kindV (f i) else 0 := by
    apply List.ext_getElem (by simp)
    intro j h1 h2
    simp
  rw [e3]
  refine loop_to c.sizes.length (fun k => ((k : Int), (List.range c.sizes.length).map fun i => if i < k then kindV (f i) else 0)) rfl (by simp only [LFm]; omega) (fun k hk => ?_) ?_
  · simp only [cascade_Kinds_b20]
    rw [if_pos (by simp; omega), at_range _ hk, Option.bind_some, kind_eq, Option.bind_some, at_range _ hk, Option.bind_some, wrapS (by omega), Int.toNat_natCast, set_range]
    congr 4
    funext i
    by_cases e : i = k
    · subst e; simp
    · rw [if_neg e]
      by_cases e2 : i < k
      · rw [if_pos e2, if_pos (by omega)]
      · rw [if_neg e2, if_neg (by omega)]
  simp only [cascade_Kinds_b20]
  rw [if_neg (by simp)]
  congr 2
  apply List.ext_getElem (by simp)
  intro j h1 h2
  have : j < c.sizes.length := by simpa using h1
  simp [this]
def tt5 (t : Traits) (k : Int) : Bool × Bool × Bool × Bool × Int := (t.some_, t.perms, t.resets, t.mixed, k)
theorem refKinds_eq (c : Casc) (h : CB c) : ref26_Kinds c = some (kindsV c) := by
  unfold ref26_Kinds kindsV
  rw [refValidate_eq c h]
  simp only [Option.bind_some]
  by_cases hv : validE c = 0
  case neg => rw [if_neg hv, if_neg hv]
  rw [if_pos hv, if_pos hv]
  have hV := valid_of c hv
  have s1 := hV.s1
  have r1 := hV.r1
  refine loop_to c.sizes.length (fun k => ((k : Int), (List.range k).map fun i => kindV (trAt c.rows i))) rfl (by simp only [LFm]; omega) (fun k hk => ?_) ?_
  case refine_2 =>
    simp only [ref26_Kinds_b5]
    rw [if_neg (by omega)]
  simp only [ref26_Kinds_b5]
  rw [if_pos (by omega), List.range_succ, List.map_append]
  have hlen : ((List.range k).map fun i => kindV (trAt c.rows i)).length = k := by simp
  generalize ((List.range k).map fun i => kindV (trAt c.rows i)) = out at hlen
  refine loop_to c.rows.length (fun j => tt5 (trAt (c.rows.take j) k) (j : Int)) rfl (by simp only [LFm]; omega) (fun j hj => ?_) ?_
  · simp only [tt5]; simp only [ref26_Kinds_b9]
    rw [if_pos (show (j : Int) < (c.rows.length : Int) by omega), atI_nat hj, Option.bind_some]
    obtain ⟨q1, q2, q3⟩ := kin_row hV (List.getElem_mem hj)
    have e2 : trAt (c.rows.take (j + 1)) k = trRow k (trAt (c.rows.take j) k) c.rows[j] := foldl_take _ _ _ hj
    rw [e2]
    generalize c.rows[j] = r at q1 q2 q3 ⊢
    generalize trAt (c.rows.take j) k = t
    have hfin : ∀ t' : Traits, (nextG (t'.some_, t'.perms, t'.resets, t'.mixed, ((j + 1 : Nat) : Int)) : Option ((Bool × Bool × Bool × Bool × Int) ⊕ ((Int × List Int) ⊕ List Int))) = nextG (tt5 t' ((j + 1 : Nat) : Int)) := fun _ => rfl
    by_cases e : r.pre.length = k
    · refine loop_to r.maps.length (fun i => tt5 ((r.maps.take i).foldl inclV t) (i : Int)) rfl (by simp only [LFm]; omega) (fun i hi => ?_) ?_
      · simp only [tt5]; simp only [ref26_Kinds_b12]
        obtain ⟨p1, p2⟩ := q3 _ (List.getElem_mem hi)
        rw [if_pos (by omega), atI_nat hi, Option.bind_some, if_pos (by omega), refKind_eq _ p1, Option.bind_some, wrapS (by omega), foldl_take _ _ _ hi]
        generalize (r.maps.take i).foldl inclV t = t'
        unfold inclV
        generalize ndF r.maps[i] = bp
        generalize eqF (r.maps[i].getD 0 0) r.maps[i] = bc
        generalize idF 0 r.maps[i] = bi
        rcases t' with ⟨a, b, c, d⟩
        cases b <;> cases c <;> cases d <;> cases bi <;> cases bc <;> cases bp <;> rfl
      · simp only [tt5]; simp only [ref26_Kinds_b12]
        rw [if_neg (by omega), wrapS (by omega), List.take_length]
        unfold trRow
        rw [if_pos e]
    · refine loop_to r.maps.length (fun i => tt5 t (i : Int)) rfl (by simp only [LFm]; omega) (fun i hi => ?_) ?_
      · simp only [tt5]; simp only [ref26_Kinds_b12]
        rw [if_pos (by omega), atI_nat hi, Option.bind_some, if_neg (by omega), wrapS (by omega)]
      · simp only [tt5]; simp only [ref26_Kinds_b12]
        rw [if_neg (by omega), wrapS (by omega)]
        unfold trRow
        rw [if_neg e]
  · simp only [tt5]; simp only [ref26_Kinds_b9]
    rw [if_neg (show ¬ (c.rows.length : Int) < (c.rows.length : Int) by omega), List.take_length, wrapS (by omega)]
    simp only [List.map_cons, List.map_nil]
    generalize trAt c.rows k = t
    rcases t with ⟨a, b, c', d⟩
    have hc : capOk 8 (out.length + 1) := by unfold capOk; omega
    cases a <;> cases b <;> cases c' <;> cases d <;> simp [kindV, chk_pos _ hc]
end Go.Proofs.YthalofddjlhcjaaDoor
end
section
/- Plain: the reference's Format. -/
namespace Go.Proofs.YthalofddjlhcjaaDoor
open Go
set_option linter.unusedVariables false
set_option linter.unusedSimpArgs false

theorem bytesOf_append (a b : List Int) : bytesOf (a ++ b) = bytesOf a ++ bytesOf b := by
  unfold bytesOf
  apply ByteArray.ext
  simp
theorem bytesOf_len (a : List Int) : (bytesOf a).size = a.length := by simp [bytesOf]
theorem catOk_of {a b : List Int} (h : a.length + b.length < 100000000) : catOk (bytesOf a) (bytesOf b) := by
  unfold catOk; rw [bytesOf_len, bytesOf_len]; omega
/-- One number of the reference's text. -/
theorem ref_num (t : List Int) (x : Int) (hx : 0 ≤ x ∧ x < 100) (ht : t.length < 10000000) {α : Type} (K : ByteArray → Option α) :
    ((ref26_digits 12 x).bind fun v => chk (catOk ⟨#[32]⟩ v) (chk (catOk (bytesOf t) (⟨#[32]⟩ ++ v)) (K (bytesOf t ++ (⟨#[32]⟩ ++ v))))) = K (bytesOf (t ++ (32 :: digL x))) := by
  have h1 := digL_len x
  have e0 : (⟨#[32]⟩ : ByteArray) = bytesOf [32] := rfl
  rw [digits_eq x hx.1 hx.2]
  simp only [Option.bind_some]
  rw [e0, ← bytesOf_append, ← bytesOf_append, chk_pos _ (catOk_of (by simp only [List.length_singleton]; omega)), chk_pos _ (catOk_of (by simp only [List.length_append, List.length_singleton]; omega))]
  rfl
theorem ref_map {m : List Int} (hx : ∀ x ∈ m, 0 ≤ x ∧ x < 100) (hl : m.length ≤ 32) (w : Int) (t : List Int) (ht : t.length ≤ 2000000) : loopG (ref26_Format_b25 w m) LFm (bytesOf t, 0) = nextG (bytesOf (t ++ numsT m), IntKind.i64.wrap (w + 1)) := by
  refine loop_to (x := _) m.length (fun k => (bytesOf (t ++ numsT (m.take k)), (k : Int))) (by simp [numsT]) (by simp only [LFm]; omega) (fun k hk => ?_) ?_
  · have hm := hx _ (getD_mem 0 hk)
    have hn := numsT_len (m.take k)
    rw [List.length_take] at hn
    simp only [ref26_Format_b25]
    rw [if_pos (by omega), atI_D 0 hk]
    simp only [Option.bind_some]
    rw [ref_num _ _ hm (by simp only [List.length_append]; omega) (fun v => nextG (v, IntKind.i64.wrap ((k : Int) + 1)))]
    rw [wrapS (by omega), numsT_snoc m k hk]
    simp
  · simp only [ref26_Format_b25]
    rw [if_neg (by omega), List.take_length]
theorem ref_maps {r : CRow} (h : SmR r) (w : Int) (t : List Int) (ht : t.length ≤ 1900000) : loopG (ref26_Format_b21 w r) LFm (bytesOf t, 0) = if 1048576 < (t ++ mapsT r.maps).length + 1 then exitG (some (ByteArray.empty, 3)) else nextG (bytesOf (t ++ mapsT r.maps ++ [10]), IntKind.i64.wrap (w + 1)) := by
  have hm := h.m1
  have hL := mapsT_len r.maps fun m hm => (h.m2 m hm).1
  refine loop_to (x := _) r.maps.length (fun k => (bytesOf (t ++ mapsT (r.maps.take k)), (k : Int))) (by simp [mapsT]) (by simp only [LFm]; omega) (fun k hk => ?_) ?_
  · have hx := h.m2 _ (getD_mem [] hk)
    have hl := mapsT_len (r.maps.take k) fun m hm => (h.m2 m (List.mem_of_mem_take hm)).1
    rw [List.length_take] at hl
    simp only [ref26_Format_b21]
    rw [if_pos (by omega), atI_D [] hk]
    rw [Option.bind_some]
    have e0 : (⟨#[32, 59]⟩ : ByteArray) = bytesOf [32, 59] := rfl
    rw [e0, chk_pos _ (catOk_of (by simp only [List.length_append, List.length_cons, List.length_nil]; omega)), ← bytesOf_append]
    rw [ref_map hx.2 hx.1 _ _ (by simp only [List.length_append, List.length_cons, List.length_nil]; omega)]
    rw [wrapS (by omega), mapsT_snoc _ k hk]
    simp
  · simp only [ref26_Format_b21]
    rw [if_neg (by omega), List.take_length]
    have e0 : (⟨#[10]⟩ : ByteArray) = bytesOf [10] := rfl
    rw [e0, chk_pos _ (catOk_of (by simp only [List.length_append, List.length_cons, List.length_nil]; omega)), ← bytesOf_append, bytesOf_len]
    simp only [List.length_append, List.length_singleton] at hL ⊢
    by_cases hc : 1048576 < t.length + (mapsT r.maps).length + 1
    · rw [if_pos (by omega), if_pos hc]
    · rw [if_neg (by omega), if_neg hc]
theorem ref_pre {r : CRow} (h : SmR r) (w : Int) (t : List Int) (ht : t.length ≤ 1800000) : loopG (ref26_Format_b16 w r) LFm (bytesOf t, 0) = loopG (ref26_Format_b21 w r) LFm (bytesOf (t ++ numsT r.pre), 0) := by
  have hm := h.p1
  cases hE : loopG (ref26_Format_b21 w r) LFm (bytesOf (t ++ numsT r.pre), 0) with
  | _ =>
    rw [← hE]
    refine loop_to (x := loopG (ref26_Format_b21 w r) LFm (bytesOf (t ++ numsT r.pre), 0)) r.pre.length (fun k => (bytesOf (t ++ numsT (r.pre.take k)), (k : Int))) (by simp [numsT]) (by simp only [LFm]; omega) (fun k hk => ?_) ?_
    · have hx := h.p2 _ (getD_mem 0 hk)
      have hn := numsT_len (r.pre.take k)
      rw [List.length_take] at hn
      simp only [ref26_Format_b16]
      rw [if_pos (by omega), atI_D 0 hk]
      simp only [Option.bind_some]
      rw [ref_num _ _ hx (by simp only [List.length_append]; omega) (fun v => nextG (v, IntKind.i64.wrap ((k : Int) + 1)))]
      rw [wrapS (by omega), numsT_snoc _ k hk]
      simp
    · simp only [ref26_Format_b16]
      rw [if_neg (by omega), List.take_length]
theorem ref_rows {c : Casc} (hV : Valid c) (t0 : List Int) (h0 : t0.length ≤ 1100000) : loopG (ref26_Format_b12 c) LFm (bytesOf t0, 0) = some (match fmtRows c.rows t0 with | some t => (bytesOf t, 0) | none => (ByteArray.empty, 3)) := by
  have hr := hV.r1
  refine loopG_eq (fun s => ∃ k : Nat, ∃ t : List Int, k ≤ c.rows.length ∧ s = (bytesOf t, (k : Int)) ∧ t.length ≤ 1100000 ∧ fmtRows (c.rows.drop k) t = fmtRows c.rows t0) (fun s => c.rows.length - s.2.toNat) ⟨0, t0, by omega, rfl, h0, rfl⟩ (by simp only [LFm]; omega) ?_
  rintro _ ⟨k, t, hk, rfl, ht, he⟩
  simp only [ref26_Format_b12]
  by_cases hlt : k < c.rows.length
  · have hS := smR_of hV (List.getElem_mem hlt)
    have hp := numsT_len c.rows[k].pre
    have hp1 := hS.p1
    have hR := rowT_len hS
    rw [List.drop_eq_getElem_cons hlt] at he
    simp only [fmtRows] at he
    have e0 : (⟨#[114, 111, 119]⟩ : ByteArray) = bytesOf [114, 111, 119] := rfl
    rw [if_pos (by omega), atI_nat hlt]
    rw [Option.bind_some]
    rw [e0, chk_pos _ (catOk_of (by simp only [List.length_cons, List.length_nil]; omega)), ← bytesOf_append]
    rw [ref_pre hS _ _ (by simp only [List.length_append, List.length_cons, List.length_nil]; omega), ref_maps hS _ _ (by simp only [List.length_append, List.length_cons, List.length_nil]; omega)]
    have e1 : t ++ [114, 111, 119] ++ numsT c.rows[k].pre ++ mapsT c.rows[k].maps ++ [10] = t ++ rowT c.rows[k] := by simp [rowT]
    have e2 : (t ++ [114, 111, 119] ++ numsT c.rows[k].pre ++ mapsT c.rows[k].maps).length + 1 = (t ++ rowT c.rows[k]).length := by rw [← e1]; simp; omega
    rw [e1, e2]
    by_cases hc : 1048576 < (t ++ rowT c.rows[k]).length
    · rw [if_pos hc] at he ⊢
      right
      rw [← he]
    · rw [if_neg hc] at he ⊢
      left
      refine ⟨_, rfl, ⟨k + 1, _, by omega, by rw [wrapS (by omega)], by omega, he⟩, ?_⟩
      simp only
      rw [wrapS (by omega)]
      omega
  · right
    have : k = c.rows.length := by omega
    subst this
    rw [List.drop_length] at he
    simp only [fmtRows] at he
    rw [if_neg (by omega), ← he]
theorem refFormat_eq (c : Casc) (h : CB c) : ref26_Format c = some (fmtV c) := by
  unfold ref26_Format fmtV
  rw [refValidate_eq c h]
  simp only [Option.bind_some]
  by_cases hv : validE c = 0
  case neg => rw [if_neg hv, if_neg hv]
  rw [if_pos hv, if_pos hv]
  have hV := valid_of c hv
  have l1 := hV.l1
  have l2 := hV.l2
  have s1 := hV.s1
  have hl := headT_len hV
  have hz : ∀ x ∈ c.sizes, 0 ≤ x ∧ x < 100 := fun x hx => by
    obtain ⟨j, hj, rfl⟩ := List.getElem_of_mem hx
    have := hV.sz j hj
    rw [show c.sizes.getD j 0 = c.sizes[j] by simp [List.getD, List.getElem?_eq_getElem hj]] at this
    omega
  have hd := digL_len c.letters
  have e0 : (⟨#[99, 97, 115, 99, 97, 100, 101, 32]⟩ : ByteArray) = bytesOf [99, 97, 115, 99, 97, 100, 101, 32] := rfl
  rw [digits_eq _ (by omega) (by omega)]
  simp only [Option.bind_some]
  rw [e0, chk_pos _ (catOk_of (by simp only [List.length_cons, List.length_nil]; omega)), ← bytesOf_append]
  have e1 : [99, 97, 115, 99, 97, 100, 101, 32] ++ digL c.letters = [99, 97, 115, 99, 97, 100, 101] ++ numsT [c.letters] := by simp [numsT]
  rw [e1]
  refine loop_to (x := some (fmtR c)) c.sizes.length (fun k => (bytesOf ([99, 97, 115, 99, 97, 100, 101] ++ numsT [c.letters] ++ numsT (c.sizes.take k)), (k : Int))) (by simp [numsT]) (by simp only [LFm]; omega) (fun k hk => ?_) ?_
  · have hx := hz _ (getD_mem 0 hk)
    have hn := numsT_len (c.sizes.take k)
    have hn2 := numsT_len [c.letters]
    rw [List.length_take] at hn
    simp only [ref26_Format_b6]
    rw [if_pos (by omega), atI_D 0 hk]
    simp only [Option.bind_some]
    rw [ref_num _ _ hx (by simp only [List.length_append, List.length_cons, List.length_nil] at hn2 ⊢; omega) (fun v => nextG (v, IntKind.i64.wrap ((k : Int) + 1)))]
    rw [wrapS (by omega), numsT_snoc _ k hk]
    simp
  · simp only [ref26_Format_b6]
    have e2 : (⟨#[10]⟩ : ByteArray) = bytesOf [10] := rfl
    have e3 : [99, 97, 115, 99, 97, 100, 101] ++ numsT [c.letters] ++ numsT c.sizes ++ [10] = headT c := rfl
    have hh : ([99, 97, 115, 99, 97, 100, 101] ++ numsT [c.letters] ++ numsT c.sizes).length + 1 = (headT c).length := by rw [← e3]; simp; omega
    rw [if_neg (by omega), List.take_length, e2, chk_pos _ (catOk_of (by simp only [List.length_singleton]; omega)), ← bytesOf_append, e3, ref_rows hV _ (by omega)]
    rfl
end Go.Proofs.YthalofddjlhcjaaDoor
end
section
/- Plain: the tape. -/
namespace Go.Proofs.YthalofddjlhcjaaDoor
open Go
set_option linter.unusedVariables false
set_option linter.unusedSimpArgs false

/-- A tape at a place of it. -/
structure TapeOk (t : Tape) : Prop where
  a0 : 0 ≤ t.at_
  a1 : t.at_ ≤ t.l.length
  a2 : t.l.length ≤ 80
theorem made_Mod_in (x n : Int) (h1 : 1 ≤ n) (h2 : n < 4611686018427387904) : ∃ v, made_Mod x n = some v ∧ 0 ≤ v ∧ v < n := by
  have hx : x.tmod n < n := Int.tmod_lt_of_pos _ (by omega)
  have hy : -n < x.tmod n := Int.lt_tmod_of_pos x (by omega)
  unfold made_Mod
  rw [if_neg (by omega), chk_pos _ (by omega)]
  split
  · rw [wrapI (by omega) (by omega)]; exact ⟨_, rfl, by omega, by omega⟩
  · exact ⟨_, rfl, by omega, by omega⟩
theorem next_in {t : Tape} (ht : TapeOk t) (n : Int) (h1 : 1 ≤ n) (h2 : n < 4611686018427387904) : ∃ v t', made_Tape_Next t n = some (v, t') ∧ 0 ≤ v ∧ v < n ∧ TapeOk t' := by
  obtain ⟨a0, a1, a2⟩ := ht
  unfold made_Tape_Next
  split
  · exact ⟨_, _, rfl, by omega, by omega, a0, a1, a2⟩
  · rename_i hlt
    rw [wrapI (x := t.at_ + 1) (by omega) (by omega), wrapI (by omega) (by omega)]
    obtain ⟨k, hk⟩ := Int.eq_ofNat_of_zero_le a0
    have e : t.at_ + 1 - 1 = (k : Int) := by omega
    rw [e, atI_nat (by omega)]
    obtain ⟨v, hv, h3, h4⟩ := made_Mod_in t.l[k] n h1 h2
    simp only [Option.bind_some, hv]
    exact ⟨_, _, rfl, h3, h4, by simp only; omega, by simp only; omega, a2⟩
theorem new_in (l : List Int) : ∃ t, made_New l = some t ∧ TapeOk t := by
  unfold made_New
  split
  · rename_i h
    have := pieceL_to (xs := l) (k := 80) (by omega)
    simp only [Int.cast_ofNat_Int] at this
    rw [this]
    exact ⟨_, rfl, by simp, by simp, by simp only [List.length_take]; omega⟩
  · exact ⟨_, rfl, by simp, by simp, by simp; omega⟩
/-- Letters of a word. -/
def lettersB (m : Int) (w : ByteArray) : Prop := ∀ k, ∀ h : k < w.size, 97 ≤ (w[k].toNat : Int) ∧ (w[k].toNat : Int) < 97 + m
theorem bytesOf_size (l : List Int) : (bytesOf l).size = l.length := by simp [bytesOf, ByteArray.size]
theorem bytesOf_get (l : List Int) (k : Nat) (h : k < (bytesOf l).size) : (bytesOf l)[k] = UInt8.ofNat (l[k]'(by rw [bytesOf_size] at h; exact h)).toNat := by
  simp [bytesOf, ByteArray.getElem_eq_getElem_data]
theorem word_in {t : Tape} (ht : TapeOk t) (m most : Int) (hm : 1 ≤ m ∧ m ≤ 26) (hk : 0 ≤ most ∧ most < 1000) : ∃ w t', made_Tape_Word t m most = some (w, t') ∧ lettersB m w ∧ (w.size : Int) ≤ most ∧ TapeOk t' := by
  unfold made_Tape_Word
  rw [wrapI (by omega) (by omega)]
  obtain ⟨n, t1, e1, n0, n1, ht1⟩ := next_in ht (most + 1) (by omega) (by omega)
  simp only [e1, Option.bind_some]
  refine Exists.elim (loopG_rule (b := made_Tape_Word_b3 m) (fun s => 0 ≤ s.1 ∧ s.1 + s.2.2.2.length = n ∧ TapeOk ⟨s.2.1, s.2.2.1⟩ ∧ ∀ x ∈ s.2.2.2, 97 ≤ x ∧ x < 97 + m) (fun s => s.1.toNat) (fun r => lettersB m r.1 ∧ (r.1.size : Int) ≤ most ∧ TapeOk r.2) ?_ LFm (n, t1.l, t1.at_, []) ⟨n0, by simp, ht1, by simp⟩ (by simp only [LFm]; omega)) fun r h => ⟨r.1, r.2, h⟩
  rintro ⟨q, l, a, b⟩ ⟨i1, i2, i3, i4⟩
  simp only at i1 i2 i3 i4 ⊢
  simp only [made_Tape_Word_b3]
  by_cases hq : 0 < q
  · left
    obtain ⟨v, t2, e2, v0, v1, ht2⟩ := next_in i3 m (by omega) (by omega)
    rw [if_pos hq, e2]
    simp only [Option.bind_some]
    rw [chk_pos _ (by unfold capOk; omega), wrapI (x := q - 1) (by omega) (by omega), wrapI (x := 97 + v) (by omega) (by omega), wrap8 (by omega) (by omega)]
    refine ⟨_, rfl, ⟨by simp only; omega, by simp only [List.length_append, List.length_singleton]; omega, ht2, ?_⟩, by simp only; omega⟩
    intro x hx
    rcases List.mem_append.1 hx with h | h
    · exact i4 x h
    · have : x = 97 + v := by simpa using h
      omega
  · right
    rw [if_neg hq]
    refine ⟨_, rfl, fun k hk => ?_, by rw [bytesOf_size]; omega, i3⟩
    rw [bytesOf_get]
    have := i4 _ (List.getElem_mem (by rw [bytesOf_size] at hk; exact hk))
    generalize b[k]'_ = z at this
    simp only [UInt8.toNat_ofNat']
    omega
end Go.Proofs.YthalofddjlhcjaaDoor
end
section
/- Plain: steps and the flat form. -/
namespace Go.Proofs.YthalofddjlhcjaaDoor
open Go
set_option linter.unusedVariables false
set_option linter.unusedSimpArgs false

theorem rowIx_findI (c : Casc) (p : List Int) : findI (fun r => decide (r.pre = p)) c.rows = match rowIx c p with | some k => (k : Int) | none => -1 := rfl
/-- A cascade within bounds: what the proofs ask of its size. -/
theorem CB.of {c : Casc} (hv : Valid c) : CB c := by
  have h1 := hv.s1
  have h2 := hv.r1
  refine ⟨by omega, by omega, fun r hr => ?_⟩
  obtain ⟨i, hi, rfl⟩ := List.getElem_of_mem hr
  obtain ⟨f1, f2, f3, f4⟩ := rowB_facts (hv.row i hi)
  have h3 := hv.l2
  refine ⟨by omega, by omega, fun m hm => ?_⟩
  obtain ⟨j, hj, rfl⟩ := List.getElem_of_mem hm
  obtain ⟨g1, -⟩ := f4 j hj
  rw [getD_of_lt _ hj, getD_of_lt _ f1] at g1
  have := hv.sz _ f1
  rw [getD_of_lt _ f1] at this
  omega
theorem Runner_Step_eq (c : Casc) (hv : Valid c) (x : List Int) (l : Int) (hx : x.length < 4611686018427387904) : cascade_Runner_Step ⟨c⟩ x l = some (stepG c x l) := by
  have hcb := CB.of hv
  unfold cascade_Runner_Step stepG
  rw [isTuple_eq _ _ hx]
  simp only [Option.bind_some]
  by_cases ht : tupB c.sizes x = true
  case neg => rw [if_neg ht, if_neg (fun h => ht h.1)]
  rw [if_pos ht]
  by_cases h0 : l < 0
  · rw [if_pos h0, if_neg (by omega)]
  rw [if_neg h0]
  by_cases h1 : c.letters ≤ l
  · rw [if_pos h1, if_neg (by omega)]
  rw [if_neg h1, if_pos ⟨ht, by omega, by omega⟩]
  have hlen : x.length = c.sizes.length ∧ inB c.sizes x = true := by simpa [tupB] using ht
  have hs1 := hv.s1
  rw [chk_pos _ (by unfold makeOk; omega)]
  obtain ⟨n, rfl⟩ := Int.eq_ofNat_of_zero_le (show 0 ≤ l by omega)
  have hlt : (n : Int) < c.letters := by omega
  rw [loop_find (n := x.length) (fun k => ((k : Int), (stV c x n).take k ++ List.replicate (x.length - k) 0)) (fun k => !hasB c.rows (x.take k)) (fun _ => some ([], 23)) (x := some (stV c x n, 0)) (by simp) (by simp only [LFm]; omega)]
  · rw [find_all]
    simp only [Bool.not_not, Int.toNat_natCast]
    unfold stOk
    split <;> rfl
  · intro k hk
    simp only [cascade_Runner_Step_b5]
    rw [if_pos (by omega), atI_nat hk, pieceL_to (by omega)]
    simp only [Option.bind_some]
    rw [Search_eq _ _ hv.up (by exact hv.r1) (fun r hr => (hcb.row r hr).1)]
    simp only [Option.bind_some]
    cases hh : hasB c.rows (x.take k) with
    | false => simp
    | true =>
      obtain ⟨low, s, k1, k2, k3, e1, e2, e3⟩ := step_cell hv ht hlt hk hh
      rw [e1, e2, atI_nat k1]
      simp only [Option.bind_some, if_true]
      rw [atI_nat k2]
      simp only [Option.bind_some]
      rw [atI_nat k3]
      simp only [Option.bind_some]
      have hy : k < ((stV c x n).take k ++ List.replicate (x.length - k) 0).length := by simp [stV_length]; omega
      rw [atI_nat hy, wrapS (by omega)]
      simp only [Option.bind_some, Bool.not_true, Bool.false_eq_true, if_false]
      congr 2
      have hvv : (stV c x n)[k]? = some (stVal c x n k) := stV_get c x n k hk
      have hl := stV_length c x n
      rw [Int.toNat_natCast, ← e3, List.set_append_right _ _ (by simp; omega)]
      have e : k - (List.take k (stV c x n)).length = 0 := by simp; omega
      rw [e, List.take_add_one, hvv]
      obtain ⟨m, hm⟩ : ∃ m, x.length - k = m + 1 := ⟨x.length - k - 1, by omega⟩
      rw [hm, show x.length - (k + 1) = m by omega]
      simp [List.replicate_succ]
  · simp only [cascade_Runner_Step_b5]
    rw [if_neg (by omega)]
    simp [List.take_of_length_le (Nat.le_of_eq (stV_length c x n))]
theorem step_eq (c : Casc) (hv : Valid c) (x : List Int) (l : Int) (ht : tupB c.sizes x = true) (h0 : 0 ≤ l) (h1 : l < c.letters) : ref26_step c x l = some (stepG c x l) := by
  have hcb := CB.of hv
  have hlen : x.length = c.sizes.length ∧ inB c.sizes x = true := by simpa [tupB] using ht
  have hs1 := hv.s1
  unfold ref26_step stepG
  rw [if_pos ⟨ht, h0, h1⟩]
  obtain ⟨n, rfl⟩ := Int.eq_ofNat_of_zero_le h0
  rw [loop_find (n := x.length) (fun k => ((k : Int), (stV c x n).take k)) (fun k => !hasB c.rows (x.take k)) (fun _ => some ([], 23)) (x := some (stV c x n, 0)) (by simp) (by simp only [LFm]; omega)]
  · rw [find_all]
    simp only [Bool.not_not, Int.toNat_natCast]
    unfold stOk
    split <;> rfl
  · intro k hk
    simp only [ref26_step_b3]
    rw [if_pos (by omega), pieceL_to (by omega)]
    simp only [Option.bind_some]
    rw [Row_eq _ _ hcb, rowIx_findI]
    simp only [Option.bind_some]
    cases hh : hasB c.rows (x.take k) with
    | false => rw [rowIx_none hh]; simp
    | true =>
      obtain ⟨low, s, k1, k2, k3, e1, e2, e3⟩ := step_cell hv ht h1 hk hh
      rw [rowIx_has hv.up hh, e1]
      simp only
      rw [if_neg (by omega), atI_nat k1]
      simp only [Option.bind_some]
      rw [atI_nat k2]
      simp only [Option.bind_some]
      rw [atI_nat hk]
      simp only [Option.bind_some]
      rw [e2, atI_nat k3]
      simp only [Option.bind_some]
      have hl := stV_length c x n
      rw [chk_pos _ (by unfold capOk; simp; omega), wrapS (by omega)]
      simp only [Bool.not_true, Bool.false_eq_true, if_false]
      have hvv : (stV c x n)[k]? = some (stVal c x n k) := stV_get c x n k hk
      rw [List.take_add_one, hvv, e3]
      rfl
  · simp only [ref26_step_b3]
    rw [if_neg (by omega)]
    simp [List.take_of_length_le (Nat.le_of_eq (stV_length c x n))]
end Go.Proofs.YthalofddjlhcjaaDoor
end
section
/- Plain: the flat form of the program is that of the reference. -/
namespace Go.Proofs.YthalofddjlhcjaaDoor
open Go
set_option linter.unusedVariables false
set_option linter.unusedSimpArgs false

/-- A tuple's text. -/
def tupKey (xs : List Int) : ByteArray := bytesOf (xs.map IntKind.u8.wrap)
theorem key_eq (xs : List Int) (h : xs.length < 140737488355328) : cascade_key xs = some (tupKey xs) := by
  unfold cascade_key
  rw [chk_pos _ (by unfold makeOk; omega)]
  rw [loop_to xs.length (fun k => ((k : Int), (xs.map IntKind.u8.wrap).take k ++ List.replicate (xs.length - k) 0)) (by simp) (by simp only [LFm]; omega) (x := some (tupKey xs))]
  · intro k hk
    simp only [cascade_key_b3]
    have hy : k < ((xs.map IntKind.u8.wrap).take k ++ List.replicate (xs.length - k) 0).length := by simp; omega
    rw [if_pos (by omega), atI_nat hk, wrapS (by omega)]
    simp only [Option.bind_some]
    rw [atI_nat hy]
    simp only [Option.bind_some]
    congr 2
    rw [Int.toNat_natCast, List.set_append_right _ _ (by simp; omega)]
    have e : k - (List.take k (xs.map IntKind.u8.wrap)).length = 0 := by simp; omega
    rw [e, List.take_add_one, List.getElem?_eq_getElem (by simpa using hk)]
    obtain ⟨m, hm⟩ : ∃ m, xs.length - k = m + 1 := ⟨xs.length - k - 1, by omega⟩
    rw [hm, show xs.length - (k + 1) = m by omega]
    simp [List.replicate_succ]
  · simp only [cascade_key_b3]
    rw [if_neg (by omega), List.take_of_length_le (by simp)]
    simp [tupKey]
theorem tupKey_inj {sizes : List Int} (hz : ∀ i, i < sizes.length → sizes.getD i 0 ≤ 32) {x y : List Int} (hx : tupB sizes x = true) (hy : tupB sizes y = true) (h : tupKey x = tupKey y) : x = y := by
  have h1 : x.length = sizes.length ∧ inB sizes x = true := by simpa [tupB] using hx
  have h2 : y.length = sizes.length ∧ inB sizes y = true := by simpa [tupB] using hy
  apply list_ext_getD (by omega)
  intro i hi
  have a := (inB_iff sizes x (by omega)).1 h1.2 i hi
  have b := (inB_iff sizes y (by omega)).1 h2.2 i (by omega)
  have c := hz i (by omega)
  have e : (bytesOf (x.map IntKind.u8.wrap)).data.toList = (bytesOf (y.map IntKind.u8.wrap)).data.toList := by unfold tupKey at h; rw [h]
  simp only [bytesOf, List.map_map] at e
  have e2 := congrArg (fun l : List UInt8 => l[i]?) e
  rw [getD_of_lt 0 hi] at a ⊢
  rw [getD_of_lt 0 (show i < y.length by omega)] at b ⊢
  simp only [List.getElem?_map, List.getElem?_eq_getElem hi, List.getElem?_eq_getElem (show i < y.length by omega), Option.map_some, Option.some.injEq, Function.comp] at e2
  rw [wrap8 (by omega) (by omega), wrap8 (by omega) (by omega)] at e2
  have e3 := congrArg UInt8.toNat e2
  simp only [UInt8.toNat_ofNat'] at e3
  omega
def tupIx (ts : List (List Int)) (y : List Int) : Option Nat := ts.findIdx? fun z => decide (y = z)
theorem tupIx_lt {ts : List (List Int)} {y : List Int} {k : Nat} (h : tupIx ts y = some k) : k < ts.length := by
  unfold tupIx at h
  rw [List.findIdx?_eq_some_iff_getElem] at h
  exact h.1
/-- The numbers of the texts of tuples. -/
def tabF (i : Nat) : List (List Int) → List (ByteArray × Int)
  | [] => []
  | t :: ts => (tupKey t, (i : Int)) :: tabF (i + 1) ts
theorem tabF_get {sizes : List Int} (hz : ∀ i, i < sizes.length → sizes.getD i 0 ≤ 32) {y : List Int} (hy : tupB sizes y = true) : ∀ (ts : List (List Int)) (i : Nat), (∀ t ∈ ts, tupB sizes t = true) → getM (tupKey y) (tabF i ts) = (tupIx ts y).map fun k => ((i + k : Nat) : Int)
  | [], i, _ => rfl
  | t :: ts, i, h => by
    have ih := tabF_get hz hy ts (i + 1) (fun u hu => h u (by simp [hu]))
    simp only [tabF, getM, tupIx, List.findIdx?_cons]
    by_cases e : y = t
    · subst e; simp
    · have : ¬ tupKey t = tupKey y := fun hh => e (tupKey_inj hz (h t (by simp)) hy hh).symm
      rw [if_neg this, decide_eq_false e]
      simp only [ih, tupIx, Bool.false_eq_true, if_false, Option.map_map]
      congr 1
      funext k
      simp only [Function.comp]
      omega
theorem tabF_set {sizes : List Int} (hz : ∀ i, i < sizes.length → sizes.getD i 0 ≤ 32) {y : List Int} (hy : tupB sizes y = true) : ∀ (ts : List (List Int)) (i : Nat), (∀ t ∈ ts, tupB sizes t = true) → tupIx ts y = none → setM (tupKey y) ((i + ts.length : Nat) : Int) (tabF i ts) = tabF i (ts ++ [y])
  | [], i, _, _ => rfl
  | t :: ts, i, h, hn => by
    have hn2 : tupIx ts y = none ∧ ¬ y = t := by
      unfold tupIx at hn ⊢
      rw [List.findIdx?_eq_none_iff] at hn ⊢
      refine ⟨fun x hx => hn x (by simp [hx]), fun e => ?_⟩
      have := hn t (by simp)
      simp [e] at this
    have ih := tabF_set hz hy ts (i + 1) (fun u hu => h u (by simp [hu])) hn2.1
    have : ¬ tupKey t = tupKey y := fun hh => hn2.2 (tupKey_inj hz (h t (by simp)) hy hh).symm
    simp only [tabF, setM, List.cons_append]
    rw [if_neg this, List.length_cons, show i + (ts.length + 1) = i + 1 + ts.length by omega, ih]
/-- What holds of the tuples along the way. -/
structure FlOk (c : Casc) (ts : List (List Int)) : Prop where
  tup : ∀ t ∈ ts, tupB c.sizes t = true
  len : ts.length ≤ 2000
theorem stepG_ok {c : Casc} {x : List Int} {l : Int} (h : (stepG c x l).2 = 0) : tupB c.sizes x = true ∧ 0 ≤ l ∧ l < c.letters ∧ stOk c x = true ∧ stepG c x l = (stV c x l.toNat, 0) := by
  unfold stepG at h ⊢
  split at h
  · rename_i h1
    split at h
    · rename_i h2
      exact ⟨h1.1, h1.2.1, h1.2.2, h2, by rw [if_pos h1, if_pos h2]⟩
    · cases h
  · cases h
theorem stepG_tup {c : Casc} (hv : Valid c) {x : List Int} {l : Int} (h : (stepG c x l).2 = 0) : tupB c.sizes (stepG c x l).1 = true := by
  obtain ⟨h1, h2, h3, h4, e⟩ := stepG_ok h
  rw [e]
  have hlen : x.length = c.sizes.length ∧ inB c.sizes x = true := by simpa [tupB] using h1
  simp only [tupB, Bool.and_eq_true, decide_eq_true_eq]
  refine ⟨by rw [stV_length]; exact hlen.1, ?_⟩
  rw [inB_iff _ _ (by rw [stV_length]; omega)]
  intro i hi
  rw [stV_length] at hi
  have hh : hasB c.rows (x.take i) = true := by
    unfold stOk at h4
    exact List.all_eq_true.1 h4 i (List.mem_range.2 hi)
  obtain ⟨low, s, k1, k2, k3, e1, e2, e3⟩ := step_cell hv h1 (l := l.toNat) (by omega) hi hh
  obtain ⟨_, e1'⟩ := low_row hv.up hh
  obtain ⟨f1, f2, f3, f4⟩ := rowB_facts (hv.row low k1)
  obtain ⟨g1, g2⟩ := f4 l.toNat k2
  rw [getD_of_lt _ k2] at g1 g2
  have hg := g2 s k3
  rw [getD_of_lt _ k3] at hg
  have hpl : c.rows[low].pre.length = i := by
    have : c.rows[low].pre = x.take i := by
      have e5 : ∀ (a b : Nat) (ha : a < c.rows.length) (hb : b < c.rows.length), a = b → c.rows[a].pre = c.rows[b].pre := fun a b ha hb h => by subst h; rfl
      rw [← e1', ← e5 (lowB c.rows (x.take i)) low (by omega) k1 e1]
    rw [this]
    simp; omega
  rw [hpl] at hg
  rw [getD_of_lt 0 (by rw [stV_length]; exact hi)]
  have := stV_get c x l.toNat i hi
  rw [List.getElem?_eq_getElem (by rw [stV_length]; exact hi)] at this
  rw [Option.some.inj this, e3]
  exact hg
end Go.Proofs.YthalofddjlhcjaaDoor
end
