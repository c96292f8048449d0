/- Proved here: a part of the proof of the law at hand, in one text: no condition. -/
import Derived.Test.YthalofddjlhcjaaDoorMCascadeBack4
set_option linter.unusedVariables false
set_option linter.unusedSimpArgs false
section
/- Functions by value: program. -/
namespace Go.Proofs.YthalofddjlhcjaaDoor
open Go
set_option maxRecDepth 100000
set_option maxHeartbeats 1000000
set_option linter.unusedVariables false
set_option linter.unusedSimpArgs false



-- semigroup/cascade.parseNumber
def cascade_parseNumber_b5 (a0 : ByteArray) : Int × Int → Option ((Int × Int) ⊕ (Int × Bool))
  | (w28, w29) =>
  if w29 < (a0.size : Int) then
    (byteI a0 w29).bind fun v33 =>
    if v33 < 48 then
      exitG <|
      some (0, false)
    else
      if 57 < v33 then
        exitG <|
        some (0, false)
      else
        nextG (IntKind.i64.wrap ((IntKind.i64.wrap (10 * w28)) + (IntKind.i64.wrap (IntKind.u8.wrap (v33 - 48)))), IntKind.i64.wrap (w29 + 1))
  else
    exitG <|
    some (w28, decide (w28 ≤ 1000000000))
def cascade_parseNumber_h5 (a0 : ByteArray) : Int × Int → Fr
  | (w28, w29) => ⟨50, [(0, .one (.t none (.sc (.string a0)))), (4, .one (.t none (.sc (.int .i64 w28)))), (24, .one (.t none (.sc (.int .i64 (a0.size : Int))))), (25, .one (.t none (.sc (.int .i64 w29))))], []⟩
def cascade_parseNumber_b5a (a0 : ByteArray) : Int × Int → Option ((Int × Int) ⊕ (Int × Bool))
  | (w39, w40) =>
  if w40 < (a0.size : Int) then
    (byteI a0 w40).bind fun v44 =>
    if v44 < 48 then
      exitG <|
      some (0, false)
    else
      if 57 < v44 then
        exitG <|
        some (0, false)
      else
        nextG (IntKind.i64.wrap ((IntKind.i64.wrap (10 * w39)) + (IntKind.i64.wrap (IntKind.u8.wrap (v44 - 48)))), IntKind.i64.wrap (w40 + 1))
  else
    exitG <|
    some (w39, decide (w39 ≤ 1000000000))
def cascade_parseNumber_h5a (a0 : ByteArray) : Int × Int → Fr
  | (w39, w40) => ⟨50, [(0, .one (.t none (.sc (.string a0)))), (4, .one (.t none (.sc (.int .i64 w39)))), (24, .one (.t none (.sc (.int .i64 (a0.size : Int))))), (25, .one (.t none (.sc (.int .i64 w40))))], []⟩
def cascade_parseNumber (a0 : ByteArray) : Option (Int × Bool) :=
  if a0 = ByteArray.empty then
    some (0, false)
  else
    if 10 < (a0.size : Int) then
      some (0, false)
    else
      (byteI a0 0).bind fun v24 =>
      if v24 = 48 then
        if 1 < (a0.size : Int) then
          some (0, false)
        else
          loopG (cascade_parseNumber_b5 a0) LFm (0, 0)
      else
        loopG (cascade_parseNumber_b5a a0) LFm (0, 0)
theorem cascade_parseNumber_ok {a0 : ByteArray} {r : Int × Bool} (h0 : cascade_parseNumber a0 = some r) : L 69 [.sc (.string a0)] = some (.tup [.sc (.int .i64 r.1), .sc (.bool r.2)], [.dead]) := by
  simp only [cascade_parseNumber] at h0
  refine L_run cfn69 fn69 (runF_of bd69 ⟨of_decide_eq_true rfl, of_decide_eq_true rfl⟩ ?_)
  simp only [entryF, entryT, entryO, entryE, isIo]
  refine zq rfl (zr rfl rfl rfl (by simp; rfl) ?_)
  refine thenC_n (zq rfl (zq rfl ?_))
  by_cases c30 : a0 = ByteArray.empty
  · rw [if_pos c30] at h0
    have c30e := eq_true c30
    refine zr rfl rfl rfl (by simp [c30e]; rfl) ?_
    refine thenC_n (q_ifT rfl (by simp) (zq rfl (zr rfl rfl rfl (by simp; rfl) ?_)))
    refine thenC_n (q_ret rfl (thenC_r ?_))
    cases h0
    simp
  · rw [if_neg c30] at h0
    have c30e := eq_false c30
    by_cases c31 : 10 < (a0.size : Int)
    · rw [if_pos c31] at h0
      refine zr rfl rfl rfl (by simp [c30e, c31]; rfl) ?_
      refine thenC_n (q_ifT rfl (by simp) (zq rfl (zr rfl rfl rfl (by simp; rfl) ?_)))
      refine thenC_n (q_ret rfl (thenC_r ?_))
      cases h0
      simp
    · rw [if_neg c31] at h0
      obtain ⟨v24, f32, h1⟩ := bnd_some h0
      obtain ⟨f32a, f32b, f32w, f32c, f32d, f32g⟩ := byteI_some f32
      have f32d := f32d.symm
      have f32g := f32g (by omega)
      simp only [Int.reduceToNat] at f32g
      simp only [Int.reduceToNat, Int.toNat_natCast] at f32c
      have f32e := f32b
      try simp at f32e
      by_cases c33 : v24 = 48
      · rw [if_pos c33] at h1
        have c33e := eq_true c33
        refine zr rfl rfl rfl (by simp [c30e, c31, f32a, f32b, f32c, f32d, f32g, f32e, c33e]; rfl) ?_
        refine thenC_n ?_
        by_cases c34 : 1 < (a0.size : Int)
        · rw [if_pos c34] at h1
          refine q_ifT rfl (by simp [c34]) (zq rfl (zr rfl rfl rfl (by simp; rfl) ?_))
          refine thenC_n (q_ret rfl (thenC_r ?_))
          cases h1
          simp
        · rw [if_neg c34] at h1
          refine q_ifF rfl (by simp [c34]) (q_skip rfl (thenC_n (zq rfl (zr rfl rfl rfl (by simp; rfl) ?_))))
          refine thenC_n (zq rfl (zq rfl (zr rfl rfl rfl (by simp; rfl) ?_)))
          refine thenC_n (zb rfl (q_loopG h1 (cascade_parseNumber_h5 a0) rfl rfl (by simp [cascade_parseNumber_h5]) fun s o1 h2 hr1 => ?_))
          obtain ⟨w28, w29⟩ := s
          simp only [cascade_parseNumber_b5] at h2
          simp only [cascade_parseNumber_h5]
          refine zq rfl (zr rfl rfl rfl (by simp; rfl) ?_)
          refine thenC_n (zq rfl ?_)
          by_cases c43 : w29 < (a0.size : Int)
          · rw [if_pos c43] at h2
            refine q_ifT rfl (by simp [c43]) (q_skip rfl (thenC_n (zq rfl (zb rfl (zq rfl (zr rfl rfl rfl (by simp; rfl) ?_))))))
            refine thenC_n (zq rfl (zq rfl ?_))
            obtain ⟨v33, f44, h3⟩ := bnd_some h2
            obtain ⟨f44a, f44b, f44w, f44c, f44d, f44g⟩ := byteI_some f44
            have f44d := f44d.symm
            by_cases c45 : v33 < 48
            · rw [if_pos c45] at h3
              refine zr rfl rfl rfl (by simp [f44a, f44b, f44c, f44d, f44g, c45]; rfl) ?_
              refine thenC_n (q_ifT rfl (by simp) (zq rfl (zr rfl rfl rfl (by simp; rfl) ?_)))
              refine thenC_n (q_ret rfl (thenC_r (blockC_r (thenC_r ?_))))
              obtain ⟨rr1, h4, ho1⟩ := exit_some h3
              have hs1 := hr1 _ ho1
              subst hs1
              refine roundC_r ho1 (blockC_r (thenC_r ?_))
              cases h4
              simp
            · rw [if_neg c45] at h3
              refine zr rfl rfl rfl (by simp [f44a, f44b, f44c, f44d, f44g, c45]; rfl) ?_
              refine thenC_n ?_
              by_cases c46 : 57 < v33
              · rw [if_pos c46] at h3
                refine q_ifT rfl (by simp [c46]) (zq rfl (zr rfl rfl rfl (by simp; rfl) ?_))
                refine thenC_n (q_ret rfl (thenC_r (blockC_r (thenC_r ?_))))
                obtain ⟨rr1, h4, ho1⟩ := exit_some h3
                have hs1 := hr1 _ ho1
                subst hs1
                refine roundC_r ho1 (blockC_r (thenC_r ?_))
                cases h4
                simp
              · rw [if_neg c46] at h3
                refine q_ifF rfl (by simp [c46]) (q_skip rfl (thenC_n (zr rfl rfl rfl (by simp [f44a, f44b, f44c, f44d, f44g]; rfl) ?_)))
                refine blockC_n (thenC_n (zr rfl rfl rfl (by simp; rfl) ?_))
                have ho := next_some h3
                refine roundC_n ho ?_
                simp [cascade_parseNumber_h5]
          · rw [if_neg c43] at h2
            refine q_ifF rfl (by simp [c43]) (q_exit rfl (thenC_x ?_))
            obtain ⟨rr1, h3, ho1⟩ := exit_some h2
            have hs1 := hr1 _ ho1
            subst hs1
            refine roundC_x ho1 (blockC_hit2 rfl (thenC_n (zq rfl (zr rfl rfl rfl (by simp; rfl) ?_))))
            refine thenC_n (q_ret rfl ?_)
            cases h3
            simp
      · rw [if_neg c33] at h1
        have c33e := eq_false c33
        refine zr rfl rfl rfl (by simp [c30e, c31, f32a, f32b, f32c, f32d, f32g, f32e, c33e]; rfl) ?_
        refine thenC_n (q_ifF rfl (by simp) (q_skip rfl (thenC_n (zq rfl (zr rfl rfl rfl (by simp; rfl) ?_)))))
        refine thenC_n (zq rfl (zq rfl (zr rfl rfl rfl (by simp; rfl) ?_)))
        refine thenC_n (zb rfl (q_loopG h1 (cascade_parseNumber_h5a a0) rfl rfl (by simp [cascade_parseNumber_h5a]) fun s o2 h2 hr2 => ?_))
        obtain ⟨w39, w40⟩ := s
        simp only [cascade_parseNumber_b5a] at h2
        simp only [cascade_parseNumber_h5a]
        refine zq rfl (zr rfl rfl rfl (by simp; rfl) ?_)
        refine thenC_n (zq rfl ?_)
        by_cases c55 : w40 < (a0.size : Int)
        · rw [if_pos c55] at h2
          refine q_ifT rfl (by simp [c55]) (q_skip rfl (thenC_n (zq rfl (zb rfl (zq rfl (zr rfl rfl rfl (by simp; rfl) ?_))))))
          refine thenC_n (zq rfl (zq rfl ?_))
          obtain ⟨v44, f56, h3⟩ := bnd_some h2
          obtain ⟨f56a, f56b, f56w, f56c, f56d, f56g⟩ := byteI_some f56
          have f56d := f56d.symm
          by_cases c57 : v44 < 48
          · rw [if_pos c57] at h3
            refine zr rfl rfl rfl (by simp [f56a, f56b, f56c, f56d, f56g, c57]; rfl) ?_
            refine thenC_n (q_ifT rfl (by simp) (zq rfl (zr rfl rfl rfl (by simp; rfl) ?_)))
            refine thenC_n (q_ret rfl (thenC_r (blockC_r (thenC_r ?_))))
            obtain ⟨rr2, h4, ho2⟩ := exit_some h3
            have hs2 := hr2 _ ho2
            subst hs2
            refine roundC_r ho2 (blockC_r (thenC_r ?_))
            cases h4
            simp
          · rw [if_neg c57] at h3
            refine zr rfl rfl rfl (by simp [f56a, f56b, f56c, f56d, f56g, c57]; rfl) ?_
            refine thenC_n ?_
            by_cases c58 : 57 < v44
            · rw [if_pos c58] at h3
              refine q_ifT rfl (by simp [c58]) (zq rfl (zr rfl rfl rfl (by simp; rfl) ?_))
              refine thenC_n (q_ret rfl (thenC_r (blockC_r (thenC_r ?_))))
              obtain ⟨rr2, h4, ho2⟩ := exit_some h3
              have hs2 := hr2 _ ho2
              subst hs2
              refine roundC_r ho2 (blockC_r (thenC_r ?_))
              cases h4
              simp
            · rw [if_neg c58] at h3
              refine q_ifF rfl (by simp [c58]) (q_skip rfl (thenC_n (zr rfl rfl rfl (by simp [f56a, f56b, f56c, f56d, f56g]; rfl) ?_)))
              refine blockC_n (thenC_n (zr rfl rfl rfl (by simp; rfl) ?_))
              have ho := next_some h3
              refine roundC_n ho ?_
              simp [cascade_parseNumber_h5a]
        · rw [if_neg c55] at h2
          refine q_ifF rfl (by simp [c55]) (q_exit rfl (thenC_x ?_))
          obtain ⟨rr2, h3, ho2⟩ := exit_some h2
          have hs2 := hr2 _ ho2
          subst hs2
          refine roundC_x ho2 (blockC_hit2 rfl (thenC_n (zq rfl (zr rfl rfl rfl (by simp; rfl) ?_))))
          refine thenC_n (q_ret rfl ?_)
          cases h3
          simp

-- semigroup/cascade.parseNumbers
def cascade_parseNumbers_b3 (a0 : List ByteArray) : Int × List Int → Option ((Int × List Int) ⊕ (List Int × Bool))
  | (w11, w12) =>
  if w11 < (a0.length : Int) then
    (atI a0 w11).bind fun v15 =>
    (cascade_parseNumber v15).bind fun v16 =>
    if v16.2 = true then
      chk (capOk 8 (w12.length + 1)) <|
      nextG (IntKind.i64.wrap (w11 + 1), w12 ++ [v16.1])
    else
      exitG <|
      some ([], false)
  else
    exitG <|
    some (w12, true)
def cascade_parseNumbers_h3 (a0 : List ByteArray) : Int × List Int → Fr
  | (w11, w12) => ⟨28, [(4, .one (.h 4 [])), (9, .one (.t none (.sl a0.length (a0.map fun x0 => .sc (.string x0))))), (10, .one (.t none (.sc (.int .i64 (a0.length : Int))))), (11, .one (.t none (.sc (.int .i64 w11))))], [(4, .os 1 w12.length (w12.map fun x0 => .sc (.int .i64 x0)))]⟩
def cascade_parseNumbers (a0 : List ByteArray) : Option (List Int × Bool) :=
  loopG (cascade_parseNumbers_b3 a0) LFm (0, [])
theorem cascade_parseNumbers_ok {a0 : List ByteArray} {r : List Int × Bool} (h0 : cascade_parseNumbers a0 = some r) : L 51 [.sl a0.length (a0.map fun x0 => .sc (.string x0))] = some (.tup [.os 1 r.1.length (r.1.map fun x0 => .sc (.int .i64 x0)), .sc (.bool r.2)], [.dead]) := by
  simp only [cascade_parseNumbers] at h0
  refine L_run cfn51 fn51 (runF_of bd51 ⟨of_decide_eq_true rfl, of_decide_eq_true rfl⟩ ?_)
  simp only [entryF, entryT, entryO, entryE, isIo]
  refine zq rfl (zr rfl rfl rfl (by simp; rfl) ?_)
  refine thenC_n (zq rfl (zr rfl rfl rfl (by simp; rfl) ?_))
  refine thenC_n (zq rfl (zq rfl (zr rfl rfl rfl (by simp; rfl) ?_)))
  refine thenC_n (zb rfl (q_loopG h0 (cascade_parseNumbers_h3 a0) rfl rfl (by simp [cascade_parseNumbers_h3]) fun s o1 h1 hr1 => ?_))
  obtain ⟨w11, w12⟩ := s
  simp only [cascade_parseNumbers_b3] at h1
  simp only [cascade_parseNumbers_h3]
  refine zq rfl (zr rfl rfl rfl (by simp; rfl) ?_)
  refine thenC_n (zq rfl ?_)
  by_cases c24 : w11 < (a0.length : Int)
  · rw [if_pos c24] at h1
    refine q_ifT rfl (by simp [c24]) (q_skip rfl (thenC_n (zq rfl (zb rfl (zq rfl ?_)))))
    obtain ⟨v15, f25, h2⟩ := bnd_some h1
    obtain ⟨f25a, f25b, f25c, f25d, f25e⟩ := atI_some f25
    refine zr rfl rfl rfl (by simp [f25a, f25b, f25c, f25d, f25e]; rfl) ?_
    refine thenC_n (zq rfl ?_)
    obtain ⟨v16, f26, h3⟩ := bnd_some h2
    have f26k := cascade_parseNumber_ok f26
    try simp at f26k
    refine zr rfl rfl rfl (by simp [f26k]; rfl) ?_
    refine thenC_n (zq rfl (zq rfl (zr rfl rfl rfl (by simp; rfl) ?_)))
    refine thenC_n ?_
    by_cases c27 : v16.2 = true
    · rw [if_pos c27] at h3
      refine q_ifF rfl (by simp [c27]) (q_skip rfl (thenC_n ?_))
      obtain ⟨f28, h4⟩ := chk_some h3
      obtain ⟨f28a, f28b⟩ := f28
      refine zr rfl rfl rfl (by simp [f28a, f28b]; rfl) ?_
      refine blockC_n (thenC_n (zr rfl rfl rfl (by simp; rfl) ?_))
      have ho := next_some h4
      refine roundC_n ho ?_
      simp [cascade_parseNumbers_h3, c27]
    · rw [if_neg c27] at h3
      refine q_ifT rfl (by simp [c27]) (zq rfl (zr rfl rfl rfl (by simp; rfl) ?_))
      refine thenC_n (q_ret rfl (thenC_r (blockC_r (thenC_r ?_))))
      obtain ⟨rr1, h4, ho1⟩ := exit_some h3
      have hs1 := hr1 _ ho1
      subst hs1
      refine roundC_r ho1 (blockC_r (thenC_r ?_))
      cases h4
      simp [c27]
  · rw [if_neg c24] at h1
    refine q_ifF rfl (by simp [c24]) (q_exit rfl (thenC_x ?_))
    obtain ⟨rr1, h2, ho1⟩ := exit_some h1
    have hs1 := hr1 _ ho1
    subst hs1
    refine roundC_x ho1 (blockC_hit2 rfl (thenC_n (zq rfl (zr rfl rfl rfl (by simp; rfl) ?_))))
    refine thenC_n (q_ret rfl ?_)
    cases h2
    simp

-- semigroup/cascade.parseRow
def cascade_parseRow_b6 (a0 : List ByteArray) : Int × Int × List Int × List (List Int) → Option ((Int × Int × List Int × List (List Int)) ⊕ (CRow × Bool))
  | (w27, w28, w29, w30) =>
  if w28 ≤ (a0.length : Int) then
    if w28 < (a0.length : Int) then
      (atI a0 w28).bind fun v36 =>
      if v36 = ⟨#[59]⟩ then
        (pieceL a0 w27 w28).bind fun v37 =>
        (cascade_parseNumbers v37).bind fun v38 =>
        if v38.2 = true then
          if w27 = 1 then
            nextG (IntKind.i64.wrap (w28 + 1), IntKind.i64.wrap (w28 + 1), v38.1, w30)
          else
            chk (capOk 24 (w30.length + 1)) <|
            nextG (IntKind.i64.wrap (w28 + 1), IntKind.i64.wrap (w28 + 1), w29, w30 ++ [v38.1])
        else
          exitG <|
          some ((⟨w29, w30⟩ : CRow), false)
      else
        nextG (w27, IntKind.i64.wrap (w28 + 1), w29, w30)
    else
      (pieceL a0 w27 w28).bind fun v39 =>
      (cascade_parseNumbers v39).bind fun v40 =>
      if v40.2 = true then
        if w27 = 1 then
          nextG (IntKind.i64.wrap (w28 + 1), IntKind.i64.wrap (w28 + 1), v40.1, w30)
        else
          chk (capOk 24 (w30.length + 1)) <|
          nextG (IntKind.i64.wrap (w28 + 1), IntKind.i64.wrap (w28 + 1), w29, w30 ++ [v40.1])
      else
        exitG <|
        some ((⟨w29, w30⟩ : CRow), false)
  else
    exitG <|
    some ((⟨w29, w30⟩ : CRow), true)
def cascade_parseRow_h6 (a0 : List ByteArray) : Int × Int × List Int × List (List Int) → Fr
  | (w27, w28, w29, w30) => ⟨55, [(0, .one (.t none (.sl a0.length (a0.map fun x0 => .sc (.string x0))))), (2, .one (.a 2 [] (0))), (4, .one (.a 4 [] (0))), (5, .one (.t none (.sc (.int .i64 w27)))), (6, .one (.t none (.sc (.int .i64 w28))))], [(2, .vr [.os 1 0 [], .os 1 0 []]), (4, .vr [.os 1 w29.length (w29.map fun x0 => .sc (.int .i64 x0)), .os 1 w30.length (w30.map fun x0 => .os 1 x0.length (x0.map fun x1 => .sc (.int .i64 x1)))])]⟩
def cascade_parseRow (a0 : List ByteArray) : Option (CRow × Bool) :=
  (atI a0 0).bind fun v21 =>
  if v21 = ⟨#[114, 111, 119]⟩ then
    loopG (cascade_parseRow_b6 a0) LFm (1, 1, [], [])
  else
    some ((⟨[], []⟩ : CRow), false)
theorem cascade_parseRow_ok {a0 : List ByteArray} {r : CRow × Bool} (h0 : cascade_parseRow a0 = some r) : L 50 [.sl a0.length (a0.map fun x0 => .sc (.string x0))] = some (.tup [.agg [.sl r.1.pre.length (r.1.pre.map fun x0 => .sc (.int .i64 x0)), .sl r.1.maps.length (r.1.maps.map fun x0 => .sl x0.length (x0.map fun x1 => .sc (.int .i64 x1)))], .sc (.bool r.2)], [.dead]) := by
  simp only [cascade_parseRow] at h0
  refine L_run cfn50 fn50 (runF_of bd50 ⟨of_decide_eq_true rfl, of_decide_eq_true rfl⟩ ?_)
  simp only [entryF, entryT, entryO, entryE, isIo]
  refine zq rfl (zr rfl rfl rfl (by simp; rfl) ?_)
  refine thenC_n (zq rfl (zr rfl rfl rfl (by simp; rfl) ?_))
  refine thenC_n (zq rfl (zq rfl ?_))
  obtain ⟨v21, f43, h1⟩ := bnd_some h0
  obtain ⟨f43a, f43b, f43c, f43d, f43e⟩ := atI_some f43
  simp only [Int.reduceToNat, Int.toNat_natCast] at f43c f43d f43e
  have f43j : a0 ≠ [] := by intro hh; rw [hh] at f43c; simp at f43c
  have f43l : 0 < a0.length := by omega
  refine zr rfl rfl rfl (by simp [f43a, f43b, f43c, f43d, f43e, f43j, f43l]; rfl) ?_
  refine thenC_n ?_
  by_cases c44 : v21 = ⟨#[114, 111, 119]⟩
  · rw [if_pos c44] at h1
    have c44e := eq_true c44
    refine q_ifF rfl (by simp [c44e]) (q_skip rfl (thenC_n (zq rfl (zr rfl rfl rfl (by simp; rfl) ?_))))
    refine thenC_n (zq rfl (zq rfl (zr rfl rfl rfl (by simp; rfl) ?_)))
    refine thenC_n (zb rfl (q_loopG h1 (cascade_parseRow_h6 a0) rfl rfl (by simp [cascade_parseRow_h6]) fun s o1 h2 hr1 => ?_))
    obtain ⟨w27, w28, w29, w30⟩ := s
    simp only [cascade_parseRow_b6] at h2
    simp only [cascade_parseRow_h6]
    refine zq rfl (zq rfl (zr rfl rfl rfl (by simp; rfl) ?_))
    refine thenC_n ?_
    by_cases c71 : w28 ≤ (a0.length : Int)
    · rw [if_pos c71] at h2
      refine q_ifT rfl (by simp [c71]) (q_skip rfl (thenC_n (zq rfl (zb rfl (zq rfl (zq rfl ?_))))))
      by_cases c72 : w28 < (a0.length : Int)
      · rw [if_pos c72] at h2
        obtain ⟨v36, f73, h3⟩ := bnd_some h2
        obtain ⟨f73a, f73b, f73c, f73d, f73e⟩ := atI_some f73
        refine zr rfl rfl rfl (by simp [c72, f73a, f73b, f73c, f73d, f73e]; rfl) ?_
        refine thenC_n ?_
        by_cases c74 : v36 = ⟨#[59]⟩
        · rw [if_pos c74] at h3
          have c74e := eq_true c74
          refine q_ifF rfl (by simp [c74e]) (q_skip rfl (thenC_n (zq rfl ?_)))
          obtain ⟨v37, f75, h4⟩ := bnd_some h3
          obtain ⟨f75a, f75b, f75c, -⟩ := pieceL_some f75
          obtain ⟨f75d, f75g⟩ := piece_hi f75a f75b
          have f75e := pieceL_map (g := fun x : ByteArray => (.sc (.string x) : T)) f75
          try simp at f75e
          have f75f := pieceL_slm f75
          try simp only [Int.reduceToNat, Int.toNat_natCast, Nat.sub_zero] at f75f
          have f75m : w27 ≤ max w28 0 := by omega
          obtain ⟨v38, f76, h5⟩ := bnd_some h4
          have f76k := cascade_parseNumbers_ok f76
          try simp at f76k
          refine zr rfl rfl rfl (by simp [f75a, f75b, f75c, f75d, f75g, f75e, f75f, f75m, f76k]; rfl) ?_
          refine thenC_n (zq rfl (zq rfl (zr rfl rfl rfl (by simp; rfl) ?_)))
          refine thenC_n ?_
          by_cases c77 : v38.2 = true
          · rw [if_pos c77] at h5
            refine q_ifF rfl (by simp [c77]) (q_skip rfl (thenC_n (zq rfl (zq rfl (zr rfl rfl rfl (by simp; rfl) ?_)))))
            refine thenC_n ?_
            by_cases c78 : w27 = 1
            · rw [if_pos c78] at h5
              have c78e := eq_true c78
              refine q_ifT rfl (by simp [c78e]) (zr rfl rfl rfl (by simp; rfl) ?_)
              refine thenC_n (zr rfl rfl rfl (by simp; rfl) ?_)
              refine blockC_n (thenC_n (zr rfl rfl rfl (by simp; rfl) ?_))
              have ho := next_some h5
              refine roundC_n ho ?_
              simp [cascade_parseRow_h6, c77]
            · rw [if_neg c78] at h5
              have c78e := eq_false c78
              refine q_ifF rfl (by simp [c78e]) ?_
              obtain ⟨f79, h6⟩ := chk_some h5
              obtain ⟨f79a, f79b⟩ := f79
              refine zr rfl rfl rfl (by simp [f79a, f79b]; rfl) ?_
              refine thenC_n (zr rfl rfl rfl (by simp; rfl) ?_)
              refine blockC_n (thenC_n (zr rfl rfl rfl (by simp; rfl) ?_))
              have ho := next_some h6
              refine roundC_n ho ?_
              simp [cascade_parseRow_h6, c77]
          · rw [if_neg c77] at h5
            refine q_ifT rfl (by simp [c77]) (zq rfl (zr rfl rfl rfl (by simp; rfl) ?_))
            refine thenC_n (q_ret rfl (thenC_r (blockC_r (thenC_r ?_))))
            obtain ⟨rr1, h6, ho1⟩ := exit_some h5
            have hs1 := hr1 _ ho1
            subst hs1
            refine roundC_r ho1 (blockC_r (thenC_r ?_))
            cases h6
            simp [c77]
        · rw [if_neg c74] at h3
          have c74e := eq_false c74
          refine q_ifT rfl (by simp [c74e]) (q_exit rfl (thenC_x (blockC_hit2 rfl (thenC_n (zr rfl rfl rfl (by simp; rfl) ?_)))))
          have ho := next_some h3
          refine roundC_n ho ?_
          simp [cascade_parseRow_h6]
      · rw [if_neg c72] at h2
        refine zr rfl rfl rfl (by simp [c72]; rfl) ?_
        refine thenC_n (q_ifF rfl (by simp) (q_skip rfl (thenC_n (zq rfl ?_))))
        obtain ⟨v39, f80, h3⟩ := bnd_some h2
        obtain ⟨f80a, f80b, f80c, -⟩ := pieceL_some f80
        obtain ⟨f80d, f80g⟩ := piece_hi f80a f80b
        have f80e := pieceL_map (g := fun x : ByteArray => (.sc (.string x) : T)) f80
        try simp at f80e
        have f80f := pieceL_slm f80
        try simp only [Int.reduceToNat, Int.toNat_natCast, Nat.sub_zero] at f80f
        have f80m : w27 ≤ max w28 0 := by omega
        obtain ⟨v40, f81, h4⟩ := bnd_some h3
        have f81k := cascade_parseNumbers_ok f81
        try simp at f81k
        refine zr rfl rfl rfl (by simp [f80a, f80b, f80c, f80d, f80g, f80e, f80f, f80m, f81k]; rfl) ?_
        refine thenC_n (zq rfl (zq rfl (zr rfl rfl rfl (by simp; rfl) ?_)))
        refine thenC_n ?_
        by_cases c82 : v40.2 = true
        · rw [if_pos c82] at h4
          refine q_ifF rfl (by simp [c82]) (q_skip rfl (thenC_n (zq rfl (zq rfl (zr rfl rfl rfl (by simp; rfl) ?_)))))
          refine thenC_n ?_
          by_cases c83 : w27 = 1
          · rw [if_pos c83] at h4
            have c83e := eq_true c83
            refine q_ifT rfl (by simp [c83e]) (zr rfl rfl rfl (by simp; rfl) ?_)
            refine thenC_n (zr rfl rfl rfl (by simp; rfl) ?_)
            refine blockC_n (thenC_n (zr rfl rfl rfl (by simp; rfl) ?_))
            have ho := next_some h4
            refine roundC_n ho ?_
            simp [cascade_parseRow_h6, c82]
          · rw [if_neg c83] at h4
            have c83e := eq_false c83
            refine q_ifF rfl (by simp [c83e]) ?_
            obtain ⟨f84, h5⟩ := chk_some h4
            obtain ⟨f84a, f84b⟩ := f84
            refine zr rfl rfl rfl (by simp [f84a, f84b]; rfl) ?_
            refine thenC_n (zr rfl rfl rfl (by simp; rfl) ?_)
            refine blockC_n (thenC_n (zr rfl rfl rfl (by simp; rfl) ?_))
            have ho := next_some h5
            refine roundC_n ho ?_
            simp [cascade_parseRow_h6, c82]
        · rw [if_neg c82] at h4
          refine q_ifT rfl (by simp [c82]) (zq rfl (zr rfl rfl rfl (by simp; rfl) ?_))
          refine thenC_n (q_ret rfl (thenC_r (blockC_r (thenC_r ?_))))
          obtain ⟨rr1, h5, ho1⟩ := exit_some h4
          have hs1 := hr1 _ ho1
          subst hs1
          refine roundC_r ho1 (blockC_r (thenC_r ?_))
          cases h5
          simp [c82]
    · rw [if_neg c71] at h2
      refine q_ifF rfl (by simp [c71]) (q_exit rfl (thenC_x ?_))
      obtain ⟨rr1, h3, ho1⟩ := exit_some h2
      have hs1 := hr1 _ ho1
      subst hs1
      refine roundC_x ho1 (blockC_hit2 rfl (thenC_n (zq rfl (zr rfl rfl rfl (by simp; rfl) ?_))))
      refine thenC_n (q_ret rfl ?_)
      cases h3
      simp
  · rw [if_neg c44] at h1
    have c44e := eq_false c44
    refine q_ifT rfl (by simp [c44e]) (zq rfl (zr rfl rfl rfl (by simp; rfl) ?_))
    refine thenC_n (q_ret rfl (thenC_r ?_))
    cases h1
    simp

-- semigroup/semigroupref26.split
def ref26_split_b4 (a0 : ByteArray) : ByteArray × Int × List ByteArray → Option ((ByteArray × Int × List ByteArray) ⊕ List ByteArray)
  | (w14, w12, w13) =>
  if w12 < (a0.size : Int) then
    (byteI a0 w12).bind fun v17 =>
    if v17 = 32 then
      chk (capOk 16 (w13.length + 1)) <|
      nextG (ByteArray.empty, IntKind.i64.wrap (w12 + 1), w13 ++ [w14])
    else
      (pieceS a0 w12 (IntKind.i64.wrap (w12 + 1))).bind fun v18 =>
      chk (catOk w14 v18) <|
      nextG (w14 ++ v18, IntKind.i64.wrap (w12 + 1), w13)
  else
    exitG <|
    chk (capOk 16 (w13.length + 1)) <|
    some (w13 ++ [w14])
def ref26_split_h4 (a0 : ByteArray) : ByteArray × Int × List ByteArray → Fr
  | (w14, w12, w13) => ⟨31, [(0, .one (.t none (.sc (.string a0)))), (3, .one (.h 3 [])), (4, .one (.t none (.sc (.string w14)))), (5, .one (.t none (.sc (.int .i64 w12))))], [(3, .os 1 w13.length (w13.map fun x0 => .sc (.string x0)))]⟩
def ref26_split (a0 : ByteArray) : Option (List ByteArray) :=
  loopG (ref26_split_b4 a0) LFm (ByteArray.empty, 0, [])
theorem ref26_split_ok {a0 : ByteArray} {r : List ByteArray} (h0 : ref26_split a0 = some r) : L 52 [.sc (.string a0)] = some (.os 1 r.length (r.map fun x0 => .sc (.string x0)), [.dead]) := by
  simp only [ref26_split] at h0
  refine L_run cfn52 fn52 (runF_of bd52 ⟨of_decide_eq_true rfl, of_decide_eq_true rfl⟩ ?_)
  simp only [entryF, entryT, entryO, entryE, isIo]
  refine zq rfl (zr rfl rfl rfl (by simp; rfl) ?_)
  refine thenC_n (zq rfl (zr rfl rfl rfl (by simp; rfl) ?_))
  refine thenC_n (zq rfl (zr rfl rfl rfl (by simp; rfl) ?_))
  refine thenC_n (zq rfl (zq rfl (zr rfl rfl rfl (by simp; rfl) ?_)))
  refine thenC_n (zb rfl (q_loopG h0 (ref26_split_h4 a0) rfl rfl (by simp [ref26_split_h4]) fun s o1 h1 hr1 => ?_))
  obtain ⟨w14, w12, w13⟩ := s
  simp only [ref26_split_b4] at h1
  simp only [ref26_split_h4]
  refine zq rfl (zq rfl (zr rfl rfl rfl (by simp; rfl) ?_))
  refine thenC_n ?_
  by_cases c30 : w12 < (a0.size : Int)
  · rw [if_pos c30] at h1
    refine q_ifT rfl (by simp [c30]) (q_skip rfl (thenC_n (zq rfl (zb rfl (zq rfl (zq rfl ?_))))))
    obtain ⟨v17, f31, h2⟩ := bnd_some h1
    obtain ⟨f31a, f31b, f31w, f31c, f31d, f31g⟩ := byteI_some f31
    have f31d := f31d.symm
    refine zr rfl rfl rfl (by simp [f31a, f31b, f31c, f31d, f31g]; rfl) ?_
    refine thenC_n ?_
    by_cases c32 : v17 = 32
    · rw [if_pos c32] at h2
      have c32e := eq_true c32
      refine q_ifT rfl (by simp [c32e]) (zq rfl ?_)
      obtain ⟨f33, h3⟩ := chk_some h2
      obtain ⟨f33a, f33b⟩ := f33
      refine zr rfl rfl rfl (by simp [f33a, f33b]; rfl) ?_
      refine thenC_n (zq rfl (zr rfl rfl rfl (by simp; rfl) ?_))
      refine thenC_n (q_exit rfl (thenC_x (blockC_hit2 rfl (thenC_n (zr rfl rfl rfl (by simp; rfl) ?_)))))
      have ho := next_some h3
      refine roundC_n ho ?_
      simp [ref26_split_h4]
    · rw [if_neg c32] at h2
      have c32e := eq_false c32
      refine q_ifF rfl (by simp [c32e]) (q_skip rfl (thenC_n ?_))
      obtain ⟨v18, f34, h3⟩ := bnd_some h2
      obtain ⟨f34a, f34b, f34c, f34d⟩ := pieceS_some f34
      obtain ⟨f34e, f34f⟩ := piece_hi f34a f34b
      have f34d := f34d.symm
      have f34g : w12 ≤ max (IntKind.i64.wrap (w12 + 1)) 0 := by omega
      obtain ⟨f35, h4⟩ := chk_some h3
      refine zr rfl rfl rfl (by simp [f34a, f34b, f34c, f34d, f34e, f34f, f34g, f35]; rfl) ?_
      refine blockC_n (thenC_n (zr rfl rfl rfl (by simp; rfl) ?_))
      have ho := next_some h4
      refine roundC_n ho ?_
      simp [ref26_split_h4]
  · rw [if_neg c30] at h1
    refine q_ifF rfl (by simp [c30]) (q_exit rfl (thenC_x ?_))
    obtain ⟨rr1, h2, ho1⟩ := exit_some h1
    have hs1 := hr1 _ ho1
    subst hs1
    refine roundC_x ho1 (blockC_hit2 rfl (thenC_n (zq rfl ?_)))
    obtain ⟨f36, h3⟩ := chk_some h2
    obtain ⟨f36a, f36b⟩ := f36
    refine zr rfl rfl rfl (by simp [f36a, f36b]; rfl) ?_
    refine thenC_n (q_ret rfl ?_)
    cases h3
    simp

-- semigroup/semigroupref26.number
def ref26_number_b5 (a0 : ByteArray) : Int × Int → Option ((Int × Int) ⊕ Int)
  | (w28, w29) =>
  if w29 < (a0.size : Int) then
    (byteI a0 w29).bind fun v33 =>
    if v33 < 48 then
      exitG <|
      some (-1)
    else
      if 57 < v33 then
        exitG <|
        some (-1)
      else
        nextG (IntKind.i64.wrap ((IntKind.i64.wrap (10 * w28)) + (IntKind.i64.wrap (IntKind.u8.wrap (v33 - 48)))), IntKind.i64.wrap (w29 + 1))
  else
    exitG <|
    if 1000000000 < w28 then
      some (-1)
    else
      some w28
def ref26_number_h5 (a0 : ByteArray) : Int × Int → Fr
  | (w28, w29) => ⟨49, [(0, .one (.t none (.sc (.string a0)))), (3, .one (.t none (.sc (.int .i64 w28)))), (4, .one (.t none (.sc (.int .i64 w29))))], []⟩
def ref26_number_b5a (a0 : ByteArray) : Int × Int → Option ((Int × Int) ⊕ Int)
  | (w39, w40) =>
  if w40 < (a0.size : Int) then
    (byteI a0 w40).bind fun v44 =>
    if v44 < 48 then
      exitG <|
      some (-1)
    else
      if 57 < v44 then
        exitG <|
        some (-1)
      else
        nextG (IntKind.i64.wrap ((IntKind.i64.wrap (10 * w39)) + (IntKind.i64.wrap (IntKind.u8.wrap (v44 - 48)))), IntKind.i64.wrap (w40 + 1))
  else
    exitG <|
    if 1000000000 < w39 then
      some (-1)
    else
      some w39
def ref26_number_h5a (a0 : ByteArray) : Int × Int → Fr
  | (w39, w40) => ⟨49, [(0, .one (.t none (.sc (.string a0)))), (3, .one (.t none (.sc (.int .i64 w39)))), (4, .one (.t none (.sc (.int .i64 w40))))], []⟩
def ref26_number (a0 : ByteArray) : Option (Int) :=
  if a0 = ByteArray.empty then
    some (-1)
  else
    if 10 < (a0.size : Int) then
      some (-1)
    else
      if 1 < (a0.size : Int) then
        (byteI a0 0).bind fun v24 =>
        if v24 = 48 then
          some (-1)
        else
          loopG (ref26_number_b5 a0) LFm (0, 0)
      else
        loopG (ref26_number_b5a a0) LFm (0, 0)
theorem ref26_number_ok {a0 : ByteArray} {r : Int} (h0 : ref26_number a0 = some r) : L 53 [.sc (.string a0)] = some (.sc (.int .i64 r), [.dead]) := by
  simp only [ref26_number] at h0
  refine L_run cfn53 fn53 (runF_of bd53 ⟨of_decide_eq_true rfl, of_decide_eq_true rfl⟩ ?_)
  simp only [entryF, entryT, entryO, entryE, isIo]
  refine zq rfl (zr rfl rfl rfl (by simp; rfl) ?_)
  refine thenC_n (zq rfl (zq rfl ?_))
  by_cases c32 : a0 = ByteArray.empty
  · rw [if_pos c32] at h0
    have c32e := eq_true c32
    refine zr rfl rfl rfl (by simp [c32e]; rfl) ?_
    refine thenC_n (q_ifT rfl (by simp) (zq rfl (zr rfl rfl rfl (by simp; rfl) ?_)))
    refine thenC_n (q_ret rfl (thenC_r ?_))
    cases h0
    simp
  · rw [if_neg c32] at h0
    have c32e := eq_false c32
    by_cases c33 : 10 < (a0.size : Int)
    · rw [if_pos c33] at h0
      refine zr rfl rfl rfl (by simp [c32e, c33]; rfl) ?_
      refine thenC_n (q_ifT rfl (by simp) (zq rfl (zr rfl rfl rfl (by simp; rfl) ?_)))
      refine thenC_n (q_ret rfl (thenC_r ?_))
      cases h0
      simp
    · rw [if_neg c33] at h0
      by_cases c34 : 1 < (a0.size : Int)
      · rw [if_pos c34] at h0
        obtain ⟨v24, f35, h1⟩ := bnd_some h0
        obtain ⟨f35a, f35b, f35w, f35c, f35d, f35g⟩ := byteI_some f35
        have f35d := f35d.symm
        have f35g := f35g (by omega)
        simp only [Int.reduceToNat] at f35g
        simp only [Int.reduceToNat, Int.toNat_natCast] at f35c
        have f35e := f35b
        try simp at f35e
        refine zr rfl rfl rfl (by simp [c32e, c33, c34, f35a, f35b, f35c, f35d, f35g, f35e]; rfl) ?_
        refine thenC_n ?_
        by_cases c36 : v24 = 48
        · rw [if_pos c36] at h1
          have c36e := eq_true c36
          refine q_ifT rfl (by simp [c36e]) (zq rfl (zr rfl rfl rfl (by simp; rfl) ?_))
          refine thenC_n (q_ret rfl (thenC_r ?_))
          cases h1
          simp
        · rw [if_neg c36] at h1
          have c36e := eq_false c36
          refine q_ifF rfl (by simp [c36e]) (q_skip rfl (thenC_n (zq rfl (zr rfl rfl rfl (by simp; rfl) ?_))))
          refine thenC_n (zq rfl (zq rfl (zr rfl rfl rfl (by simp; rfl) ?_)))
          refine thenC_n (zb rfl (q_loopG h1 (ref26_number_h5 a0) rfl rfl (by simp [ref26_number_h5]) fun s o1 h2 hr1 => ?_))
          obtain ⟨w28, w29⟩ := s
          simp only [ref26_number_b5] at h2
          simp only [ref26_number_h5]
          refine zq rfl (zq rfl (zr rfl rfl rfl (by simp; rfl) ?_))
          refine thenC_n ?_
          by_cases c45 : w29 < (a0.size : Int)
          · rw [if_pos c45] at h2
            refine q_ifT rfl (by simp [c45]) (q_skip rfl (thenC_n (zq rfl (zb rfl (zq rfl (zq rfl ?_))))))
            obtain ⟨v33, f46, h3⟩ := bnd_some h2
            obtain ⟨f46a, f46b, f46w, f46c, f46d, f46g⟩ := byteI_some f46
            have f46d := f46d.symm
            by_cases c47 : v33 < 48
            · rw [if_pos c47] at h3
              refine zr rfl rfl rfl (by simp [f46a, f46b, f46c, f46d, f46g, c47]; rfl) ?_
              refine thenC_n (q_ifT rfl (by simp) (zq rfl (zr rfl rfl rfl (by simp; rfl) ?_)))
              refine thenC_n (q_ret rfl (thenC_r (blockC_r (thenC_r ?_))))
              obtain ⟨rr1, h4, ho1⟩ := exit_some h3
              have hs1 := hr1 _ ho1
              subst hs1
              refine roundC_r ho1 (blockC_r (thenC_r ?_))
              cases h4
              simp
            · rw [if_neg c47] at h3
              refine zr rfl rfl rfl (by simp [f46a, f46b, f46c, f46d, f46g, c47]; rfl) ?_
              refine thenC_n ?_
              by_cases c48 : 57 < v33
              · rw [if_pos c48] at h3
                refine q_ifT rfl (by simp [c48]) (zq rfl (zr rfl rfl rfl (by simp; rfl) ?_))
                refine thenC_n (q_ret rfl (thenC_r (blockC_r (thenC_r ?_))))
                obtain ⟨rr1, h4, ho1⟩ := exit_some h3
                have hs1 := hr1 _ ho1
                subst hs1
                refine roundC_r ho1 (blockC_r (thenC_r ?_))
                cases h4
                simp
              · rw [if_neg c48] at h3
                refine q_ifF rfl (by simp [c48]) (q_skip rfl (thenC_n (zr rfl rfl rfl (by simp [f46a, f46b, f46c, f46d, f46g]; rfl) ?_)))
                refine blockC_n (thenC_n (zr rfl rfl rfl (by simp; rfl) ?_))
                have ho := next_some h3
                refine roundC_n ho ?_
                simp [ref26_number_h5]
          · rw [if_neg c45] at h2
            refine q_ifF rfl (by simp [c45]) (q_exit rfl (thenC_x ?_))
            obtain ⟨rr1, h3, ho1⟩ := exit_some h2
            have hs1 := hr1 _ ho1
            subst hs1
            refine roundC_x ho1 (blockC_hit2 rfl (thenC_n (zq rfl (zq rfl (zr rfl rfl rfl (by simp; rfl) ?_)))))
            refine thenC_n ?_
            by_cases c49 : 1000000000 < w28
            · rw [if_pos c49] at h3
              refine q_ifT rfl (by simp [c49]) (zq rfl (zr rfl rfl rfl (by simp; rfl) ?_))
              refine thenC_n (q_ret rfl (thenC_r ?_))
              cases h3
              simp
            · rw [if_neg c49] at h3
              refine q_ifF rfl (by simp [c49]) (q_skip rfl (thenC_n (zq rfl (zr rfl rfl rfl (by simp; rfl) ?_))))
              refine thenC_n (q_ret rfl ?_)
              cases h3
              simp
      · rw [if_neg c34] at h0
        refine zr rfl rfl rfl (by simp [c32e, c33, c34]; rfl) ?_
        refine thenC_n (q_ifF rfl (by simp) (q_skip rfl (thenC_n (zq rfl (zr rfl rfl rfl (by simp; rfl) ?_)))))
        refine thenC_n (zq rfl (zq rfl (zr rfl rfl rfl (by simp; rfl) ?_)))
        refine thenC_n (zb rfl (q_loopG h0 (ref26_number_h5a a0) rfl rfl (by simp [ref26_number_h5a]) fun s o2 h1 hr2 => ?_))
        obtain ⟨w39, w40⟩ := s
        simp only [ref26_number_b5a] at h1
        simp only [ref26_number_h5a]
        refine zq rfl (zq rfl (zr rfl rfl rfl (by simp; rfl) ?_))
        refine thenC_n ?_
        by_cases c58 : w40 < (a0.size : Int)
        · rw [if_pos c58] at h1
          refine q_ifT rfl (by simp [c58]) (q_skip rfl (thenC_n (zq rfl (zb rfl (zq rfl (zq rfl ?_))))))
          obtain ⟨v44, f59, h2⟩ := bnd_some h1
          obtain ⟨f59a, f59b, f59w, f59c, f59d, f59g⟩ := byteI_some f59
          have f59d := f59d.symm
          by_cases c60 : v44 < 48
          · rw [if_pos c60] at h2
            refine zr rfl rfl rfl (by simp [f59a, f59b, f59c, f59d, f59g, c60]; rfl) ?_
            refine thenC_n (q_ifT rfl (by simp) (zq rfl (zr rfl rfl rfl (by simp; rfl) ?_)))
            refine thenC_n (q_ret rfl (thenC_r (blockC_r (thenC_r ?_))))
            obtain ⟨rr2, h3, ho2⟩ := exit_some h2
            have hs2 := hr2 _ ho2
            subst hs2
            refine roundC_r ho2 (blockC_r (thenC_r ?_))
            cases h3
            simp
          · rw [if_neg c60] at h2
            refine zr rfl rfl rfl (by simp [f59a, f59b, f59c, f59d, f59g, c60]; rfl) ?_
            refine thenC_n ?_
            by_cases c61 : 57 < v44
            · rw [if_pos c61] at h2
              refine q_ifT rfl (by simp [c61]) (zq rfl (zr rfl rfl rfl (by simp; rfl) ?_))
              refine thenC_n (q_ret rfl (thenC_r (blockC_r (thenC_r ?_))))
              obtain ⟨rr2, h3, ho2⟩ := exit_some h2
              have hs2 := hr2 _ ho2
              subst hs2
              refine roundC_r ho2 (blockC_r (thenC_r ?_))
              cases h3
              simp
            · rw [if_neg c61] at h2
              refine q_ifF rfl (by simp [c61]) (q_skip rfl (thenC_n (zr rfl rfl rfl (by simp [f59a, f59b, f59c, f59d, f59g]; rfl) ?_)))
              refine blockC_n (thenC_n (zr rfl rfl rfl (by simp; rfl) ?_))
              have ho := next_some h2
              refine roundC_n ho ?_
              simp [ref26_number_h5a]
        · rw [if_neg c58] at h1
          refine q_ifF rfl (by simp [c58]) (q_exit rfl (thenC_x ?_))
          obtain ⟨rr2, h2, ho2⟩ := exit_some h1
          have hs2 := hr2 _ ho2
          subst hs2
          refine roundC_x ho2 (blockC_hit2 rfl (thenC_n (zq rfl (zq rfl (zr rfl rfl rfl (by simp; rfl) ?_)))))
          refine thenC_n ?_
          by_cases c62 : 1000000000 < w39
          · rw [if_pos c62] at h2
            refine q_ifT rfl (by simp [c62]) (zq rfl (zr rfl rfl rfl (by simp; rfl) ?_))
            refine thenC_n (q_ret rfl (thenC_r ?_))
            cases h2
            simp
          · rw [if_neg c62] at h2
            refine q_ifF rfl (by simp [c62]) (q_skip rfl (thenC_n (zq rfl (zr rfl rfl rfl (by simp; rfl) ?_))))
            refine thenC_n (q_ret rfl ?_)
            cases h2
            simp

-- semigroup/semigroupref26.kind
def ref26_kind_b8 (a0 : List Int) (w66 : Int) (v89 : Int) (v90 : Int) : Bool × Int → Option ((Bool × Int) ⊕ ((Bool × Bool × Bool × Int) ⊕ (Bool × Bool × Bool)))
  | (w92, w93) =>
  if w93 < w66 then
    if w92 = true then
      (atI a0 w93).bind fun v95 =>
      nextG (!decide (v95 = v89), IntKind.i64.wrap (w93 + 1))
    else
      nextG (false, IntKind.i64.wrap (w93 + 1))
  else
    exitG <|
    nextG (w92, decide (v89 = v90), decide (v89 = w66), IntKind.i64.wrap (w66 + 1))
def ref26_kind_h8 (a0 : List Int) (w66 : Int) (v89 : Int) (v90 : Int) : Bool × Int → Fr
  | (w92, w93) => ⟨47, [(0, .one (.t none (.sl a0.length (a0.map fun x0 => .sc (.int .i64 x0))))), (2, .one (.t none (.sc (.bool w92)))), (3, .one (.t none (.sc (.bool (decide (v89 = v90)))))), (4, .one (.t none (.sc (.bool (decide (v89 = w66)))))), (5, .one (.t none (.sc (.int .i64 w66)))), (6, .one (.t none (.sc (.int .i64 v89)))), (7, .one (.t none (.sc (.int .i64 w93)))), (8, .one (.t none (.sl a0.length (a0.map fun x0 => .sc (.int .i64 x0))))), (9, .one (.t none (.sc (.int .i64 (a0.length : Int))))), (10, .one (.t none (.sc (.int .i64 w66))))], []⟩
def ref26_kind_b8a (a0 : List Int) (w66 : Int) (v89 : Int) (v90 : Int) : Bool × Int → Option ((Bool × Int) ⊕ ((Bool × Bool × Bool × Int) ⊕ (Bool × Bool × Bool)))
  | (w97, w98) =>
  if w98 < w66 then
    if w97 = true then
      (atI a0 w98).bind fun v100 =>
      nextG (!decide (v100 = v89), IntKind.i64.wrap (w98 + 1))
    else
      nextG (false, IntKind.i64.wrap (w98 + 1))
  else
    exitG <|
    nextG (w97, decide (v89 = v90), false, IntKind.i64.wrap (w66 + 1))
def ref26_kind_h8a (a0 : List Int) (w66 : Int) (v89 : Int) (v90 : Int) : Bool × Int → Fr
  | (w97, w98) => ⟨47, [(0, .one (.t none (.sl a0.length (a0.map fun x0 => .sc (.int .i64 x0))))), (2, .one (.t none (.sc (.bool w97)))), (3, .one (.t none (.sc (.bool (decide (v89 = v90)))))), (4, .one (.t none (.sc (.bool false)))), (5, .one (.t none (.sc (.int .i64 w66)))), (6, .one (.t none (.sc (.int .i64 v89)))), (7, .one (.t none (.sc (.int .i64 w98)))), (8, .one (.t none (.sl a0.length (a0.map fun x0 => .sc (.int .i64 x0))))), (9, .one (.t none (.sc (.int .i64 (a0.length : Int))))), (10, .one (.t none (.sc (.int .i64 w66))))], []⟩
def ref26_kind_b8b (a0 : List Int) (w66 : Int) (v89 : Int) : Bool × Int → Option ((Bool × Int) ⊕ ((Bool × Bool × Bool × Int) ⊕ (Bool × Bool × Bool)))
  | (w102, w103) =>
  if w103 < w66 then
    if w102 = true then
      (atI a0 w103).bind fun v105 =>
      nextG (!decide (v105 = v89), IntKind.i64.wrap (w103 + 1))
    else
      nextG (false, IntKind.i64.wrap (w103 + 1))
  else
    exitG <|
    nextG (w102, false, decide (v89 = w66), IntKind.i64.wrap (w66 + 1))
def ref26_kind_h8b (a0 : List Int) (w66 : Int) (v89 : Int) : Bool × Int → Fr
  | (w102, w103) => ⟨47, [(0, .one (.t none (.sl a0.length (a0.map fun x0 => .sc (.int .i64 x0))))), (2, .one (.t none (.sc (.bool w102)))), (3, .one (.t none (.sc (.bool false)))), (4, .one (.t none (.sc (.bool (decide (v89 = w66)))))), (5, .one (.t none (.sc (.int .i64 w66)))), (6, .one (.t none (.sc (.int .i64 v89)))), (7, .one (.t none (.sc (.int .i64 w103)))), (8, .one (.t none (.sl a0.length (a0.map fun x0 => .sc (.int .i64 x0))))), (9, .one (.t none (.sc (.int .i64 (a0.length : Int))))), (10, .one (.t none (.sc (.int .i64 w66))))], []⟩
def ref26_kind_b8c (a0 : List Int) (w66 : Int) (v89 : Int) : Bool × Int → Option ((Bool × Int) ⊕ ((Bool × Bool × Bool × Int) ⊕ (Bool × Bool × Bool)))
  | (w107, w108) =>
  if w108 < w66 then
    if w107 = true then
      (atI a0 w108).bind fun v110 =>
      nextG (!decide (v110 = v89), IntKind.i64.wrap (w108 + 1))
    else
      nextG (false, IntKind.i64.wrap (w108 + 1))
  else
    exitG <|
    nextG (w107, false, false, IntKind.i64.wrap (w66 + 1))
def ref26_kind_h8c (a0 : List Int) (w66 : Int) (v89 : Int) : Bool × Int → Fr
  | (w107, w108) => ⟨47, [(0, .one (.t none (.sl a0.length (a0.map fun x0 => .sc (.int .i64 x0))))), (2, .one (.t none (.sc (.bool w107)))), (3, .one (.t none (.sc (.bool false)))), (4, .one (.t none (.sc (.bool false)))), (5, .one (.t none (.sc (.int .i64 w66)))), (6, .one (.t none (.sc (.int .i64 v89)))), (7, .one (.t none (.sc (.int .i64 w108)))), (8, .one (.t none (.sl a0.length (a0.map fun x0 => .sc (.int .i64 x0))))), (9, .one (.t none (.sc (.int .i64 (a0.length : Int))))), (10, .one (.t none (.sc (.int .i64 w66))))], []⟩
def ref26_kind_b3 (a0 : List Int) : Bool × Bool × Bool × Int → Option ((Bool × Bool × Bool × Int) ⊕ (Bool × Bool × Bool))
  | (w63, w64, w65, w66) =>
  if w66 < (a0.length : Int) then
    (atI a0 w66).bind fun v89 =>
    if w64 = true then
      (atI a0 0).bind fun v90 =>
      if w65 = true then
        loopG (ref26_kind_b8 a0 w66 v89 v90) LFm (w63, 0)
      else
        loopG (ref26_kind_b8a a0 w66 v89 v90) LFm (w63, 0)
    else
      if w65 = true then
        loopG (ref26_kind_b8b a0 w66 v89) LFm (w63, 0)
      else
        loopG (ref26_kind_b8c a0 w66 v89) LFm (w63, 0)
  else
    exitG <|
    some (w63, w64, w65)
def ref26_kind_h3 (a0 : List Int) : Bool × Bool × Bool × Int → Fr
  | (w63, w64, w65, w66) => ⟨47, [(0, .one (.t none (.sl a0.length (a0.map fun x0 => .sc (.int .i64 x0))))), (2, .one (.t none (.sc (.bool w63)))), (3, .one (.t none (.sc (.bool w64)))), (4, .one (.t none (.sc (.bool w65)))), (8, .one (.t none (.sl a0.length (a0.map fun x0 => .sc (.int .i64 x0))))), (9, .one (.t none (.sc (.int .i64 (a0.length : Int))))), (10, .one (.t none (.sc (.int .i64 w66))))], []⟩
def ref26_kind (a0 : List Int) : Option (Bool × Bool × Bool) :=
  loopG (ref26_kind_b3 a0) LFm (true, true, true, 0)
theorem ref26_kind_ok {a0 : List Int} {r : Bool × Bool × Bool} (h0 : ref26_kind a0 = some r) : L 65 [.sl a0.length (a0.map fun x0 => .sc (.int .i64 x0))] = some (.tup [.sc (.bool r.1), .sc (.bool r.2.1), .sc (.bool r.2.2)], [.dead]) := by
  simp only [ref26_kind] at h0
  refine L_run cfn65 fn65 (runF_of bd65 ⟨of_decide_eq_true rfl, of_decide_eq_true rfl⟩ ?_)
  simp only [entryF, entryT, entryO, entryE, isIo]
  refine zq rfl (zr rfl rfl rfl (by simp; rfl) ?_)
  refine thenC_n (zq rfl (zr rfl rfl rfl (by simp; rfl) ?_))
  refine thenC_n (zq rfl (zq rfl (zr rfl rfl rfl (by simp; rfl) ?_)))
  refine thenC_n (zb rfl (q_loopG h0 (ref26_kind_h3 a0) rfl rfl (by simp [ref26_kind_h3]) fun s o1 h1 hr1 => ?_))
  obtain ⟨w63, w64, w65, w66⟩ := s
  simp only [ref26_kind_b3] at h1
  simp only [ref26_kind_h3]
  refine zq rfl (zr rfl rfl rfl (by simp; rfl) ?_)
  refine thenC_n (zq rfl ?_)
  by_cases c147 : w66 < (a0.length : Int)
  · rw [if_pos c147] at h1
    refine q_ifT rfl (by simp [c147]) (q_skip rfl (thenC_n (zq rfl (zb rfl (zq rfl ?_)))))
    obtain ⟨v89, f148, h2⟩ := bnd_some h1
    obtain ⟨f148a, f148b, f148c, f148d, f148e⟩ := atI_some f148
    refine zr rfl rfl rfl (by simp [f148a, f148b, f148c, f148d, f148e]; rfl) ?_
    refine thenC_n (zq rfl ?_)
    by_cases c149 : w64 = true
    · rw [if_pos c149] at h2
      obtain ⟨v90, f150, h3⟩ := bnd_some h2
      obtain ⟨f150a, f150b, f150c, f150d, f150e⟩ := atI_some f150
      simp only [Int.reduceToNat, Int.toNat_natCast] at f150c f150d f150e
      have f150j : a0 ≠ [] := by intro hh; rw [hh] at f150c; simp at f150c
      have f150l : 0 < a0.length := by omega
      refine zr rfl rfl rfl (by simp [c149, f150a, f150b, f150c, f150d, f150e, f150j, f150l]; rfl) ?_
      refine thenC_n (zq rfl ?_)
      by_cases c151 : w65 = true
      · rw [if_pos c151] at h3
        refine zr rfl rfl rfl (by simp [c151]; rfl) ?_
        refine thenC_n (zq rfl (zr rfl rfl rfl (by simp; rfl) ?_))
        refine thenC_n (zb rfl (q_loopG h3 (ref26_kind_h8 a0 w66 v89 v90) rfl rfl (by simp [ref26_kind_h8]) fun s o2 h4 hr2 => ?_))
        obtain ⟨w92, w93⟩ := s
        simp only [ref26_kind_b8] at h4
        simp only [ref26_kind_h8]
        refine zq rfl (zq rfl (zr rfl rfl rfl (by simp; rfl) ?_))
        refine thenC_n ?_
        by_cases c158 : w93 < w66
        · rw [if_pos c158] at h4
          refine q_ifT rfl (by simp [c158]) (q_skip rfl (thenC_n (zq rfl (zb rfl ?_))))
          by_cases c159 : w92 = true
          · rw [if_pos c159] at h4
            obtain ⟨v95, f160, h5⟩ := bnd_some h4
            obtain ⟨f160a, f160b, f160c, f160d, f160e⟩ := atI_some f160
            refine zr rfl rfl rfl (by simp [c159, f160a, f160b, f160c, f160d, f160e]; rfl) ?_
            refine blockC_n (thenC_n (zr rfl rfl rfl (by simp; rfl) ?_))
            have ho := next_some h5
            refine roundC_n ho ?_
            simp [ref26_kind_h8, c159]
          · rw [if_neg c159] at h4
            refine zr rfl rfl rfl (by simp [c159]; rfl) ?_
            refine blockC_n (thenC_n (zr rfl rfl rfl (by simp; rfl) ?_))
            have ho := next_some h4
            refine roundC_n ho ?_
            simp [ref26_kind_h8, c159]
        · rw [if_neg c158] at h4
          refine q_ifF rfl (by simp [c158]) (q_exit rfl (thenC_x ?_))
          obtain ⟨rr2, h5, ho2⟩ := exit_some h4
          have hs2 := hr2 _ ho2
          subst hs2
          refine roundC_x ho2 (blockC_hit2 rfl (blockC_n (thenC_n (zr rfl rfl rfl (by simp; rfl) ?_))))
          have ho := next_some h5
          refine roundC_n ho ?_
          simp [ref26_kind_h3]
      · rw [if_neg c151] at h3
        refine zr rfl rfl rfl (by simp [c151]; rfl) ?_
        refine thenC_n (zq rfl (zr rfl rfl rfl (by simp; rfl) ?_))
        refine thenC_n (zb rfl (q_loopG h3 (ref26_kind_h8a a0 w66 v89 v90) rfl rfl (by simp [ref26_kind_h8a]) fun s o3 h4 hr3 => ?_))
        obtain ⟨w97, w98⟩ := s
        simp only [ref26_kind_b8a] at h4
        simp only [ref26_kind_h8a]
        refine zq rfl (zq rfl (zr rfl rfl rfl (by simp; rfl) ?_))
        refine thenC_n ?_
        by_cases c167 : w98 < w66
        · rw [if_pos c167] at h4
          refine q_ifT rfl (by simp [c167]) (q_skip rfl (thenC_n (zq rfl (zb rfl ?_))))
          by_cases c168 : w97 = true
          · rw [if_pos c168] at h4
            obtain ⟨v100, f169, h5⟩ := bnd_some h4
            obtain ⟨f169a, f169b, f169c, f169d, f169e⟩ := atI_some f169
            refine zr rfl rfl rfl (by simp [c168, f169a, f169b, f169c, f169d, f169e]; rfl) ?_
            refine blockC_n (thenC_n (zr rfl rfl rfl (by simp; rfl) ?_))
            have ho := next_some h5
            refine roundC_n ho ?_
            simp [ref26_kind_h8a, c168]
          · rw [if_neg c168] at h4
            refine zr rfl rfl rfl (by simp [c168]; rfl) ?_
            refine blockC_n (thenC_n (zr rfl rfl rfl (by simp; rfl) ?_))
            have ho := next_some h4
            refine roundC_n ho ?_
            simp [ref26_kind_h8a, c168]
        · rw [if_neg c167] at h4
          refine q_ifF rfl (by simp [c167]) (q_exit rfl (thenC_x ?_))
          obtain ⟨rr3, h5, ho3⟩ := exit_some h4
          have hs3 := hr3 _ ho3
          subst hs3
          refine roundC_x ho3 (blockC_hit2 rfl (blockC_n (thenC_n (zr rfl rfl rfl (by simp; rfl) ?_))))
          have ho := next_some h5
          refine roundC_n ho ?_
          simp [ref26_kind_h3]
    · rw [if_neg c149] at h2
      refine zr rfl rfl rfl (by simp [c149]; rfl) ?_
      refine thenC_n (zq rfl ?_)
      by_cases c170 : w65 = true
      · rw [if_pos c170] at h2
        refine zr rfl rfl rfl (by simp [c170]; rfl) ?_
        refine thenC_n (zq rfl (zr rfl rfl rfl (by simp; rfl) ?_))
        refine thenC_n (zb rfl (q_loopG h2 (ref26_kind_h8b a0 w66 v89) rfl rfl (by simp [ref26_kind_h8b]) fun s o4 h3 hr4 => ?_))
        obtain ⟨w102, w103⟩ := s
        simp only [ref26_kind_b8b] at h3
        simp only [ref26_kind_h8b]
        refine zq rfl (zq rfl (zr rfl rfl rfl (by simp; rfl) ?_))
        refine thenC_n ?_
        by_cases c177 : w103 < w66
        · rw [if_pos c177] at h3
          refine q_ifT rfl (by simp [c177]) (q_skip rfl (thenC_n (zq rfl (zb rfl ?_))))
          by_cases c178 : w102 = true
          · rw [if_pos c178] at h3
            obtain ⟨v105, f179, h4⟩ := bnd_some h3
            obtain ⟨f179a, f179b, f179c, f179d, f179e⟩ := atI_some f179
            refine zr rfl rfl rfl (by simp [c178, f179a, f179b, f179c, f179d, f179e]; rfl) ?_
            refine blockC_n (thenC_n (zr rfl rfl rfl (by simp; rfl) ?_))
            have ho := next_some h4
            refine roundC_n ho ?_
            simp [ref26_kind_h8b, c178]
          · rw [if_neg c178] at h3
            refine zr rfl rfl rfl (by simp [c178]; rfl) ?_
            refine blockC_n (thenC_n (zr rfl rfl rfl (by simp; rfl) ?_))
            have ho := next_some h3
            refine roundC_n ho ?_
            simp [ref26_kind_h8b, c178]
        · rw [if_neg c177] at h3
          refine q_ifF rfl (by simp [c177]) (q_exit rfl (thenC_x ?_))
          obtain ⟨rr4, h4, ho4⟩ := exit_some h3
          have hs4 := hr4 _ ho4
          subst hs4
          refine roundC_x ho4 (blockC_hit2 rfl (blockC_n (thenC_n (zr rfl rfl rfl (by simp; rfl) ?_))))
          have ho := next_some h4
          refine roundC_n ho ?_
          simp [ref26_kind_h3]
      · rw [if_neg c170] at h2
        refine zr rfl rfl rfl (by simp [c170]; rfl) ?_
        refine thenC_n (zq rfl (zr rfl rfl rfl (by simp; rfl) ?_))
        refine thenC_n (zb rfl (q_loopG h2 (ref26_kind_h8c a0 w66 v89) rfl rfl (by simp [ref26_kind_h8c]) fun s o5 h3 hr5 => ?_))
        obtain ⟨w107, w108⟩ := s
        simp only [ref26_kind_b8c] at h3
        simp only [ref26_kind_h8c]
        refine zq rfl (zq rfl (zr rfl rfl rfl (by simp; rfl) ?_))
        refine thenC_n ?_
        by_cases c186 : w108 < w66
        · rw [if_pos c186] at h3
          refine q_ifT rfl (by simp [c186]) (q_skip rfl (thenC_n (zq rfl (zb rfl ?_))))
          by_cases c187 : w107 = true
          · rw [if_pos c187] at h3
            obtain ⟨v110, f188, h4⟩ := bnd_some h3
            obtain ⟨f188a, f188b, f188c, f188d, f188e⟩ := atI_some f188
            refine zr rfl rfl rfl (by simp [c187, f188a, f188b, f188c, f188d, f188e]; rfl) ?_
            refine blockC_n (thenC_n (zr rfl rfl rfl (by simp; rfl) ?_))
            have ho := next_some h4
            refine roundC_n ho ?_
            simp [ref26_kind_h8c, c187]
          · rw [if_neg c187] at h3
            refine zr rfl rfl rfl (by simp [c187]; rfl) ?_
            refine blockC_n (thenC_n (zr rfl rfl rfl (by simp; rfl) ?_))
            have ho := next_some h3
            refine roundC_n ho ?_
            simp [ref26_kind_h8c, c187]
        · rw [if_neg c186] at h3
          refine q_ifF rfl (by simp [c186]) (q_exit rfl (thenC_x ?_))
          obtain ⟨rr5, h4, ho5⟩ := exit_some h3
          have hs5 := hr5 _ ho5
          subst hs5
          refine roundC_x ho5 (blockC_hit2 rfl (blockC_n (thenC_n (zr rfl rfl rfl (by simp; rfl) ?_))))
          have ho := next_some h4
          refine roundC_n ho ?_
          simp [ref26_kind_h3]
  · rw [if_neg c147] at h1
    refine q_ifF rfl (by simp [c147]) (q_exit rfl (thenC_x ?_))
    obtain ⟨rr1, h2, ho1⟩ := exit_some h1
    have hs1 := hr1 _ ho1
    subst hs1
    refine roundC_x ho1 (blockC_hit2 rfl (thenC_n (zq rfl (zr rfl rfl rfl (by simp; rfl) ?_))))
    refine thenC_n (q_ret rfl ?_)
    cases h2
    simp

-- semigroup/semigroupref26.Kinds
def ref26_Kinds_b12 (w169 : Int) (w228 : Int) (v241 : CRow) : Bool × Bool × Bool × Bool × Int → Option ((Bool × Bool × Bool × Bool × Int) ⊕ ((Bool × Bool × Bool × Bool × Int) ⊕ ((Int × List Int) ⊕ List Int)))
  | (w244, w245, w246, w247, w248) =>
  if w248 < (v241.maps.length : Int) then
    (atI v241.maps w248).bind fun v251 =>
    if (v241.pre.length : Int) = w169 then
      (ref26_kind v251).bind fun v252 =>
      if w245 = true then
        if w246 = true then
          if v252.2.1 = true then
            if w247 = true then
              if v252.1 = true then
                nextG (true, v252.1, true, true, IntKind.i64.wrap (w248 + 1))
              else
                nextG (true, v252.1, true, v252.2.1, IntKind.i64.wrap (w248 + 1))
            else
              nextG (true, v252.1, true, false, IntKind.i64.wrap (w248 + 1))
          else
            if w247 = true then
              if v252.1 = true then
                nextG (true, v252.1, v252.2.2, true, IntKind.i64.wrap (w248 + 1))
              else
                nextG (true, v252.1, v252.2.2, v252.2.1, IntKind.i64.wrap (w248 + 1))
            else
              nextG (true, v252.1, v252.2.2, false, IntKind.i64.wrap (w248 + 1))
        else
          if w247 = true then
            if v252.1 = true then
              nextG (true, v252.1, false, true, IntKind.i64.wrap (w248 + 1))
            else
              nextG (true, v252.1, false, v252.2.1, IntKind.i64.wrap (w248 + 1))
          else
            nextG (true, v252.1, false, false, IntKind.i64.wrap (w248 + 1))
      else
        if w246 = true then
          if v252.2.1 = true then
            if w247 = true then
              if v252.1 = true then
                nextG (true, false, true, true, IntKind.i64.wrap (w248 + 1))
              else
                nextG (true, false, true, v252.2.1, IntKind.i64.wrap (w248 + 1))
            else
              nextG (true, false, true, false, IntKind.i64.wrap (w248 + 1))
          else
            if w247 = true then
              if v252.1 = true then
                nextG (true, false, v252.2.2, true, IntKind.i64.wrap (w248 + 1))
              else
                nextG (true, false, v252.2.2, v252.2.1, IntKind.i64.wrap (w248 + 1))
            else
              nextG (true, false, v252.2.2, false, IntKind.i64.wrap (w248 + 1))
        else
          if w247 = true then
            if v252.1 = true then
              nextG (true, false, false, true, IntKind.i64.wrap (w248 + 1))
            else
              nextG (true, false, false, v252.2.1, IntKind.i64.wrap (w248 + 1))
          else
            nextG (true, false, false, false, IntKind.i64.wrap (w248 + 1))
    else
      nextG (w244, w245, w246, w247, IntKind.i64.wrap (w248 + 1))
  else
    exitG <|
    nextG (w244, w245, w246, w247, IntKind.i64.wrap (w228 + 1))
def ref26_Kinds_h12 (a0 : Casc) (w169 : Int) (w170 : List Int) (w228 : Int) (v241 : CRow) : Bool × Bool × Bool × Bool × Int → Fr
  | (w244, w245, w246, w247, w248) => ⟨96, [(1, .one (.a 1 [] (0))), (3, .one (.h 3 [])), (4, .one (.t none (.sc (.int .i64 w169)))), (5, .one (.t none (.sc (.bool w244)))), (6, .one (.t none (.sc (.bool w245)))), (7, .one (.t none (.sc (.bool w246)))), (8, .one (.t none (.sc (.bool w247)))), (10, .one (.a 10 [] (0))), (21, .one (.t none (.sc (.int .i64 (a0.sizes.length : Int))))), (22, .one (.t none (.sc (.int .i64 w169)))), (26, .one (.t none (.sl a0.rows.length (a0.rows.flatMap fun x0 => [.sl x0.pre.length (x0.pre.map fun x1 => .sc (.int .i64 x1)), .sl x0.maps.length (x0.maps.map fun x1 => .sl x1.length (x1.map fun x2 => .sc (.int .i64 x2)))])))), (27, .one (.t none (.sc (.int .i64 (a0.rows.length : Int))))), (28, .one (.t none (.sc (.int .i64 w228)))), (33, .one (.t none (.sl v241.maps.length (v241.maps.map fun x0 => .sl x0.length (x0.map fun x1 => .sc (.int .i64 x1)))))), (34, .one (.t none (.sc (.int .i64 (v241.maps.length : Int))))), (35, .one (.t none (.sc (.int .i64 w248))))], [(1, .vr [.sc (.int .i64 a0.letters), .sl a0.sizes.length (a0.sizes.map fun x0 => .sc (.int .i64 x0)), .sl a0.rows.length (a0.rows.flatMap fun x0 => [.sl x0.pre.length (x0.pre.map fun x1 => .sc (.int .i64 x1)), .sl x0.maps.length (x0.maps.map fun x1 => .sl x1.length (x1.map fun x2 => .sc (.int .i64 x2)))])]), (3, .os 1 w170.length (w170.map fun x0 => .sc (.int .i64 x0))), (10, .vr [.sl v241.pre.length (v241.pre.map fun x0 => .sc (.int .i64 x0)), .sl v241.maps.length (v241.maps.map fun x0 => .sl x0.length (x0.map fun x1 => .sc (.int .i64 x1)))])]⟩
def ref26_Kinds_b9 (a0 : Casc) (w169 : Int) (w170 : List Int) : Bool × Bool × Bool × Bool × Int → Option ((Bool × Bool × Bool × Bool × Int) ⊕ ((Int × List Int) ⊕ List Int))
  | (w224, w225, w226, w227, w228) =>
  if w228 < (a0.rows.length : Int) then
    (atI a0.rows w228).bind fun v241 =>
    loopG (ref26_Kinds_b12 w169 w228 v241) LFm (w224, w225, w226, w227, 0)
  else
    exitG <|
    if w224 = true then
      if w225 = true then
        chk (capOk 8 (w170.length + 1)) <|
        nextG (IntKind.i64.wrap (w169 + 1), w170 ++ [1])
      else
        if w226 = true then
          chk (capOk 8 (w170.length + 1)) <|
          nextG (IntKind.i64.wrap (w169 + 1), w170 ++ [2])
        else
          if w227 = true then
            chk (capOk 8 (w170.length + 1)) <|
            nextG (IntKind.i64.wrap (w169 + 1), w170 ++ [3])
          else
            chk (capOk 8 (w170.length + 1)) <|
            nextG (IntKind.i64.wrap (w169 + 1), w170 ++ [4])
    else
      chk (capOk 8 (w170.length + 1)) <|
      nextG (IntKind.i64.wrap (w169 + 1), w170 ++ [0])
def ref26_Kinds_h9 (a0 : Casc) (w169 : Int) (w170 : List Int) : Bool × Bool × Bool × Bool × Int → Fr
  | (w224, w225, w226, w227, w228) => ⟨96, [(1, .one (.a 1 [] (0))), (3, .one (.h 3 [])), (4, .one (.t none (.sc (.int .i64 w169)))), (5, .one (.t none (.sc (.bool w224)))), (6, .one (.t none (.sc (.bool w225)))), (7, .one (.t none (.sc (.bool w226)))), (8, .one (.t none (.sc (.bool w227)))), (21, .one (.t none (.sc (.int .i64 (a0.sizes.length : Int))))), (22, .one (.t none (.sc (.int .i64 w169)))), (26, .one (.t none (.sl a0.rows.length (a0.rows.flatMap fun x0 => [.sl x0.pre.length (x0.pre.map fun x1 => .sc (.int .i64 x1)), .sl x0.maps.length (x0.maps.map fun x1 => .sl x1.length (x1.map fun x2 => .sc (.int .i64 x2)))])))), (27, .one (.t none (.sc (.int .i64 (a0.rows.length : Int))))), (28, .one (.t none (.sc (.int .i64 w228))))], [(1, .vr [.sc (.int .i64 a0.letters), .sl a0.sizes.length (a0.sizes.map fun x0 => .sc (.int .i64 x0)), .sl a0.rows.length (a0.rows.flatMap fun x0 => [.sl x0.pre.length (x0.pre.map fun x1 => .sc (.int .i64 x1)), .sl x0.maps.length (x0.maps.map fun x1 => .sl x1.length (x1.map fun x2 => .sc (.int .i64 x2)))])]), (3, .os 1 w170.length (w170.map fun x0 => .sc (.int .i64 x0)))]⟩
def ref26_Kinds_b5 (a0 : Casc) : Int × List Int → Option ((Int × List Int) ⊕ List Int)
  | (w169, w170) =>
  if w169 < (a0.sizes.length : Int) then
    loopG (ref26_Kinds_b9 a0 w169 w170) LFm (false, true, true, true, 0)
  else
    exitG <|
    some w170
def ref26_Kinds_h5 (a0 : Casc) : Int × List Int → Fr
  | (w169, w170) => ⟨96, [(1, .one (.a 1 [] (0))), (3, .one (.h 3 [])), (21, .one (.t none (.sc (.int .i64 (a0.sizes.length : Int))))), (22, .one (.t none (.sc (.int .i64 w169))))], [(1, .vr [.sc (.int .i64 a0.letters), .sl a0.sizes.length (a0.sizes.map fun x0 => .sc (.int .i64 x0)), .sl a0.rows.length (a0.rows.flatMap fun x0 => [.sl x0.pre.length (x0.pre.map fun x1 => .sc (.int .i64 x1)), .sl x0.maps.length (x0.maps.map fun x1 => .sl x1.length (x1.map fun x2 => .sc (.int .i64 x2)))])]), (3, .os 1 w170.length (w170.map fun x0 => .sc (.int .i64 x0)))]⟩
def ref26_Kinds (a0 : Casc) : Option (List Int) :=
  (ref26_Validate a0).bind fun v127 =>
  if v127 = 0 then
    loopG (ref26_Kinds_b5 a0) LFm (0, [])
  else
    some []
theorem ref26_Kinds_ok {a0 : Casc} {r : List Int} (h0 : ref26_Kinds a0 = some r) : L 45 [.agg [.sc (.int .i64 a0.letters), .sl a0.sizes.length (a0.sizes.map fun x0 => .sc (.int .i64 x0)), .sl a0.rows.length (a0.rows.flatMap fun x0 => [.sl x0.pre.length (x0.pre.map fun x1 => .sc (.int .i64 x1)), .sl x0.maps.length (x0.maps.map fun x1 => .sl x1.length (x1.map fun x2 => .sc (.int .i64 x2)))])]] = some (.os 1 r.length (r.map fun x0 => .sc (.int .i64 x0)), [.dead]) := by
  simp only [ref26_Kinds] at h0
  refine L_run cfn45 fn45 (runF_of bd45 ⟨of_decide_eq_true rfl, of_decide_eq_true rfl⟩ ?_)
  simp only [entryF, entryT, entryO, entryE, isIo]
  refine zq rfl (zr rfl rfl rfl (by simp; rfl) ?_)
  refine thenC_n (zq rfl (zq rfl ?_))
  obtain ⟨v127, f571, h1⟩ := bnd_some h0
  have f571k := ref26_Validate_ok f571
  try simp at f571k
  refine zr rfl rfl rfl (by simp [f571k]; rfl) ?_
  refine thenC_n ?_
  by_cases c572 : v127 = 0
  · rw [if_pos c572] at h1
    have c572e := eq_true c572
    refine q_ifF rfl (by simp [c572e]) (q_skip rfl (thenC_n (zq rfl (zr rfl rfl rfl (by simp; rfl) ?_))))
    refine thenC_n (zq rfl (zq rfl (zr rfl rfl rfl (by simp; rfl) ?_)))
    refine thenC_n (zb rfl (q_loopG h1 (ref26_Kinds_h5 a0) rfl rfl (by simp [ref26_Kinds_h5]) fun s o1 h2 hr1 => ?_))
    obtain ⟨w169, w170⟩ := s
    simp only [ref26_Kinds_b5] at h2
    simp only [ref26_Kinds_h5]
    refine zq rfl (zr rfl rfl rfl (by simp; rfl) ?_)
    refine thenC_n (zq rfl ?_)
    by_cases c950 : w169 < (a0.sizes.length : Int)
    · rw [if_pos c950] at h2
      refine q_ifT rfl (by simp [c950]) (q_skip rfl (thenC_n (zq rfl (zb rfl (zq rfl (zr rfl rfl rfl (by simp; rfl) ?_))))))
      refine thenC_n (zq rfl (zr rfl rfl rfl (by simp; rfl) ?_))
      refine thenC_n (zq rfl (zq rfl (zr rfl rfl rfl (by simp; rfl) ?_)))
      refine thenC_n (zb rfl (q_loopG h2 (ref26_Kinds_h9 a0 w169 w170) rfl rfl (by simp [ref26_Kinds_h9]) fun s o2 h3 hr2 => ?_))
      obtain ⟨w224, w225, w226, w227, w228⟩ := s
      simp only [ref26_Kinds_b9] at h3
      simp only [ref26_Kinds_h9]
      refine zq rfl (zr rfl rfl rfl (by simp; rfl) ?_)
      refine thenC_n (zq rfl ?_)
      by_cases c1067 : w228 < (a0.rows.length : Int)
      · rw [if_pos c1067] at h3
        refine q_ifT rfl (by simp [c1067]) (q_skip rfl (thenC_n (zq rfl (zb rfl (zq rfl ?_)))))
        obtain ⟨v241, f1068, h4⟩ := bnd_some h3
        obtain ⟨f1068a, f1068b, f1068c, f1068d, f1068e⟩ := atI_some f1068
        have f1068g := flat_some (g := fun x : CRow => ([.sl x.pre.length (x.pre.map fun x0 => .sc (.int .i64 x0)), .sl x.maps.length (x.maps.map fun x0 => .sl x0.length (x0.map fun x1 => .sc (.int .i64 x1)))] : List T)) (m := 2) (fun _ => rfl) f1068d
        have f1068h := flat_len (g := fun x : CRow => ([.sl x.pre.length (x.pre.map fun x0 => .sc (.int .i64 x0)), .sl x.maps.length (x.maps.map fun x0 => .sl x0.length (x0.map fun x1 => .sc (.int .i64 x1)))] : List T)) (m := 2) (fun _ => rfl) a0.rows
        have f1068k0 := f1068g.2.2.1 0 (by decide)
        have f1068m0 := f1068g.2.2.2 0 _ rfl
        have f1068k1 := f1068g.2.2.1 1 (by decide)
        have f1068m1 := f1068g.2.2.2 1 _ rfl
        obtain ⟨f1068g, f1068i, -⟩ := f1068g
        try simp at f1068i f1068h f1068k0 f1068m0 f1068k1 f1068m1
        refine zr rfl rfl rfl (by simp [f1068a, f1068b, f1068c, f1068d, f1068e, f1068g, f1068i, f1068h, f1068k0, f1068k1, f1068m0, f1068m1]; rfl) ?_
        refine thenC_n (zq rfl (zr rfl rfl rfl (by simp; rfl) ?_))
        refine thenC_n (zb rfl (q_loopG h4 (ref26_Kinds_h12 a0 w169 w170 w228 v241) rfl rfl (by simp [ref26_Kinds_h12]) fun s o3 h5 hr3 => ?_))
        obtain ⟨w244, w245, w246, w247, w248⟩ := s
        simp only [ref26_Kinds_b12] at h5
        simp only [ref26_Kinds_h12]
        refine zq rfl (zr rfl rfl rfl (by simp; rfl) ?_)
        refine thenC_n (zq rfl ?_)
        by_cases c1111 : w248 < (v241.maps.length : Int)
        · rw [if_pos c1111] at h5
          refine q_ifT rfl (by simp [c1111]) (q_skip rfl (thenC_n (zq rfl (zb rfl (zq rfl ?_)))))
          obtain ⟨v251, f1112, h6⟩ := bnd_some h5
          obtain ⟨f1112a, f1112b, f1112c, f1112d, f1112e⟩ := atI_some f1112
          refine zr rfl rfl rfl (by simp [f1112a, f1112b, f1112c, f1112d, f1112e]; rfl) ?_
          refine thenC_n (zq rfl (zq rfl (zr rfl rfl rfl (by simp; rfl) ?_)))
          refine thenC_n ?_
          by_cases c1113 : (v241.pre.length : Int) = w169
          · rw [if_pos c1113] at h6
            have c1113e := eq_true c1113
            refine q_ifF rfl (by simp [c1113e]) (q_skip rfl (thenC_n (zq rfl ?_)))
            obtain ⟨v252, f1114, h7⟩ := bnd_some h6
            have f1114k := ref26_kind_ok f1114
            try simp at f1114k
            refine zr rfl rfl rfl (by simp [f1114k]; rfl) ?_
            refine thenC_n ?_
            by_cases c1115 : w245 = true
            · rw [if_pos c1115] at h7
              by_cases c1116 : w246 = true
              · rw [if_pos c1116] at h7
                by_cases c1117 : v252.2.1 = true
                · rw [if_pos c1117] at h7
                  by_cases c1118 : w247 = true
                  · rw [if_pos c1118] at h7
                    by_cases c1119 : v252.1 = true
                    · rw [if_pos c1119] at h7
                      refine zr rfl rfl rfl (by simp [c1115, c1116, c1117, c1118, c1119]; rfl) ?_
                      refine blockC_n (thenC_n (zr rfl rfl rfl (by simp; rfl) ?_))
                      have ho := next_some h7
                      refine roundC_n ho ?_
                      simp [ref26_Kinds_h12, c1115, c1116, c1117, c1118, c1119]
                    · rw [if_neg c1119] at h7
                      refine zr rfl rfl rfl (by simp [c1115, c1116, c1117, c1118, c1119]; rfl) ?_
                      refine blockC_n (thenC_n (zr rfl rfl rfl (by simp; rfl) ?_))
                      have ho := next_some h7
                      refine roundC_n ho ?_
                      simp [ref26_Kinds_h12, c1115, c1116, c1117, c1118, c1119]
                  · rw [if_neg c1118] at h7
                    refine zr rfl rfl rfl (by simp [c1115, c1116, c1117, c1118]; rfl) ?_
                    refine blockC_n (thenC_n (zr rfl rfl rfl (by simp; rfl) ?_))
                    have ho := next_some h7
                    refine roundC_n ho ?_
                    simp [ref26_Kinds_h12, c1115, c1116, c1117, c1118]
                · rw [if_neg c1117] at h7
                  by_cases c1120 : w247 = true
                  · rw [if_pos c1120] at h7
                    by_cases c1121 : v252.1 = true
                    · rw [if_pos c1121] at h7
                      refine zr rfl rfl rfl (by simp [c1115, c1116, c1117, c1120, c1121]; rfl) ?_
                      refine blockC_n (thenC_n (zr rfl rfl rfl (by simp; rfl) ?_))
                      have ho := next_some h7
                      refine roundC_n ho ?_
                      simp [ref26_Kinds_h12, c1115, c1116, c1117, c1120, c1121]
                    · rw [if_neg c1121] at h7
                      refine zr rfl rfl rfl (by simp [c1115, c1116, c1117, c1120, c1121]; rfl) ?_
                      refine blockC_n (thenC_n (zr rfl rfl rfl (by simp; rfl) ?_))
                      have ho := next_some h7
                      refine roundC_n ho ?_
                      simp [ref26_Kinds_h12, c1115, c1116, c1117, c1120, c1121]
                  · rw [if_neg c1120] at h7
                    refine zr rfl rfl rfl (by simp [c1115, c1116, c1117, c1120]; rfl) ?_
                    refine blockC_n (thenC_n (zr rfl rfl rfl (by simp; rfl) ?_))
                    have ho := next_some h7
                    refine roundC_n ho ?_
                    simp [ref26_Kinds_h12, c1115, c1116, c1117, c1120]
              · rw [if_neg c1116] at h7
                by_cases c1122 : w247 = true
                · rw [if_pos c1122] at h7
                  by_cases c1123 : v252.1 = true
                  · rw [if_pos c1123] at h7
                    refine zr rfl rfl rfl (by simp [c1115, c1116, c1122, c1123]; rfl) ?_
                    refine blockC_n (thenC_n (zr rfl rfl rfl (by simp; rfl) ?_))
                    have ho := next_some h7
                    refine roundC_n ho ?_
                    simp [ref26_Kinds_h12, c1115, c1116, c1122, c1123]
                  · rw [if_neg c1123] at h7
                    refine zr rfl rfl rfl (by simp [c1115, c1116, c1122, c1123]; rfl) ?_
                    refine blockC_n (thenC_n (zr rfl rfl rfl (by simp; rfl) ?_))
                    have ho := next_some h7
                    refine roundC_n ho ?_
                    simp [ref26_Kinds_h12, c1115, c1116, c1122, c1123]
                · rw [if_neg c1122] at h7
                  refine zr rfl rfl rfl (by simp [c1115, c1116, c1122]; rfl) ?_
                  refine blockC_n (thenC_n (zr rfl rfl rfl (by simp; rfl) ?_))
                  have ho := next_some h7
                  refine roundC_n ho ?_
                  simp [ref26_Kinds_h12, c1115, c1116, c1122]
            · rw [if_neg c1115] at h7
              by_cases c1124 : w246 = true
              · rw [if_pos c1124] at h7
                by_cases c1125 : v252.2.1 = true
                · rw [if_pos c1125] at h7
                  by_cases c1126 : w247 = true
                  · rw [if_pos c1126] at h7
                    by_cases c1127 : v252.1 = true
                    · rw [if_pos c1127] at h7
                      refine zr rfl rfl rfl (by simp [c1115, c1124, c1125, c1126, c1127]; rfl) ?_
                      refine blockC_n (thenC_n (zr rfl rfl rfl (by simp; rfl) ?_))
                      have ho := next_some h7
                      refine roundC_n ho ?_
                      simp [ref26_Kinds_h12, c1115, c1124, c1125, c1126, c1127]
                    · rw [if_neg c1127] at h7
                      refine zr rfl rfl rfl (by simp [c1115, c1124, c1125, c1126, c1127]; rfl) ?_
                      refine blockC_n (thenC_n (zr rfl rfl rfl (by simp; rfl) ?_))
                      have ho := next_some h7
                      refine roundC_n ho ?_
                      simp [ref26_Kinds_h12, c1115, c1124, c1125, c1126, c1127]
                  · rw [if_neg c1126] at h7
                    refine zr rfl rfl rfl (by simp [c1115, c1124, c1125, c1126]; rfl) ?_
                    refine blockC_n (thenC_n (zr rfl rfl rfl (by simp; rfl) ?_))
                    have ho := next_some h7
                    refine roundC_n ho ?_
                    simp [ref26_Kinds_h12, c1115, c1124, c1125, c1126]
                · rw [if_neg c1125] at h7
                  by_cases c1128 : w247 = true
                  · rw [if_pos c1128] at h7
                    by_cases c1129 : v252.1 = true
                    · rw [if_pos c1129] at h7
                      refine zr rfl rfl rfl (by simp [c1115, c1124, c1125, c1128, c1129]; rfl) ?_
                      refine blockC_n (thenC_n (zr rfl rfl rfl (by simp; rfl) ?_))
                      have ho := next_some h7
                      refine roundC_n ho ?_
                      simp [ref26_Kinds_h12, c1115, c1124, c1125, c1128, c1129]
                    · rw [if_neg c1129] at h7
                      refine zr rfl rfl rfl (by simp [c1115, c1124, c1125, c1128, c1129]; rfl) ?_
                      refine blockC_n (thenC_n (zr rfl rfl rfl (by simp; rfl) ?_))
                      have ho := next_some h7
                      refine roundC_n ho ?_
                      simp [ref26_Kinds_h12, c1115, c1124, c1125, c1128, c1129]
                  · rw [if_neg c1128] at h7
                    refine zr rfl rfl rfl (by simp [c1115, c1124, c1125, c1128]; rfl) ?_
                    refine blockC_n (thenC_n (zr rfl rfl rfl (by simp; rfl) ?_))
                    have ho := next_some h7
                    refine roundC_n ho ?_
                    simp [ref26_Kinds_h12, c1115, c1124, c1125, c1128]
              · rw [if_neg c1124] at h7
                by_cases c1130 : w247 = true
                · rw [if_pos c1130] at h7
                  by_cases c1131 : v252.1 = true
                  · rw [if_pos c1131] at h7
                    refine zr rfl rfl rfl (by simp [c1115, c1124, c1130, c1131]; rfl) ?_
                    refine blockC_n (thenC_n (zr rfl rfl rfl (by simp; rfl) ?_))
                    have ho := next_some h7
                    refine roundC_n ho ?_
                    simp [ref26_Kinds_h12, c1115, c1124, c1130, c1131]
                  · rw [if_neg c1131] at h7
                    refine zr rfl rfl rfl (by simp [c1115, c1124, c1130, c1131]; rfl) ?_
                    refine blockC_n (thenC_n (zr rfl rfl rfl (by simp; rfl) ?_))
                    have ho := next_some h7
                    refine roundC_n ho ?_
                    simp [ref26_Kinds_h12, c1115, c1124, c1130, c1131]
                · rw [if_neg c1130] at h7
                  refine zr rfl rfl rfl (by simp [c1115, c1124, c1130]; rfl) ?_
                  refine blockC_n (thenC_n (zr rfl rfl rfl (by simp; rfl) ?_))
                  have ho := next_some h7
                  refine roundC_n ho ?_
                  simp [ref26_Kinds_h12, c1115, c1124, c1130]
          · rw [if_neg c1113] at h6
            have c1113e := eq_false c1113
            refine q_ifT rfl (by simp [c1113e]) (q_exit rfl (thenC_x (blockC_hit2 rfl (thenC_n (zr rfl rfl rfl (by simp; rfl) ?_)))))
            have ho := next_some h6
            refine roundC_n ho ?_
            simp [ref26_Kinds_h12]
        · rw [if_neg c1111] at h5
          refine q_ifF rfl (by simp [c1111]) (q_exit rfl (thenC_x ?_))
          obtain ⟨rr3, h6, ho3⟩ := exit_some h5
          have hs3 := hr3 _ ho3
          subst hs3
          refine roundC_x ho3 (blockC_hit2 rfl (blockC_n (thenC_n (zr rfl rfl rfl (by simp; rfl) ?_))))
          have ho := next_some h6
          refine roundC_n ho ?_
          simp [ref26_Kinds_h9]
      · rw [if_neg c1067] at h3
        refine q_ifF rfl (by simp [c1067]) (q_exit rfl (thenC_x ?_))
        obtain ⟨rr2, h4, ho2⟩ := exit_some h3
        have hs2 := hr2 _ ho2
        subst hs2
        refine roundC_x ho2 (blockC_hit2 rfl (thenC_n (zb rfl (zq rfl (zr rfl rfl rfl (by simp; rfl) ?_)))))
        refine thenC_n ?_
        by_cases c1132 : w224 = true
        · rw [if_pos c1132] at h4
          refine q_ifF rfl (by simp [c1132]) (zq rfl (zr rfl rfl rfl (by simp; rfl) ?_))
          refine thenC_n ?_
          by_cases c1133 : w225 = true
          · rw [if_pos c1133] at h4
            refine q_ifT rfl (by simp [c1133]) ?_
            obtain ⟨f1134, h5⟩ := chk_some h4
            obtain ⟨f1134a, f1134b⟩ := f1134
            refine zr rfl rfl rfl (by simp [f1134a, f1134b]; rfl) ?_
            refine blockC_n (blockC_n (thenC_n (zr rfl rfl rfl (by simp; rfl) ?_)))
            have ho := next_some h5
            refine roundC_n ho ?_
            simp [ref26_Kinds_h5, c1132, c1133]
          · rw [if_neg c1133] at h4
            refine q_ifF rfl (by simp [c1133]) (zq rfl (zr rfl rfl rfl (by simp; rfl) ?_))
            refine thenC_n ?_
            by_cases c1135 : w226 = true
            · rw [if_pos c1135] at h4
              refine q_ifT rfl (by simp [c1135]) ?_
              obtain ⟨f1136, h5⟩ := chk_some h4
              obtain ⟨f1136a, f1136b⟩ := f1136
              refine zr rfl rfl rfl (by simp [f1136a, f1136b]; rfl) ?_
              refine blockC_n (blockC_n (thenC_n (zr rfl rfl rfl (by simp; rfl) ?_)))
              have ho := next_some h5
              refine roundC_n ho ?_
              simp [ref26_Kinds_h5, c1132, c1133, c1135]
            · rw [if_neg c1135] at h4
              refine q_ifF rfl (by simp [c1135]) (zq rfl (zr rfl rfl rfl (by simp; rfl) ?_))
              refine thenC_n ?_
              by_cases c1137 : w227 = true
              · rw [if_pos c1137] at h4
                refine q_ifT rfl (by simp [c1137]) ?_
                obtain ⟨f1138, h5⟩ := chk_some h4
                obtain ⟨f1138a, f1138b⟩ := f1138
                refine zr rfl rfl rfl (by simp [f1138a, f1138b]; rfl) ?_
                refine blockC_n (blockC_n (thenC_n (zr rfl rfl rfl (by simp; rfl) ?_)))
                have ho := next_some h5
                refine roundC_n ho ?_
                simp [ref26_Kinds_h5, c1132, c1133, c1135, c1137]
              · rw [if_neg c1137] at h4
                refine q_ifF rfl (by simp [c1137]) ?_
                obtain ⟨f1139, h5⟩ := chk_some h4
                obtain ⟨f1139a, f1139b⟩ := f1139
                refine zr rfl rfl rfl (by simp [f1139a, f1139b]; rfl) ?_
                refine blockC_n (blockC_n (thenC_n (zr rfl rfl rfl (by simp; rfl) ?_)))
                have ho := next_some h5
                refine roundC_n ho ?_
                simp [ref26_Kinds_h5, c1132, c1133, c1135, c1137]
        · rw [if_neg c1132] at h4
          refine q_ifT rfl (by simp [c1132]) ?_
          obtain ⟨f1140, h5⟩ := chk_some h4
          obtain ⟨f1140a, f1140b⟩ := f1140
          refine zr rfl rfl rfl (by simp [f1140a, f1140b]; rfl) ?_
          refine blockC_n (blockC_n (thenC_n (zr rfl rfl rfl (by simp; rfl) ?_)))
          have ho := next_some h5
          refine roundC_n ho ?_
          simp [ref26_Kinds_h5, c1132]
    · rw [if_neg c950] at h2
      refine q_ifF rfl (by simp [c950]) (q_exit rfl (thenC_x ?_))
      obtain ⟨rr1, h3, ho1⟩ := exit_some h2
      have hs1 := hr1 _ ho1
      subst hs1
      refine roundC_x ho1 (blockC_hit2 rfl (thenC_n (zq rfl (zr rfl rfl rfl (by simp; rfl) ?_))))
      refine thenC_n (q_ret rfl ?_)
      cases h3
      simp
  · rw [if_neg c572] at h1
    have c572e := eq_false c572
    refine q_ifT rfl (by simp [c572e]) (zq rfl (zr rfl rfl rfl (by simp; rfl) ?_))
    refine thenC_n (q_ret rfl (thenC_r ?_))
    cases h1
    simp

-- semigroup/semigroupmade.FewRows
def made_FewRows_b4 (a0 : List (List Int)) : Int → Option (Int ⊕ Bool)
  | w6 =>
  if w6 < (a0.length : Int) then
    (atI a0 w6).bind fun v8 =>
    if 30 < (v8.length : Int) then
      exitG <|
      some false
    else
      nextG (IntKind.i64.wrap (w6 + 1))
  else
    exitG <|
    some true
def made_FewRows_h4 (a0 : List (List Int)) : Int → Fr
  | w6 => ⟨18, [(8, .one (.t none (.sl a0.length (a0.map fun x0 => .sl x0.length (x0.map fun x1 => .sc (.int .i64 x1)))))), (9, .one (.t none (.sc (.int .i64 (a0.length : Int))))), (10, .one (.t none (.sc (.int .i64 w6))))], []⟩
def made_FewRows (a0 : List (List Int)) : Option (Bool) :=
  if 30 < (a0.length : Int) then
    some false
  else
    loopG (made_FewRows_b4 a0) LFm 0
theorem made_FewRows_ok {a0 : List (List Int)} {r : Bool} (h0 : made_FewRows a0 = some r) : L 42 [.sl a0.length (a0.map fun x0 => .sl x0.length (x0.map fun x1 => .sc (.int .i64 x1)))] = some (.sc (.bool r), [.dead]) := by
  simp only [made_FewRows] at h0
  refine L_run cfn42 fn42 (runF_of bd42 ⟨of_decide_eq_true rfl, of_decide_eq_true rfl⟩ ?_)
  simp only [entryF, entryT, entryO, entryE, isIo]
  refine zq rfl (zr rfl rfl rfl (by simp; rfl) ?_)
  refine thenC_n (zq rfl (zq rfl (zr rfl rfl rfl (by simp; rfl) ?_)))
  refine thenC_n ?_
  by_cases c11 : 30 < (a0.length : Int)
  · rw [if_pos c11] at h0
    refine q_ifT rfl (by simp [c11]) (zq rfl (zr rfl rfl rfl (by simp; rfl) ?_))
    refine thenC_n (q_ret rfl (thenC_r ?_))
    cases h0
    simp
  · rw [if_neg c11] at h0
    refine q_ifF rfl (by simp [c11]) (q_skip rfl (thenC_n (zq rfl (zq rfl (zr rfl rfl rfl (by simp; rfl) ?_)))))
    refine thenC_n (zb rfl (q_loopG h0 (made_FewRows_h4 a0) rfl rfl (by simp [made_FewRows_h4]) fun s o1 h1 hr1 => ?_))
    obtain ⟨w6, hs1⟩ : ∃ y, y = s := ⟨_, rfl⟩
    subst hs1
    simp only [made_FewRows_b4] at h1
    simp only [made_FewRows_h4]
    refine zq rfl (zr rfl rfl rfl (by simp; rfl) ?_)
    refine thenC_n (zq rfl ?_)
    by_cases c18 : w6 < (a0.length : Int)
    · rw [if_pos c18] at h1
      refine q_ifT rfl (by simp [c18]) (q_skip rfl (thenC_n (zq rfl (zb rfl (zq rfl ?_)))))
      obtain ⟨v8, f19, h2⟩ := bnd_some h1
      obtain ⟨f19a, f19b, f19c, f19d, f19e⟩ := atI_some f19
      refine zr rfl rfl rfl (by simp [f19a, f19b, f19c, f19d, f19e]; rfl) ?_
      refine thenC_n (zq rfl (zr rfl rfl rfl (by simp; rfl) ?_))
      refine thenC_n ?_
      by_cases c20 : 30 < (v8.length : Int)
      · rw [if_pos c20] at h2
        refine q_ifT rfl (by simp [c20]) (zq rfl (zr rfl rfl rfl (by simp; rfl) ?_))
        refine thenC_n (q_ret rfl (blockC_r (thenC_r ?_)))
        obtain ⟨rr1, h3, ho1⟩ := exit_some h2
        have hs1 := hr1 _ ho1
        subst hs1
        refine roundC_r ho1 (blockC_r (thenC_r ?_))
        cases h3
        simp
      · rw [if_neg c20] at h2
        refine q_ifF rfl (by simp [c20]) (q_skip rfl (blockC_n (thenC_n (zr rfl rfl rfl (by simp; rfl) ?_))))
        have ho := next_some h2
        refine roundC_n ho ?_
        simp [made_FewRows_h4]
    · rw [if_neg c18] at h1
      refine q_ifF rfl (by simp [c18]) (q_exit rfl (thenC_x ?_))
      obtain ⟨rr1, h2, ho1⟩ := exit_some h1
      have hs1 := hr1 _ ho1
      subst hs1
      refine roundC_x ho1 (blockC_hit2 rfl (thenC_n (zq rfl (zr rfl rfl rfl (by simp; rfl) ?_))))
      refine thenC_n (q_ret rfl ?_)
      cases h2
      simp

-- semigroup/semigrouplaw26.few
def law26_few_b4 (a0 : Casc) : Int → Option (Int ⊕ Bool)
  | w10 =>
  if w10 < (a0.rows.length : Int) then
    (atI a0.rows w10).bind fun v13 =>
    if 12 < (v13.pre.length : Int) then
      exitG <|
      some false
    else
      (made_FewRows v13.maps).bind fun v14 =>
      if v14 = true then
        nextG (IntKind.i64.wrap (w10 + 1))
      else
        exitG <|
        some false
  else
    exitG <|
    some true
def law26_few_h4 (a0 : Casc) : Int → Fr
  | w10 => ⟨33, [(16, .one (.t none (.sl a0.rows.length (a0.rows.flatMap fun x0 => [.sl x0.pre.length (x0.pre.map fun x1 => .sc (.int .i64 x1)), .sl x0.maps.length (x0.maps.map fun x1 => .sl x1.length (x1.map fun x2 => .sc (.int .i64 x2)))])))), (17, .one (.t none (.sc (.int .i64 (a0.rows.length : Int))))), (18, .one (.t none (.sc (.int .i64 w10))))], []⟩
def law26_few (a0 : Casc) : Option (Bool) :=
  if 10 < (a0.sizes.length : Int) then
    some false
  else
    if 40 < (a0.rows.length : Int) then
      some false
    else
      loopG (law26_few_b4 a0) LFm 0
theorem law26_few_ok {a0 : Casc} {r : Bool} (h0 : law26_few a0 = some r) : L 23 [.agg [.sc (.int .i64 a0.letters), .sl a0.sizes.length (a0.sizes.map fun x0 => .sc (.int .i64 x0)), .sl a0.rows.length (a0.rows.flatMap fun x0 => [.sl x0.pre.length (x0.pre.map fun x1 => .sc (.int .i64 x1)), .sl x0.maps.length (x0.maps.map fun x1 => .sl x1.length (x1.map fun x2 => .sc (.int .i64 x2)))])]] = some (.sc (.bool r), [.dead]) := by
  simp only [law26_few] at h0
  refine L_run cfn23 fn23 (runF_of bd23 ⟨of_decide_eq_true rfl, of_decide_eq_true rfl⟩ ?_)
  simp only [entryF, entryT, entryO, entryE, isIo]
  refine zq rfl (zr rfl rfl rfl (by simp; rfl) ?_)
  refine thenC_n (zq rfl (zq rfl ?_))
  by_cases c18 : 10 < (a0.sizes.length : Int)
  · rw [if_pos c18] at h0
    refine zr rfl rfl rfl (by simp [c18]; rfl) ?_
    refine thenC_n (q_ifT rfl (by simp) (zq rfl (zr rfl rfl rfl (by simp; rfl) ?_)))
    refine thenC_n (q_ret rfl (thenC_r ?_))
    cases h0
    simp
  · rw [if_neg c18] at h0
    refine zr rfl rfl rfl (by simp [c18]; rfl) ?_
    refine thenC_n ?_
    by_cases c19 : 40 < (a0.rows.length : Int)
    · rw [if_pos c19] at h0
      refine q_ifT rfl (by simp [c19]) (zq rfl (zr rfl rfl rfl (by simp; rfl) ?_))
      refine thenC_n (q_ret rfl (thenC_r ?_))
      cases h0
      simp
    · rw [if_neg c19] at h0
      refine q_ifF rfl (by simp [c19]) (q_skip rfl (thenC_n (zq rfl (zq rfl (zr rfl rfl rfl (by simp; rfl) ?_)))))
      refine thenC_n (zb rfl (q_loopG h0 (law26_few_h4 a0) rfl rfl (by simp [law26_few_h4]) fun s o1 h1 hr1 => ?_))
      obtain ⟨w10, hs1⟩ : ∃ y, y = s := ⟨_, rfl⟩
      subst hs1
      simp only [law26_few_b4] at h1
      simp only [law26_few_h4]
      refine zq rfl (zr rfl rfl rfl (by simp; rfl) ?_)
      refine thenC_n (zq rfl ?_)
      by_cases c30 : w10 < (a0.rows.length : Int)
      · rw [if_pos c30] at h1
        refine q_ifT rfl (by simp [c30]) (q_skip rfl (thenC_n (zq rfl (zb rfl (zq rfl ?_)))))
        obtain ⟨v13, f31, h2⟩ := bnd_some h1
        obtain ⟨f31a, f31b, f31c, f31d, f31e⟩ := atI_some f31
        have f31g := flat_some (g := fun x : CRow => ([.sl x.pre.length (x.pre.map fun x0 => .sc (.int .i64 x0)), .sl x.maps.length (x.maps.map fun x0 => .sl x0.length (x0.map fun x1 => .sc (.int .i64 x1)))] : List T)) (m := 2) (fun _ => rfl) f31d
        have f31h := flat_len (g := fun x : CRow => ([.sl x.pre.length (x.pre.map fun x0 => .sc (.int .i64 x0)), .sl x.maps.length (x.maps.map fun x0 => .sl x0.length (x0.map fun x1 => .sc (.int .i64 x1)))] : List T)) (m := 2) (fun _ => rfl) a0.rows
        have f31k0 := f31g.2.2.1 0 (by decide)
        have f31m0 := f31g.2.2.2 0 _ rfl
        have f31k1 := f31g.2.2.1 1 (by decide)
        have f31m1 := f31g.2.2.2 1 _ rfl
        obtain ⟨f31g, f31i, -⟩ := f31g
        try simp at f31i f31h f31k0 f31m0 f31k1 f31m1
        refine zr rfl rfl rfl (by simp [f31a, f31b, f31c, f31d, f31e, f31g, f31i, f31h, f31k0, f31k1, f31m0, f31m1]; rfl) ?_
        refine thenC_n (zq rfl ?_)
        by_cases c32 : 12 < (v13.pre.length : Int)
        · rw [if_pos c32] at h2
          refine zr rfl rfl rfl (by simp [c32]; rfl) ?_
          refine thenC_n (q_ifT rfl (by simp) (zq rfl (zr rfl rfl rfl (by simp; rfl) ?_)))
          refine thenC_n (q_ret rfl (blockC_r (thenC_r ?_)))
          obtain ⟨rr1, h3, ho1⟩ := exit_some h2
          have hs1 := hr1 _ ho1
          subst hs1
          refine roundC_r ho1 (blockC_r (thenC_r ?_))
          cases h3
          simp
        · rw [if_neg c32] at h2
          obtain ⟨v14, f33, h3⟩ := bnd_some h2
          have f33k := made_FewRows_ok f33
          try simp at f33k
          refine zr rfl rfl rfl (by simp [c32, f33k]; rfl) ?_
          refine thenC_n ?_
          by_cases c34 : v14 = true
          · rw [if_pos c34] at h3
            refine q_ifF rfl (by simp [c34]) (q_skip rfl (blockC_n (thenC_n (zr rfl rfl rfl (by simp; rfl) ?_))))
            have ho := next_some h3
            refine roundC_n ho ?_
            simp [law26_few_h4, c34]
          · rw [if_neg c34] at h3
            refine q_ifT rfl (by simp [c34]) (zq rfl (zr rfl rfl rfl (by simp; rfl) ?_))
            refine thenC_n (q_ret rfl (blockC_r (thenC_r ?_)))
            obtain ⟨rr1, h4, ho1⟩ := exit_some h3
            have hs1 := hr1 _ ho1
            subst hs1
            refine roundC_r ho1 (blockC_r (thenC_r ?_))
            cases h4
            simp [c34]
      · rw [if_neg c30] at h1
        refine q_ifF rfl (by simp [c30]) (q_exit rfl (thenC_x ?_))
        obtain ⟨rr1, h2, ho1⟩ := exit_some h1
        have hs1 := hr1 _ ho1
        subst hs1
        refine roundC_x ho1 (blockC_hit2 rfl (thenC_n (zq rfl (zr rfl rfl rfl (by simp; rfl) ?_))))
        refine thenC_n (q_ret rfl ?_)
        cases h2
        simp
end Go.Proofs.YthalofddjlhcjaaDoor
end
section
/- Plain: reading numbers. -/
namespace Go.Proofs.YthalofddjlhcjaaDoor
open Go
set_option linter.unusedVariables false
set_option linter.unusedSimpArgs false

/-- Digits read on. -/
def numG : List UInt8 → Int → Option Int
  | [], n => some n
  | b :: l, n => if 48 ≤ b.toNat ∧ b.toNat ≤ 57 then numG l (10 * n + ((b.toNat : Int) - 48)) else none
/-- A number from 0 to 10^9 without leading zeros. -/
def numV (s : ByteArray) : Option Int :=
  match s.data.toList with
  | [] => none
  | b :: l => if 10 < s.size then none else if b.toNat = 48 ∧ l ≠ [] then none else (numG (b :: l) 0).bind fun n => if n ≤ 1000000000 then some n else none
theorem numG_pos : ∀ {l : List UInt8} {n m : Int}, 0 ≤ n → numG l n = some m → 0 ≤ m
  | [], n, m, h, e => by cases e; exact h
  | b :: l, n, m, h, e => by
    simp only [numG] at e
    split at e
    · exact numG_pos (by omega) e
    · cases e
theorem numV_in {s : ByteArray} {n : Int} (h : numV s = some n) : 0 ≤ n ∧ n ≤ 1000000000 := by
  unfold numV at h
  split at h
  · cases h
  · split at h
    · cases h
    · split at h
      · cases h
      · rw [Option.bind_eq_some_iff] at h
        obtain ⟨m, h1, h2⟩ := h
        split at h2
        · cases h2
          exact ⟨numG_pos (by omega) h1, by assumption⟩
        · cases h2
theorem toList_len (s : ByteArray) : s.data.toList.length = s.size := by simp
theorem toList_drop (s : ByteArray) {k : Nat} (h : k < s.size) : s.data.toList.drop k = s[k] :: s.data.toList.drop (k + 1) := by
  rw [List.drop_eq_getElem_cons (by rw [toList_len]; exact h)]
  rfl
theorem pow_bound {k : Nat} (h : k ≤ 10) : (10 : Int) ^ k ≤ 10000000000 := by
  rcases (by omega : k = 0 ∨ k = 1 ∨ k = 2 ∨ k = 3 ∨ k = 4 ∨ k = 5 ∨ k = 6 ∨ k = 7 ∨ k = 8 ∨ k = 9 ∨ k = 10) with rfl | rfl | rfl | rfl | rfl | rfl | rfl | rfl | rfl | rfl | rfl <;> decide
/-- The loop of both. -/
theorem num_loop {ρ : Type} {b : Int × Int → Option ((Int × Int) ⊕ ρ)} (s : ByteArray) (hs : s.size ≤ 10) (bad : ρ) (fin : Int → ρ)
    (hb : ∀ n k, b (n, k) = if k < (s.size : Int) then (byteI s k).bind fun v => if v < 48 then exitG (some bad) else if 57 < v then exitG (some bad) else nextG (IntKind.i64.wrap ((IntKind.i64.wrap (10 * n)) + (IntKind.i64.wrap (IntKind.u8.wrap (v - 48)))), IntKind.i64.wrap (k + 1)) else exitG (some (fin n))) :
    loopG b LFm (0, 0) = some (match numG s.data.toList 0 with | some n => fin n | none => bad) := by
  refine loopG_eq (fun st => ∃ k : Nat, ∃ n : Int, k ≤ s.size ∧ st = (n, (k : Int)) ∧ 0 ≤ n ∧ n < 10 ^ k ∧ numG (s.data.toList.drop k) n = numG s.data.toList 0) (fun st => s.size - st.2.toNat) ⟨0, 0, by omega, rfl, by omega, by simp, rfl⟩ (by simp only [LFm]; omega) ?_
  rintro _ ⟨k, n, hk, rfl, n0, n1, he⟩
  rw [hb]
  by_cases hlt : k < s.size
  · rw [toList_drop s hlt] at he
    simp only [numG] at he
    rw [if_pos (by omega), byteI_nat hlt, Option.bind_some]
    have hB := s[k].toNat_lt
    generalize s[k] = c at he hB
    by_cases h1 : (c.toNat : Int) < 48
    · rw [if_pos h1]
      rw [if_neg (by omega)] at he
      right; rw [← he]
    · rw [if_neg h1]
      by_cases h2 : 57 < (c.toNat : Int)
      · rw [if_pos h2]
        rw [if_neg (by omega)] at he
        right; rw [← he]
      · rw [if_neg h2]
        rw [if_pos (by omega)] at he
        have hp := pow_bound (k := k) (by omega)
        have hp2 : (10 : Int) ^ (k + 1) = 10 * 10 ^ k := by rw [Int.pow_succ]; omega
        left
        refine ⟨_, rfl, ⟨k + 1, 10 * n + ((c.toNat : Int) - 48), by omega, ?_, by omega, by omega, he⟩, ?_⟩
        · rw [wrapI (x := 10 * n) (by omega) (by omega), wrap8 (by omega) (by omega), wrapI (x := (c.toNat : Int) - 48) (by omega) (by omega), wrapI (by omega) (by omega), wrapS (by omega)]
        · simp only
          rw [wrapS (by omega)]
          omega
  · right
    have : k = s.size := by omega
    subst this
    rw [List.drop_of_length_le (by rw [toList_len]; omega)] at he
    simp only [numG] at he
    rw [if_neg (by omega), ← he]
theorem empty_iff (s : ByteArray) : s = ByteArray.empty ↔ s.data.toList = [] := by
  constructor
  · rintro rfl; rfl
  · intro h
    obtain ⟨d⟩ := s
    simp only [Array.toList_eq_nil_iff] at h
    subst h; rfl
theorem parseNumber_b (s : ByteArray) : cascade_parseNumber_b5a s = cascade_parseNumber_b5 s := by
  funext x; obtain ⟨a, b⟩ := x; rfl
theorem number_b (s : ByteArray) : ref26_number_b5a s = ref26_number_b5 s := by
  funext x; obtain ⟨a, b⟩ := x; rfl
theorem parseNumber_eq (s : ByteArray) : ∃ v, cascade_parseNumber s = some (v, (numV s).isSome) ∧ (∀ n, numV s = some n → v = n) := by
  unfold cascade_parseNumber
  by_cases h0 : s = ByteArray.empty
  · rw [if_pos h0]
    have : numV s = none := by unfold numV; rw [(empty_iff s).1 h0]
    rw [this]
    exact ⟨0, rfl, by simp⟩
  rw [if_neg h0]
  have hl : s.data.toList ≠ [] := fun h => h0 ((empty_iff s).2 h)
  obtain ⟨c, l, hc⟩ := List.exists_cons_of_ne_nil hl
  have hlen := toList_len s
  have hg : s.size = l.length + 1 := by rw [← hlen, hc]; rfl
  have hk : (0 : Nat) < s.size := by omega
  have hcc : s[0] = c := by
    have := toList_drop s hk
    rw [List.drop_zero, hc] at this
    injection this with a b
    exact a.symm
  have hV : numV s = if 10 < s.size then none else if c.toNat = 48 ∧ l ≠ [] then none else (numG (c :: l) 0).bind fun n => if n ≤ 1000000000 then some n else none := by unfold numV; rw [hc]
  by_cases h1 : 10 < s.size
  · rw [if_pos (by omega), hV, if_pos h1]
    exact ⟨0, rfl, by simp⟩
  rw [if_neg (by omega)]
  rw [if_neg h1] at hV
  have e := byteI_nat hk
  rw [hcc] at e
  rw [show byteI s 0 = some (c.toNat : Int) from e, Option.bind_some, parseNumber_b]
  have hL := num_loop (b := cascade_parseNumber_b5 s) s (by omega) (0, false) (fun n => (n, decide (n ≤ 1000000000))) (fun n k => by simp only [cascade_parseNumber_b5])
  have fin : c.toNat = 48 ∧ l ≠ [] → False ∨ True := fun _ => .inr trivial
  have go : ¬ (c.toNat = 48 ∧ l ≠ []) → ∃ v, loopG (cascade_parseNumber_b5 s) LFm (0, 0) = some (v, (numV s).isSome) ∧ (∀ n, numV s = some n → v = n) := by
    intro hn
    rw [if_neg hn] at hV
    rw [hL, hV, hc]
    cases hN : numG (c :: l) 0 with
    | none => exact ⟨0, rfl, by simp⟩
    | some n =>
      simp only [Option.bind_some]
      by_cases hle : n ≤ 1000000000
      · rw [if_pos hle, decide_eq_true hle]; exact ⟨n, rfl, by simp⟩
      · rw [if_neg hle, decide_eq_false hle]; exact ⟨n, rfl, by simp⟩
  by_cases h2 : (c.toNat : Int) = 48
  · rw [if_pos h2]
    by_cases h3 : 1 < s.size
    · rw [if_pos (by omega), hV, if_pos ⟨by omega, by intro hh; rw [hh] at hg; simp at hg; omega⟩]
      exact ⟨0, rfl, by simp⟩
    · rw [if_neg (by omega)]
      refine go ?_
      rintro ⟨-, hh⟩
      exact hh (List.eq_nil_of_length_eq_zero (by omega))
  · rw [if_neg h2]
    exact go (by omega)
theorem number_eq (s : ByteArray) : ref26_number s = some ((numV s).getD (-1)) := by
  unfold ref26_number
  by_cases h0 : s = ByteArray.empty
  · rw [if_pos h0]
    have : numV s = none := by unfold numV; rw [(empty_iff s).1 h0]
    rw [this]
    rfl
  rw [if_neg h0]
  have hl : s.data.toList ≠ [] := fun h => h0 ((empty_iff s).2 h)
  obtain ⟨c, l, hc⟩ := List.exists_cons_of_ne_nil hl
  have hlen := toList_len s
  have hg : s.size = l.length + 1 := by rw [← hlen, hc]; rfl
  have hk : (0 : Nat) < s.size := by omega
  have hcc : s[0] = c := by
    have := toList_drop s hk
    rw [List.drop_zero, hc] at this
    injection this with a b
    exact a.symm
  have hV : numV s = if 10 < s.size then none else if c.toNat = 48 ∧ l ≠ [] then none else (numG (c :: l) 0).bind fun n => if n ≤ 1000000000 then some n else none := by unfold numV; rw [hc]
  by_cases h1 : 10 < s.size
  · rw [if_pos (by omega), hV, if_pos h1]
    rfl
  rw [if_neg (by omega)]
  rw [if_neg h1] at hV
  have e := byteI_nat hk
  rw [hcc] at e
  have hL := num_loop (b := ref26_number_b5 s) s (by omega) (-1) (fun n => if 1000000000 < n then -1 else n) (fun n k => by
    simp only [ref26_number_b5]
    split
    · rfl
    · congr 1; split <;> rfl)
  have go : ¬ (c.toNat = 48 ∧ l ≠ []) → loopG (ref26_number_b5 s) LFm (0, 0) = some ((numV s).getD (-1)) := by
    intro hn
    rw [if_neg hn] at hV
    rw [hL, hV, hc]
    cases hN : numG (c :: l) 0 with
    | none => rfl
    | some n =>
      simp only [Option.bind_some]
      by_cases hle : n ≤ 1000000000
      · rw [if_pos hle, if_neg (by omega)]; rfl
      · rw [if_neg hle, if_pos (by omega)]; rfl
  have no : (c.toNat = 48 ∧ l ≠ []) → (numV s).getD (-1) = -1 := by intro hn; rw [hV, if_pos hn]; rfl
  have e' : byteI s 0 = some (c.toNat : Int) := e
  by_cases h3 : 1 < s.size
  · rw [if_pos (by omega), e', Option.bind_some]
    have hne : l ≠ [] := by intro hh; rw [hh] at hg; simp at hg; omega
    by_cases h2 : (c.toNat : Int) = 48
    · rw [if_pos h2, no ⟨by omega, hne⟩]
    · rw [if_neg h2]; exact go (by omega)
  · rw [if_neg (by omega), number_b]
    refine go ?_
    rintro ⟨-, hh⟩
    exact hh (List.eq_nil_of_length_eq_zero (by omega))
end Go.Proofs.YthalofddjlhcjaaDoor
end
section
/- Plain: reading lists of numbers. -/
namespace Go.Proofs.YthalofddjlhcjaaDoor
open Go
set_option linter.unusedVariables false
set_option linter.unusedSimpArgs false

def numsV : List ByteArray → Option (List Int)
  | [] => some []
  | w :: ws => (numV w).bind fun n => (numsV ws).map (n :: ·)
theorem numsV_len : ∀ {ws : List ByteArray} {l : List Int}, numsV ws = some l → l.length = ws.length
  | [], l, h => by cases h; rfl
  | w :: ws, l, h => by
    simp only [numsV] at h
    rw [Option.bind_eq_some_iff] at h
    obtain ⟨n, h1, h2⟩ := h
    rw [Option.map_eq_some_iff] at h2
    obtain ⟨m, h3, rfl⟩ := h2
    simp [numsV_len h3]
theorem parseNumbers_eq (ws : List ByteArray) (h : ws.length < 100000000) : cascade_parseNumbers ws = some (match numsV ws with | some l => (l, true) | none => ([], false)) := by
  unfold cascade_parseNumbers
  refine loopG_eq (fun st => ∃ k : Nat, ∃ l : List Int, k ≤ ws.length ∧ st = ((k : Int), l) ∧ l.length = k ∧ (numsV (ws.drop k)).map (l ++ ·) = numsV ws) (fun st => ws.length - st.1.toNat) ⟨0, [], by omega, rfl, rfl, by simp⟩ (by simp only [LFm]; omega) ?_
  rintro _ ⟨k, l, hk, rfl, hl, he⟩
  simp only [cascade_parseNumbers_b3]
  by_cases hlt : k < ws.length
  · rw [List.drop_eq_getElem_cons hlt] at he
    simp only [numsV] at he
    obtain ⟨v, e, hv⟩ := parseNumber_eq ws[k]
    rw [if_pos (by omega), atI_nat hlt, Option.bind_some, e, Option.bind_some]
    simp only
    cases hN : numV ws[k] with
    | none =>
      rw [hN] at he
      right
      simp only [Option.bind_none, Option.map_none] at he
      rw [← he]
      simp
    | some n =>
      have := hv n hN
      subst this
      rw [hN] at he
      simp only [Option.bind_some, Option.map_map] at he
      left
      rw [if_pos (show (some v).isSome = true from rfl), chk_pos _ (by unfold capOk; omega)]
      refine ⟨_, rfl, ⟨k + 1, l ++ [v], by omega, by rw [wrapS (by omega)], by simp [hl], ?_⟩, ?_⟩
      · rw [← he]
        congr 1
        funext m
        simp
      · simp only
        rw [wrapS (by omega)]
        omega
  · right
    have : k = ws.length := by omega
    rw [List.drop_of_length_le (by omega)] at he
    simp only [numsV, Option.map_some, List.append_nil] at he
    rw [if_neg (by omega), ← he]
end Go.Proofs.YthalofddjlhcjaaDoor
end
section
/- Plain: reading a row. -/
namespace Go.Proofs.YthalofddjlhcjaaDoor
open Go
set_option linter.unusedVariables false
set_option linter.unusedSimpArgs false

/-- The words before the first ";", and those between the others. -/
def groupsV : List ByteArray → List ByteArray × List (List ByteArray)
  | [] => ([], [])
  | w :: ws => if w = ⟨#[59]⟩ then ([], (groupsV ws).1 :: (groupsV ws).2) else (w :: (groupsV ws).1, (groupsV ws).2)
def listsV : List (List ByteArray) → Option (List (List Int))
  | [] => some []
  | g :: gs => (numsV g).bind fun l => (listsV gs).map (l :: ·)
def rowV : List ByteArray → Option CRow
  | [] => none
  | w :: ws => if w = ⟨#[114, 111, 119]⟩ then (numsV (groupsV ws).1).bind fun p => (listsV (groupsV ws).2).map fun ms => ⟨p, ms⟩ else none
/-- What is left to be read. -/
def restV (pre : List Int) (ms : List (List Int)) (b : Nat) (cur ws : List ByteArray) : Option CRow :=
  (numsV (cur ++ (groupsV ws).1)).bind fun l => (listsV (groupsV ws).2).map fun gs => if b = 1 then ⟨l, ms ++ gs⟩ else ⟨pre, ms ++ l :: gs⟩
theorem piece_at {ws : List ByteArray} {b i : Nat} (h1 : b ≤ i) (h2 : i ≤ ws.length) : pieceL ws (b : Int) (i : Int) = some ((ws.drop b).take (i - b)) := by
  unfold pieceL
  rw [if_pos (by omega)]
  simp
theorem take_snoc {ws : List ByteArray} {b i : Nat} (h1 : b ≤ i) (h2 : i < ws.length) : (ws.drop b).take (i + 1 - b) = (ws.drop b).take (i - b) ++ [ws[i]] := by
  rw [show i + 1 - b = (i - b) + 1 by omega, List.take_succ_eq_append_getElem (by rw [List.length_drop]; omega)]
  congr 2
  rw [List.getElem_drop]
  congr 1
  omega
structure RowI (ws : List ByteArray) (V : Option CRow) (s : Int × Int × List Int × List (List Int)) : Prop where
  of : ∃ b i : Nat, s.1 = (b : Int) ∧ s.2.1 = (i : Int) ∧ 1 ≤ b ∧ b ≤ i ∧ i ≤ ws.length + 1 ∧ s.2.2.2.length ≤ i ∧ (b = 1 → s.2.2.2 = []) ∧
    ((i ≤ ws.length ∧ restV s.2.2.1 s.2.2.2 b ((ws.drop b).take (i - b)) (ws.drop i) = V) ∨ (i = ws.length + 1 ∧ V = some ⟨s.2.2.1, s.2.2.2⟩))
theorem parseRow_eq (ws : List ByteArray) (h0 : ws ≠ []) (h : ws.length < 100000000) : ∃ r, cascade_parseRow ws = some (r, (rowV ws).isSome) ∧ ∀ x, rowV ws = some x → r = x := by
  obtain ⟨w, l, rfl⟩ := List.exists_cons_of_ne_nil h0
  unfold cascade_parseRow
  rw [show atI (w :: l) 0 = some w from rfl, Option.bind_some]
  by_cases hw : w = ⟨#[114, 111, 119]⟩
  case neg =>
    rw [if_neg hw]
    have : rowV (w :: l) = none := by simp only [rowV, if_neg hw]
    rw [this]
    exact ⟨_, rfl, by simp⟩
  rw [if_pos hw]
  generalize hws : w :: l = ws at h ⊢
  have hV : rowV ws = restV [] [] 1 [] (ws.drop 1) := by
    subst hws
    unfold restV
    simp only [rowV, if_pos hw]
    simp
  have hlen : 1 ≤ ws.length := by subst hws; simp
  refine Exists.elim (loopG_rule (b := cascade_parseRow_b6 ws) (RowI ws (rowV ws)) (fun s => ws.length + 1 - s.2.1.toNat) (fun r => r.2 = (rowV ws).isSome ∧ ∀ x, rowV ws = some x → r.1 = x) ?_ LFm (1, 1, [], []) ⟨1, 1, rfl, rfl, by omega, by omega, by omega, by simp, by simp, .inl ⟨hlen, by rw [hV]; simp⟩⟩ (by simp only [LFm]; omega)) fun r hr => ⟨r.1, by rw [hr.1, ← hr.2.1], hr.2.2⟩
  rintro ⟨_, _, pre, ms⟩ ⟨b, i, hb, hi, b1, bi, il, ml, mb, hI⟩
  simp only at hb hi ml mb hI
  subst hb
  subst hi
  simp only [cascade_parseRow_b6]
  rcases hI with ⟨hil, hI⟩ | ⟨hie, hI⟩
  case inr =>
    right
    rw [if_neg (by omega)]
    refine ⟨_, rfl, ?_, ?_⟩
    · rw [hI]; rfl
    · intro x hx; rw [hI] at hx; cases hx; rfl
  rw [if_pos (by omega)]
  -- a group is complete
  have group : ∀ (rest : Option CRow → Prop) (gs : Option (List (List Int))) (hgs : True) (X : Option ((Int × Int × List Int × List (List Int)) ⊕ (CRow × Bool)))
      (hX : X = (pieceL ws (b : Int) (i : Int)).bind fun v => (cascade_parseNumbers v).bind fun v => if v.2 = true then (if (b : Int) = 1 then nextG (IntKind.i64.wrap ((i : Int) + 1), IntKind.i64.wrap ((i : Int) + 1), v.1, ms) else chk (capOk 24 (ms.length + 1)) (nextG (IntKind.i64.wrap ((i : Int) + 1), IntKind.i64.wrap ((i : Int) + 1), pre, ms ++ [v.1]))) else exitG (some ((⟨pre, ms⟩ : CRow), false))),
      (numsV ((ws.drop b).take (i - b)) = none ∧ X = exitG (some ((⟨pre, ms⟩ : CRow), false))) ∨ (∃ l, numsV ((ws.drop b).take (i - b)) = some l ∧ X = nextG (((i + 1 : Nat) : Int), ((i + 1 : Nat) : Int), if b = 1 then (l, ms) else (pre, ms ++ [l]))) := by
    intro _ _ _ X hX
    rw [piece_at bi hil, Option.bind_some, parseNumbers_eq _ (by rw [List.length_take, List.length_drop]; omega), Option.bind_some] at hX
    cases hN : numsV ((ws.drop b).take (i - b)) with
    | none =>
      left
      rw [hN] at hX
      exact ⟨rfl, hX⟩
    | some l =>
      right
      rw [hN] at hX
      refine ⟨l, rfl, ?_⟩
      rw [hX, wrapS (by omega)]
      simp only [if_true]
      by_cases hb1 : b = 1
      · rw [if_pos (by omega), if_pos hb1]
      · rw [if_neg (by omega), if_neg hb1, chk_pos _ (by unfold capOk; omega)]
  by_cases hlt : i < ws.length
  · rw [if_pos (by omega), atI_nat hlt, Option.bind_some]
    rw [List.drop_eq_getElem_cons hlt] at hI
    by_cases hs : ws[i] = ⟨#[59]⟩
    · rw [if_pos hs]
      rcases group (fun _ => True) none trivial _ rfl with ⟨hN, hX⟩ | ⟨l, hN, hX⟩
      · right
        rw [hX]
        have : rowV ws = none := by
          rw [← hI]; unfold restV groupsV; rw [if_pos hs]; simp [hN]
        exact ⟨_, rfl, by rw [this]; rfl, by rw [this]; simp⟩
      · left
        rw [hX]
        refine ⟨_, rfl, ⟨i + 1, i + 1, rfl, rfl, by omega, by omega, by omega, ?_, by omega, .inl ⟨by omega, ?_⟩⟩, by simp only; omega⟩
        · split <;> simp <;> omega
        · rw [← hI]
          unfold restV
          simp only [groupsV, if_pos hs, List.append_nil, hN, Option.bind_some, Nat.sub_self, List.take_zero, List.nil_append, listsV, show ¬ (i + 1 = 1) by omega, if_false]
          cases numsV (groupsV (ws.drop (i + 1))).1 with
          | none => rfl
          | some l2 =>
            simp only [Option.bind_some, Option.map_map]
            congr 1
            funext gs
            by_cases hb1 : b = 1
            · simp [hb1, mb hb1]
            · simp [hb1]
    · rw [if_neg hs]
      left
      refine ⟨_, rfl, ⟨b, i + 1, rfl, wrapS (by omega), b1, by omega, by omega, by simp only; omega, mb, .inl ⟨by omega, ?_⟩⟩, by simp only; rw [wrapS (by omega)]; omega⟩
      rw [← hI, take_snoc bi hlt]
      unfold restV
      simp only [groupsV, if_neg hs, List.append_assoc, List.singleton_append]
  · have e : i = ws.length := by omega
    rw [if_neg (by omega)]
    have hd : ws.drop i = [] := List.drop_of_length_le (by omega)
    rw [hd] at hI
    rcases group (fun _ => True) none trivial _ rfl with ⟨hN, hX⟩ | ⟨l, hN, hX⟩
    · right
      rw [hX]
      have : rowV ws = none := by
        rw [← hI]; unfold restV; simp [groupsV, hN]
      exact ⟨_, rfl, by rw [this]; rfl, by rw [this]; simp⟩
    · left
      rw [hX]
      refine ⟨_, rfl, ⟨i + 1, i + 1, rfl, rfl, by omega, by omega, by omega, ?_, by omega, .inr ⟨by omega, ?_⟩⟩, by simp only; omega⟩
      · split <;> simp <;> omega
      · rw [← hI]
        unfold restV
        simp only [groupsV, List.append_nil, hN, Option.bind_some, listsV, Option.map_some]
        by_cases hb1 : b = 1
        · simp [hb1, mb hb1]
        · simp [hb1]
end Go.Proofs.YthalofddjlhcjaaDoor
end
section
/- Plain: the reference cuts a line at spaces. -/
namespace Go.Proofs.YthalofddjlhcjaaDoor
open Go
set_option linter.unusedVariables false
set_option linter.unusedSimpArgs false

def splitA (c : UInt8) : List UInt8 → List UInt8 → List (List UInt8)
  | [], cur => [cur]
  | b :: l, cur => if b = c then cur :: splitA c l [] else splitA c l (cur ++ [b])
def toBA (l : List UInt8) : ByteArray := ⟨l.toArray⟩
/-- The words of a line. -/
def splitW (s : ByteArray) : List ByteArray := (splitA 32 s.data.toList []).map toBA
theorem toBA_append (a b : List UInt8) : toBA (a ++ b) = toBA a ++ toBA b := by
  unfold toBA
  apply ByteArray.ext
  simp
theorem toBA_size (a : List UInt8) : (toBA a).size = a.length := by simp [toBA]
theorem toBA_toList (s : ByteArray) : toBA s.data.toList = s := by
  unfold toBA
  obtain ⟨d⟩ := s
  simp
theorem piece1 {s : ByteArray} {k : Nat} (h : k < s.size) : pieceS s (k : Int) ((k + 1 : Nat) : Int) = some (toBA [s[k]]) := by
  unfold pieceS
  rw [if_pos (by omega), Int.toNat_natCast, Int.toNat_natCast]
  congr 1
  apply ByteArray.ext
  apply Array.toList_inj.1
  have hl := toList_drop s h
  simp only [ByteArray.data_extract, Array.toList_extract, List.extract, toBA]
  rw [hl, show k + 1 - k = 1 by omega]
  rfl
theorem split_eq (s : ByteArray) (h : s.size < 100000000) : ref26_split s = some (splitW s) := by
  unfold ref26_split
  refine loopG_eq (fun st => ∃ k : Nat, ∃ cur : List UInt8, k ≤ s.size ∧ st.1 = toBA cur ∧ st.2.1 = (k : Int) ∧ cur.length ≤ k ∧ st.2.2.length ≤ k ∧ st.2.2 ++ (splitA 32 (s.data.toList.drop k) cur).map toBA = splitW s) (fun st => s.size - st.2.1.toNat) ⟨0, [], by omega, rfl, rfl, by simp, by simp, by simp [splitW]⟩ (by simp only [LFm]; omega) ?_
  rintro ⟨_, _, acc⟩ ⟨k, cur, hk, h1, h2, hc, ha, he⟩
  simp only at h1 h2 ha he
  subst h1
  subst h2
  simp only [ref26_split_b4]
  by_cases hlt : k < s.size
  · rw [toList_drop s hlt] at he
    simp only [splitA] at he
    rw [if_pos (by omega), byteI_nat hlt, Option.bind_some]
    left
    by_cases h32 : s[k] = 32
    · rw [if_pos h32] at he
      rw [if_pos (by rw [h32]; rfl), chk_pos _ (by unfold capOk; omega)]
      refine ⟨_, rfl, ⟨k + 1, [], by omega, rfl, wrapS (by omega), by simp, by simp only [List.length_append, List.length_singleton]; omega, ?_⟩, ?_⟩
      · rw [← he]; simp
      · simp only; rw [wrapS (by omega)]; omega
    · rw [if_neg h32] at he
      rw [if_neg (fun hh => h32 (UInt8.toNat_inj.1 (by have : s[k].toNat = 32 := by omega
                                                       rw [this]; rfl))), wrapS (by omega), piece1 hlt, Option.bind_some, chk_pos _ (by unfold catOk; rw [toBA_size, toBA_size]; simp only [List.length_singleton]; omega), ← toBA_append]
      refine ⟨_, rfl, ⟨k + 1, cur ++ [s[k]], by omega, rfl, rfl, by simp only [List.length_append, List.length_singleton]; omega, by simp only; omega, he⟩, ?_⟩
      simp only; omega
  · right
    rw [List.drop_of_length_le (by rw [toList_len]; omega)] at he
    simp only [splitA, List.map_cons, List.map_nil] at he
    rw [if_neg (by omega), chk_pos _ (by unfold capOk; omega), he]
end Go.Proofs.YthalofddjlhcjaaDoor
end
section
/- Plain: the first place of a byte. -/
namespace Go.Proofs.YthalofddjlhcjaaDoor
open Go
set_option linter.unusedVariables false
set_option linter.unusedSimpArgs false

theorem index_cases (c : UInt8) : ∀ l : List UInt8, (Lib.indexByte l c = -1 ∧ c ∉ l) ∨ (∃ p q, l = p ++ c :: q ∧ c ∉ p ∧ Lib.indexByte l c = (p.length : Int))
  | [] => .inl ⟨rfl, by simp⟩
  | b :: l => by
    unfold Lib.indexByte
    by_cases hb : b = c
    · right
      subst hb
      exact ⟨[], l, rfl, by simp, by simp⟩
    · rw [if_neg (by simpa using hb)]
      rcases index_cases c l with ⟨h1, h2⟩ | ⟨p, q, h1, h2, h3⟩
      · left
        rw [h1]
        refine ⟨by simp, ?_⟩
        intro hm
        rcases List.mem_cons.1 hm with h | h
        · exact hb h.symm
        · exact h2 h
      · right
        refine ⟨b :: p, q, by rw [h1]; rfl, ?_, ?_⟩
        · intro hm
          rcases List.mem_cons.1 hm with h | h
          · exact hb h.symm
          · exact h2 h
        · rw [h3, if_neg (by simp)]
          simp
theorem splitA_none {c : UInt8} : ∀ {l cur : List UInt8}, c ∉ l → splitA c l cur = [cur ++ l]
  | [], cur, h => by simp [splitA]
  | b :: l, cur, h => by
    have hb : b ≠ c := fun e => h (e ▸ List.mem_cons_self)
    simp only [splitA, if_neg hb]
    rw [splitA_none fun hm => h (List.mem_cons_of_mem _ hm)]
    simp
theorem splitA_some {c : UInt8} : ∀ {p q cur : List UInt8}, c ∉ p → splitA c (p ++ c :: q) cur = (cur ++ p) :: splitA c q []
  | [], q, cur, h => by simp [splitA]
  | b :: p, q, cur, h => by
    have hb : b ≠ c := fun e => h (e ▸ List.mem_cons_self)
    simp only [List.cons_append, splitA, if_neg hb]
    rw [splitA_some fun hm => h (List.mem_cons_of_mem _ hm)]
    simp
theorem count_none {c : UInt8} {l : List UInt8} (h : c ∉ l) : Lib.countByte l c = 0 := List.count_eq_zero.2 h
theorem count_some {c : UInt8} {p q : List UInt8} (h : c ∉ p) : Lib.countByte (p ++ c :: q) c = Lib.countByte q c + 1 := by
  unfold Lib.countByte
  rw [List.count_append, List.count_cons_self, List.count_eq_zero.2 h]
  omega
end Go.Proofs.YthalofddjlhcjaaDoor
end
section
/- The outside functions, for the printer. -/
namespace Go.Proofs.YthalofddjlhcjaaDoor
open Go
set_option linter.unusedVariables false
set_option linter.unusedSimpArgs false
theorem vClone_ok {a0 : List Int} {r : List Int} (h : vClone a0 = some r) : L 33 [.sl a0.length (a0.map fun x0 => .sc (.int .i64 x0))] = some (.os 1 r.length (r.map fun x0 => .sc (.int .i64 x0)), [.dead]) := by
  unfold vClone at h
  split at h
  · rename_i hl
    cases h
    exact lim_ext rfl (xClone_ints a0 hl)
  · cases h
theorem vIndex79_ok {a0 a1 : ByteArray} {r : Int} (h : vIndex a0 a1 = some r) : L 79 [.sc (.string a0), .sc (.string a1)] = some (.sc (.int .i64 r), [.dead, .dead]) := lim_ext rfl (xIndex_v h)
theorem vIndex76_ok {a0 a1 : ByteArray} {r : Int} (h : vIndex a0 a1 = some r) : L 76 [.sc (.string a0), .sc (.string a1)] = some (.sc (.int .i64 r), [.dead, .dead]) := lim_ext rfl (xIndex_v h)
theorem vCount_ok {a0 a1 : ByteArray} {r : Int} (h : vCount a0 a1 = some r) : L 78 [.sc (.string a0), .sc (.string a1)] = some (.sc (.int .i64 r), [.dead, .dead]) := lim_ext rfl (xCount_v h)
end Go.Proofs.YthalofddjlhcjaaDoor
end
section
/- Functions by value: program. -/
namespace Go.Proofs.YthalofddjlhcjaaDoor
open Go
set_option maxRecDepth 100000
set_option maxHeartbeats 1000000
set_option linter.unusedVariables false
set_option linter.unusedSimpArgs false



-- internal/stringslite.Cut
def i_stringslite_Cut (a0 : ByteArray) (a1 : ByteArray) : Option (ByteArray × ByteArray × Bool) :=
  (vIndex a0 a1).bind fun v4 =>
  if 0 ≤ v4 then
    (pieceS a0 0 v4).bind fun v5 =>
    (pieceS a0 (IntKind.i64.wrap (v4 + (a1.size : Int))) (a0.size : Int)).bind fun v6 =>
    some (v5, v6, true)
  else
    some (a0, ByteArray.empty, false)
theorem i_stringslite_Cut_ok {a0 : ByteArray} {a1 : ByteArray} {r : ByteArray × ByteArray × Bool} (h0 : i_stringslite_Cut a0 a1 = some r) : L 67 [.sc (.string a0), .sc (.string a1)] = some (.tup [.sc (.string r.1), .sc (.string r.2.1), .sc (.bool r.2.2)], [.dead, .dead]) := by
  simp only [i_stringslite_Cut] at h0
  refine L_run cfn67 fn67 (runF_of bd67 ⟨of_decide_eq_true rfl, of_decide_eq_true rfl⟩ ?_)
  simp only [entryF, entryT, entryO, entryE, isIo]
  refine zq rfl (zr rfl rfl rfl (by simp; rfl) ?_)
  refine thenC_n (zq rfl (zq rfl ?_))
  obtain ⟨v4, f5, h1⟩ := bnd_some h0
  have f5k := vIndex76_ok f5
  try simp at f5k
  refine zr rfl rfl rfl (by simp [f5k]; rfl) ?_
  refine thenC_n (zq rfl (zr rfl rfl rfl (by simp; rfl) ?_))
  refine thenC_n ?_
  by_cases c6 : 0 ≤ v4
  · rw [if_pos c6] at h1
    refine q_ifT rfl (by simp [c6]) (zq rfl ?_)
    obtain ⟨v5, f7, h2⟩ := bnd_some h1
    obtain ⟨f7a, f7b, f7c, f7d⟩ := pieceS_some f7
    obtain ⟨f7e, f7f⟩ := piece_hi f7a f7b
    have f7d := f7d.symm
    try simp only [Int.reduceToNat, Int.toNat_natCast] at f7d
    obtain ⟨v6, f8, h3⟩ := bnd_some h2
    obtain ⟨f8a, f8b, f8c, f8d⟩ := pieceS_some f8
    obtain ⟨f8e, f8f⟩ := piece_hi f8a f8b
    have f8d := f8d.symm
    try simp only [Int.reduceToNat, Int.toNat_natCast] at f8d
    refine q_drawW rfl rfl rfl rfl ?_; repeat' (first | (refine q_drawW_op rfl rfl fun Q' hQ => ?_; simp [f7a, f7b, f7c, f7d, f7e, f7f, f8a, f8b, f8c, f8d, f8e, f8f]; refine hQ.out _ ?_; clear hQ; clear Q') | (refine q_drawW_guard rfl rfl fun Q1 Q2 h1 h2 => ?_; simp [f7a, f7b, f7c, f7d, f7e, f7f, f8a, f8b, f8c, f8d, f8e, f8f, twoB_some]; (first | refine h1.out ?_ | refine h2.out ?_); clear h1 h2; clear Q1 Q2; intro Q' hQ; simp [f7a, f7b, f7c, f7d, f7e, f7f, f8a, f8b, f8c, f8d, f8e, f8f]; refine hQ.out _ ?_; clear hQ; clear Q') | (refine q_drawW_nil rfl fun Q' hQ => ?_; simp [f7a, f7b, f7c, f7d, f7e, f7f, f8a, f8b, f8c, f8d, f8e, f8f]; refine hQ.out _ ?_; clear hQ; clear Q'))
    refine thenC_n (q_ret rfl (thenC_r ?_))
    cases h3
    simp
  · rw [if_neg c6] at h1
    refine q_ifF rfl (by simp [c6]) (q_skip rfl (thenC_n (zq rfl (zr rfl rfl rfl (by simp; rfl) ?_))))
    refine thenC_n (q_ret rfl ?_)
    cases h1
    simp

-- strings.Cut
def strings_Cut (a0 : ByteArray) (a1 : ByteArray) : Option (ByteArray × ByteArray × Bool) :=
  (i_stringslite_Cut a0 a1).bind fun v2 =>
  some (v2.1, v2.2.1, v2.2.2)
theorem strings_Cut_ok {a0 : ByteArray} {a1 : ByteArray} {r : ByteArray × ByteArray × Bool} (h0 : strings_Cut a0 a1 = some r) : L 48 [.sc (.string a0), .sc (.string a1)] = some (.tup [.sc (.string r.1), .sc (.string r.2.1), .sc (.bool r.2.2)], [.dead, .dead]) := by
  simp only [strings_Cut] at h0
  refine L_run cfn48 fn48 (runF_of bd48 ⟨of_decide_eq_true rfl, of_decide_eq_true rfl⟩ ?_)
  simp only [entryF, entryT, entryO, entryE, isIo]
  refine zq rfl (zr rfl rfl rfl (by simp; rfl) ?_)
  refine thenC_n (zq rfl ?_)
  obtain ⟨v2, f2, h1⟩ := bnd_some h0
  have f2k := i_stringslite_Cut_ok f2
  try simp at f2k
  refine zr rfl rfl rfl (by simp [f2k]; rfl) ?_
  refine thenC_n (q_ret rfl ?_)
  cases h1
  simp

-- strings.genSplit
def strings_genSplit_b11 (a0 : ByteArray) (a1 : ByteArray) (a2 : Int) (v40 : Int) : ByteArray × Int × List ByteArray → Option ((ByteArray × Int × List ByteArray) ⊕ (Unit ⊕ List ByteArray))
  | (w45, w46, w47) =>
  if w46 < (IntKind.i64.wrap ((if (IntKind.i64.wrap ((a0.size : Int) + 1)) < (IntKind.i64.wrap (v40 + 1)) then (IntKind.i64.wrap ((a0.size : Int) + 1)) else (IntKind.i64.wrap (v40 + 1))) - 1)) then
    (vIndex w45 a1).bind fun v52 =>
    if v52 < 0 then
      exitG <|
      (atI w47 w46).bind fun v53 =>
      (pieceL (w47.set w46.toNat w45) 0 (IntKind.i64.wrap (w46 + 1))).bind fun v54 =>
      some (.inr v54)
    else
      (pieceS w45 0 (IntKind.i64.wrap (v52 + a2))).bind fun v55 =>
      (atI w47 w46).bind fun v56 =>
      (pieceS w45 (IntKind.i64.wrap (v52 + (a1.size : Int))) (w45.size : Int)).bind fun v57 =>
      nextG (v57, IntKind.i64.wrap (w46 + 1), (w47.set w46.toNat v55))
  else
    exitG <|
    (atI w47 w46).bind fun v58 =>
    (pieceL (w47.set w46.toNat w45) 0 (IntKind.i64.wrap (w46 + 1))).bind fun v59 =>
    some (.inr v59)
def strings_genSplit_h11 (a0 : ByteArray) (a1 : ByteArray) (a2 : Int) (v40 : Int) : ByteArray × Int × List ByteArray → Fr
  | (w45, w46, w47) => ⟨66, [(0, .one (.t none (.sc (.string w45)))), (1, .one (.t none (.sc (.string a1)))), (2, .one (.t none (.sc (.int .i64 a2)))), (3, .one (.t none (.sc (.int .i64 (IntKind.i64.wrap ((if (IntKind.i64.wrap ((a0.size : Int) + 1)) < (IntKind.i64.wrap (v40 + 1)) then (IntKind.i64.wrap ((a0.size : Int) + 1)) else (IntKind.i64.wrap (v40 + 1))) - 1)))))), (9, .one (.h 9 [])), (10, .one (.t none (.sc (.int .i64 w46))))], [(9, .os 1 w47.length (w47.map fun x0 => .sc (.string x0)))]⟩
def strings_genSplit_b11a (a0 : ByteArray) (a1 : ByteArray) (a2 : Int) (a3 : Int) : ByteArray × Int × List ByteArray → Option ((ByteArray × Int × List ByteArray) ⊕ (Unit ⊕ List ByteArray))
  | (w64, w65, w66) =>
  if w65 < (IntKind.i64.wrap ((if (IntKind.i64.wrap ((a0.size : Int) + 1)) < a3 then (IntKind.i64.wrap ((a0.size : Int) + 1)) else a3) - 1)) then
    (vIndex w64 a1).bind fun v71 =>
    if v71 < 0 then
      exitG <|
      (atI w66 w65).bind fun v72 =>
      (pieceL (w66.set w65.toNat w64) 0 (IntKind.i64.wrap (w65 + 1))).bind fun v73 =>
      some (.inr v73)
    else
      (pieceS w64 0 (IntKind.i64.wrap (v71 + a2))).bind fun v74 =>
      (atI w66 w65).bind fun v75 =>
      (pieceS w64 (IntKind.i64.wrap (v71 + (a1.size : Int))) (w64.size : Int)).bind fun v76 =>
      nextG (v76, IntKind.i64.wrap (w65 + 1), (w66.set w65.toNat v74))
  else
    exitG <|
    (atI w66 w65).bind fun v77 =>
    (pieceL (w66.set w65.toNat w64) 0 (IntKind.i64.wrap (w65 + 1))).bind fun v78 =>
    some (.inr v78)
def strings_genSplit_h11a (a0 : ByteArray) (a1 : ByteArray) (a2 : Int) (a3 : Int) : ByteArray × Int × List ByteArray → Fr
  | (w64, w65, w66) => ⟨66, [(0, .one (.t none (.sc (.string w64)))), (1, .one (.t none (.sc (.string a1)))), (2, .one (.t none (.sc (.int .i64 a2)))), (3, .one (.t none (.sc (.int .i64 (IntKind.i64.wrap ((if (IntKind.i64.wrap ((a0.size : Int) + 1)) < a3 then (IntKind.i64.wrap ((a0.size : Int) + 1)) else a3) - 1)))))), (9, .one (.h 9 [])), (10, .one (.t none (.sc (.int .i64 w65))))], [(9, .os 1 w66.length (w66.map fun x0 => .sc (.string x0)))]⟩
def strings_genSplit (a0 : ByteArray) (a1 : ByteArray) (a2 : Int) (a3 : Int) : Option (Unit ⊕ List ByteArray) :=
  if a3 = 0 then
    some (.inl ())
  else
    if a1 = ByteArray.empty then
      none
    else
      if a3 < 0 then
        (vCount a0 a1).bind fun v40 =>
        chk (makeOk 16 (if (IntKind.i64.wrap ((a0.size : Int) + 1)) < (IntKind.i64.wrap (v40 + 1)) then (IntKind.i64.wrap ((a0.size : Int) + 1)) else (IntKind.i64.wrap (v40 + 1)))) <|
        loopG (strings_genSplit_b11 a0 a1 a2 v40) LFm (a0, 0, List.replicate (if (IntKind.i64.wrap ((a0.size : Int) + 1)) < (IntKind.i64.wrap (v40 + 1)) then (IntKind.i64.wrap ((a0.size : Int) + 1)) else (IntKind.i64.wrap (v40 + 1))).toNat (ByteArray.empty : ByteArray))
      else
        chk (makeOk 16 (if (IntKind.i64.wrap ((a0.size : Int) + 1)) < a3 then (IntKind.i64.wrap ((a0.size : Int) + 1)) else a3)) <|
        loopG (strings_genSplit_b11a a0 a1 a2 a3) LFm (a0, 0, List.replicate (if (IntKind.i64.wrap ((a0.size : Int) + 1)) < a3 then (IntKind.i64.wrap ((a0.size : Int) + 1)) else a3).toNat (ByteArray.empty : ByteArray))
theorem strings_genSplit_ok {a0 : ByteArray} {a1 : ByteArray} {a2 : Int} {a3 : Int} {r : Unit ⊕ List ByteArray} (h0 : strings_genSplit a0 a1 a2 a3 = some r) : L 68 [.sc (.string a0), .sc (.string a1), .sc (.int .i64 a2), .sc (.int .i64 a3)] = some (match r with | (.inl r) => (.os 1 0 [], [.dead, .dead, .dead, .dead]) | (.inr r) => (.sl r.length (r.map fun x0 => .sc (.string x0)), [.dead, .dead, .dead, .dead])) := by
  simp only [strings_genSplit] at h0
  refine L_run cfn68 fn68 (runF_of bd68 ⟨of_decide_eq_true rfl, of_decide_eq_true rfl⟩ ?_)
  simp only [entryF, entryT, entryO, entryE, isIo]
  refine zq rfl (zr rfl rfl rfl (by simp; rfl) ?_)
  refine thenC_n (zq rfl (zq rfl (zr rfl rfl rfl (by simp; rfl) ?_)))
  refine thenC_n ?_
  by_cases c51 : a3 = 0
  · rw [if_pos c51] at h0
    have c51e := eq_true c51
    refine q_ifT rfl (by simp [c51e]) (zq rfl (zr rfl rfl rfl (by simp; rfl) ?_))
    refine thenC_n (q_ret rfl (thenC_r ?_))
    cases h0
    simp
  · rw [if_neg c51] at h0
    have c51e := eq_false c51
    refine q_ifF rfl (by simp [c51e]) (q_skip rfl (thenC_n (zq rfl (zq rfl (zr rfl rfl rfl (by simp; rfl) ?_)))))
    refine thenC_n ?_
    by_cases c52 : a1 = ByteArray.empty
    · rw [if_pos c52] at h0
      have c52e := eq_true c52
      refine q_ifT rfl (by simp [c52e]) (zq rfl ?_)
      cases h0
    · rw [if_neg c52] at h0
      have c52e := eq_false c52
      refine q_ifF rfl (by simp [c52e]) (q_skip rfl (thenC_n (zq rfl (zq rfl (zr rfl rfl rfl (by simp; rfl) ?_)))))
      refine thenC_n ?_
      by_cases c53 : a3 < 0
      · rw [if_pos c53] at h0
        refine q_ifT rfl (by simp [c53]) ?_
        obtain ⟨v40, f54, h1⟩ := bnd_some h0
        have f54k := vCount_ok f54
        try simp at f54k
        refine zr rfl rfl rfl (by simp [f54k]; rfl) ?_
        refine thenC_n (zq rfl (zr rfl rfl rfl (by simp; rfl) ?_))
        refine thenC_n (zq rfl ?_)
        obtain ⟨f55, h2⟩ := chk_some h1
        obtain ⟨f55a, f55b, f55c⟩ := f55
        have f55d : max (if (IntKind.i64.wrap ((a0.size : Int) + 1)) < (IntKind.i64.wrap (v40 + 1)) then (IntKind.i64.wrap ((a0.size : Int) + 1)) else (IntKind.i64.wrap (v40 + 1))) 0 = (if (IntKind.i64.wrap ((a0.size : Int) + 1)) < (IntKind.i64.wrap (v40 + 1)) then (IntKind.i64.wrap ((a0.size : Int) + 1)) else (IntKind.i64.wrap (v40 + 1))) := by omega
        refine zr rfl rfl rfl (by simp [f55a, f55b, f55c, f55d]; rfl) ?_
        refine thenC_n (zq rfl (zr rfl rfl rfl (by simp; rfl) ?_))
        refine thenC_n (zq rfl (zr rfl rfl rfl (by simp; rfl) ?_))
        refine thenC_n (zq rfl (zb rfl (q_loopG h2 (strings_genSplit_h11 a0 a1 a2 v40) rfl rfl (by simp [strings_genSplit_h11]) fun s o1 h3 hr1 => ?_)))
        obtain ⟨w45, w46, w47⟩ := s
        simp only [strings_genSplit_b11] at h3
        simp only [strings_genSplit_h11]
        refine zq rfl (zq rfl (zr rfl rfl rfl (by simp; rfl) ?_))
        refine thenC_n ?_
        by_cases c68 : w46 < (IntKind.i64.wrap ((if (IntKind.i64.wrap ((a0.size : Int) + 1)) < (IntKind.i64.wrap (v40 + 1)) then (IntKind.i64.wrap ((a0.size : Int) + 1)) else (IntKind.i64.wrap (v40 + 1))) - 1))
        · rw [if_pos c68] at h3
          refine q_ifT rfl (by simp [c68]) (q_skip rfl (thenC_n (zb rfl (zq rfl ?_))))
          obtain ⟨v52, f69, h4⟩ := bnd_some h3
          have f69k := vIndex79_ok f69
          try simp at f69k
          refine zr rfl rfl rfl (by simp [f69k]; rfl) ?_
          refine thenC_n (zq rfl (zq rfl (zr rfl rfl rfl (by simp; rfl) ?_)))
          refine thenC_n ?_
          by_cases c70 : v52 < 0
          · rw [if_pos c70] at h4
            refine q_ifT rfl (by simp [c70]) (q_exit rfl (thenC_x (blockC_miss rfl ?_)))
            obtain ⟨rr1, h5, ho1⟩ := exit_some h4
            have hs1 := hr1 _ ho1
            subst hs1
            refine roundC_x ho1 (blockC_hit2 rfl (thenC_n (zq rfl ?_)))
            obtain ⟨v53, f71, h6⟩ := bnd_some h5
            obtain ⟨f71a, f71b, f71c, f71d, f71e⟩ := atI_some f71
            refine zr rfl rfl rfl (by simp [f71a, f71b, f71c, f71d, f71e]; rfl) ?_
            refine thenC_n (zq rfl (q_frz rfl rfl (by simp; rfl) ?_))
            obtain ⟨v54, f72, h7⟩ := bnd_some h6
            obtain ⟨f72a, f72b, f72c, -⟩ := pieceL_some f72
            obtain ⟨f72d, f72g⟩ := piece_hi f72a f72b
            have f72e := pieceL_map (g := fun x : ByteArray => (.sc (.string x) : T)) f72
            try simp at f72e
            have f72f := pieceL_slm f72
            try simp only [Int.reduceToNat, Int.toNat_natCast, Nat.sub_zero] at f72f
            try simp only [List.length_set] at f72a f72b f72c f72d f72g f72f
            refine zr rfl rfl rfl (by simp [f72a, f72b, f72c, f72d, f72g, f72e, f72f]; rfl) ?_
            refine thenC_n (q_ret rfl ?_)
            cases h7
            simp
          · rw [if_neg c70] at h4
            refine q_ifF rfl (by simp [c70]) (q_skip rfl (thenC_n (zq rfl ?_)))
            obtain ⟨v55, f73, h5⟩ := bnd_some h4
            obtain ⟨f73a, f73b, f73c, f73d⟩ := pieceS_some f73
            obtain ⟨f73e, f73f⟩ := piece_hi f73a f73b
            have f73d := f73d.symm
            try simp only [Int.reduceToNat, Int.toNat_natCast] at f73d
            obtain ⟨v56, f74, h6⟩ := bnd_some h5
            obtain ⟨f74a, f74b, f74c, f74d, f74e⟩ := atI_some f74
            refine zr rfl rfl rfl (by simp [f73a, f73b, f73c, f73d, f73e, f73f, f74a, f74b, f74c, f74d, f74e]; rfl) ?_
            refine thenC_n (zq rfl ?_)
            obtain ⟨v57, f75, h7⟩ := bnd_some h6
            obtain ⟨f75a, f75b, f75c, f75d⟩ := pieceS_some f75
            obtain ⟨f75e, f75f⟩ := piece_hi f75a f75b
            have f75d := f75d.symm
            try simp only [Int.reduceToNat, Int.toNat_natCast] at f75d
            refine zr rfl rfl rfl (by simp [f75a, f75b, f75c, f75d, f75e, f75f]; rfl) ?_
            refine thenC_n (zr rfl rfl rfl (by simp; rfl) ?_)
            refine blockC_n ?_
            have ho := next_some h7
            refine roundC_n ho ?_
            simp [strings_genSplit_h11]
        · rw [if_neg c68] at h3
          refine q_ifF rfl (by simp [c68]) (q_exit rfl (thenC_x ?_))
          obtain ⟨rr1, h4, ho1⟩ := exit_some h3
          have hs1 := hr1 _ ho1
          subst hs1
          refine roundC_x ho1 (blockC_hit2 rfl (thenC_n (zq rfl ?_)))
          obtain ⟨v58, f76, h5⟩ := bnd_some h4
          obtain ⟨f76a, f76b, f76c, f76d, f76e⟩ := atI_some f76
          refine zr rfl rfl rfl (by simp [f76a, f76b, f76c, f76d, f76e]; rfl) ?_
          refine thenC_n (zq rfl (q_frz rfl rfl (by simp; rfl) ?_))
          obtain ⟨v59, f77, h6⟩ := bnd_some h5
          obtain ⟨f77a, f77b, f77c, -⟩ := pieceL_some f77
          obtain ⟨f77d, f77g⟩ := piece_hi f77a f77b
          have f77e := pieceL_map (g := fun x : ByteArray => (.sc (.string x) : T)) f77
          try simp at f77e
          have f77f := pieceL_slm f77
          try simp only [Int.reduceToNat, Int.toNat_natCast, Nat.sub_zero] at f77f
          try simp only [List.length_set] at f77a f77b f77c f77d f77g f77f
          refine zr rfl rfl rfl (by simp [f77a, f77b, f77c, f77d, f77g, f77e, f77f]; rfl) ?_
          refine thenC_n (q_ret rfl ?_)
          cases h6
          simp
      · rw [if_neg c53] at h0
        refine q_ifF rfl (by simp [c53]) (q_skip rfl (thenC_n (zq rfl (zr rfl rfl rfl (by simp; rfl) ?_))))
        refine thenC_n (zq rfl ?_)
        obtain ⟨f78, h1⟩ := chk_some h0
        obtain ⟨f78a, f78b, f78c⟩ := f78
        have f78d : max (if (IntKind.i64.wrap ((a0.size : Int) + 1)) < a3 then (IntKind.i64.wrap ((a0.size : Int) + 1)) else a3) 0 = (if (IntKind.i64.wrap ((a0.size : Int) + 1)) < a3 then (IntKind.i64.wrap ((a0.size : Int) + 1)) else a3) := by omega
        refine zr rfl rfl rfl (by simp [f78a, f78b, f78c, f78d]; rfl) ?_
        refine thenC_n (zq rfl (zr rfl rfl rfl (by simp; rfl) ?_))
        refine thenC_n (zq rfl (zr rfl rfl rfl (by simp; rfl) ?_))
        refine thenC_n (zq rfl (zb rfl (q_loopG h1 (strings_genSplit_h11a a0 a1 a2 a3) rfl rfl (by simp [strings_genSplit_h11a]) fun s o2 h2 hr2 => ?_)))
        obtain ⟨w64, w65, w66⟩ := s
        simp only [strings_genSplit_b11a] at h2
        simp only [strings_genSplit_h11a]
        refine zq rfl (zq rfl (zr rfl rfl rfl (by simp; rfl) ?_))
        refine thenC_n ?_
        by_cases c91 : w65 < (IntKind.i64.wrap ((if (IntKind.i64.wrap ((a0.size : Int) + 1)) < a3 then (IntKind.i64.wrap ((a0.size : Int) + 1)) else a3) - 1))
        · rw [if_pos c91] at h2
          refine q_ifT rfl (by simp [c91]) (q_skip rfl (thenC_n (zb rfl (zq rfl ?_))))
          obtain ⟨v71, f92, h3⟩ := bnd_some h2
          have f92k := vIndex79_ok f92
          try simp at f92k
          refine zr rfl rfl rfl (by simp [f92k]; rfl) ?_
          refine thenC_n (zq rfl (zq rfl (zr rfl rfl rfl (by simp; rfl) ?_)))
          refine thenC_n ?_
          by_cases c93 : v71 < 0
          · rw [if_pos c93] at h3
            refine q_ifT rfl (by simp [c93]) (q_exit rfl (thenC_x (blockC_miss rfl ?_)))
            obtain ⟨rr2, h4, ho2⟩ := exit_some h3
            have hs2 := hr2 _ ho2
            subst hs2
            refine roundC_x ho2 (blockC_hit2 rfl (thenC_n (zq rfl ?_)))
            obtain ⟨v72, f94, h5⟩ := bnd_some h4
            obtain ⟨f94a, f94b, f94c, f94d, f94e⟩ := atI_some f94
            refine zr rfl rfl rfl (by simp [f94a, f94b, f94c, f94d, f94e]; rfl) ?_
            refine thenC_n (zq rfl (q_frz rfl rfl (by simp; rfl) ?_))
            obtain ⟨v73, f95, h6⟩ := bnd_some h5
            obtain ⟨f95a, f95b, f95c, -⟩ := pieceL_some f95
            obtain ⟨f95d, f95g⟩ := piece_hi f95a f95b
            have f95e := pieceL_map (g := fun x : ByteArray => (.sc (.string x) : T)) f95
            try simp at f95e
            have f95f := pieceL_slm f95
            try simp only [Int.reduceToNat, Int.toNat_natCast, Nat.sub_zero] at f95f
            try simp only [List.length_set] at f95a f95b f95c f95d f95g f95f
            refine zr rfl rfl rfl (by simp [f95a, f95b, f95c, f95d, f95g, f95e, f95f]; rfl) ?_
            refine thenC_n (q_ret rfl ?_)
            cases h6
            simp
          · rw [if_neg c93] at h3
            refine q_ifF rfl (by simp [c93]) (q_skip rfl (thenC_n (zq rfl ?_)))
            obtain ⟨v74, f96, h4⟩ := bnd_some h3
            obtain ⟨f96a, f96b, f96c, f96d⟩ := pieceS_some f96
            obtain ⟨f96e, f96f⟩ := piece_hi f96a f96b
            have f96d := f96d.symm
            try simp only [Int.reduceToNat, Int.toNat_natCast] at f96d
            obtain ⟨v75, f97, h5⟩ := bnd_some h4
            obtain ⟨f97a, f97b, f97c, f97d, f97e⟩ := atI_some f97
            refine zr rfl rfl rfl (by simp [f96a, f96b, f96c, f96d, f96e, f96f, f97a, f97b, f97c, f97d, f97e]; rfl) ?_
            refine thenC_n (zq rfl ?_)
            obtain ⟨v76, f98, h6⟩ := bnd_some h5
            obtain ⟨f98a, f98b, f98c, f98d⟩ := pieceS_some f98
            obtain ⟨f98e, f98f⟩ := piece_hi f98a f98b
            have f98d := f98d.symm
            try simp only [Int.reduceToNat, Int.toNat_natCast] at f98d
            refine zr rfl rfl rfl (by simp [f98a, f98b, f98c, f98d, f98e, f98f]; rfl) ?_
            refine thenC_n (zr rfl rfl rfl (by simp; rfl) ?_)
            refine blockC_n ?_
            have ho := next_some h6
            refine roundC_n ho ?_
            simp [strings_genSplit_h11a]
        · rw [if_neg c91] at h2
          refine q_ifF rfl (by simp [c91]) (q_exit rfl (thenC_x ?_))
          obtain ⟨rr2, h3, ho2⟩ := exit_some h2
          have hs2 := hr2 _ ho2
          subst hs2
          refine roundC_x ho2 (blockC_hit2 rfl (thenC_n (zq rfl ?_)))
          obtain ⟨v77, f99, h4⟩ := bnd_some h3
          obtain ⟨f99a, f99b, f99c, f99d, f99e⟩ := atI_some f99
          refine zr rfl rfl rfl (by simp [f99a, f99b, f99c, f99d, f99e]; rfl) ?_
          refine thenC_n (zq rfl (q_frz rfl rfl (by simp; rfl) ?_))
          obtain ⟨v78, f100, h5⟩ := bnd_some h4
          obtain ⟨f100a, f100b, f100c, -⟩ := pieceL_some f100
          obtain ⟨f100d, f100g⟩ := piece_hi f100a f100b
          have f100e := pieceL_map (g := fun x : ByteArray => (.sc (.string x) : T)) f100
          try simp at f100e
          have f100f := pieceL_slm f100
          try simp only [Int.reduceToNat, Int.toNat_natCast, Nat.sub_zero] at f100f
          try simp only [List.length_set] at f100a f100b f100c f100d f100g f100f
          refine zr rfl rfl rfl (by simp [f100a, f100b, f100c, f100d, f100g, f100e, f100f]; rfl) ?_
          refine thenC_n (q_ret rfl ?_)
          cases h5
          simp

-- strings.Split
def strings_Split (a0 : ByteArray) (a1 : ByteArray) : Option (Unit ⊕ List ByteArray) :=
  (strings_genSplit a0 a1 0 (-1)).bind fun v4 =>
  match v4 with
  | (.inl v5) =>
    some (.inl ())
  | (.inr v6) =>
    some (.inr v6)
theorem strings_Split_ok {a0 : ByteArray} {a1 : ByteArray} {r : Unit ⊕ List ByteArray} (h0 : strings_Split a0 a1 = some r) : L 49 [.sc (.string a0), .sc (.string a1)] = some (match r with | (.inl r) => (.os 1 0 [], [.dead, .dead]) | (.inr r) => (.sl r.length (r.map fun x0 => .sc (.string x0)), [.dead, .dead])) := by
  simp only [strings_Split] at h0
  refine L_run cfn49 fn49 (runF_of bd49 ⟨of_decide_eq_true rfl, of_decide_eq_true rfl⟩ ?_)
  simp only [entryF, entryT, entryO, entryE, isIo]
  refine zq rfl (zr rfl rfl rfl (by simp; rfl) ?_)
  refine thenC_n (zq rfl ?_)
  obtain ⟨v4, f2, h1⟩ := bnd_some h0
  rcases v4 with v5 | v6
  · dsimp only at h1
    have f2k := strings_genSplit_ok f2
    try simp at f2k
    refine zr rfl rfl rfl (by simp [f2k]; rfl) ?_
    refine thenC_n (q_ret rfl ?_)
    cases h1
    simp
  · dsimp only at h1
    have f2k := strings_genSplit_ok f2
    try simp at f2k
    refine zr rfl rfl rfl (by simp [f2k]; rfl) ?_
    refine thenC_n (q_ret rfl ?_)
    cases h1
    simp
end Go.Proofs.YthalofddjlhcjaaDoor
end
section
/- strings.Split answers a list. -/
namespace Go.Proofs.YthalofddjlhcjaaDoor
open Go
set_option linter.unusedVariables false
set_option linter.unusedSimpArgs false
def vSplit (a b : ByteArray) : Option (List ByteArray) := (strings_Split a b).bind fun r => match r with | .inl _ => none | .inr l => some l
theorem vSplit_ok {a0 a1 : ByteArray} {r : List ByteArray} (h : vSplit a0 a1 = some r) : L 49 [.sc (.string a0), .sc (.string a1)] = some (.sl r.length (r.map fun x0 => .sc (.string x0)), [.dead, .dead]) := by
  unfold vSplit at h
  rw [Option.bind_eq_some_iff] at h
  obtain ⟨x, h1, h2⟩ := h
  cases x with
  | inl u => cases h2
  | inr l => cases h2; exact strings_Split_ok h1
end Go.Proofs.YthalofddjlhcjaaDoor
end
section
/- Plain: strings.Split at one space. -/
namespace Go.Proofs.YthalofddjlhcjaaDoor
open Go
set_option linter.unusedVariables false
set_option linter.unusedSimpArgs false

theorem pieceS_to {l : List UInt8} {k : Nat} (h : k ≤ l.length) : pieceS (toBA l) 0 (k : Int) = some (toBA (l.take k)) := by
  unfold pieceS
  rw [if_pos (by rw [toBA_size]; omega), Int.toNat_natCast]
  congr 1
  apply ByteArray.ext
  apply Array.toList_inj.1
  simp [toBA, List.extract]
theorem pieceS_from {l : List UInt8} {k : Nat} (h : k ≤ l.length) : pieceS (toBA l) (k : Int) ((toBA l).size : Int) = some (toBA (l.drop k)) := by
  unfold pieceS
  rw [if_pos (by rw [toBA_size]; omega), Int.toNat_natCast, Int.toNat_natCast, toBA_size]
  congr 1
  apply ByteArray.ext
  apply Array.toList_inj.1
  simp only [toBA, ByteArray.data_extract, Array.toList_extract, List.extract]
  exact List.take_of_length_le (by rw [List.length_drop]; omega)
theorem take_set {α : Type} (l : List α) (i : Nat) (x : α) : (l.set i x).take i = l.take i := by rw [List.take_set, List.set_eq_of_length_le (by rw [List.length_take]; omega)]
theorem vIndex_one (l : List UInt8) (c : UInt8) : vIndex (toBA l) ⟨#[c]⟩ = some (Lib.indexByte l c) := by simp [vIndex, toBA]
theorem vCount_one (l : List UInt8) (c : UInt8) : vCount (toBA l) ⟨#[c]⟩ = some ((Lib.countByte l c : Nat) : Int) := by simp [vCount, toBA]
theorem Split_eq (s : ByteArray) (h : s.size < 100000000) : vSplit s ⟨#[32]⟩ = some (splitW s) := by
  have hw : splitW s = (splitA 32 s.data.toList []).map toBA := rfl
  have hs0 := toBA_toList s
  have hlen := toList_len s
  generalize s.data.toList = L0 at hw hs0 hlen
  have hcs : Lib.countByte L0 32 ≤ L0.length := List.count_le_length
  generalize hcnt : Lib.countByte L0 32 = cnt at hcs
  have w1 : IntKind.i64.wrap ((s.size : Int) + 1) = (s.size : Int) + 1 := wrapI (by omega) (by omega)
  have w2 : IntKind.i64.wrap ((cnt : Int) + 1) = (cnt : Int) + 1 := wrapI (by omega) (by omega)
  have hn : (if IntKind.i64.wrap ((s.size : Int) + 1) < IntKind.i64.wrap ((cnt : Int) + 1) then IntKind.i64.wrap ((s.size : Int) + 1) else IntKind.i64.wrap ((cnt : Int) + 1)) = (cnt : Int) + 1 := by
    rw [w1, w2, if_neg (by omega)]
  have hne : ¬ ((⟨#[32]⟩ : ByteArray) = ByteArray.empty) := by decide
  have hC : vCount s ⟨#[32]⟩ = some (cnt : Int) := by
    have := vCount_one L0 32
    rw [hs0, hcnt] at this
    exact this
  have main : loopG (strings_genSplit_b11 s ⟨#[32]⟩ 0 (cnt : Int)) LFm (s, 0, List.replicate ((cnt : Int) + 1).toNat ByteArray.empty) = some (.inr (splitW s)) := by
    refine loopG_eq (fun st => ∃ i : Nat, ∃ l : List UInt8, st.1 = toBA l ∧ st.2.1 = (i : Int) ∧ i + Lib.countByte l 32 = cnt ∧ st.2.2.length = cnt + 1 ∧ l.length ≤ s.size ∧ st.2.2.take i ++ (splitA 32 l []).map toBA = splitW s) (fun st => cnt - st.2.1.toNat) ⟨0, L0, hs0.symm, rfl, by omega, by simp, by omega, by simp [hw]⟩ (by simp only [LFm]; omega) ?_
    rintro ⟨_, _, arr⟩ ⟨i, l, h1, h2, hc, ha, hl, he⟩
    simp only at h1 h2 ha he
    subst h1
    subst h2
    simp only [strings_genSplit_b11]
    rw [hn, wrapI (x := (cnt : Int) + 1 - 1) (by omega) (by omega)]
    have fin : Lib.countByte l 32 = 0 → ((atI arr (i : Int)).bind fun v58 => (pieceL (arr.set (i : Int).toNat (toBA l)) 0 (IntKind.i64.wrap ((i : Int) + 1))).bind fun v59 => some (Sum.inr v59 : Unit ⊕ List ByteArray)) = some (.inr (splitW s)) := by
      intro h0
      have hm : (32 : UInt8) ∉ l := List.count_eq_zero.1 h0
      rw [splitA_none hm] at he
      rw [atI_nat (by omega), Option.bind_some, wrapS (by omega), pieceL_to (by rw [List.length_set]; omega), Option.bind_some, ← he]
      congr 2
      rw [Int.toNat_natCast, List.take_succ_eq_append_getElem (by rw [List.length_set]; omega), take_set]
      simp
    by_cases hlt : i < cnt
    · rw [if_pos (by omega), vIndex_one, Option.bind_some]
      rcases index_cases 32 l with ⟨k1, k2⟩ | ⟨p, q, k1, k2, k3⟩
      · have := count_none k2
        omega
      · left
        subst k1
        rw [splitA_some k2] at he
        rw [count_some k2] at hc
        simp only [List.length_append, List.length_cons] at hl
        have e1 : IntKind.i64.wrap ((p.length : Int) + 0) = ((p.length : Nat) : Int) := by rw [wrapI (by omega) (by omega)]; omega
        have e2 : IntKind.i64.wrap ((p.length : Int) + ((⟨#[32]⟩ : ByteArray).size : Int)) = ((p.length + 1 : Nat) : Int) := by
          rw [show ((⟨#[32]⟩ : ByteArray).size : Int) = 1 from rfl, wrapS (by omega)]
        rw [k3, if_neg (by omega), e1, e2, pieceS_to (by simp), Option.bind_some, atI_nat (by omega), Option.bind_some, pieceS_from (by simp), Option.bind_some]
        refine ⟨_, rfl, ⟨i + 1, q, ?_, wrapS (by omega), by omega, by simp only [List.length_set]; exact ha, by omega, ?_⟩, ?_⟩
        · simp only
          congr 1
          simp
        · rw [← he]
          simp only [Int.toNat_natCast]
          rw [List.take_succ_eq_append_getElem (by rw [List.length_set]; omega), take_set]
          simp
        · simp only
          rw [wrapS (by omega)]
          omega
    · right
      rw [if_neg (by omega), fin (by omega)]
  unfold vSplit strings_Split strings_genSplit
  rw [if_neg (by decide), if_neg hne, if_pos (by decide), hC, Option.bind_some, hn, chk_pos _ (by unfold makeOk; omega), main]
  rfl
end Go.Proofs.YthalofddjlhcjaaDoor
end
section
/- Plain: numbers as text. -/
namespace Go.Proofs.YthalofddjlhcjaaDoor
open Go
set_option linter.unusedVariables false
set_option linter.unusedSimpArgs false

/-- The digits of a number below 100. -/
def digL (n : Int) : List Int := if n < 10 then [48 + n] else [48 + n / 10, 48 + n % 10]
theorem small1 : ∀ k : Nat, k < 10 → intsOf (ByteArray.extract ⟨#[48,49,50,51,52,53,54,55,56,57,97,98,99,100,101,102,103,104,105,106,107,108,109,110,111,112,113,114,115,116,117,118,119,120,121,122]⟩ k (k + 1)) = digL (k : Int) := by decide +kernel
theorem small2 : ∀ k : Nat, k < 100 → ¬ k < 10 → intsOf (ByteArray.extract ⟨#[48,48,48,49,48,50,48,51,48,52,48,53,48,54,48,55,48,56,48,57,49,48,49,49,49,50,49,51,49,52,49,53,49,54,49,55,49,56,49,57,50,48,50,49,50,50,50,51,50,52,50,53,50,54,50,55,50,56,50,57,51,48,51,49,51,50,51,51,51,52,51,53,51,54,51,55,51,56,51,57,52,48,52,49,52,50,52,51,52,52,52,53,52,54,52,55,52,56,52,57,53,48,53,49,53,50,53,51,53,52,53,53,53,54,53,55,53,56,53,57,54,48,54,49,54,50,54,51,54,52,54,53,54,54,54,55,54,56,54,57,55,48,55,49,55,50,55,51,55,52,55,53,55,54,55,55,55,56,55,57,56,48,56,49,56,50,56,51,56,52,56,53,56,54,56,55,56,56,56,57,57,48,57,49,57,50,57,51,57,52,57,53,57,54,57,55,57,56,57,57]⟩ (k * 2) (k * 2 + 2)) = digL (k : Int) := by decide +kernel
theorem digL_len (n : Int) : 1 ≤ (digL n).length ∧ (digL n).length ≤ 2 := by unfold digL; split <;> simp
theorem small_eq (x : Int) (h0 : 0 ≤ x) (h1 : x < 100) : ∃ s, i_strconv_small x = some s ∧ intsOf s = digL x ∧ s.size ≤ 2 := by
  obtain ⟨k, rfl⟩ := Int.eq_ofNat_of_zero_le h0
  unfold i_strconv_small
  split
  · rename_i h
    rw [wrapS (by omega)]
    unfold pieceS
    rw [if_pos (by refine ⟨by omega, by omega, ?_⟩; show ((k + 1 : Nat) : Int) ≤ 36; omega)]
    refine ⟨_, rfl, ?_, ?_⟩
    · rw [Int.toNat_natCast, Int.toNat_natCast]; exact small1 k (by omega)
    · simp only [Int.toNat_natCast, ByteArray.size_extract]; omega
  · rename_i h
    rw [wrapI (x := (k : Int) * 2) (by omega) (by omega), wrapI (by omega) (by omega)]
    unfold pieceS
    rw [if_pos (by refine ⟨by omega, by omega, ?_⟩; show (k : Int) * 2 + 2 ≤ 200; omega)]
    have e1 : ((k : Int) * 2).toNat = k * 2 := by omega
    have e2 : ((k : Int) * 2 + 2).toNat = k * 2 + 2 := by omega
    refine ⟨_, rfl, ?_, ?_⟩
    · rw [e1, e2]; exact small2 k (by omega) (by omega)
    · simp only [e1, e2, ByteArray.size_extract]; omega
theorem intsOf_len (s : ByteArray) : (intsOf s).length = s.size := by simp [intsOf]
theorem AppendInt_eq (a : List Int) (x : Int) (h0 : 0 ≤ x) (h1 : x < 100) (ha : a.length < 100000000) : strconv_AppendInt a x 10 = some (a ++ digL x) := by
  obtain ⟨s, e, e2, e3⟩ := small_eq x h0 h1
  have w1 : IntKind.u64.wrap x = x := by rw [IntKind.wrap_u64]; omega
  unfold strconv_AppendInt i_strconv_AppendInt
  rw [if_neg (by omega), w1]
  unfold i_strconv_AppendUint
  rw [if_pos rfl, if_pos (by omega), wrapI (by omega) (by omega), e]
  simp only [Option.bind_some]
  rw [chk_pos _ (by unfold capOk; omega), e2]
  rfl
def numsT (xs : List Int) : List Int := xs.flatMap fun x => 32 :: digL x
theorem numsT_snoc (xs : List Int) (k : Nat) (h : k < xs.length) : numsT (xs.take (k + 1)) = numsT (xs.take k) ++ (32 :: digL (xs.getD k 0)) := by
  have e : xs.getD k 0 = xs[k] := by simp [List.getD, List.getElem?_eq_getElem h]
  rw [List.take_succ_eq_append_getElem h, e]
  unfold numsT
  rw [List.flatMap_append]
  simp
theorem numsT_len : ∀ xs : List Int, (numsT xs).length ≤ 3 * xs.length
  | [] => by simp [numsT]
  | x :: xs => by
    have := numsT_len xs
    have h2 := (digL_len x).2
    simp only [numsT, List.flatMap_cons, List.length_append, List.length_cons] at this ⊢
    omega
theorem atI_D {α : Type} {xs : List α} {k : Nat} (d : α) (h : k < xs.length) : atI xs (k : Int) = some (xs.getD k d) := by
  rw [atI_nat h]; simp [List.getD, List.getElem?_eq_getElem h]
theorem getD_mem {α : Type} {xs : List α} {k : Nat} (d : α) (h : k < xs.length) : xs.getD k d ∈ xs := by
  rw [show xs.getD k d = xs[k] by simp [List.getD, List.getElem?_eq_getElem h]]; exact List.getElem_mem h
theorem appendNumbers_eq (a xs : List Int) (hx : ∀ x ∈ xs, 0 ≤ x ∧ x < 100) (ha : a.length + 3 * xs.length < 100000000) : cascade_appendNumbers a xs = some (a ++ numsT xs) := by
  unfold cascade_appendNumbers
  refine (loop_to (x := some (a ++ numsT xs)) xs.length (fun k => ((k : Int), a ++ numsT (xs.take k))) (by simp [numsT]) (by simp only [LFm]; omega) (fun k hk => ?_) ?_)
  · have hm := hx _ (getD_mem 0 hk)
    have hl := numsT_len (xs.take k)
    rw [List.length_take] at hl
    simp only [cascade_appendNumbers_b2]
    rw [if_pos (by omega), atI_D 0 hk]
    simp only [Option.bind_some]
    rw [chk_pos _ (by unfold capOk; simp only [List.length_append]; omega), AppendInt_eq _ _ hm.1 hm.2 (by simp only [List.length_append, List.length_singleton]; omega)]
    simp only [Option.bind_some]
    rw [wrapS (by omega), numsT_snoc xs k hk]
    simp
  · simp only [cascade_appendNumbers_b2]
    rw [if_neg (by omega), List.take_length]
theorem digits_eq (n : Int) (h0 : 0 ≤ n) (h1 : n < 100) : ref26_digits 12 n = some (bytesOf (digL n)) := by
  have d9 : ∀ (k : Nat) (m : Int), 0 ≤ m → m < 10 → ref26_digits (k + 1) m = some (bytesOf [48 + m]) := by
    intro k m a b
    simp only [ref26_digits, ref26_digits_r]
    rw [if_pos b, wrapI (by omega) (by omega), wrap8 (by omega) (by omega)]
    rfl
  unfold digL
  by_cases h : n < 10
  · rw [if_pos h]; exact d9 11 n h0 h
  · rw [if_neg h]
    have e1 : quoI .i64 n 10 = n / 10 := by
      unfold quoI
      rw [Int.tdiv_eq_ediv_of_nonneg h0]
      exact wrapI (by omega) (by omega)
    have e2 : n.tmod 10 = n % 10 := Int.tmod_eq_emod_of_nonneg h0
    rw [show ref26_digits 12 n = ref26_digits_r (ref26_digits 11) n from rfl]
    unfold ref26_digits_r
    rw [if_neg h, e1, d9 10 _ (by omega) (by omega), e2, wrapI (x := 48 + n % 10) (by omega) (by omega), wrap8 (by omega) (by omega)]
    simp only [Option.bind_some]
    rw [chk_pos _ (by unfold catOk; show ((1 : Nat) : Int) + ((1 : Nat) : Int) ≤ _; omega)]
    rfl
end Go.Proofs.YthalofddjlhcjaaDoor
end
section
/- Plain facts on lists of numbers and cascades. No program. -/
namespace Go.Proofs.YthalofddjlhcjaaDoor
set_option linter.unusedVariables false
set_option linter.unusedSimpArgs false

/-- The lexicographic order of lists. -/
def lexLt : List Int → List Int → Bool
  | _, [] => false
  | [], _ :: _ => true
  | a :: x, b :: y => decide (a < b) || (decide (a = b) && lexLt x y)

/-- What slices.Compare answers. -/
def cmpL : List Int → List Int → Int
  | [], [] => 0
  | [], _ :: _ => -1
  | _ :: _, [] => 1
  | a :: x, b :: y => if a < b then -1 else if b < a then 1 else cmpL x y

/-- The order of prefixes. -/
def cmpR (a b : List Int) : Int := if a.length < b.length then -1 else if b.length < a.length then 1 else cmpL a b

/-- All states lie below the sizes. -/
def inB (sizes xs : List Int) : Bool := (xs.zip sizes).all fun p => decide (0 ≤ p.1) && decide (p.1 < p.2)

def tupB (sizes xs : List Int) : Bool := decide (xs.length = sizes.length) && inB sizes xs

theorem getD_of_lt {α : Type} {l : List α} {i : Nat} (d : α) (h : i < l.length) : l.getD i d = l[i] := by simp [List.getD, List.getElem?_eq_getElem h]

theorem list_ext_getD {xs ys : List Int} (hl : xs.length = ys.length) (h : ∀ i, i < xs.length → xs.getD i 0 = ys.getD i 0) : xs = ys := by
  apply List.ext_getElem hl
  intro i h1 h2
  have := h i h1
  rwa [getD_of_lt 0 h1, getD_of_lt 0 h2] at this

theorem inB_iff (sizes xs : List Int) (hl : xs.length ≤ sizes.length) : inB sizes xs = true ↔ ∀ i, i < xs.length → 0 ≤ xs.getD i 0 ∧ xs.getD i 0 < sizes.getD i 0 := by
  unfold inB
  rw [List.all_eq_true]
  constructor
  · intro h i hi
    have hz : i < (xs.zip sizes).length := by simp; omega
    have := h (xs.zip sizes)[i] (List.getElem_mem _)
    simp only [List.getElem_zip, Bool.and_eq_true, decide_eq_true_eq] at this
    rw [getD_of_lt 0 hi, getD_of_lt 0 (by omega)]
    exact this
  · intro h p hp
    obtain ⟨i, hi, rfl⟩ := List.getElem_of_mem hp
    have hz : i < xs.length := by simp at hi; omega
    have := h i hz
    rw [getD_of_lt 0 hz, getD_of_lt 0 (by omega)] at this
    simp only [List.getElem_zip, Bool.and_eq_true, decide_eq_true_eq]
    exact this

theorem inB_false (sizes xs : List Int) (hl : xs.length ≤ sizes.length) (i : Nat) (hi : i < xs.length) (h : ¬ (0 ≤ xs.getD i 0 ∧ xs.getD i 0 < sizes.getD i 0)) : inB sizes xs = false := by
  rw [← Bool.not_eq_true, inB_iff _ _ hl]
  exact fun h' => h (h' i hi)

theorem lexLt_take : ∀ (xs ys : List Int) (k : Nat), k < xs.length → k < ys.length → (∀ i, i < k → xs.getD i 0 = ys.getD i 0) → xs.getD k 0 ≠ ys.getD k 0 → lexLt xs ys = decide (xs.getD k 0 < ys.getD k 0)
  | [], _, k, h, _, _, _ => by simp at h
  | _ :: _, [], k, _, h, _, _ => by simp at h
  | a :: x, b :: y, 0, _, _, _, hne => by
    simp at hne
    simp [lexLt, hne]
  | a :: x, b :: y, k + 1, h1, h2, he, hne => by
    have h0 := he 0 (by omega)
    simp at h0
    subst h0
    have ih := lexLt_take x y k (by simpa using h1) (by simpa using h2) (fun i hi => by have := he (i + 1) (by omega); simpa using this) (by simpa using hne)
    simp [lexLt] at ih ⊢
    exact ih

theorem lexLt_end : ∀ (xs ys : List Int), (∀ i, i < xs.length → i < ys.length → xs.getD i 0 = ys.getD i 0) → lexLt xs ys = decide (xs.length < ys.length)
  | [], [], _ => by simp [lexLt]
  | [], _ :: _, _ => by simp [lexLt]
  | _ :: _, [], _ => by simp [lexLt]
  | a :: x, b :: y, he => by
    have h0 := he 0 (by simp) (by simp)
    simp at h0
    subst h0
    have ih := lexLt_end x y (fun i h1 h2 => by have := he (i + 1) (by simpa using h1) (by simpa using h2); simpa using this)
    simp [lexLt, ih]

theorem cmpL_take : ∀ (xs ys : List Int) (k : Nat), k < xs.length → k < ys.length → (∀ i, i < k → xs.getD i 0 = ys.getD i 0) → xs.getD k 0 ≠ ys.getD k 0 → cmpL xs ys = if xs.getD k 0 < ys.getD k 0 then -1 else 1
  | [], _, k, h, _, _, _ => by simp at h
  | _ :: _, [], k, _, h, _, _ => by simp at h
  | a :: x, b :: y, 0, _, _, _, hne => by
    simp at hne
    simp only [cmpL, List.getD_cons_zero]
    by_cases h : a < b
    · simp [h]
    · have : b < a := by omega
      simp [h, this]
  | a :: x, b :: y, k + 1, h1, h2, he, hne => by
    have h0 := he 0 (by omega)
    simp at h0
    subst h0
    have ih := cmpL_take x y k (by simpa using h1) (by simpa using h2) (fun i hi => by have := he (i + 1) (by omega); simpa using this) (by simpa using hne)
    simp [cmpL] at ih ⊢
    exact ih

theorem cmpL_end : ∀ (xs ys : List Int), (∀ i, i < xs.length → i < ys.length → xs.getD i 0 = ys.getD i 0) → cmpL xs ys = if xs.length < ys.length then -1 else if ys.length < xs.length then 1 else 0
  | [], [], _ => by simp [cmpL]
  | [], _ :: _, _ => by simp [cmpL]
  | _ :: _, [], _ => by simp [cmpL]
  | a :: x, b :: y, he => by
    have h0 := he 0 (by simp) (by simp)
    simp at h0
    subst h0
    have ih := cmpL_end x y (fun i h1 h2 => by have := he (i + 1) (by simpa using h1) (by simpa using h2); simpa using this)
    simp [cmpL, ih]

theorem cmpL_lt : ∀ (xs ys : List Int), lexLt xs ys = decide (cmpL xs ys < 0)
  | [], [] => by simp [cmpL, lexLt]
  | [], _ :: _ => by simp [cmpL, lexLt]
  | _ :: _, [] => by simp [cmpL, lexLt]
  | a :: x, b :: y => by
    have ih := cmpL_lt x y
    simp only [cmpL, lexLt, ih]
    by_cases h : a < b
    · simp [h]
    · by_cases h2 : b < a
      · have : a ≠ b := by omega
        simp [h, h2, this]
      · have : a = b := by omega
        simp [this]

theorem cmpL_range : ∀ (xs ys : List Int), cmpL xs ys = -1 ∨ cmpL xs ys = 0 ∨ cmpL xs ys = 1
  | [], [] => by simp [cmpL]
  | [], _ :: _ => by simp [cmpL]
  | _ :: _, [] => by simp [cmpL]
  | a :: x, b :: y => by
    have ih := cmpL_range x y
    simp only [cmpL]
    split
    · simp
    · split
      · simp
      · exact ih

theorem cmpL_zero : ∀ (xs ys : List Int), cmpL xs ys = 0 ↔ xs = ys
  | [], [] => by simp [cmpL]
  | [], _ :: _ => by simp [cmpL]
  | _ :: _, [] => by simp [cmpL]
  | a :: x, b :: y => by
    have ih := cmpL_zero x y
    simp only [cmpL]
    by_cases h : a < b
    · have : a ≠ b := by omega
      simp [h, this]
    · by_cases h2 : b < a
      · have : a ≠ b := by omega
        simp [h, h2, this]
      · have : a = b := by omega
        simp [this, ih]

theorem cmpR_range (a b : List Int) : cmpR a b = -1 ∨ cmpR a b = 0 ∨ cmpR a b = 1 := by
  have := cmpL_range a b
  unfold cmpR; split
  · simp
  · split
    · simp
    · exact this

theorem cmpR_zero (a b : List Int) : cmpR a b = 0 ↔ a = b := by
  have := cmpL_zero a b
  unfold cmpR
  by_cases h : a.length < b.length
  · simp only [if_pos h]
    constructor
    · omega
    · intro e; subst e; omega
  · by_cases h2 : b.length < a.length
    · simp only [if_neg h, if_pos h2]
      constructor
      · omega
      · intro e; subst e; omega
    · simp only [if_neg h, if_neg h2]; exact this

/-- A map of a component with n states. -/
def mapB (n : Int) (m : List Int) : Bool := decide ((m.length : Int) = n) && m.all fun s => decide (0 ≤ s) && decide (s < n)

/-- A row of the right form. -/
def rowB (c : Casc) (r : CRow) : Bool := decide (r.pre.length < c.sizes.length) && inB c.sizes r.pre && decide ((r.maps.length : Int) = c.letters) && r.maps.all (mapB (c.sizes.getD r.pre.length 0))

theorem tupB_take (sizes xs : List Int) (h : xs.length < sizes.length) : tupB (sizes.take xs.length) xs = inB sizes xs := by
  have hl : (sizes.take xs.length).length = xs.length := by rw [List.length_take]; omega
  have e : ∀ i, i < xs.length → (sizes.take xs.length).getD i 0 = sizes.getD i 0 := fun i hi => by
    simp only [List.getD, List.getElem?_take_of_lt hi]
  have : tupB (sizes.take xs.length) xs = inB (sizes.take xs.length) xs := by simp [tupB, hl]
  rw [this, Bool.eq_iff_iff, inB_iff _ _ (by omega), inB_iff _ _ (by omega)]
  constructor
  · intro h i hi; have := h i hi; rwa [e i hi] at this
  · intro h i hi; rw [e i hi]; exact h i hi

theorem all_getD {α : Type} (p : α → Bool) (l : List α) (d : α) : l.all p = true ↔ ∀ i, i < l.length → p (l.getD i d) = true := by
  rw [List.all_eq_true]
  constructor
  · intro h i hi; rw [getD_of_lt d hi]; exact h _ (List.getElem_mem _)
  · intro h x hx
    obtain ⟨i, hi, rfl⟩ := List.getElem_of_mem hx
    have := h i hi
    rwa [getD_of_lt d hi] at this

theorem all_getD_false {α : Type} (p : α → Bool) (l : List α) (d : α) (i : Nat) (hi : i < l.length) (h : p (l.getD i d) = false) : l.all p = false := by
  rw [← Bool.not_eq_true, all_getD p l d]
  intro h'
  rw [h' i hi] at h
  cases h

theorem mapB_iff (n : Int) (m : List Int) (hl : (m.length : Int) = n) : mapB n m = true ↔ ∀ i, i < m.length → 0 ≤ m.getD i 0 ∧ m.getD i 0 < n := by
  unfold mapB
  rw [decide_eq_true hl, Bool.true_and, all_getD _ _ 0]
  simp

theorem rowB_short (c : Casc) (r : CRow) (h : ¬ r.pre.length < c.sizes.length) : rowB c r = false := by simp [rowB, h]
theorem rowB_in (c : Casc) (r : CRow) (h : inB c.sizes r.pre = false) : rowB c r = false := by simp [rowB, h]
theorem rowB_letters (c : Casc) (r : CRow) (h : ¬ (r.maps.length : Int) = c.letters) : rowB c r = false := by simp [rowB, h]
theorem rowB_maps (c : Casc) (r : CRow) (h1 : r.pre.length < c.sizes.length) (h2 : inB c.sizes r.pre = true) (h3 : (r.maps.length : Int) = c.letters) : rowB c r = r.maps.all (mapB (c.sizes.getD r.pre.length 0)) := by
  simp [rowB, h1, h2, h3]

/-- The rows have the right form and ascend. -/
def rowsUpB (c : Casc) (k : Nat) : Bool := (List.range k).all fun i => rowB c (c.rows.getD i ⟨[], []⟩) && (decide (i = 0) || decide (cmpR (c.rows.getD (i - 1) ⟨[], []⟩).pre (c.rows.getD i ⟨[], []⟩).pre < 0))

/-- The first error of a cascade. -/
def validE (c : Casc) : Int :=
  if c.letters < 1 ∨ 6 < c.letters then 1
  else if 24 < c.sizes.length ∨ 48000 < c.rows.length then 3
  else if (c.sizes.all fun n => decide (1 ≤ n) && decide (n ≤ 32)) && rowsUpB c c.rows.length then 0 else 23

theorem rowsUpB_succ (c : Casc) (k : Nat) : rowsUpB c (k + 1) = (rowsUpB c k && (rowB c (c.rows.getD k ⟨[], []⟩) && (decide (k = 0) || decide (cmpR (c.rows.getD (k - 1) ⟨[], []⟩).pre (c.rows.getD k ⟨[], []⟩).pre < 0)))) := by
  simp [rowsUpB, List.range_succ, List.all_append]

theorem rowsUpB_mono (c : Casc) {k n : Nat} (h : k ≤ n) (hf : rowsUpB c k = false) : rowsUpB c n = false := by
  rw [← Bool.not_eq_true] at hf ⊢
  intro h'
  apply hf
  simp only [rowsUpB, List.all_eq_true, List.mem_range] at h' ⊢
  exact fun i hi => h' i (by omega)
end Go.Proofs.YthalofddjlhcjaaDoor
end
section
/- More plain facts on cascades. No program. -/
namespace Go.Proofs.YthalofddjlhcjaaDoor
set_option linter.unusedVariables false
set_option linter.unusedSimpArgs false

theorem cmpL_trans : ∀ (a b c : List Int), cmpL a b < 0 → cmpL b c < 0 → cmpL a c < 0
  | [], _, [] => by intro h1 h2; cases ‹List Int› <;> simp [cmpL] at *
  | [], _, _ :: _ => by simp [cmpL]
  | _ :: _, [], _ => by simp [cmpL]
  | _ :: _, _ :: _, [] => by simp [cmpL]
  | a :: us, b :: bs, c :: cs => by
    have h := cmpL_trans us bs cs
    simp only [cmpL]
    intro h1 h2
    by_cases ab : a < b
    · by_cases bc : b < c
      · rw [if_pos (by omega)]; omega
      · by_cases cb : c < b
        · rw [if_neg bc, if_pos cb] at h2; omega
        · rw [if_pos (by omega)]; omega
    · by_cases ba : b < a
      · rw [if_neg ab, if_pos ba] at h1; omega
      · have : a = b := by omega
        subst this
        rw [if_neg ab, if_neg ba] at h1
        by_cases bc : a < c
        · rw [if_pos bc]; omega
        · by_cases cb : c < a
          · rw [if_neg bc, if_pos cb] at h2; omega
          · rw [if_neg bc, if_neg cb] at h2 ⊢
            exact h h1 h2

theorem cmpR_trans (a b c : List Int) (h1 : cmpR a b < 0) (h2 : cmpR b c < 0) : cmpR a c < 0 := by
  have := cmpL_trans a b c
  unfold cmpR at *
  by_cases ab : a.length < b.length
  · by_cases cb : c.length < b.length
    · rw [if_neg (by omega), if_pos cb] at h2; omega
    · rw [if_pos (by omega)]; omega
  · by_cases ba : b.length < a.length
    · rw [if_neg ab, if_pos ba] at h1; omega
    · rw [if_neg ab, if_neg ba] at h1
      by_cases bc : b.length < c.length
      · rw [if_pos (by omega)]; omega
      · by_cases cb : c.length < b.length
        · rw [if_neg bc, if_pos cb] at h2; omega
        · rw [if_neg bc, if_neg cb] at h2
          rw [if_neg (by omega), if_neg (by omega)]
          exact this h1 h2

/-- The rows ascend. -/
def UpR (rows : List CRow) : Prop := ∀ i j (hi : i < rows.length) (hj : j < rows.length), i < j → cmpR rows[i].pre rows[j].pre < 0

theorem upR_of (c : Casc) (h : rowsUpB c c.rows.length = true) : UpR c.rows := by
  have adj : ∀ i (h1 : i + 1 < c.rows.length), cmpR c.rows[i].pre c.rows[i + 1].pre < 0 := fun i h1 => by
    simp only [rowsUpB, List.all_eq_true, List.mem_range] at h
    have := h (i + 1) h1
    simp only [Nat.add_sub_cancel, getD_of_lt _ h1, getD_of_lt _ (show i < c.rows.length by omega)] at this
    rw [Bool.and_eq_true] at this
    simpa using this.2
  intro i j hi hj hij
  induction j with
  | zero => omega
  | succ j ih =>
    by_cases e : i = j
    · subst e; exact adj i hj
    · exact cmpR_trans _ _ _ (ih (by omega) (by omega)) (adj j hj)

/-- What a cascade without an error is like. -/
structure Valid (c : Casc) : Prop where
  l1 : 1 ≤ c.letters
  l2 : c.letters ≤ 6
  s1 : c.sizes.length ≤ 24
  r1 : c.rows.length ≤ 48000
  sz : ∀ i, i < c.sizes.length → 1 ≤ c.sizes.getD i 0 ∧ c.sizes.getD i 0 ≤ 32
  up : UpR c.rows
  row : ∀ i (h : i < c.rows.length), rowB c c.rows[i] = true

theorem valid_of (c : Casc) (h : validE c = 0) : Valid c := by
  unfold validE at h
  split at h
  · cases h
  · rename_i a1
    split at h
    · cases h
    · rename_i a2
      split at h
      · rename_i a3
        rw [Bool.and_eq_true] at a3
        obtain ⟨b1, b2⟩ := a3
        refine ⟨by omega, by omega, by omega, by omega, fun i hi => ?_, upR_of c b2, fun i hi => ?_⟩
        · have := (all_getD _ _ 0).1 b1 i hi
          rw [Bool.and_eq_true, decide_eq_true_iff, decide_eq_true_iff] at this
          exact this
        · simp only [rowsUpB, List.all_eq_true, List.mem_range] at b2
          have := b2 i hi
          rw [Bool.and_eq_true, getD_of_lt _ hi] at this
          exact this.1
      · cases h

theorem rowB_facts {c : Casc} {r : CRow} (h : rowB c r = true) : r.pre.length < c.sizes.length ∧ inB c.sizes r.pre = true ∧ (r.maps.length : Int) = c.letters ∧
    ∀ i, i < r.maps.length → ((r.maps.getD i []).length : Int) = c.sizes.getD r.pre.length 0 ∧ ∀ j, j < (r.maps.getD i []).length → 0 ≤ (r.maps.getD i []).getD j 0 ∧ (r.maps.getD i []).getD j 0 < c.sizes.getD r.pre.length 0 := by
  unfold rowB at h
  simp only [Bool.and_eq_true, decide_eq_true_eq] at h
  obtain ⟨⟨⟨h1, h2⟩, h3⟩, h4⟩ := h
  refine ⟨h1, h2, h3, fun i hi => ?_⟩
  have := (all_getD _ _ []).1 h4 i hi
  have hl : ((r.maps.getD i []).length : Int) = c.sizes.getD r.pre.length 0 := by
    unfold mapB at this
    rw [Bool.and_eq_true, decide_eq_true_iff] at this
    exact this.1
  exact ⟨hl, (mapB_iff _ _ hl).1 this⟩
end Go.Proofs.YthalofddjlhcjaaDoor
end
section
/- Plain: comparisons of lists. -/
namespace Go.Proofs.YthalofddjlhcjaaDoor
open Go
set_option linter.unusedVariables false
set_option linter.unusedSimpArgs false

theorem atI_getD {α : Type} {xs : List α} {k : Nat} (d : α) (h : k < xs.length) : atI xs (k : Int) = some (xs.getD k d) := by
  rw [atI_nat h, getD_of_lt d h]
def cmpI (a b : Int) : Int := if a < b then -1 else if b < a then 1 else 0
theorem cmpI_zero (a b : Int) : cmpI a b = 0 ↔ a = b := by unfold cmpI; split <;> (try split) <;> omega
theorem Compare_eq (a b : Int) : cmp_Compare_int a b = some (cmpI a b) := by
  simp [cmp_Compare_int, cmp_isNaN_int, cmpI]
  split <;> (try split) <;> simp_all
theorem Or_eq (a b : Int) : cmp_Or_int [a, b] = some (if a ≠ 0 then a else b) := by
  unfold cmp_Or_int
  rw [loop_find (s := (0 : Int)) 2 (fun k => (k : Int)) (fun k => decide (([a, b].getD k 0) ≠ 0)) (fun k => some ([a, b].getD k 0)) (x := some 0) rfl (by simp only [LFm]; omega)]
  · by_cases ha : a = 0 <;> by_cases hb : b = 0 <;> simp [List.range, List.range.loop, ha, hb]
  · intro k hk
    simp only [cmp_Or_int_b3]
    rw [if_pos (by simp; omega), atI_getD 0 (by simpa using hk), wrapS (by omega)]
    simp only [Option.bind_some]
    by_cases h : [a, b].getD k 0 = 0 <;> simp [h]
  · simp [cmp_Or_int_b3]
theorem Same_eq (xs ys : List Int) (h : xs.length < 4611686018427387904) : ref03_Same xs ys = some (decide (xs = ys)) := by
  unfold ref03_Same
  split
  · rename_i hl
    have hl : xs.length = ys.length := by omega
    rw [loop_find (s := (0 : Int)) xs.length (fun k => (k : Int)) (fun k => !decide (xs.getD k 0 = ys.getD k 0)) (fun _ => some false) (x := some true) rfl (by simp only [LFm]; omega)]
    · rw [find_all]
      simp only [Bool.not_not]
      by_cases he : xs = ys
      · subst he; simp
      · rw [if_neg, decide_eq_false he]
        intro hh
        simp only [List.all_eq_true, List.mem_range, decide_eq_true_eq] at hh
        exact he (list_ext_getD hl hh)
    · intro k hk
      simp only [ref03_Same_b4]
      rw [if_pos (by omega), atI_getD 0 hk, atI_getD 0 (by omega), wrapS (by omega)]
      simp only [Option.bind_some]
      by_cases h : xs.getD k 0 = ys.getD k 0 <;> simp [h]
    · simp [ref03_Same_b4]
  · rename_i hl
    rw [decide_eq_false]
    intro e; subst e; exact hl rfl
def short (xss : List (List Int)) : Prop := xss.length < 4611686018427387904 ∧ ∀ m ∈ xss, m.length < 4611686018427387904
theorem SameRows_eq (xs ys : List (List Int)) (h : short xs) : ref03_SameRows xs ys = some (decide (xs = ys)) := by
  unfold ref03_SameRows
  split
  · rename_i hl
    have hl : xs.length = ys.length := by omega
    rw [loop_find (s := (0 : Int)) xs.length (fun k => (k : Int)) (fun k => !decide (xs.getD k [] = ys.getD k [])) (fun _ => some false) (x := some true) rfl (by simp only [LFm]; have := h.1; omega)]
    · rw [find_all]
      simp only [Bool.not_not]
      by_cases he : xs = ys
      · subst he; simp
      · rw [if_neg, decide_eq_false he]
        intro hh
        simp only [List.all_eq_true, List.mem_range, decide_eq_true_eq] at hh
        apply he
        apply List.ext_getElem hl
        intro i h1 h2
        have := hh i h1
        rwa [getD_of_lt _ h1, getD_of_lt _ h2] at this
    · intro k hk
      have := h.1
      simp only [ref03_SameRows_b4]
      rw [if_pos (by omega), atI_getD [] hk, atI_getD [] (by omega), wrapS (by omega)]
      simp only [Option.bind_some]
      rw [Same_eq _ _ (by rw [getD_of_lt _ hk]; exact h.2 _ (List.getElem_mem hk))]
      simp only [Option.bind_some]
      by_cases h : xs.getD k [] = ys.getD k [] <;> simp [h]
    · simp [ref03_SameRows_b4]
  · rename_i hl
    rw [decide_eq_false]
    intro e; subst e; exact hl rfl
theorem Compare_list (xs ys : List Int) (h : xs.length < 4611686018427387904) : slices_Compare_Lint_int xs ys = some (cmpL xs ys) := by
  unfold slices_Compare_Lint_int
  rw [loop_find (s := (0 : Int)) xs.length (fun k => (k : Int)) (fun k => decide (ys.length ≤ k) || !decide (xs.getD k 0 = ys.getD k 0)) (fun k => some (if ys.length ≤ k then 1 else cmpI (xs.getD k 0) (ys.getD k 0))) (x := some (if xs.length < ys.length then -1 else 0)) rfl (by simp only [LFm]; omega)]
  · split
    · rename_i k hk
      rw [find_some] at hk
      obtain ⟨k1, k2, k3⟩ := hk
      have k3' : ∀ j, j < k → xs.getD j 0 = ys.getD j 0 ∧ j < ys.length := fun j hj => by have := k3 j hj; simp only [Bool.or_eq_false_iff, decide_eq_false_iff_not, Bool.not_eq_false', decide_eq_true_eq] at this; omega
      split
      · rename_i hy
        have hyk : k = ys.length := by
          rcases Nat.eq_or_lt_of_le hy with h | h
          · exact h.symm
          · exact absurd (k3' _ h).2 (by omega)
        rw [cmpL_end xs ys (fun i h1 h2 => (k3' i (by omega)).1), if_neg (by omega), if_pos (by omega)]
      · rename_i hy
        have hne : xs.getD k 0 ≠ ys.getD k 0 := by simp [hy] at k2; exact k2
        rw [cmpL_take xs ys k k1 (by omega) (fun i hi => (k3' i hi).1) hne]
        unfold cmpI
        split <;> (try split) <;> first | rfl | omega
    · rename_i hk
      rw [find_none] at hk
      have hk' : ∀ j, j < xs.length → xs.getD j 0 = ys.getD j 0 ∧ j < ys.length := fun j hj => by have := hk j hj; simp only [Bool.or_eq_false_iff, decide_eq_false_iff_not, Bool.not_eq_false', decide_eq_true_eq] at this; omega
      rw [cmpL_end xs ys (fun i h1 h2 => (hk' i h1).1)]
      split
      · rfl
      · rw [if_neg]
        intro hh
        have := (hk' ys.length hh).2
        omega
  · intro k hk
    simp only [slices_Compare_Lint_int_b2]
    rw [if_pos (by omega), atI_getD 0 hk]
    simp only [Option.bind_some]
    by_cases hy : ys.length ≤ k
    · rw [if_pos (by omega)]
      simp [hy]
    · rw [if_neg (by omega), atI_getD 0 (by omega), wrapS (by omega)]
      simp only [Option.bind_some, Compare_eq, cmpI_zero]
      by_cases h : xs.getD k 0 = ys.getD k 0 <;> simp [h, hy]
  · simp only [slices_Compare_Lint_int_b2]
    rw [if_neg (by omega)]
    split <;> rfl
theorem Less_eq (xs ys : List Int) (h : xs.length < 4611686018427387904) : ref03_Less xs ys = some (lexLt xs ys) := by
  unfold ref03_Less
  rw [loop_find (s := (0 : Int)) xs.length (fun k => (k : Int)) (fun k => decide (ys.length ≤ k) || !decide (xs.getD k 0 = ys.getD k 0)) (fun k => some (if ys.length ≤ k then decide (xs.length < ys.length) else decide (xs.getD k 0 < ys.getD k 0))) (x := some (decide (xs.length < ys.length))) rfl (by simp only [LFm]; omega)]
  · split
    · rename_i k hk
      rw [find_some] at hk
      obtain ⟨k1, k2, k3⟩ := hk
      have k3' : ∀ j, j < k → xs.getD j 0 = ys.getD j 0 ∧ j < ys.length := fun j hj => by have := k3 j hj; simp only [Bool.or_eq_false_iff, decide_eq_false_iff_not, Bool.not_eq_false', decide_eq_true_eq] at this; omega
      split
      · rename_i hy
        have hyk : k = ys.length := by
          rcases Nat.eq_or_lt_of_le hy with h | h
          · exact h.symm
          · exact absurd (k3' _ h).2 (by omega)
        rw [lexLt_end xs ys (fun i h1 h2 => (k3' i (by omega)).1)]
      · rename_i hy
        have hne : xs.getD k 0 ≠ ys.getD k 0 := by simp [hy] at k2; exact k2
        rw [lexLt_take xs ys k k1 (by omega) (fun i hi => (k3' i hi).1) hne]
    · rename_i hk
      rw [find_none] at hk
      have hk' : ∀ j, j < xs.length → xs.getD j 0 = ys.getD j 0 ∧ j < ys.length := fun j hj => by have := hk j hj; simp only [Bool.or_eq_false_iff, decide_eq_false_iff_not, Bool.not_eq_false', decide_eq_true_eq] at this; omega
      rw [lexLt_end xs ys (fun i h1 h2 => (hk' i h1).1)]
  · intro k hk
    simp only [ref03_Less_b2]
    rw [if_pos (by omega)]
    by_cases hy : ys.length ≤ k
    · rw [if_neg (by omega)]
      simp [hy]
    · rw [if_pos (by omega), atI_getD 0 (by omega), atI_getD 0 (by omega), wrapS (by omega)]
      simp only [Option.bind_some]
      by_cases h : xs.getD k 0 = ys.getD k 0 <;> simp [h, hy]
  · simp [ref03_Less_b2]
end Go.Proofs.YthalofddjlhcjaaDoor
end
section
/- Plain facts on a search among rows that ascend. No program. -/
namespace Go.Proofs.YthalofddjlhcjaaDoor
set_option linter.unusedVariables false
set_option linter.unusedSimpArgs false

/-- Where the search ends. -/
def lowB (rows : List CRow) (p : List Int) : Nat := (rows.takeWhile fun r => decide (cmpR r.pre p < 0)).length
def hasB (rows : List CRow) (p : List Int) : Bool := rows.any fun r => decide (r.pre = p)

/-- What the search answers. -/
def Found (rows : List CRow) (p : List Int) (i : Nat) (b : Bool) : Prop := i = lowB rows p ∧ b = hasB rows p

theorem takeWhile_len {α : Type} (q : α → Bool) : ∀ (l : List α) (i : Nat), i ≤ l.length → (∀ k (h : k < l.length), k < i → q l[k] = true) → (∀ h : i < l.length, q l[i] = false) → (l.takeWhile q).length = i
  | [], i, hi, _, _ => by simp at hi; simp [hi]
  | a :: l, 0, _, _, h2 => by
    have := h2 (by simp)
    simp at this
    simp [List.takeWhile_cons, this]
  | a :: l, i + 1, hi, h1, h2 => by
    have e := h1 0 (by simp) (by omega)
    simp at e
    have ih := takeWhile_len q l i (by simpa using hi) (fun k h hk => by have := h1 (k + 1) (by simpa using h) (by omega); simpa using this) (fun h => by have := h2 (by simpa using h); simpa using this)
    simp [List.takeWhile_cons, e, ih]

theorem hasB_iff (rows : List CRow) (p : List Int) : hasB rows p = true ↔ ∃ j, ∃ h : j < rows.length, rows[j].pre = p := by
  unfold hasB
  rw [List.any_eq_true]
  constructor
  · rintro ⟨r, hr, e⟩
    obtain ⟨j, hj, rfl⟩ := List.getElem_of_mem hr
    exact ⟨j, hj, of_decide_eq_true e⟩
  · rintro ⟨j, hj, e⟩
    exact ⟨rows[j], List.getElem_mem _, decide_eq_true e⟩

/-- All rows before i are less, all from j on are not. -/
def Between (rows : List CRow) (p : List Int) (i j : Nat) : Prop :=
  (∀ k (h : k < rows.length), k < i → cmpR rows[k].pre p < 0) ∧ (∀ k (h : k < rows.length), j ≤ k → ¬ cmpR rows[k].pre p < 0)

theorem between_up {rows : List CRow} (hu : UpR rows) {p : List Int} {i j k : Nat} (h : Between rows p i j) (hk : k < rows.length) (hc : cmpR rows[k].pre p < 0) : Between rows p (k + 1) j :=
  ⟨fun l hl hlk => by
    by_cases e : l = k
    · subst e; exact hc
    · exact cmpR_trans _ _ _ (hu l k hl hk (by omega)) hc, h.2⟩
theorem between_down {rows : List CRow} (hu : UpR rows) {p : List Int} {i j k : Nat} (h : Between rows p i j) (hk : k < rows.length) (hc : ¬ cmpR rows[k].pre p < 0) : Between rows p i k :=
  ⟨h.1, fun l hl hlk => by
    by_cases e : l = k
    · subst e; exact hc
    · exact fun h' => hc (cmpR_trans _ _ _ (hu k l hk hl (by omega)) h')⟩
theorem low_of {rows : List CRow} {p : List Int} {i : Nat} (h : Between rows p i i) (hi : i ≤ rows.length) : lowB rows p = i :=
  takeWhile_len _ rows i hi (fun k hk hki => decide_eq_true (h.1 k hk hki)) (fun hk => decide_eq_false (h.2 i hk (Nat.le_refl _)))
theorem found_of {rows : List CRow} (hu : UpR rows) {p : List Int} {i : Nat} (h : Between rows p i i) (hi : i < rows.length) : Found rows p i (decide (cmpR rows[i].pre p = 0)) := by
  refine ⟨(low_of h (by omega)).symm, ?_⟩
  rw [Bool.eq_iff_iff, decide_eq_true_iff, hasB_iff]
  constructor
  · exact fun e => ⟨i, hi, (cmpR_zero _ _).1 e⟩
  · rintro ⟨j, hj, e⟩
    rcases Nat.lt_trichotomy j i with hl | hl | hl
    · have := h.1 j hj hl; rw [(cmpR_zero _ _).2 e] at this; omega
    · subst hl; exact (cmpR_zero _ _).2 e
    · have := hu i j hi hj hl
      rw [e] at this
      exact absurd this (h.2 i hi (Nat.le_refl _))
theorem found_none {rows : List CRow} {p : List Int} {i : Nat} (h : Between rows p i i) (hi : ¬ i < rows.length) (hi2 : i ≤ rows.length) : Found rows p i false := by
  refine ⟨(low_of h hi2).symm, ?_⟩
  rw [eq_comm, ← Bool.not_eq_true, hasB_iff]
  rintro ⟨j, hj, e⟩
  have := h.1 j hj (by omega)
  rw [(cmpR_zero _ _).2 e] at this
  omega
theorem low_row {rows : List CRow} (hu : UpR rows) {p : List Int} (h : hasB rows p = true) : ∃ hl : lowB rows p < rows.length, rows[lowB rows p].pre = p := by
  obtain ⟨j, hj, e⟩ := (hasB_iff _ _).1 h
  have hb : Between rows p j j := ⟨fun k hk hkj => by rw [← e]; exact hu k j hk hj hkj, fun k hk hjk => by
    by_cases ek : k = j
    · subst ek; rw [(cmpR_zero _ _).2 e]; omega
    · intro hlt
      have := hu j k hj hk (by omega)
      rw [e] at this
      have h2 := cmpR_trans _ _ _ this hlt
      rw [(cmpR_zero p p).2 rfl] at h2
      omega⟩
  have hl := low_of hb (by omega)
  exact ⟨by omega, by simp only [hl]; exact e⟩

end Go.Proofs.YthalofddjlhcjaaDoor
end
section
/- What a step of a cascade is. No program. -/
namespace Go.Proofs.YthalofddjlhcjaaDoor
set_option linter.unusedVariables false
set_option linter.unusedSimpArgs false

/-- The number of the row of a prefix. -/
def rowIx (c : Casc) (p : List Int) : Option Nat := c.rows.findIdx? fun r => decide (r.pre = p)
/-- The coordinate behind a letter. -/
def stVal (c : Casc) (x : List Int) (l : Nat) (i : Nat) : Int := match rowIx c (x.take i) with
  | some k => ((c.rows.getD k ⟨[], []⟩).maps.getD l []).getD (x.getD i 0).toNat 0
  | none => 0
def stV (c : Casc) (x : List Int) (l : Nat) : List Int := (List.range x.length).map (stVal c x l)
def stOk (c : Casc) (x : List Int) : Bool := (List.range x.length).all fun i => hasB c.rows (x.take i)
/-- The tuple behind a letter, or an error. -/
def stepG (c : Casc) (x : List Int) (l : Int) : List Int × Int :=
  if tupB c.sizes x = true ∧ 0 ≤ l ∧ l < c.letters then (if stOk c x = true then (stV c x l.toNat, 0) else ([], 23)) else ([], 1)

theorem rowIx_has {c : Casc} (hu : UpR c.rows) {p : List Int} (h : hasB c.rows p = true) : rowIx c p = some (lowB c.rows p) := by
  obtain ⟨hl, e⟩ := low_row hu h
  unfold rowIx
  rw [List.findIdx?_eq_some_iff_getElem]
  refine ⟨hl, by simpa using e, fun j hj => ?_⟩
  intro hh
  have e2 : c.rows[j].pre = p := by simpa using hh
  have := hu j _ (by omega) hl hj
  rw [e, e2, (cmpR_zero p p).2 rfl] at this
  omega
theorem rowIx_none {c : Casc} {p : List Int} (h : hasB c.rows p = false) : rowIx c p = none := by
  unfold rowIx
  rw [List.findIdx?_eq_none_iff]
  intro r hr
  rw [← Bool.not_eq_true]
  intro e
  rw [← Bool.not_eq_true] at h
  apply h
  unfold hasB
  rw [List.any_eq_true]
  exact ⟨r, hr, e⟩
theorem stV_length (c : Casc) (x : List Int) (l : Nat) : (stV c x l).length = x.length := by simp [stV]
theorem stV_get (c : Casc) (x : List Int) (l i : Nat) (h : i < x.length) : (stV c x l)[i]? = some (stVal c x l i) := by
  simp [stV, h]

/-- The cell that a step reads. -/
theorem step_cell {c : Casc} (hv : Valid c) {x : List Int} (hx : tupB c.sizes x = true) {l k : Nat} (hl : (l : Int) < c.letters) (hk : k < x.length) (hh : hasB c.rows (x.take k) = true) :
    ∃ (low s : Nat) (h1 : low < c.rows.length) (h2 : l < c.rows[low].maps.length) (h3 : s < c.rows[low].maps[l].length), lowB c.rows (x.take k) = low ∧ x[k] = s ∧ stVal c x l k = c.rows[low].maps[l][s] := by
  obtain ⟨h1, e1⟩ := low_row hv.up hh
  obtain ⟨f1, f2, f3, f4⟩ := rowB_facts (hv.row _ h1)
  have h2 : l < c.rows[lowB c.rows (x.take k)].maps.length := by omega
  have hlen : x.length = c.sizes.length ∧ inB c.sizes x = true := by simpa [tupB] using hx
  have hxk := (inB_iff c.sizes x (by omega)).1 hlen.2 k hk
  rw [getD_of_lt 0 hk] at hxk
  obtain ⟨g1, -⟩ := f4 l h2
  rw [getD_of_lt _ h2, e1] at g1
  have hpl : (x.take k).length = k := by simp; omega
  rw [hpl] at g1
  obtain ⟨s, hs⟩ := Int.eq_ofNat_of_zero_le hxk.1
  have h3 : s < c.rows[lowB c.rows (x.take k)].maps[l].length := by omega
  refine ⟨_, s, h1, h2, h3, rfl, hs, ?_⟩
  unfold stVal
  rw [rowIx_has hv.up hh]
  simp only
  rw [getD_of_lt _ h1, getD_of_lt _ h2, getD_of_lt 0 hk, hs]
  simp only [Int.toNat_natCast]
  rw [getD_of_lt _ h3]
end Go.Proofs.YthalofddjlhcjaaDoor
end
section
/- Plain: cascades: what is valid, what a step is. -/
namespace Go.Proofs.YthalofddjlhcjaaDoor
open Go
set_option linter.unusedVariables false
set_option linter.unusedSimpArgs false

theorem compareRows_eq (a b : List Int) (h : a.length < 4611686018427387904) : cascade_compareRows a b = some (cmpR a b) := by
  unfold cascade_compareRows
  simp only [Compare_eq, Compare_list _ _ h, Option.bind_some, Or_eq]
  congr 1
  unfold cmpR cmpI
  split <;> (try split) <;> (try split) <;> simp_all <;> omega
theorem isTuple_eq (sz xs : List Int) (h : xs.length < 4611686018427387904) : cascade_isTuple sz xs = some (tupB sz xs) := by
  unfold cascade_isTuple tupB
  split
  · rename_i hl
    have hl : xs.length = sz.length := by omega
    rw [loop_find (s := (0 : Int)) xs.length (fun k => (k : Int)) (fun k => !decide (0 ≤ xs.getD k 0 ∧ xs.getD k 0 < sz.getD k 0)) (fun _ => some false) (x := some true) rfl (by simp only [LFm]; omega)]
    · rw [find_all, decide_eq_true hl]
      simp only [Bool.not_not, Bool.true_and]
      congr 1
      cases hb : inB sz xs with
      | true =>
        have := (inB_iff sz xs (by omega)).1 hb
        rw [if_pos]
        simp only [List.all_eq_true, List.mem_range, decide_eq_true_eq]
        exact this
      | false =>
        rw [if_neg]
        intro hh
        simp only [List.all_eq_true, List.mem_range, decide_eq_true_eq] at hh
        rw [(inB_iff sz xs (by omega)).2 hh] at hb
        cases hb
    · intro k hk
      simp only [cascade_isTuple_b4]
      rw [if_pos (by omega), atI_getD 0 hk, wrapS (by omega)]
      simp only [Option.bind_some]
      split
      · rename_i h0
        rw [if_pos]
        simp only [Bool.not_eq_true', decide_eq_false_iff_not]; omega
      · rw [atI_getD 0 (by omega)]
        simp only [Option.bind_some]
        split
        · rw [if_pos]
          simp only [Bool.not_eq_true', decide_eq_false_iff_not]; omega
        · rw [if_neg]
          simp only [Bool.not_eq_true', decide_eq_false_iff_not]; omega
    · simp [cascade_isTuple_b4]
  · rename_i hl
    rw [decide_eq_false (by omega)]; rfl
theorem in_eq (sz xs : List Int) (h : xs.length < 4611686018427387904) (hl : xs.length ≤ sz.length) : ref26_in sz xs = some (inB sz xs) := by
  unfold ref26_in
  rw [loop_find (s := (0 : Int)) xs.length (fun k => (k : Int)) (fun k => !decide (0 ≤ xs.getD k 0 ∧ xs.getD k 0 < sz.getD k 0)) (fun _ => some false) (x := some true) rfl (by simp only [LFm]; omega)]
  · rw [find_all]
    simp only [Bool.not_not]
    congr 1
    cases hb : inB sz xs with
    | true =>
      have := (inB_iff sz xs (by omega)).1 hb
      rw [if_pos]
      simp only [List.all_eq_true, List.mem_range, decide_eq_true_eq]
      exact this
    | false =>
      rw [if_neg]
      intro hh
      simp only [List.all_eq_true, List.mem_range, decide_eq_true_eq] at hh
      rw [(inB_iff sz xs (by omega)).2 hh] at hb
      cases hb
  · intro k hk
    simp only [ref26_in_b2]
    rw [if_pos (by omega), atI_getD 0 hk, wrapS (by omega)]
    simp only [Option.bind_some]
    split
    · rename_i h0
      rw [if_pos]
      simp only [Bool.not_eq_true', decide_eq_false_iff_not]; omega
    · rw [atI_getD 0 (by omega)]
      simp only [Option.bind_some]
      split
      · rw [if_pos]
        simp only [Bool.not_eq_true', decide_eq_false_iff_not]; omega
      · rw [if_neg]
        simp only [Bool.not_eq_true', decide_eq_false_iff_not]; omega
  · simp [ref26_in_b2]
theorem IsTuple_eq (c : Casc) (xs : List Int) (h : xs.length < 4611686018427387904) : ref26_IsTuple c xs = some (tupB c.sizes xs) := by
  unfold ref26_IsTuple tupB
  split
  · rename_i hl
    rw [in_eq _ _ h (by omega), decide_eq_true (by omega)]; rfl
  · rw [decide_eq_false (by omega)]; rfl
theorem Less26_eq (a b : List Int) (h : a.length < 4611686018427387904) : ref26_Less a b = some (decide (cmpR a b < 0)) := by
  unfold ref26_Less
  split
  · rename_i hl
    rw [Less_eq _ _ h, cmpL_lt]
    have : cmpR a b = cmpL a b := by unfold cmpR; rw [if_neg (by omega), if_neg (by omega)]
    rw [this]; rfl
  · rename_i hl
    congr 1
    unfold cmpR
    split
    · simp_all
    · rw [if_pos (by omega)]; simp_all
def findI {α : Type} (p : α → Bool) (l : List α) : Int := match l.findIdx? p with | some i => (i : Int) | none => -1
theorem findI_range {α : Type} (p : α → Bool) (l : List α) (d : α) : (match (List.range l.length).find? (fun k => p (l.getD k d)) with | some k => (k : Int) | none => -1) = findI p l := by
  unfold findI
  cases h : (List.range l.length).find? (fun k => p (l.getD k d)) with
  | none =>
    rw [find_none] at h
    have : l.findIdx? p = none := by
      rw [List.findIdx?_eq_none_iff]
      intro x hx
      obtain ⟨i, hi, rfl⟩ := List.getElem_of_mem hx
      have := h i hi
      rwa [getD_of_lt _ hi] at this
    rw [this]
  | some k =>
    rw [find_some] at h
    have : l.findIdx? p = some k := by
      rw [List.findIdx?_eq_some_iff_getElem]
      refine ⟨h.1, by have := h.2.1; rwa [getD_of_lt _ h.1] at this, fun j hj => ?_⟩
      have := h.2.2 j hj
      rw [getD_of_lt _ (by omega)] at this
      simp [this]
    rw [this]
theorem Find_eq (xs : List (List Int)) (x : List Int) (h : xs.length < 4611686018427387904) (h2 : x.length < 4611686018427387904) : ref26_Find xs x = some (findI (fun y => decide (x = y)) xs) := by
  unfold ref26_Find
  rw [loop_find (s := (0 : Int)) xs.length (fun k => (k : Int)) (fun k => decide (x = xs.getD k [])) (fun k => some (k : Int)) (x := some (-1)) rfl (by simp only [LFm]; omega)]
  · rw [← findI_range (fun y => decide (x = y)) xs []]
    split <;> rename_i hh <;> simp only [hh]
  · intro k hk
    simp only [ref26_Find_b2]
    rw [if_pos (by omega), atI_getD [] hk, wrapS (by omega)]
    simp only [Option.bind_some, Same_eq _ _ h2]
  · simp [ref26_Find_b2]
structure CB (c : Casc) : Prop where
  sz : c.sizes.length < 4611686018427387904
  rl : c.rows.length < 4611686018427387904
  row : ∀ r ∈ c.rows, r.pre.length < 4611686018427387904 ∧ r.maps.length < 4611686018427387904 ∧ ∀ m ∈ r.maps, m.length < 4611686018427387904
theorem Row_eq (c : Casc) (p : List Int) (h : CB c) : ref26_Row c p = some (findI (fun r => decide (r.pre = p)) c.rows) := by
  unfold ref26_Row
  have hr := h.rl
  rw [loop_find (s := (0 : Int)) c.rows.length (fun k => (k : Int)) (fun k => decide ((c.rows.getD k ⟨[], []⟩).pre = p)) (fun k => some (k : Int)) (x := some (-1)) rfl (by simp only [LFm]; omega)]
  · rw [← findI_range (fun r => decide (r.pre = p)) c.rows ⟨[], []⟩]
    split <;> rename_i hh <;> simp only [hh]
  · intro k hk
    simp only [ref26_Row_b2]
    rw [if_pos (by omega), atI_getD ⟨[], []⟩ hk, wrapS (by omega)]
    simp only [Option.bind_some]
    rw [Same_eq _ _ (by rw [getD_of_lt _ hk]; exact (h.row _ (List.getElem_mem hk)).1)]
    simp only [Option.bind_some]
  · simp [ref26_Row_b2]
/-- A row's maps, one by one. -/
theorem map_loop {ρ : Type} {b : Int → Option (Int ⊕ ρ)} {m : List Int} {n : Int} {A B : Option ρ} (h : m.length < 4611686018427387904) (step : ∀ k, (h : k < m.length) → b (k : Int) = if 0 ≤ m.getD k 0 ∧ m.getD k 0 < n then nextG ((k + 1 : Nat) : Int) else exitG A) (last : b (m.length : Int) = exitG B) :
    loopG b LFm 0 = if (m.all fun s => decide (0 ≤ s) && decide (s < n)) = true then B else A :=
  list_loop 0 _ h (fun k hk => by rw [step k hk]; simp only [Bool.and_eq_true, decide_eq_true_eq]) last
theorem maps_loop {ρ : Type} {b : Int → Option (Int ⊕ ρ)} {ms : List (List Int)} {n : Int} {A B : Option ρ} (h : ms.length < 4611686018427387904) (step : ∀ k, (h : k < ms.length) → b (k : Int) = if mapB n (ms.getD k []) = true then nextG ((k + 1 : Nat) : Int) else exitG A) (last : b (ms.length : Int) = exitG B) :
    loopG b LFm 0 = if ms.all (mapB n) = true then B else A := list_loop [] _ h step last
theorem validRow_eq (c : Casc) (r : CRow) (h : CB c) (hr : r.pre.length < 4611686018427387904 ∧ r.maps.length < 4611686018427387904 ∧ ∀ m ∈ r.maps, m.length < 4611686018427387904) : cascade_validRow c r = some (rowB c r) := by
  obtain ⟨h1, h2, h3⟩ := hr
  unfold cascade_validRow
  split
  · rename_i hp
    rw [rowB_short c r (by omega)]
  · rename_i hp
    have hp : r.pre.length < c.sizes.length := by omega
    rw [pieceL_to (by omega)]
    simp only [Option.bind_some]
    rw [isTuple_eq _ _ h1]
    simp only [Option.bind_some]
    rw [tupB_take _ _ hp]
    split
    · rename_i hin
      split
      · rename_i hl
        rw [rowB_maps c r hp hin hl]
        rw [maps_loop (ms := r.maps) (n := c.sizes.getD r.pre.length 0) (A := some false) (B := some true) h2]
        · split <;> simp_all
        · intro k hk
          have hm := h3 _ (List.getElem_mem hk)
          rw [← getD_of_lt [] hk] at hm
          generalize hg : r.maps.getD k [] = m at *
          simp only [cascade_validRow_b5]
          rw [if_pos (by omega), atI_getD [] hk, atI_getD 0 hp, hg]
          simp only [Option.bind_some]
          split
          · rename_i hml
            have hmb : mapB (c.sizes.getD r.pre.length 0) m = m.all fun s => decide (0 ≤ s) && decide (s < c.sizes.getD r.pre.length 0) := by
              unfold mapB; rw [decide_eq_true hml, Bool.true_and]
            rw [hmb]
            rw [map_loop (m := m) (n := c.sizes.getD r.pre.length 0) (A := exitG (some false)) (B := nextG ((k + 1 : Nat) : Int)) hm]
            · intro j hj
              simp only [cascade_validRow_b10]
              rw [if_pos (by omega), atI_getD 0 hj, wrapS (by omega)]
              simp only [Option.bind_some]
              split
              · rw [if_neg (by omega)]
              · rw [atI_getD 0 hp]
                simp only [Option.bind_some]
                split
                · rw [if_neg (by omega)]
                · rw [if_pos (by omega)]
            · simp only [cascade_validRow_b10]
              rw [if_neg (by omega), wrapS (by omega)]
          · rename_i hml
            rw [if_neg]
            unfold mapB
            rw [decide_eq_false hml]; simp
        · simp [cascade_validRow_b5]
      · rename_i hl
        rw [rowB_letters c r hl]
    · rename_i hin
      rw [rowB_in c r (by simpa using hin)]
theorem sizes_loop {ρ : Type} {b : Int → Option (Int ⊕ ρ)} {m : List Int} {A B : Option ρ} (h : m.length < 4611686018427387904) (step : ∀ k, (h : k < m.length) → b (k : Int) = if 1 ≤ m.getD k 0 ∧ m.getD k 0 ≤ 32 then nextG ((k + 1 : Nat) : Int) else exitG A) (last : b (m.length : Int) = exitG B) :
    loopG b LFm 0 = if (m.all fun n => decide (1 ≤ n) && decide (n ≤ 32)) = true then B else A :=
  list_loop 0 _ h (fun k hk => by rw [step k hk]; simp only [Bool.and_eq_true, decide_eq_true_eq]) last
theorem rows_loop {ρ : Type} {b : Int → Option (Int ⊕ ρ)} {c : Casc} {A B : Option ρ} (h : c.rows.length < 4611686018427387904) (step : ∀ k, (h : k < c.rows.length) → b (k : Int) = if (rowB c (c.rows.getD k ⟨[], []⟩) && (decide (k = 0) || decide (cmpR (c.rows.getD (k - 1) ⟨[], []⟩).pre (c.rows.getD k ⟨[], []⟩).pre < 0))) = true then nextG ((k + 1 : Nat) : Int) else exitG A) (last : b (c.rows.length : Int) = exitG B) :
    loopG b LFm 0 = if rowsUpB c c.rows.length = true then B else A := by
  rw [loop_find (s := (0 : Int)) c.rows.length (fun k => (k : Int)) (fun k => !(rowB c (c.rows.getD k ⟨[], []⟩) && (decide (k = 0) || decide (cmpR (c.rows.getD (k - 1) ⟨[], []⟩).pre (c.rows.getD k ⟨[], []⟩).pre < 0)))) (fun _ => A) (x := B) rfl (by simp only [LFm]; omega) (fun k hk => ?_) last]
  · rw [find_all]
    simp only [Bool.not_not]
    rfl
  · rw [step k hk]
    generalize (rowB c (c.rows.getD k ⟨[], []⟩) && (decide (k = 0) || decide (cmpR (c.rows.getD (k - 1) ⟨[], []⟩).pre (c.rows.getD k ⟨[], []⟩).pre < 0))) = q
    cases q <;> simp
end Go.Proofs.YthalofddjlhcjaaDoor
end
section
/- Plain: validity as the program and the reference say it; a step of the reference and of the program. -/
namespace Go.Proofs.YthalofddjlhcjaaDoor
open Go
set_option linter.unusedVariables false
set_option linter.unusedSimpArgs false

theorem valid_head (c : Casc) (x : Option Int) : (if c.letters < 1 then some 1 else if 6 < c.letters then some 1 else if 24 < (c.sizes.length : Int) then some 3 else if 48000 < (c.rows.length : Int) then some 3 else x) =
    if c.letters < 1 ∨ 6 < c.letters then some 1 else if 24 < c.sizes.length ∨ 48000 < c.rows.length then some 3 else x := by
  by_cases h1 : c.letters < 1 <;> by_cases h2 : 6 < c.letters <;> by_cases h3 : 24 < c.sizes.length <;> by_cases h4 : 48000 < c.rows.length <;>
    simp only [h1, h2, if_true, if_false, true_or, or_true, false_or, or_false, or_self] <;>
    (try (first | rw [if_pos (by omega), if_pos (by omega)] | (rw [if_neg (by omega)]; first | rw [if_pos (by omega), if_pos (by omega)] | rw [if_neg (by omega), if_neg (by omega)])))
theorem Validate_eq (c : Casc) (h : CB c) : cascade_Validate c = some (validE c) := by
  unfold cascade_Validate validE
  have h1 := h.sz
  have h2 := h.rl
  rw [valid_head]
  by_cases hl : c.letters < 1 ∨ 6 < c.letters
  · rw [if_pos hl, if_pos hl]
  rw [if_neg hl, if_neg hl]
  by_cases hs : 24 < c.sizes.length ∨ 48000 < c.rows.length
  · rw [if_pos hs, if_pos hs]
  rw [if_neg hs, if_neg hs]
  rw [sizes_loop (m := c.sizes) (A := some 23) (B := loopG (cascade_Validate_b12 c) LFm 0) h1]
  · rw [rows_loop (c := c) (A := some 23) (B := some 0) h2]
    · cases (c.sizes.all fun n => decide (1 ≤ n) && decide (n ≤ 32)) <;> cases rowsUpB c c.rows.length <;> simp
    · intro k hk
      have hr := h.row _ (List.getElem_mem hk)
      rw [← getD_of_lt ⟨[], []⟩ hk] at hr
      simp only [cascade_Validate_b12]
      rw [if_pos (by omega), atI_getD ⟨[], []⟩ hk, wrapS (by omega)]
      simp only [Option.bind_some]
      rw [validRow_eq c _ h hr]
      simp only [Option.bind_some]
      split
      · rename_i hv
        rw [hv]
        split
        · rename_i hk0
          have hk1 : k - 1 < c.rows.length := by omega
          have hr1 := h.row _ (List.getElem_mem hk1)
          rw [← getD_of_lt ⟨[], []⟩ hk1] at hr1
          have ek : IntKind.i64.wrap ((k : Int) - 1) = ((k - 1 : Nat) : Int) := by rw [wrapI (by omega) (by omega)]; omega
          rw [ek, atI_getD ⟨[], []⟩ hk1]
          simp only [Option.bind_some]
          rw [compareRows_eq _ _ hr1.1]
          simp only [Option.bind_some]
          have hk0' : ¬ k = 0 := by omega
          split
          · rw [if_neg]; simp only [Bool.and_eq_true, Bool.or_eq_true, decide_eq_true_eq]; omega
          · rw [if_pos]; simp only [Bool.and_eq_true, Bool.or_eq_true, decide_eq_true_eq, true_and]; omega
        · have hk0' : k = 0 := by omega
          rw [if_pos]; simp only [Bool.and_eq_true, Bool.or_eq_true, decide_eq_true_eq, true_and]; omega
      · rename_i hv
        rw [if_neg]; intro hh; simp only [Bool.and_eq_true] at hh; exact hv hh.1
    · simp [cascade_Validate_b12]
  · intro k hk
    simp only [cascade_Validate_b6]
    rw [if_pos (by omega), atI_getD 0 hk, wrapS (by omega)]
    simp only [Option.bind_some]
    split
    · rw [if_neg (by omega)]
    · split
      · rw [if_neg (by omega)]
      · rw [if_pos (by omega)]
  · simp only [cascade_Validate_b6]
    rw [if_neg (by omega)]
theorem rowB_split (c : Casc) (r : CRow) : rowB c r = (decide (r.pre.length < c.sizes.length) && (inB c.sizes r.pre && (decide ((r.maps.length : Int) = c.letters) && r.maps.all (mapB (c.sizes.getD r.pre.length 0))))) := by
  unfold rowB; simp [Bool.and_assoc]
theorem refValidate_maps {σ : Type} (n : Int) (ms : List (List Int)) (A B : Option σ) (b18 : Int → Option (Int ⊕ σ)) (b23 : Int → List Int → Int → Option (Int ⊕ (Int ⊕ σ))) (h2 : ms.length < 4611686018427387904) (h3 : ∀ m ∈ ms, m.length < 4611686018427387904)
    (h18 : ∀ w, b18 w = if w < (ms.length : Int) then (atI ms w).bind fun v => if (v.length : Int) = n then loopG (b23 w v) LFm 0 else exitG A else exitG B)
    (h23 : ∀ w v j, b23 w v j = if j < (v.length : Int) then (atI v j).bind fun x => if x < 0 then exitG (exitG A) else if n ≤ x then exitG (exitG A) else nextG (IntKind.i64.wrap (j + 1)) else exitG (nextG (IntKind.i64.wrap (w + 1)))) :
    loopG b18 LFm 0 = if ms.all (mapB n) = true then B else A := by
  rw [maps_loop (ms := ms) (n := n) (A := A) (B := B) h2]
  · intro k hk
    have hm := h3 _ (List.getElem_mem hk)
    rw [← getD_of_lt [] hk] at hm
    generalize hg : ms.getD k [] = m at *
    rw [h18, if_pos (by omega), atI_getD [] hk, hg]
    simp only [Option.bind_some]
    split
    · rename_i hml
      have hmb : mapB n m = m.all fun s => decide (0 ≤ s) && decide (s < n) := by
        unfold mapB; rw [decide_eq_true hml, Bool.true_and]
      rw [hmb]
      rw [map_loop (m := m) (n := n) (A := exitG A) (B := nextG ((k + 1 : Nat) : Int)) hm]
      · intro j hj
        rw [h23, if_pos (by omega), atI_getD 0 hj, wrapS (by omega)]
        simp only [Option.bind_some]
        split
        · rw [if_neg (by omega)]
        · split
          · rw [if_neg (by omega)]
          · rw [if_pos (by omega)]
      · rw [h23, if_neg (by omega), wrapS (by omega)]
    · rename_i hml
      rw [if_neg]
      unfold mapB
      rw [decide_eq_false hml]; simp
  · rw [h18, if_neg (by omega)]
theorem refValidate_eq (c : Casc) (h : CB c) : ref26_Validate c = some (validE c) := by
  unfold ref26_Validate validE
  have h1 := h.sz
  have h2 := h.rl
  rw [valid_head]
  by_cases hl : c.letters < 1 ∨ 6 < c.letters
  · rw [if_pos hl, if_pos hl]
  rw [if_neg hl, if_neg hl]
  by_cases hs : 24 < c.sizes.length ∨ 48000 < c.rows.length
  · rw [if_pos hs, if_pos hs]
  rw [if_neg hs, if_neg hs]
  rw [sizes_loop (m := c.sizes) (A := some 23) (B := loopG (ref26_Validate_b12 c) LFm 0) h1]
  · rw [rows_loop (c := c) (A := some 23) (B := some 0) h2]
    · cases (c.sizes.all fun n => decide (1 ≤ n) && decide (n ≤ 32)) <;> cases rowsUpB c c.rows.length <;> simp
    · intro k hk
      have hr := h.row _ (List.getElem_mem hk)
      rw [← getD_of_lt ⟨[], []⟩ hk] at hr
      simp only [ref26_Validate_b12]
      rw [if_pos (by omega), atI_getD ⟨[], []⟩ hk]
      simp only [Option.bind_some]
      rw [rowB_split]
      split
      · rename_i hp
        rw [if_neg]; simp only [Bool.and_eq_true, decide_eq_true_eq]; omega
      · rename_i hp
        have hp : (c.rows.getD k ⟨[], []⟩).pre.length < c.sizes.length := by omega
        rw [in_eq _ _ hr.1 (by omega), decide_eq_true hp, Bool.true_and]
        simp only [Option.bind_some]
        split
        · rename_i hin
          rw [hin, Bool.true_and]
          split
          · rename_i hk0
            have hk1 : k - 1 < c.rows.length := by omega
            have hr1 := h.row _ (List.getElem_mem hk1)
            rw [← getD_of_lt ⟨[], []⟩ hk1] at hr1
            have ek : IntKind.i64.wrap ((k : Int) - 1) = ((k - 1 : Nat) : Int) := by rw [wrapI (by omega) (by omega)]; omega
            have hk0' : ¬ k = 0 := by omega
            rw [ek, atI_getD ⟨[], []⟩ hk1, decide_eq_false hk0', Bool.false_or]
            simp only [Option.bind_some]
            rw [Less26_eq _ _ hr1.1]
            simp only [Option.bind_some]
            split
            · rename_i hlt
              rw [hlt, Bool.and_true]
              split
              · rename_i hl
                rw [decide_eq_true hl, Bool.true_and, atI_getD 0 hp]
                simp only [Option.bind_some]
                rw [refValidate_maps _ _ (exitG (some 23)) (nextG ((k + 1 : Nat) : Int)) _ (fun w v => ref26_Validate_b23 (c.sizes.getD (c.rows.getD k ⟨[], []⟩).pre.length 0) w v) hr.2.1 hr.2.2]
                · intro w
                  simp only [ref26_Validate_b18]
                  rw [wrapS (by omega)]
                · intro w v j
                  simp only [ref26_Validate_b23]
              · rename_i hl
                rw [if_neg]; rw [decide_eq_false hl]; simp
            · rename_i hlt
              rw [if_neg]; simp only [Bool.not_eq_true] at hlt; rw [hlt]; simp
          · have hk0' : k = 0 := by omega
            rw [decide_eq_true hk0', Bool.true_or, Bool.and_true]
            split
            · rename_i hl
              rw [decide_eq_true hl, Bool.true_and, atI_getD 0 hp]
              simp only [Option.bind_some]
              rw [refValidate_maps _ _ (exitG (some 23)) (nextG ((k + 1 : Nat) : Int)) _ (fun w v => ref26_Validate_b23a (c.sizes.getD (c.rows.getD k ⟨[], []⟩).pre.length 0) w v) hr.2.1 hr.2.2]
              · intro w
                simp only [ref26_Validate_b18a]
                rw [wrapS (by omega)]
              · intro w v j
                simp only [ref26_Validate_b23a]
            · rename_i hl
              rw [if_neg]; rw [decide_eq_false hl]; simp
        · rename_i hin
          rw [if_neg]; simp only [Bool.not_eq_true] at hin; rw [hin]; simp
    · simp [ref26_Validate_b12]
  · intro k hk
    simp only [ref26_Validate_b6]
    rw [if_pos (by omega), atI_getD 0 hk, wrapS (by omega)]
    simp only [Option.bind_some]
    split
    · rw [if_neg (by omega)]
    · split
      · rw [if_neg (by omega)]
      · rw [if_pos (by omega)]
  · simp only [ref26_Validate_b6]
    rw [if_neg (by omega)]
/-- The search among ascending rows. -/
theorem mid_eq (i j : Nat) (h : i + j < 4611686018427387904) : IntKind.i64.wrap (shrI .u64 (IntKind.u64.wrap (IntKind.i64.wrap ((i : Int) + j))) 1) = (((i + j) / 2 : Nat) : Int) := by
  rw [wrapI (x := (i : Int) + j) (by omega) (by omega)]
  have e : IntKind.u64.wrap ((i : Int) + j) = (i : Int) + j := by rw [IntKind.wrap_u64]; omega
  have e2 : shrI .u64 ((i : Int) + j) 1 = (((i + j) / 2 : Nat) : Int) := by
    unfold shrI
    have : (2 : Int) ^ (min (1 : Int).toNat IntKind.u64.bits) = 2 := by decide
    rw [this, Int.fdiv_eq_ediv_of_nonneg _ (by omega)]
    omega
  rw [e, e2, wrapI (by omega) (by omega)]
theorem Search_eq (rs : List CRow) (p : List Int) (hu : UpR rs) (hr : rs.length ≤ 48000) (hb : ∀ r ∈ rs, r.pre.length < 4611686018427387904) : slices_BinarySearchFunc_Lapi_CascadeRow_api_CascadeRow_Lint_cascade_Runner_Step_1 rs p = some ((lowB rs p : Int), hasB rs p) := by
  unfold slices_BinarySearchFunc_Lapi_CascadeRow_api_CascadeRow_Lint_cascade_Runner_Step_1
  refine loopG_eq (fun s => ∃ i j : Nat, s = ((i : Int), (j : Int)) ∧ i ≤ j ∧ j ≤ rs.length ∧ Between rs p i j) (fun s => (s.2 - s.1).toNat) ⟨0, rs.length, rfl, by omega, by omega, fun k h1 => by omega, fun k h1 h2 => by omega⟩ (by simp only [LFm]; omega) ?_
  rintro _ ⟨i, j, rfl, hij, hj, hB⟩
  simp only [slices_BinarySearchFunc_Lapi_CascadeRow_api_CascadeRow_Lint_cascade_Runner_Step_1_b3]
  by_cases hlt : i < j
  · left
    rw [if_pos (by omega), chk_pos _ (by omega), mid_eq i j (by omega)]
    have hm : (i + j) / 2 < rs.length := by omega
    rw [atI_nat hm]
    simp only [Option.bind_some, cascade_Runner_Step_1]
    rw [compareRows_eq _ _ (hb _ (List.getElem_mem hm))]
    simp only [Option.bind_some]
    split
    · rename_i hc
      rw [wrapS (by omega)]
      exact ⟨_, rfl, ⟨(i + j) / 2 + 1, j, rfl, by omega, hj, between_up hu hB hm hc⟩, by simp only; omega⟩
    · rename_i hc
      exact ⟨_, rfl, ⟨i, (i + j) / 2, rfl, by omega, by omega, between_down hu hB hm hc⟩, by simp only; omega⟩
  · right
    have : i = j := by omega
    subst this
    rw [if_neg (by omega)]
    congr 1
    have hl := low_of hB hj
    split
    · rename_i h
      have h : i < rs.length := by omega
      rw [atI_nat h]
      simp only [Option.bind_some, cascade_Runner_Step_1]
      rw [compareRows_eq _ _ (hb _ (List.getElem_mem h))]
      simp only [Option.bind_some]
      obtain ⟨f1, f2⟩ := found_of hu hB h
      rw [f2, hl]
    · rename_i h
      obtain ⟨f1, f2⟩ := found_none hB (by omega) hj
      rw [← f2, hl]
end Go.Proofs.YthalofddjlhcjaaDoor
end
section
/- Plain: Format is what the reference says. -/
namespace Go.Proofs.YthalofddjlhcjaaDoor
open Go
set_option linter.unusedVariables false
set_option linter.unusedSimpArgs false

/-- A row whose text is short. -/
structure SmR (r : CRow) : Prop where
  p1 : r.pre.length ≤ 24
  p2 : ∀ x ∈ r.pre, 0 ≤ x ∧ x < 100
  m1 : r.maps.length ≤ 6
  m2 : ∀ m ∈ r.maps, m.length ≤ 32 ∧ ∀ x ∈ m, 0 ≤ x ∧ x < 100
theorem smR_of {c : Casc} (hV : Valid c) {r : CRow} (hr : r ∈ c.rows) : SmR r := by
  obtain ⟨i, hi, rfl⟩ := List.getElem_of_mem hr
  have h := hV.row i hi
  have hs := hV.s1
  have hl := hV.l2
  have hz := hV.sz
  generalize c.rows[i] = r at h
  unfold rowB at h
  simp only [Bool.and_eq_true, decide_eq_true_eq, List.all_eq_true] at h
  obtain ⟨⟨⟨h1, h2⟩, h3⟩, h4⟩ := h
  have h5 := hz _ h1
  refine ⟨by omega, fun x hx => ?_, by omega, fun m hm => ?_⟩
  · obtain ⟨j, hj, rfl⟩ := List.getElem_of_mem hx
    have := (inB_iff _ _ (by omega)).1 h2 j hj
    have h6 := hz j (by omega)
    rw [show r.pre.getD j 0 = r.pre[j] by simp [List.getD, List.getElem?_eq_getElem hj]] at this
    omega
  · have := h4 m hm
    unfold mapB at this
    simp only [Bool.and_eq_true, decide_eq_true_eq, List.all_eq_true] at this
    refine ⟨by omega, fun x hx => ?_⟩
    have := this.2 x hx
    omega
def mapsT (ms : List (List Int)) : List Int := ms.flatMap fun m => [32, 59] ++ numsT m
def rowT (r : CRow) : List Int := [114, 111, 119] ++ numsT r.pre ++ mapsT r.maps ++ [10]
theorem mapsT_snoc (xs : List (List Int)) (k : Nat) (h : k < xs.length) : mapsT (xs.take (k + 1)) = mapsT (xs.take k) ++ ([32, 59] ++ numsT (xs.getD k [])) := by
  have e : xs.getD k [] = xs[k] := by simp [List.getD, List.getElem?_eq_getElem h]
  rw [List.take_succ_eq_append_getElem h, e]
  unfold mapsT
  rw [List.flatMap_append]
  simp
theorem mapsT_len : ∀ ms : List (List Int), (∀ m ∈ ms, m.length ≤ 32) → (mapsT ms).length ≤ 98 * ms.length
  | [], _ => by simp [mapsT]
  | m :: ms, h => by
    have h1 := mapsT_len ms fun x hx => h x (List.mem_cons_of_mem _ hx)
    have h2 := numsT_len m
    have h3 := h m List.mem_cons_self
    simp only [mapsT, List.flatMap_cons, List.length_append, List.length_cons, List.length_nil] at h1 ⊢
    omega
theorem rowT_len {r : CRow} (h : SmR r) : (rowT r).length ≤ 1000 := by
  have h1 := numsT_len r.pre
  have h2 := mapsT_len r.maps fun m hm => (h.m2 m hm).1
  have h3 := h.p1
  have h4 := h.m1
  simp only [rowT, List.length_append, List.length_cons, List.length_nil]
  omega
/-- The rows' text, if it is not too long. -/
def fmtRows : List CRow → List Int → Option (List Int)
  | [], t => some t
  | r :: rs, t => if 1048576 < (t ++ rowT r).length then none else fmtRows rs (t ++ rowT r)
def headT (c : Casc) : List Int := [99, 97, 115, 99, 97, 100, 101] ++ numsT [c.letters] ++ numsT c.sizes ++ [10]
def fmtR (c : Casc) : ByteArray × Int := match fmtRows c.rows (headT c) with | some t => (bytesOf t, 0) | none => (ByteArray.empty, 3)
def fmtV (c : Casc) : ByteArray × Int := if validE c = 0 then fmtR c else (ByteArray.empty, validE c)
theorem fmt_maps {r : CRow} (h : SmR r) (w : Int) (t : List Int) (ht : t.length ≤ 2000000) : loopG (cascade_Format_b11 w r) LFm (0, t) = if 1048576 < (t ++ mapsT r.maps).length + 1 then exitG (some (ByteArray.empty, 3)) else nextG (IntKind.i64.wrap (w + 1), t ++ mapsT r.maps ++ [10]) := by
  have hm := h.m1
  have hL := mapsT_len r.maps fun m hm => (h.m2 m hm).1
  refine loop_to (x := _) r.maps.length (fun k => ((k : Int), t ++ mapsT (r.maps.take k))) (by simp [mapsT]) (by simp only [LFm]; omega) (fun k hk => ?_) ?_
  · have hx := h.m2 _ (getD_mem [] hk)
    have hl := mapsT_len (r.maps.take k) fun m hm => (h.m2 m (List.mem_of_mem_take hm)).1
    rw [List.length_take] at hl
    simp only [cascade_Format_b11]
    rw [if_pos (by omega), atI_D [] hk]
    simp only [Option.bind_some]
    rw [chk_pos _ (by unfold capOk; simp only [List.length_append]; omega)]
    rw [show intsOf ⟨#[32, 59]⟩ = [32, 59] from rfl]
    rw [appendNumbers_eq _ _ hx.2 (by simp only [List.length_append, List.length_cons, List.length_nil]; omega)]
    simp only [Option.bind_some]
    rw [wrapS (by omega), mapsT_snoc _ k hk]
    simp
  · simp only [cascade_Format_b11]
    rw [if_neg (by omega), List.take_length]
    rw [chk_pos _ (by unfold capOk; simp only [List.length_append]; omega)]
    simp only [List.length_append] at hL ⊢
    by_cases hc : 1048576 < t.length + (mapsT r.maps).length + 1
    · rw [if_pos (by omega), if_pos hc]
    · rw [if_neg (by omega), if_neg hc]
theorem fmt_rows {c : Casc} (hV : Valid c) (t0 : List Int) (h0 : t0.length ≤ 1100000) : loopG (cascade_Format_b7 c) LFm (0, t0) = some (match fmtRows c.rows t0 with | some t => (bytesOf t, 0) | none => (ByteArray.empty, 3)) := by
  have hr := hV.r1
  refine loopG_eq (fun s => ∃ k : Nat, k ≤ c.rows.length ∧ s.1 = (k : Int) ∧ s.2.length ≤ 1100000 ∧ fmtRows (c.rows.drop k) s.2 = fmtRows c.rows t0) (fun s => c.rows.length - s.1.toNat) ⟨0, by omega, rfl, h0, rfl⟩ (by simp only [LFm]; omega) ?_
  rintro ⟨_, t⟩ ⟨k, hk, rfl, ht, he⟩
  simp only at ht he
  simp only [cascade_Format_b7]
  by_cases hlt : k < c.rows.length
  · have hS := smR_of hV (List.getElem_mem hlt)
    have hp := numsT_len c.rows[k].pre
    have hp1 := hS.p1
    have hR := rowT_len hS
    rw [List.drop_eq_getElem_cons hlt] at he
    simp only [fmtRows] at he
    rw [if_pos (by omega), atI_nat hlt]
    simp only [Option.bind_some]
    rw [chk_pos _ (by unfold capOk; omega), show intsOf ⟨#[114, 111, 119]⟩ = [114, 111, 119] from rfl]
    rw [appendNumbers_eq _ _ hS.p2 (by simp only [List.length_append, List.length_cons, List.length_nil]; omega)]
    simp only [Option.bind_some]
    rw [fmt_maps hS _ _ (by simp only [rowT, List.length_append, List.length_cons, List.length_nil] at hR ⊢; omega)]
    have e1 : t ++ [114, 111, 119] ++ numsT c.rows[k].pre ++ mapsT c.rows[k].maps ++ [10] = t ++ rowT c.rows[k] := by simp [rowT]
    have e2 : (t ++ [114, 111, 119] ++ numsT c.rows[k].pre ++ mapsT c.rows[k].maps).length + 1 = (t ++ rowT c.rows[k]).length := by rw [← e1]; simp; omega
    rw [e1, e2]
    by_cases hc : 1048576 < (t ++ rowT c.rows[k]).length
    · rw [if_pos hc] at he ⊢
      right
      rw [← he]
    · rw [if_neg hc] at he ⊢
      left
      refine ⟨_, rfl, ⟨k + 1, by omega, wrapS (by omega), by simp only; omega, he⟩, ?_⟩
      simp only
      rw [wrapS (by omega)]
      omega
  · right
    have : k = c.rows.length := by omega
    subst this
    rw [List.drop_length] at he
    simp only [fmtRows] at he
    rw [if_neg (by omega), ← he]
theorem headT_len {c : Casc} (hV : Valid c) : (headT c).length ≤ 100 := by
  have h1 := numsT_len [c.letters]
  have h2 := numsT_len c.sizes
  have h3 := hV.s1
  simp only [headT, List.length_append, List.length_cons, List.length_nil] at h1 ⊢
  omega
theorem Format_eq (c : Casc) (h : CB c) : cascade_Format c = some (fmtV c) := by
  unfold cascade_Format fmtV
  rw [Validate_eq c h]
  simp only [Option.bind_some]
  by_cases hv : validE c = 0
  case neg => rw [if_neg hv, if_neg hv]
  rw [if_pos hv, if_pos hv]
  have hV := valid_of c hv
  have l1 := hV.l1
  have l2 := hV.l2
  have s1 := hV.s1
  have hl := headT_len hV
  have hz : ∀ x ∈ c.sizes, 0 ≤ x ∧ x < 100 := fun x hx => by
    obtain ⟨j, hj, rfl⟩ := List.getElem_of_mem hx
    have := hV.sz j hj
    rw [show c.sizes.getD j 0 = c.sizes[j] by simp [List.getD, List.getElem?_eq_getElem hj]] at this
    omega
  rw [appendNumbers_eq _ _ (by intro x hx; have : x = c.letters := by simpa using hx
                               omega) (by simp)]
  simp only [Option.bind_some]
  rw [appendNumbers_eq _ _ hz (by have := numsT_len [c.letters]; simp only [List.length_append, List.length_cons, List.length_nil] at this ⊢; omega)]
  simp only [Option.bind_some]
  have e : [99, 97, 115, 99, 97, 100, 101] ++ numsT [c.letters] ++ numsT c.sizes ++ [10] = headT c := rfl
  rw [chk_pos _ (by unfold capOk; rw [← e] at hl; simp only [List.length_append, List.length_cons, List.length_nil] at hl ⊢; omega), e, fmt_rows hV _ (by omega)]
  rfl
end Go.Proofs.YthalofddjlhcjaaDoor
end
section
/- Plain: the reference's Format. -/
namespace Go.Proofs.YthalofddjlhcjaaDoor
open Go
set_option linter.unusedVariables false
set_option linter.unusedSimpArgs false

theorem bytesOf_append (a b : List Int) : bytesOf (a ++ b) = bytesOf a ++ bytesOf b := by
  unfold bytesOf
  apply ByteArray.ext
  simp
theorem bytesOf_len (a : List Int) : (bytesOf a).size = a.length := by simp [bytesOf]
theorem catOk_of {a b : List Int} (h : a.length + b.length < 100000000) : catOk (bytesOf a) (bytesOf b) := by
  unfold catOk; rw [bytesOf_len, bytesOf_len]; omega
/-- One number of the reference's text. -/
theorem ref_num (t : List Int) (x : Int) (hx : 0 ≤ x ∧ x < 100) (ht : t.length < 10000000) {α : Type} (K : ByteArray → Option α) :
    ((ref26_digits 12 x).bind fun v => chk (catOk ⟨#[32]⟩ v) (chk (catOk (bytesOf t) (⟨#[32]⟩ ++ v)) (K (bytesOf t ++ (⟨#[32]⟩ ++ v))))) = K (bytesOf (t ++ (32 :: digL x))) := by
  have h1 := digL_len x
  have e0 : (⟨#[32]⟩ : ByteArray) = bytesOf [32] := rfl
  rw [digits_eq x hx.1 hx.2]
  simp only [Option.bind_some]
  rw [e0, ← bytesOf_append, ← bytesOf_append, chk_pos _ (catOk_of (by simp only [List.length_singleton]; omega)), chk_pos _ (catOk_of (by simp only [List.length_append, List.length_singleton]; omega))]
  rfl
theorem ref_map {m : List Int} (hx : ∀ x ∈ m, 0 ≤ x ∧ x < 100) (hl : m.length ≤ 32) (w : Int) (t : List Int) (ht : t.length ≤ 2000000) : loopG (ref26_Format_b25 w m) LFm (bytesOf t, 0) = nextG (bytesOf (t ++ numsT m), IntKind.i64.wrap (w + 1)) := by
  refine loop_to (x := _) m.length (fun k => (bytesOf (t ++ numsT (m.take k)), (k : Int))) (by simp [numsT]) (by simp only [LFm]; omega) (fun k hk => ?_) ?_
  · have hm := hx _ (getD_mem 0 hk)
    have hn := numsT_len (m.take k)
    rw [List.length_take] at hn
    simp only [ref26_Format_b25]
    rw [if_pos (by omega), atI_D 0 hk]
    simp only [Option.bind_some]
    rw [ref_num _ _ hm (by simp only [List.length_append]; omega) (fun v => nextG (v, IntKind.i64.wrap ((k : Int) + 1)))]
    rw [wrapS (by omega), numsT_snoc m k hk]
    simp
  · simp only [ref26_Format_b25]
    rw [if_neg (by omega), List.take_length]
theorem ref_maps {r : CRow} (h : SmR r) (w : Int) (t : List Int) (ht : t.length ≤ 1900000) : loopG (ref26_Format_b21 w r) LFm (bytesOf t, 0) = if 1048576 < (t ++ mapsT r.maps).length + 1 then exitG (some (ByteArray.empty, 3)) else nextG (bytesOf (t ++ mapsT r.maps ++ [10]), IntKind.i64.wrap (w + 1)) := by
  have hm := h.m1
  have hL := mapsT_len r.maps fun m hm => (h.m2 m hm).1
  refine loop_to (x := _) r.maps.length (fun k => (bytesOf (t ++ mapsT (r.maps.take k)), (k : Int))) (by simp [mapsT]) (by simp only [LFm]; omega) (fun k hk => ?_) ?_
  · have hx := h.m2 _ (getD_mem [] hk)
    have hl := mapsT_len (r.maps.take k) fun m hm => (h.m2 m (List.mem_of_mem_take hm)).1
    rw [List.length_take] at hl
    simp only [ref26_Format_b21]
    rw [if_pos (by omega), atI_D [] hk]
    rw [Option.bind_some]
    have e0 : (⟨#[32, 59]⟩ : ByteArray) = bytesOf [32, 59] := rfl
    rw [e0, chk_pos _ (catOk_of (by simp only [List.length_append, List.length_cons, List.length_nil]; omega)), ← bytesOf_append]
    rw [ref_map hx.2 hx.1 _ _ (by simp only [List.length_append, List.length_cons, List.length_nil]; omega)]
    rw [wrapS (by omega), mapsT_snoc _ k hk]
    simp
  · simp only [ref26_Format_b21]
    rw [if_neg (by omega), List.take_length]
    have e0 : (⟨#[10]⟩ : ByteArray) = bytesOf [10] := rfl
    rw [e0, chk_pos _ (catOk_of (by simp only [List.length_append, List.length_cons, List.length_nil]; omega)), ← bytesOf_append, bytesOf_len]
    simp only [List.length_append, List.length_singleton] at hL ⊢
    by_cases hc : 1048576 < t.length + (mapsT r.maps).length + 1
    · rw [if_pos (by omega), if_pos hc]
    · rw [if_neg (by omega), if_neg hc]
theorem ref_pre {r : CRow} (h : SmR r) (w : Int) (t : List Int) (ht : t.length ≤ 1800000) : loopG (ref26_Format_b16 w r) LFm (bytesOf t, 0) = loopG (ref26_Format_b21 w r) LFm (bytesOf (t ++ numsT r.pre), 0) := by
  have hm := h.p1
  cases hE : loopG (ref26_Format_b21 w r) LFm (bytesOf (t ++ numsT r.pre), 0) with
  | _ =>
    rw [← hE]
    refine loop_to (x := loopG (ref26_Format_b21 w r) LFm (bytesOf (t ++ numsT r.pre), 0)) r.pre.length (fun k => (bytesOf (t ++ numsT (r.pre.take k)), (k : Int))) (by simp [numsT]) (by simp only [LFm]; omega) (fun k hk => ?_) ?_
    · have hx := h.p2 _ (getD_mem 0 hk)
      have hn := numsT_len (r.pre.take k)
      rw [List.length_take] at hn
      simp only [ref26_Format_b16]
      rw [if_pos (by omega), atI_D 0 hk]
      simp only [Option.bind_some]
      rw [ref_num _ _ hx (by simp only [List.length_append]; omega) (fun v => nextG (v, IntKind.i64.wrap ((k : Int) + 1)))]
      rw [wrapS (by omega), numsT_snoc _ k hk]
      simp
    · simp only [ref26_Format_b16]
      rw [if_neg (by omega), List.take_length]
theorem ref_rows {c : Casc} (hV : Valid c) (t0 : List Int) (h0 : t0.length ≤ 1100000) : loopG (ref26_Format_b12 c) LFm (bytesOf t0, 0) = some (match fmtRows c.rows t0 with | some t => (bytesOf t, 0) | none => (ByteArray.empty, 3)) := by
  have hr := hV.r1
  refine loopG_eq (fun s => ∃ k : Nat, ∃ t : List Int, k ≤ c.rows.length ∧ s = (bytesOf t, (k : Int)) ∧ t.length ≤ 1100000 ∧ fmtRows (c.rows.drop k) t = fmtRows c.rows t0) (fun s => c.rows.length - s.2.toNat) ⟨0, t0, by omega, rfl, h0, rfl⟩ (by simp only [LFm]; omega) ?_
  rintro _ ⟨k, t, hk, rfl, ht, he⟩
  simp only [ref26_Format_b12]
  by_cases hlt : k < c.rows.length
  · have hS := smR_of hV (List.getElem_mem hlt)
    have hp := numsT_len c.rows[k].pre
    have hp1 := hS.p1
    have hR := rowT_len hS
    rw [List.drop_eq_getElem_cons hlt] at he
    simp only [fmtRows] at he
    have e0 : (⟨#[114, 111, 119]⟩ : ByteArray) = bytesOf [114, 111, 119] := rfl
    rw [if_pos (by omega), atI_nat hlt]
    rw [Option.bind_some]
    rw [e0, chk_pos _ (catOk_of (by simp only [List.length_cons, List.length_nil]; omega)), ← bytesOf_append]
    rw [ref_pre hS _ _ (by simp only [List.length_append, List.length_cons, List.length_nil]; omega), ref_maps hS _ _ (by simp only [List.length_append, List.length_cons, List.length_nil]; omega)]
    have e1 : t ++ [114, 111, 119] ++ numsT c.rows[k].pre ++ mapsT c.rows[k].maps ++ [10] = t ++ rowT c.rows[k] := by simp [rowT]
    have e2 : (t ++ [114, 111, 119] ++ numsT c.rows[k].pre ++ mapsT c.rows[k].maps).length + 1 = (t ++ rowT c.rows[k]).length := by rw [← e1]; simp; omega
    rw [e1, e2]
    by_cases hc : 1048576 < (t ++ rowT c.rows[k]).length
    · rw [if_pos hc] at he ⊢
      right
      rw [← he]
    · rw [if_neg hc] at he ⊢
      left
      refine ⟨_, rfl, ⟨k + 1, _, by omega, by rw [wrapS (by omega)], by omega, he⟩, ?_⟩
      simp only
      rw [wrapS (by omega)]
      omega
  · right
    have : k = c.rows.length := by omega
    subst this
    rw [List.drop_length] at he
    simp only [fmtRows] at he
    rw [if_neg (by omega), ← he]
theorem refFormat_eq (c : Casc) (h : CB c) : ref26_Format c = some (fmtV c) := by
  unfold ref26_Format fmtV
  rw [refValidate_eq c h]
  simp only [Option.bind_some]
  by_cases hv : validE c = 0
  case neg => rw [if_neg hv, if_neg hv]
  rw [if_pos hv, if_pos hv]
  have hV := valid_of c hv
  have l1 := hV.l1
  have l2 := hV.l2
  have s1 := hV.s1
  have hl := headT_len hV
  have hz : ∀ x ∈ c.sizes, 0 ≤ x ∧ x < 100 := fun x hx => by
    obtain ⟨j, hj, rfl⟩ := List.getElem_of_mem hx
    have := hV.sz j hj
    rw [show c.sizes.getD j 0 = c.sizes[j] by simp [List.getD, List.getElem?_eq_getElem hj]] at this
    omega
  have hd := digL_len c.letters
  have e0 : (⟨#[99, 97, 115, 99, 97, 100, 101, 32]⟩ : ByteArray) = bytesOf [99, 97, 115, 99, 97, 100, 101, 32] := rfl
  rw [digits_eq _ (by omega) (by omega)]
  simp only [Option.bind_some]
  rw [e0, chk_pos _ (catOk_of (by simp only [List.length_cons, List.length_nil]; omega)), ← bytesOf_append]
  have e1 : [99, 97, 115, 99, 97, 100, 101, 32] ++ digL c.letters = [99, 97, 115, 99, 97, 100, 101] ++ numsT [c.letters] := by simp [numsT]
  rw [e1]
  refine loop_to (x := some (fmtR c)) c.sizes.length (fun k => (bytesOf ([99, 97, 115, 99, 97, 100, 101] ++ numsT [c.letters] ++ numsT (c.sizes.take k)), (k : Int))) (by simp [numsT]) (by simp only [LFm]; omega) (fun k hk => ?_) ?_
  · have hx := hz _ (getD_mem 0 hk)
    have hn := numsT_len (c.sizes.take k)
    have hn2 := numsT_len [c.letters]
    rw [List.length_take] at hn
    simp only [ref26_Format_b6]
    rw [if_pos (by omega), atI_D 0 hk]
    simp only [Option.bind_some]
    rw [ref_num _ _ hx (by simp only [List.length_append, List.length_cons, List.length_nil] at hn2 ⊢; omega) (fun v => nextG (v, IntKind.i64.wrap ((k : Int) + 1)))]
    rw [wrapS (by omega), numsT_snoc _ k hk]
    simp
  · simp only [ref26_Format_b6]
    have e2 : (⟨#[10]⟩ : ByteArray) = bytesOf [10] := rfl
    have e3 : [99, 97, 115, 99, 97, 100, 101] ++ numsT [c.letters] ++ numsT c.sizes ++ [10] = headT c := rfl
    have hh : ([99, 97, 115, 99, 97, 100, 101] ++ numsT [c.letters] ++ numsT c.sizes).length + 1 = (headT c).length := by rw [← e3]; simp; omega
    rw [if_neg (by omega), List.take_length, e2, chk_pos _ (catOk_of (by simp only [List.length_singleton]; omega)), ← bytesOf_append, e3, ref_rows hV _ (by omega)]
    rfl
end Go.Proofs.YthalofddjlhcjaaDoor
end
section
/- Plain: what a text of a cascade says; the text that Format writes says the cascade. -/
namespace Go.Proofs.YthalofddjlhcjaaDoor
open Go
set_option linter.unusedVariables false
set_option linter.unusedSimpArgs false

def headV : List ByteArray → Option (List Int)
  | [] => none
  | w :: ws => if w = ⟨#[99, 97, 115, 99, 97, 100, 101]⟩ then (match numsV ws with | some (x :: l) => some (x :: l) | _ => none) else none
def zC : Casc := ⟨0, [], []⟩
def finV (hd : List Int) (rows : List CRow) : Casc × Int × Int := match hd with
  | [] => (zC, 0, 2)
  | x :: l => if validE ⟨x, l, rows⟩ = 0 then (⟨x, l, rows⟩, -1, 0) else (zC, 0, validE ⟨x, l, rows⟩)
def linesV : List (List UInt8) → Nat → List Int → List CRow → Casc × Int × Int
  | [], ln, hd, rows => (zC, (ln : Int), 2)
  | p :: ps, ln, hd, rows => if ps = [] then (if p = [] ∧ 0 < ln then finV hd rows else (zC, (ln : Int), 2))
      else if ln = 0 then (match headV (splitW (toBA p)) with | some h => linesV ps 1 h rows | none => (zC, 0, 2))
      else (match rowV (splitW (toBA p)) with | some r => linesV ps (ln + 1) hd (rows ++ [r]) | none => (zC, (ln : Int), 2))
def parseV (s : ByteArray) : Casc × Int × Int := if 1048576 < s.size then (zC, 0, 3) else linesV (splitA 10 s.data.toList []) 0 [] []

/-! The text of a cascade. -/
def byL (l : List Int) : List UInt8 := l.map fun x => UInt8.ofNat x.toNat
theorem byL_append (a b : List Int) : byL (a ++ b) = byL a ++ byL b := List.map_append
theorem bytesOf_byL (l : List Int) : bytesOf l = toBA (byL l) := rfl
theorem splitA_words {c : UInt8} : ∀ (ws : List (List UInt8)) (w cur : List UInt8), c ∉ w → (∀ x ∈ ws, c ∉ x) → splitA c (w ++ ws.flatMap (c :: ·)) cur = (cur ++ w) :: ws
  | [], w, cur, h, _ => by simp only [List.flatMap_nil, List.append_nil]; exact splitA_none h
  | x :: ws, w, cur, h, hx => by
    simp only [List.flatMap_cons, List.cons_append]
    rw [splitA_some h, splitA_words ws x [] (hx x List.mem_cons_self) fun y hy => hx y (List.mem_cons_of_mem _ hy)]
    all_goals rfl
def dW (n : Int) : List UInt8 := byL (digL n)
theorem dW_all : ∀ k : Nat, k < 100 → numV (toBA (dW (k : Int))) = some (k : Int) ∧ (32 : UInt8) ∉ dW (k : Int) ∧ (10 : UInt8) ∉ dW (k : Int) := by decide +kernel
theorem dW_of {n : Int} (h : 0 ≤ n ∧ n < 100) : numV (toBA (dW n)) = some n ∧ (32 : UInt8) ∉ dW n ∧ (10 : UInt8) ∉ dW n := by
  have := dW_all n.toNat (by omega)
  rw [Int.toNat_of_nonneg h.1] at this
  exact this
theorem numsV_dW : ∀ {l : List Int}, (∀ x ∈ l, 0 ≤ x ∧ x < 100) → numsV (l.map fun x => toBA (dW x)) = some l
  | [], _ => rfl
  | x :: l, h => by
    simp only [List.map_cons, numsV]
    rw [(dW_of (h x List.mem_cons_self)).1, numsV_dW fun y hy => h y (List.mem_cons_of_mem _ hy)]
    all_goals rfl
theorem dW_semi {n : Int} (h : 0 ≤ n ∧ n < 100) : toBA (dW n) ≠ ⟨#[59]⟩ := fun e => by
  have h1 := (dW_of h).1
  rw [e] at h1
  have h2 : numV ⟨#[59]⟩ = none := by decide +kernel
  rw [h2] at h1
  cases h1
def mapW (ms : List (List Int)) : List ByteArray := ms.flatMap fun m => ⟨#[59]⟩ :: m.map fun x => toBA (dW x)
theorem groups_nums (ws : List ByteArray) : ∀ {l : List Int}, (∀ x ∈ l, 0 ≤ x ∧ x < 100) → groupsV ((l.map fun x => toBA (dW x)) ++ ws) = ((l.map fun x => toBA (dW x)) ++ (groupsV ws).1, (groupsV ws).2)
  | [], _ => rfl
  | x :: l, h => by
    simp only [List.map_cons, List.cons_append, groupsV]
    rw [if_neg (dW_semi (h x List.mem_cons_self)), groups_nums ws fun y hy => h y (List.mem_cons_of_mem _ hy)]
theorem groups_maps : ∀ {ms : List (List Int)}, (∀ m ∈ ms, ∀ x ∈ m, 0 ≤ x ∧ x < 100) → groupsV (mapW ms) = ([], ms.map fun m => m.map fun x => toBA (dW x))
  | [], _ => rfl
  | m :: ms, h => by
    simp only [mapW, List.flatMap_cons, List.cons_append, groupsV, if_true]
    have ih := groups_maps (ms := ms) fun y hy => h y (List.mem_cons_of_mem _ hy)
    unfold mapW at ih
    rw [groups_nums _ (h m List.mem_cons_self), ih]
    simp
theorem lists_maps : ∀ {ms : List (List Int)}, (∀ m ∈ ms, ∀ x ∈ m, 0 ≤ x ∧ x < 100) → listsV (ms.map fun m => m.map fun x => toBA (dW x)) = some ms
  | [], _ => rfl
  | m :: ms, h => by
    simp only [List.map_cons, listsV]
    rw [numsV_dW (h m List.mem_cons_self), lists_maps fun y hy => h y (List.mem_cons_of_mem _ hy)]
    all_goals rfl
def rowW (r : CRow) : List ByteArray := ⟨#[114, 111, 119]⟩ :: ((r.pre.map fun x => toBA (dW x)) ++ mapW r.maps)
theorem rowV_rowW {r : CRow} (h : SmR r) : rowV (rowW r) = some r := by
  have hm : ∀ m ∈ r.maps, ∀ x ∈ m, 0 ≤ x ∧ x < 100 := fun m hm => (h.m2 m hm).2
  simp only [rowV, rowW, if_true]
  rw [groups_nums _ h.p2, groups_maps hm]
  simp only [List.append_nil]
  rw [numsV_dW h.p2, lists_maps hm]
  all_goals rfl
def headW (c : Casc) : List ByteArray := ⟨#[99, 97, 115, 99, 97, 100, 101]⟩ :: ((c.letters :: c.sizes).map fun x => toBA (dW x))
theorem headV_headW {c : Casc} (h : ∀ x ∈ c.letters :: c.sizes, 0 ≤ x ∧ x < 100) : headV (headW c) = some (c.letters :: c.sizes) := by
  simp only [headV, headW, if_true]
  rw [numsV_dW h]
theorem numsT_byL (l : List Int) : byL (numsT l) = (l.map dW).flatMap ((32 : UInt8) :: ·) := by
  induction l with
  | nil => rfl
  | cons x l ih =>
    have : numsT (x :: l) = (32 :: digL x) ++ numsT l := rfl
    rw [this, byL_append, ih]
    all_goals rfl
theorem mapsT_byL (ms : List (List Int)) : byL (mapsT ms) = (ms.flatMap fun m => [59] :: m.map dW).flatMap ((32 : UInt8) :: ·) := by
  induction ms with
  | nil => rfl
  | cons m ms ih =>
    have : mapsT (m :: ms) = ([32, 59] ++ numsT m) ++ mapsT ms := rfl
    rw [this, byL_append, byL_append, ih, numsT_byL]
    simp [List.flatMap_append, byL]
def rowL (r : CRow) : List UInt8 := byL ([114, 111, 119] ++ numsT r.pre ++ mapsT r.maps)
def headL (c : Casc) : List UInt8 := byL ([99, 97, 115, 99, 97, 100, 101] ++ numsT [c.letters] ++ numsT c.sizes)
theorem rowT_byL (r : CRow) : byL (rowT r) = rowL r ++ [10] := by unfold rowT rowL; rw [byL_append]; rfl
theorem headT_byL (c : Casc) : byL (headT c) = headL c ++ [10] := by unfold headT headL; rw [byL_append]; rfl
theorem rowL_words (r : CRow) : rowL r = [114, 111, 119] ++ (r.pre.map dW ++ r.maps.flatMap fun m => [59] :: m.map dW).flatMap ((32 : UInt8) :: ·) := by
  unfold rowL
  rw [byL_append, byL_append, numsT_byL, mapsT_byL, List.flatMap_append, ← List.append_assoc]
  all_goals rfl
theorem headL_words (c : Casc) : headL c = [99, 97, 115, 99, 97, 100, 101] ++ ((c.letters :: c.sizes).map dW).flatMap ((32 : UInt8) :: ·) := by
  unfold headL
  rw [byL_append, byL_append, numsT_byL, numsT_byL, List.append_assoc, ← List.flatMap_append, ← List.map_append]
  all_goals rfl
theorem mem_words {ms : List (List Int)} {x : List UInt8} (h : x ∈ ms.flatMap fun m => [59] :: m.map dW) : x = [59] ∨ ∃ m ∈ ms, ∃ n ∈ m, x = dW n := by
  obtain ⟨m, hm, hx⟩ := List.mem_flatMap.1 h
  rcases List.mem_cons.1 hx with e | e
  · exact .inl e
  · obtain ⟨n, hn, rfl⟩ := List.mem_map.1 e
    exact .inr ⟨m, hm, n, hn, rfl⟩
theorem row_word {r : CRow} (h : SmR r) {x : List UInt8} (hx : x ∈ r.pre.map dW ++ r.maps.flatMap fun m => [59] :: m.map dW) : (32 : UInt8) ∉ x ∧ (10 : UInt8) ∉ x := by
  rcases List.mem_append.1 hx with e | e
  · obtain ⟨n, hn, rfl⟩ := List.mem_map.1 e
    exact (dW_of (h.p2 n hn)).2
  · rcases mem_words e with rfl | ⟨m, hm, n, hn, rfl⟩
    · decide
    · exact (dW_of ((h.m2 m hm).2 n hn)).2
theorem toBA_map (l : List Int) : (l.map dW).map toBA = l.map fun x => toBA (dW x) := by rw [List.map_map]; rfl
theorem split_row {r : CRow} (h : SmR r) : splitW (toBA (rowL r)) = rowW r := by
  unfold splitW
  rw [show (toBA (rowL r)).data.toList = rowL r by simp [toBA], rowL_words, splitA_words _ _ _ (by decide) fun x hx => (row_word h hx).1]
  simp only [List.map_cons, List.nil_append, List.map_append, toBA_map, rowW, List.map_flatMap, mapW]
  all_goals rfl
theorem split_head {c : Casc} (h : ∀ x ∈ c.letters :: c.sizes, 0 ≤ x ∧ x < 100) : splitW (toBA (headL c)) = headW c := by
  unfold splitW
  rw [show (toBA (headL c)).data.toList = headL c by simp [toBA], headL_words, splitA_words _ _ _ (by decide) fun x hx => by
    obtain ⟨n, hn, rfl⟩ := List.mem_map.1 hx
    exact (dW_of (h n hn)).2.1]
  rw [List.map_cons, toBA_map]
  all_goals rfl
theorem no_nl {ws : List (List UInt8)} {w : List UInt8} (h : (10 : UInt8) ∉ w) (hw : ∀ x ∈ ws, (10 : UInt8) ∉ x) : (10 : UInt8) ∉ w ++ ws.flatMap ((32 : UInt8) :: ·) := fun hm => by
  rcases List.mem_append.1 hm with e | e
  · exact h e
  · obtain ⟨x, hx, hx2⟩ := List.mem_flatMap.1 e
    rcases List.mem_cons.1 hx2 with e2 | e2
    · exact absurd e2 (by decide)
    · exact hw x hx e2
theorem rowL_nl {r : CRow} (h : SmR r) : (10 : UInt8) ∉ rowL r := by
  rw [rowL_words]
  exact no_nl (by decide) fun x hx => (row_word h hx).2
theorem headL_nl {c : Casc} (h : ∀ x ∈ c.letters :: c.sizes, 0 ≤ x ∧ x < 100) : (10 : UInt8) ∉ headL c := by
  rw [headL_words]
  refine no_nl (by decide) fun x hx => ?_
  obtain ⟨n, hn, rfl⟩ := List.mem_map.1 hx
  exact (dW_of (h n hn)).2.2
theorem split_rows : ∀ {rs : List CRow} {t : List UInt8}, (10 : UInt8) ∉ t → (∀ r ∈ rs, SmR r) → splitA 10 (t ++ [10] ++ rs.flatMap fun r => rowL r ++ [10]) [] = t :: (rs.map rowL ++ [[]])
  | [], t, ht, _ => by
    simp only [List.flatMap_nil, List.append_nil, List.map_nil, List.nil_append]
    rw [splitA_some ht]; rfl
  | r :: rs, t, ht, h => by
    simp only [List.flatMap_cons, List.append_assoc, List.singleton_append]
    rw [splitA_some ht]
    have := split_rows (rs := rs) (rowL_nl (h r List.mem_cons_self)) fun x hx => h x (List.mem_cons_of_mem _ hx)
    simp only [List.append_assoc, List.singleton_append] at this
    rw [this]
    all_goals rfl
theorem lines_rows (hd : List Int) : ∀ {rs : List CRow} (acc : List CRow) (ln : Nat), (∀ r ∈ rs, SmR r) → 0 < ln → linesV (rs.map rowL ++ [[]]) ln hd acc = finV hd (acc ++ rs)
  | [], acc, ln, _, hl => by simp [linesV, hl]
  | r :: rs, acc, ln, h, hl => by
    simp only [List.map_cons, List.cons_append, linesV]
    rw [if_neg (by simp), if_neg (by omega), split_row (h r List.mem_cons_self), rowV_rowW (h r List.mem_cons_self)]
    simp only
    rw [lines_rows hd (acc ++ [r]) (ln + 1) (fun x hx => h x (List.mem_cons_of_mem _ hx)) (by omega)]
    simp
theorem fmtRows_some : ∀ {rs : List CRow} {t : List Int}, (∀ r ∈ rs, SmR r) → t.length + 1000 * rs.length ≤ 1048576 → fmtRows rs t = some (t ++ rs.flatMap rowT)
  | [], t, _, _ => by simp [fmtRows]
  | r :: rs, t, h, hl => by
    have h1 := rowT_len (h r List.mem_cons_self)
    simp only [List.length_cons] at hl
    simp only [fmtRows]
    rw [if_neg (by rw [List.length_append]; omega), fmtRows_some (fun x hx => h x (List.mem_cons_of_mem _ hx)) (by rw [List.length_append]; omega)]
    simp
theorem rows_byL (rs : List CRow) : byL (rs.flatMap rowT) = rs.flatMap fun r => rowL r ++ [10] := by
  induction rs with
  | nil => rfl
  | cons r rs ih => rw [List.flatMap_cons, byL_append, ih, rowT_byL]; rfl
theorem rows_len : ∀ {rs : List CRow}, (∀ r ∈ rs, SmR r) → (rs.flatMap rowT).length ≤ 1000 * rs.length
  | [], _ => by simp
  | r :: rs, h => by
    have h1 := rowT_len (h r List.mem_cons_self)
    have h2 := rows_len fun x hx => h x (List.mem_cons_of_mem _ hx)
    simp only [List.flatMap_cons, List.length_append, List.length_cons]
    omega
theorem parse_fmt {c : Casc} (hv : validE c = 0) (hs : ∀ r ∈ c.rows, SmR r) (hn : ∀ x ∈ c.letters :: c.sizes, 0 ≤ x ∧ x < 100) (h0 : (headT c).length ≤ 100) (hr : c.rows.length ≤ 1000) : fmtV c = (bytesOf (headT c ++ c.rows.flatMap rowT), 0) ∧ parseV (bytesOf (headT c ++ c.rows.flatMap rowT)) = (c, -1, 0) := by
  have hl := rows_len hs
  refine ⟨?_, ?_⟩
  · unfold fmtV fmtR
    rw [if_pos hv, fmtRows_some hs (by omega)]
  · unfold parseV
    rw [if_neg (by rw [bytesOf_len, List.length_append]; omega), bytesOf_byL, show (toBA (byL (headT c ++ c.rows.flatMap rowT))).data.toList = byL (headT c ++ c.rows.flatMap rowT) by simp [toBA], byL_append, headT_byL, rows_byL, split_rows (headL_nl hn) hs]
    simp only [linesV]
    rw [if_neg (by simp), if_pos trivial, split_head hn, headV_headW hn]
    simp only
    rw [lines_rows _ _ _ hs (by omega)]
    simp only [finV, List.nil_append]
    rw [if_pos hv]
end Go.Proofs.YthalofddjlhcjaaDoor
end
section
/- Functions by value: program. -/
namespace Go.Proofs.YthalofddjlhcjaaDoor
open Go
set_option maxRecDepth 100000
set_option maxHeartbeats 1000000
set_option linter.unusedVariables false
set_option linter.unusedSimpArgs false



-- semigroup/cascade.Parse
def cascade_Parse_b5 : ByteArray × Int × Int × List Int × List CRow → Option ((ByteArray × Int × Int × List Int × List CRow) ⊕ ((Casc × Int × Int) ⊕ (Casc × Int × Int)))
  | (w71, w72, w74, w75, w73) =>
  if w72 = 0 then
    (strings_Cut w71 ⟨#[10]⟩).bind fun v92 =>
    if v92.2.2 = true then
      (vSplit v92.1 ⟨#[32]⟩).bind fun v93 =>
      if 0 < w72 then
        (cascade_parseRow v93).bind fun v94 =>
        if v94.2 = true then
          chk (capOk 48 (w73.length + 1)) <|
          nextG (v92.2.1, IntKind.i64.wrap (w72 + 1), w74, w75, w73 ++ [v94.1])
        else
          exitG <|
          some (.inl ((⟨0, [], []⟩ : Casc), w72, 2))
      else
        (pieceL v93 1 (v93.length : Int)).bind fun v95 =>
        (cascade_parseNumbers v95).bind fun v96 =>
        (atI v93 0).bind fun v97 =>
        if v97 = ⟨#[99, 97, 115, 99, 97, 100, 101]⟩ then
          if v96.2 = true then
            if (v96.1.length : Int) = 0 then
              exitG <|
              some (.inl ((⟨0, [], []⟩ : Casc), w72, 2))
            else
              (atI v96.1 0).bind fun v98 =>
              (pieceL v96.1 1 (v96.1.length : Int)).bind fun v99 =>
              nextG (v92.2.1, IntKind.i64.wrap (w72 + 1), v98, v99, w73)
          else
            exitG <|
            some (.inl ((⟨0, [], []⟩ : Casc), w72, 2))
        else
          exitG <|
          some (.inl ((⟨0, [], []⟩ : Casc), w72, 2))
    else
      exitG <|
      some (.inl ((⟨0, [], []⟩ : Casc), w72, 2))
  else
    if w71 = ByteArray.empty then
      exitG <|
      (cascade_Validate (⟨w74, w75, w73⟩ : Casc)).bind fun v100 =>
      if v100 = 0 then
        some (.inr ((⟨w74, w75, w73⟩ : Casc), (-1), 0))
      else
        some (.inl ((⟨0, [], []⟩ : Casc), 0, v100))
    else
      (strings_Cut w71 ⟨#[10]⟩).bind fun v101 =>
      if v101.2.2 = true then
        (vSplit v101.1 ⟨#[32]⟩).bind fun v102 =>
        if 0 < w72 then
          (cascade_parseRow v102).bind fun v103 =>
          if v103.2 = true then
            chk (capOk 48 (w73.length + 1)) <|
            nextG (v101.2.1, IntKind.i64.wrap (w72 + 1), w74, w75, w73 ++ [v103.1])
          else
            exitG <|
            some (.inl ((⟨0, [], []⟩ : Casc), w72, 2))
        else
          (pieceL v102 1 (v102.length : Int)).bind fun v104 =>
          (cascade_parseNumbers v104).bind fun v105 =>
          (atI v102 0).bind fun v106 =>
          if v106 = ⟨#[99, 97, 115, 99, 97, 100, 101]⟩ then
            if v105.2 = true then
              if (v105.1.length : Int) = 0 then
                exitG <|
                some (.inl ((⟨0, [], []⟩ : Casc), w72, 2))
              else
                (atI v105.1 0).bind fun v107 =>
                (pieceL v105.1 1 (v105.1.length : Int)).bind fun v108 =>
                nextG (v101.2.1, IntKind.i64.wrap (w72 + 1), v107, v108, w73)
            else
              exitG <|
              some (.inl ((⟨0, [], []⟩ : Casc), w72, 2))
          else
            exitG <|
            some (.inl ((⟨0, [], []⟩ : Casc), w72, 2))
      else
        exitG <|
        some (.inl ((⟨0, [], []⟩ : Casc), w72, 2))
def cascade_Parse_h5 : ByteArray × Int × Int × List Int × List CRow → Fr
  | (w71, w72, w74, w75, w73) => ⟨92, [(0, .one (.t none (.sc (.string w71)))), (2, .one (.a 2 [] (0))), (5, .one (.a 5 [] (0))), (6, .one (.t none (.sc (.int .i64 w72))))], [(2, .vr [.sc (.int .i64 0), .os 1 0 [], .os 2 0 []]), (5, .vr [.sc (.int .i64 w74), .sl w75.length (w75.map fun x0 => .sc (.int .i64 x0)), .os 2 w73.length (w73.flatMap fun x0 => [.sl x0.pre.length (x0.pre.map fun x1 => .sc (.int .i64 x1)), .sl x0.maps.length (x0.maps.map fun x1 => .sl x1.length (x1.map fun x2 => .sc (.int .i64 x2)))])])]⟩
def cascade_Parse (a0 : ByteArray) : Option ((Casc × Int × Int) ⊕ (Casc × Int × Int)) :=
  if 1048576 < (a0.size : Int) then
    some (.inl ((⟨0, [], []⟩ : Casc), 0, 3))
  else
    loopG (cascade_Parse_b5) LFm (a0, 0, 0, [], [])
theorem cascade_Parse_ok {a0 : ByteArray} {r : (Casc × Int × Int) ⊕ (Casc × Int × Int)} (h0 : cascade_Parse a0 = some r) : L 25 [.sc (.string a0)] = some (match r with | (.inl r) => (.tup [.agg [.sc (.int .i64 r.1.letters), .os 1 0 [], .os 2 0 []], .sc (.int .i64 r.2.1), .sc (.int .i64 r.2.2)], [.dead]) | (.inr r) => (.tup [.agg [.sc (.int .i64 r.1.letters), .sl r.1.sizes.length (r.1.sizes.map fun x0 => .sc (.int .i64 x0)), .os 2 r.1.rows.length (r.1.rows.flatMap fun x0 => [.sl x0.pre.length (x0.pre.map fun x1 => .sc (.int .i64 x1)), .sl x0.maps.length (x0.maps.map fun x1 => .sl x1.length (x1.map fun x2 => .sc (.int .i64 x2)))])], .sc (.int .i64 r.2.1), .sc (.int .i64 r.2.2)], [.dead])) := by
  simp only [cascade_Parse] at h0
  refine L_run cfn25 fn25 (runF_of bd25 ⟨of_decide_eq_true rfl, of_decide_eq_true rfl⟩ ?_)
  simp only [entryF, entryT, entryO, entryE, isIo]
  refine zq rfl (zr rfl rfl rfl (by simp; rfl) ?_)
  refine thenC_n (zq rfl (zq rfl (zr rfl rfl rfl (by simp; rfl) ?_)))
  refine thenC_n ?_
  by_cases c98 : 1048576 < (a0.size : Int)
  · rw [if_pos c98] at h0
    refine q_ifT rfl (by simp [c98]) (zq rfl (zr rfl rfl rfl (by simp; rfl) ?_))
    refine thenC_n (q_ret rfl (thenC_r ?_))
    cases h0
    simp
  · rw [if_neg c98] at h0
    refine q_ifF rfl (by simp [c98]) (q_skip rfl (thenC_n (zq rfl (zr rfl rfl rfl (by simp; rfl) ?_))))
    refine thenC_n (zq rfl (zq rfl (q_frz rfl rfl (by simp; rfl) (zr rfl rfl rfl (by simp; rfl) ?_))))
    refine thenC_n (zb rfl (q_loopG h0 cascade_Parse_h5 rfl rfl (by simp [cascade_Parse_h5]) fun s o1 h1 hr1 => ?_))
    obtain ⟨w71, w72, w74, w75, w73⟩ := s
    simp only [cascade_Parse_b5] at h1
    simp only [cascade_Parse_h5]
    refine zq rfl (zq rfl ?_)
    by_cases c161 : w72 = 0
    · rw [if_pos c161] at h1
      have c161e := eq_true c161
      refine zr rfl rfl rfl (by simp [c161e]; rfl) ?_
      refine thenC_n (q_ifT rfl (by simp) (q_skip rfl (thenC_n (zq rfl (zb rfl (zq rfl ?_))))))
      obtain ⟨v92, f162, h2⟩ := bnd_some h1
      have f162k := strings_Cut_ok f162
      try simp at f162k
      refine zr rfl rfl rfl (by simp [f162k]; rfl) ?_
      refine thenC_n (zq rfl (zq rfl (zr rfl rfl rfl (by simp; rfl) ?_)))
      refine thenC_n ?_
      by_cases c163 : v92.2.2 = true
      · rw [if_pos c163] at h2
        refine q_ifF rfl (by simp [c163]) (q_skip rfl (thenC_n (zq rfl (zr rfl rfl rfl (by simp; rfl) ?_))))
        refine thenC_n (zq rfl ?_)
        obtain ⟨v93, f164, h3⟩ := bnd_some h2
        have f164k := vSplit_ok f164
        try simp at f164k
        refine zr rfl rfl rfl (by simp [f164k]; rfl) ?_
        refine thenC_n (zq rfl (zq rfl (zr rfl rfl rfl (by simp; rfl) ?_)))
        refine thenC_n ?_
        by_cases c165 : 0 < w72
        · rw [if_pos c165] at h3
          refine q_ifT rfl (by simp [c165]) (zq rfl ?_)
          obtain ⟨v94, f166, h4⟩ := bnd_some h3
          have f166k := cascade_parseRow_ok f166
          try simp at f166k
          refine zr rfl rfl rfl (by simp [f166k]; rfl) ?_
          refine thenC_n (zq rfl (zq rfl (zr rfl rfl rfl (by simp; rfl) ?_)))
          refine thenC_n ?_
          by_cases c167 : v94.2 = true
          · rw [if_pos c167] at h4
            refine q_ifF rfl (by simp [c167]) (q_skip rfl (thenC_n (zq rfl ?_)))
            obtain ⟨f168, h5⟩ := chk_some h4
            obtain ⟨f168a, f168b⟩ := f168
            refine zr rfl rfl rfl (by simp [f168a, f168b]; rfl) ?_
            refine thenC_n (q_exit rfl (thenC_x (blockC_hit2 rfl (thenC_n (zr rfl rfl rfl (by simp; rfl) ?_)))))
            have ho := next_some h5
            refine roundC_n ho ?_
            simp [cascade_Parse_h5, c163, c167]
          · rw [if_neg c167] at h4
            refine q_ifT rfl (by simp [c167]) (zq rfl (zr rfl rfl rfl (by simp; rfl) ?_))
            refine thenC_n (q_ret rfl (thenC_r (thenC_r (blockC_r (thenC_r ?_)))))
            obtain ⟨rr1, h5, ho1⟩ := exit_some h4
            have hs1 := hr1 _ ho1
            subst hs1
            refine roundC_r ho1 (blockC_r (thenC_r ?_))
            cases h5
            simp [c163, c167]
        · rw [if_neg c165] at h3
          refine q_ifF rfl (by simp [c165]) (q_skip rfl (thenC_n (zq rfl ?_)))
          obtain ⟨v95, f169, h4⟩ := bnd_some h3
          obtain ⟨f169a, f169b, f169c, -⟩ := pieceL_some f169
          obtain ⟨f169d, f169g⟩ := piece_hi f169a f169b
          have f169e := pieceL_map (g := fun x : ByteArray => (.sc (.string x) : T)) f169
          try simp at f169e
          have f169f := pieceL_slm f169
          try simp only [Int.reduceToNat, Int.toNat_natCast, Nat.sub_zero] at f169f
          obtain ⟨v96, f170, h5⟩ := bnd_some h4
          have f170k := cascade_parseNumbers_ok f170
          try simp at f170k
          refine zr rfl rfl rfl (by simp [f169a, f169b, f169c, f169d, f169g, f169e, f169f, f170k]; rfl) ?_
          refine thenC_n (zq rfl (zq rfl ?_))
          obtain ⟨v97, f171, h6⟩ := bnd_some h5
          obtain ⟨f171a, f171b, f171c, f171d, f171e⟩ := atI_some f171
          simp only [Int.reduceToNat, Int.toNat_natCast] at f171c f171d f171e
          have f171j : v93 ≠ [] := by intro hh; rw [hh] at f171c; simp at f171c
          have f171l : 0 < v93.length := by omega
          by_cases c172 : v97 = ⟨#[99, 97, 115, 99, 97, 100, 101]⟩
          · rw [if_pos c172] at h6
            have c172e := eq_true c172
            by_cases c173 : v96.2 = true
            · rw [if_pos c173] at h6
              refine zr rfl rfl rfl (by simp [f171a, f171b, f171c, f171d, f171e, f171j, f171l, c172e, c173]; rfl) ?_
              refine thenC_n ?_
              by_cases c174 : (v96.1.length : Int) = 0
              · rw [if_pos c174] at h6
                have c174e := eq_true c174
                have c174s : v96.1 = [] := by simpa [List.length_pos_iff] using c174
                refine q_ifT rfl (by simp [c174e, c174s]) (zq rfl (zr rfl rfl rfl (by simp; rfl) ?_))
                refine thenC_n (q_ret rfl (thenC_r (blockC_r (thenC_r ?_))))
                obtain ⟨rr1, h7, ho1⟩ := exit_some h6
                have hs1 := hr1 _ ho1
                subst hs1
                refine roundC_r ho1 (blockC_r (thenC_r ?_))
                cases h7
                simp [c163, c173]
              · rw [if_neg c174] at h6
                have c174e := eq_false c174
                have c174s : v96.1 ≠ [] := by simpa [List.length_pos_iff] using c174
                refine q_ifF rfl (by simp [c174e, c174s]) (q_skip rfl (thenC_n ?_))
                obtain ⟨v98, f175, h7⟩ := bnd_some h6
                obtain ⟨f175a, f175b, f175c, f175d, f175e⟩ := atI_some f175
                simp only [Int.reduceToNat, Int.toNat_natCast] at f175c f175d f175e
                have f175j : v96.1 ≠ [] := by intro hh; rw [hh] at f175c; simp at f175c
                have f175l : 0 < v96.1.length := by omega
                obtain ⟨v99, f176, h8⟩ := bnd_some h7
                obtain ⟨f176a, f176b, f176c, -⟩ := pieceL_some f176
                obtain ⟨f176d, f176g⟩ := piece_hi f176a f176b
                have f176e := pieceL_map (g := fun x : Int => (.sc (.int .i64 x) : T)) f176
                try simp at f176e
                have f176f := pieceL_slm f176
                try simp only [Int.reduceToNat, Int.toNat_natCast, Nat.sub_zero] at f176f
                refine q_drawW rfl rfl rfl rfl ?_; repeat' (first | (refine q_drawW_op rfl rfl fun Q' hQ => ?_; simp [f175a, f175b, f175c, f175d, f175e, f175j, f175l, f176a, f176b, f176c, f176d, f176g, f176e, f176f]; refine hQ.out _ ?_; clear hQ; clear Q') | (refine q_drawW_guard rfl rfl fun Q1 Q2 h1 h2 => ?_; simp [f175a, f175b, f175c, f175d, f175e, f175j, f175l, f176a, f176b, f176c, f176d, f176g, f176e, f176f, twoB_some]; (first | refine h1.out ?_ | refine h2.out ?_); clear h1 h2; clear Q1 Q2; intro Q' hQ; simp [f175a, f175b, f175c, f175d, f175e, f175j, f175l, f176a, f176b, f176c, f176d, f176g, f176e, f176f]; refine hQ.out _ ?_; clear hQ; clear Q') | (refine q_drawW_nil rfl fun Q' hQ => ?_; simp [f175a, f175b, f175c, f175d, f175e, f175j, f175l, f176a, f176b, f176c, f176d, f176g, f176e, f176f]; refine hQ.out _ ?_; clear hQ; clear Q'))
                refine blockC_n (thenC_n (zr rfl rfl rfl (by simp; rfl) ?_))
                have ho := next_some h8
                refine roundC_n ho ?_
                simp [cascade_Parse_h5, c163, c173]
            · rw [if_neg c173] at h6
              refine zr rfl rfl rfl (by simp [f171a, f171b, f171c, f171d, f171e, f171j, f171l, c172e, c173]; rfl) ?_
              refine thenC_n (q_ifT rfl (by simp) (zq rfl (zr rfl rfl rfl (by simp; rfl) ?_)))
              refine thenC_n (q_ret rfl (thenC_r (blockC_r (thenC_r ?_))))
              obtain ⟨rr1, h7, ho1⟩ := exit_some h6
              have hs1 := hr1 _ ho1
              subst hs1
              refine roundC_r ho1 (blockC_r (thenC_r ?_))
              cases h7
              simp [c163, c173]
          · rw [if_neg c172] at h6
            have c172e := eq_false c172
            refine zr rfl rfl rfl (by simp [f171a, f171b, f171c, f171d, f171e, f171j, f171l, c172e]; rfl) ?_
            refine thenC_n (q_ifT rfl (by simp) (zq rfl (zr rfl rfl rfl (by simp; rfl) ?_)))
            refine thenC_n (q_ret rfl (thenC_r (blockC_r (thenC_r ?_))))
            obtain ⟨rr1, h7, ho1⟩ := exit_some h6
            have hs1 := hr1 _ ho1
            subst hs1
            refine roundC_r ho1 (blockC_r (thenC_r ?_))
            cases h7
            simp [c163]
      · rw [if_neg c163] at h2
        refine q_ifT rfl (by simp [c163]) (zq rfl (zr rfl rfl rfl (by simp; rfl) ?_))
        refine thenC_n (q_ret rfl (thenC_r (blockC_r (thenC_r ?_))))
        obtain ⟨rr1, h3, ho1⟩ := exit_some h2
        have hs1 := hr1 _ ho1
        subst hs1
        refine roundC_r ho1 (blockC_r (thenC_r ?_))
        cases h3
        simp [c163]
    · rw [if_neg c161] at h1
      have c161e := eq_false c161
      refine zr rfl rfl rfl (by simp [c161e]; rfl) ?_
      refine thenC_n ?_
      by_cases c177 : w71 = ByteArray.empty
      · rw [if_pos c177] at h1
        have c177e := eq_true c177
        refine q_ifF rfl (by simp [c177e]) (q_exit rfl (thenC_x ?_))
        obtain ⟨rr1, h2, ho1⟩ := exit_some h1
        have hs1 := hr1 _ ho1
        subst hs1
        refine roundC_x ho1 (blockC_hit2 rfl (thenC_n (zq rfl (zq rfl ?_))))
        obtain ⟨v100, f178, h3⟩ := bnd_some h2
        have f178k := cascade_Validate_ok f178
        try simp at f178k
        refine zr rfl rfl rfl (by simp [f178k]; rfl) ?_
        refine thenC_n (zq rfl (zr rfl rfl rfl (by simp; rfl) ?_))
        refine thenC_n ?_
        by_cases c179 : v100 = 0
        · rw [if_pos c179] at h3
          have c179e := eq_true c179
          refine q_ifF rfl (by simp [c179e]) (q_skip rfl (thenC_n (zq rfl (zr rfl rfl rfl (by simp; rfl) ?_))))
          refine thenC_n (q_ret rfl ?_)
          cases h3
          simp
        · rw [if_neg c179] at h3
          have c179e := eq_false c179
          refine q_ifT rfl (by simp [c179e]) (zq rfl (zr rfl rfl rfl (by simp; rfl) ?_))
          refine thenC_n (q_ret rfl (thenC_r ?_))
          cases h3
          simp
      · rw [if_neg c177] at h1
        have c177e := eq_false c177
        refine q_ifT rfl (by simp [c177e]) (q_skip rfl (thenC_n (zq rfl (zb rfl (zq rfl ?_)))))
        obtain ⟨v101, f180, h2⟩ := bnd_some h1
        have f180k := strings_Cut_ok f180
        try simp at f180k
        refine zr rfl rfl rfl (by simp [f180k]; rfl) ?_
        refine thenC_n (zq rfl (zq rfl (zr rfl rfl rfl (by simp; rfl) ?_)))
        refine thenC_n ?_
        by_cases c181 : v101.2.2 = true
        · rw [if_pos c181] at h2
          refine q_ifF rfl (by simp [c181]) (q_skip rfl (thenC_n (zq rfl (zr rfl rfl rfl (by simp; rfl) ?_))))
          refine thenC_n (zq rfl ?_)
          obtain ⟨v102, f182, h3⟩ := bnd_some h2
          have f182k := vSplit_ok f182
          try simp at f182k
          refine zr rfl rfl rfl (by simp [f182k]; rfl) ?_
          refine thenC_n (zq rfl (zq rfl (zr rfl rfl rfl (by simp; rfl) ?_)))
          refine thenC_n ?_
          by_cases c183 : 0 < w72
          · rw [if_pos c183] at h3
            refine q_ifT rfl (by simp [c183]) (zq rfl ?_)
            obtain ⟨v103, f184, h4⟩ := bnd_some h3
            have f184k := cascade_parseRow_ok f184
            try simp at f184k
            refine zr rfl rfl rfl (by simp [f184k]; rfl) ?_
            refine thenC_n (zq rfl (zq rfl (zr rfl rfl rfl (by simp; rfl) ?_)))
            refine thenC_n ?_
            by_cases c185 : v103.2 = true
            · rw [if_pos c185] at h4
              refine q_ifF rfl (by simp [c185]) (q_skip rfl (thenC_n (zq rfl ?_)))
              obtain ⟨f186, h5⟩ := chk_some h4
              obtain ⟨f186a, f186b⟩ := f186
              refine zr rfl rfl rfl (by simp [f186a, f186b]; rfl) ?_
              refine thenC_n (q_exit rfl (thenC_x (blockC_hit2 rfl (thenC_n (zr rfl rfl rfl (by simp; rfl) ?_)))))
              have ho := next_some h5
              refine roundC_n ho ?_
              simp [cascade_Parse_h5, c181, c185]
            · rw [if_neg c185] at h4
              refine q_ifT rfl (by simp [c185]) (zq rfl (zr rfl rfl rfl (by simp; rfl) ?_))
              refine thenC_n (q_ret rfl (thenC_r (thenC_r (blockC_r (thenC_r ?_)))))
              obtain ⟨rr1, h5, ho1⟩ := exit_some h4
              have hs1 := hr1 _ ho1
              subst hs1
              refine roundC_r ho1 (blockC_r (thenC_r ?_))
              cases h5
              simp [c181, c185]
          · rw [if_neg c183] at h3
            refine q_ifF rfl (by simp [c183]) (q_skip rfl (thenC_n (zq rfl ?_)))
            obtain ⟨v104, f187, h4⟩ := bnd_some h3
            obtain ⟨f187a, f187b, f187c, -⟩ := pieceL_some f187
            obtain ⟨f187d, f187g⟩ := piece_hi f187a f187b
            have f187e := pieceL_map (g := fun x : ByteArray => (.sc (.string x) : T)) f187
            try simp at f187e
            have f187f := pieceL_slm f187
            try simp only [Int.reduceToNat, Int.toNat_natCast, Nat.sub_zero] at f187f
            obtain ⟨v105, f188, h5⟩ := bnd_some h4
            have f188k := cascade_parseNumbers_ok f188
            try simp at f188k
            refine zr rfl rfl rfl (by simp [f187a, f187b, f187c, f187d, f187g, f187e, f187f, f188k]; rfl) ?_
            refine thenC_n (zq rfl (zq rfl ?_))
            obtain ⟨v106, f189, h6⟩ := bnd_some h5
            obtain ⟨f189a, f189b, f189c, f189d, f189e⟩ := atI_some f189
            simp only [Int.reduceToNat, Int.toNat_natCast] at f189c f189d f189e
            have f189j : v102 ≠ [] := by intro hh; rw [hh] at f189c; simp at f189c
            have f189l : 0 < v102.length := by omega
            by_cases c190 : v106 = ⟨#[99, 97, 115, 99, 97, 100, 101]⟩
            · rw [if_pos c190] at h6
              have c190e := eq_true c190
              by_cases c191 : v105.2 = true
              · rw [if_pos c191] at h6
                refine zr rfl rfl rfl (by simp [f189a, f189b, f189c, f189d, f189e, f189j, f189l, c190e, c191]; rfl) ?_
                refine thenC_n ?_
                by_cases c192 : (v105.1.length : Int) = 0
                · rw [if_pos c192] at h6
                  have c192e := eq_true c192
                  have c192s : v105.1 = [] := by simpa [List.length_pos_iff] using c192
                  refine q_ifT rfl (by simp [c192e, c192s]) (zq rfl (zr rfl rfl rfl (by simp; rfl) ?_))
                  refine thenC_n (q_ret rfl (thenC_r (blockC_r (thenC_r ?_))))
                  obtain ⟨rr1, h7, ho1⟩ := exit_some h6
                  have hs1 := hr1 _ ho1
                  subst hs1
                  refine roundC_r ho1 (blockC_r (thenC_r ?_))
                  cases h7
                  simp [c181, c191]
                · rw [if_neg c192] at h6
                  have c192e := eq_false c192
                  have c192s : v105.1 ≠ [] := by simpa [List.length_pos_iff] using c192
                  refine q_ifF rfl (by simp [c192e, c192s]) (q_skip rfl (thenC_n ?_))
                  obtain ⟨v107, f193, h7⟩ := bnd_some h6
                  obtain ⟨f193a, f193b, f193c, f193d, f193e⟩ := atI_some f193
                  simp only [Int.reduceToNat, Int.toNat_natCast] at f193c f193d f193e
                  have f193j : v105.1 ≠ [] := by intro hh; rw [hh] at f193c; simp at f193c
                  have f193l : 0 < v105.1.length := by omega
                  obtain ⟨v108, f194, h8⟩ := bnd_some h7
                  obtain ⟨f194a, f194b, f194c, -⟩ := pieceL_some f194
                  obtain ⟨f194d, f194g⟩ := piece_hi f194a f194b
                  have f194e := pieceL_map (g := fun x : Int => (.sc (.int .i64 x) : T)) f194
                  try simp at f194e
                  have f194f := pieceL_slm f194
                  try simp only [Int.reduceToNat, Int.toNat_natCast, Nat.sub_zero] at f194f
                  refine q_drawW rfl rfl rfl rfl ?_; repeat' (first | (refine q_drawW_op rfl rfl fun Q' hQ => ?_; simp [f193a, f193b, f193c, f193d, f193e, f193j, f193l, f194a, f194b, f194c, f194d, f194g, f194e, f194f]; refine hQ.out _ ?_; clear hQ; clear Q') | (refine q_drawW_guard rfl rfl fun Q1 Q2 h1 h2 => ?_; simp [f193a, f193b, f193c, f193d, f193e, f193j, f193l, f194a, f194b, f194c, f194d, f194g, f194e, f194f, twoB_some]; (first | refine h1.out ?_ | refine h2.out ?_); clear h1 h2; clear Q1 Q2; intro Q' hQ; simp [f193a, f193b, f193c, f193d, f193e, f193j, f193l, f194a, f194b, f194c, f194d, f194g, f194e, f194f]; refine hQ.out _ ?_; clear hQ; clear Q') | (refine q_drawW_nil rfl fun Q' hQ => ?_; simp [f193a, f193b, f193c, f193d, f193e, f193j, f193l, f194a, f194b, f194c, f194d, f194g, f194e, f194f]; refine hQ.out _ ?_; clear hQ; clear Q'))
                  refine blockC_n (thenC_n (zr rfl rfl rfl (by simp; rfl) ?_))
                  have ho := next_some h8
                  refine roundC_n ho ?_
                  simp [cascade_Parse_h5, c181, c191]
              · rw [if_neg c191] at h6
                refine zr rfl rfl rfl (by simp [f189a, f189b, f189c, f189d, f189e, f189j, f189l, c190e, c191]; rfl) ?_
                refine thenC_n (q_ifT rfl (by simp) (zq rfl (zr rfl rfl rfl (by simp; rfl) ?_)))
                refine thenC_n (q_ret rfl (thenC_r (blockC_r (thenC_r ?_))))
                obtain ⟨rr1, h7, ho1⟩ := exit_some h6
                have hs1 := hr1 _ ho1
                subst hs1
                refine roundC_r ho1 (blockC_r (thenC_r ?_))
                cases h7
                simp [c181, c191]
            · rw [if_neg c190] at h6
              have c190e := eq_false c190
              refine zr rfl rfl rfl (by simp [f189a, f189b, f189c, f189d, f189e, f189j, f189l, c190e]; rfl) ?_
              refine thenC_n (q_ifT rfl (by simp) (zq rfl (zr rfl rfl rfl (by simp; rfl) ?_)))
              refine thenC_n (q_ret rfl (thenC_r (blockC_r (thenC_r ?_))))
              obtain ⟨rr1, h7, ho1⟩ := exit_some h6
              have hs1 := hr1 _ ho1
              subst hs1
              refine roundC_r ho1 (blockC_r (thenC_r ?_))
              cases h7
              simp [c181]
        · rw [if_neg c181] at h2
          refine q_ifT rfl (by simp [c181]) (zq rfl (zr rfl rfl rfl (by simp; rfl) ?_))
          refine thenC_n (q_ret rfl (thenC_r (blockC_r (thenC_r ?_))))
          obtain ⟨rr1, h3, ho1⟩ := exit_some h2
          have hs1 := hr1 _ ho1
          subst hs1
          refine roundC_r ho1 (blockC_r (thenC_r ?_))
          cases h3
          simp [c181]
end Go.Proofs.YthalofddjlhcjaaDoor
end
section
/- Plain: Parse is what the text says. -/
namespace Go.Proofs.YthalofddjlhcjaaDoor
open Go
set_option linter.unusedVariables false
set_option linter.unusedSimpArgs false
set_option maxHeartbeats 1000000

theorem Cut_cases (l : List UInt8) (h : l.length < 100000000) : ((10 : UInt8) ∉ l ∧ strings_Cut (toBA l) ⟨#[10]⟩ = some (toBA l, ByteArray.empty, false)) ∨
    ∃ p q, l = p ++ (10 : UInt8) :: q ∧ (10 : UInt8) ∉ p ∧ strings_Cut (toBA l) ⟨#[10]⟩ = some (toBA p, toBA q, true) := by
  unfold strings_Cut i_stringslite_Cut
  rw [vIndex_one, Option.bind_some]
  rcases index_cases 10 l with ⟨h1, h2⟩ | ⟨p, q, h1, h2, h3⟩
  · left
    rw [h1, if_neg (by omega)]
    exact ⟨h2, rfl⟩
  · right
    refine ⟨p, q, h1, h2, ?_⟩
    have hl : p.length + 1 ≤ l.length := by rw [h1]; simp
    rw [h3, if_pos (by omega), pieceS_to (by omega), Option.bind_some]
    have e1 : IntKind.i64.wrap ((p.length : Int) + ((⟨#[10]⟩ : ByteArray).size : Int)) = ((p.length + 1 : Nat) : Int) := wrapS (by omega)
    rw [e1, pieceS_from hl, Option.bind_some, Option.bind_some]
    congr 3
    · rw [h1]; simp
    · rw [h1]
      simp
theorem numsV_le {ws : List ByteArray} {l : List Int} (h : numsV ws = some l) : l.length ≤ ws.length := Nat.le_of_eq (numsV_len h)
theorem groups_le : ∀ ws : List ByteArray, (groupsV ws).1.length ≤ ws.length ∧ (groupsV ws).2.length ≤ ws.length ∧ ∀ g ∈ (groupsV ws).2, g.length ≤ ws.length
  | [] => by simp [groupsV]
  | w :: ws => by
    obtain ⟨h1, h2, h3⟩ := groups_le ws
    simp only [groupsV]
    split
    · refine ⟨by simp, by simp; omega, fun g hg => ?_⟩
      rcases List.mem_cons.1 hg with rfl | hg
      · simp only [List.length_cons]; omega
      · have := h3 g hg; simp only [List.length_cons]; omega
    · refine ⟨by simp only [List.length_cons]; omega, by simp only [List.length_cons]; omega, fun g hg => ?_⟩
      have := h3 g hg; simp only [List.length_cons]; omega
theorem lists_le : ∀ {gs : List (List ByteArray)} {ls : List (List Int)} {n : Nat}, listsV gs = some ls → (∀ g ∈ gs, g.length ≤ n) → ls.length ≤ gs.length ∧ ∀ l ∈ ls, l.length ≤ n
  | [], ls, n, h, _ => by cases h; simp
  | g :: gs, ls, n, h, hg => by
    simp only [listsV, Option.bind_eq_some_iff, Option.map_eq_some_iff] at h
    obtain ⟨l, h1, ls', h2, rfl⟩ := h
    obtain ⟨a, b⟩ := lists_le h2 fun x hx => hg x (List.mem_cons_of_mem _ hx)
    refine ⟨by simp only [List.length_cons]; omega, fun x hx => ?_⟩
    rcases List.mem_cons.1 hx with rfl | hx
    · exact Nat.le_trans (numsV_le h1) (hg g List.mem_cons_self)
    · exact b x hx
def RowLe (n : Nat) (r : CRow) : Prop := r.pre.length ≤ n ∧ r.maps.length ≤ n ∧ ∀ m ∈ r.maps, m.length ≤ n
theorem rowV_le {ws : List ByteArray} {r : CRow} {n : Nat} (h : rowV ws = some r) (hn : ws.length ≤ n) : RowLe n r := by
  cases ws with
  | nil => cases h
  | cons w ws =>
    simp only [rowV] at h
    split at h
    · rw [Option.bind_eq_some_iff] at h
      obtain ⟨p, h1, h2⟩ := h
      rw [Option.map_eq_some_iff] at h2
      obtain ⟨ms, h3, rfl⟩ := h2
      obtain ⟨a, b, c⟩ := groups_le ws
      obtain ⟨d, e⟩ := lists_le h3 c
      simp only [List.length_cons] at hn
      have := numsV_le h1
      exact ⟨by simp only; omega, by simp only; omega, fun m hm => by have := e m hm; omega⟩
    · cases h
theorem headV_le {ws : List ByteArray} {l : List Int} (h : headV ws = some l) : l ≠ [] ∧ l.length ≤ ws.length := by
  cases ws with
  | nil => cases h
  | cons w ws =>
    simp only [headV] at h
    split at h
    · split at h
      · rename_i x l' hn
        cases h
        have := numsV_le hn
        exact ⟨by simp, by simp only [List.length_cons] at this ⊢; omega⟩
      · cases h
    · cases h
theorem splitA_len (c : UInt8) : ∀ (l cur : List UInt8), (splitA c l cur).length ≤ l.length + 1 ∧ splitA c l cur ≠ []
  | [], cur => by simp [splitA]
  | b :: l, cur => by
    simp only [splitA]
    split
    · have := splitA_len c l []
      exact ⟨by simp only [List.length_cons]; omega, by simp⟩
    · have := splitA_len c l (cur ++ [b])
      exact ⟨by simp only [List.length_cons]; omega, this.2⟩
theorem splitW_len (l : List UInt8) : (splitW (toBA l)).length ≤ l.length + 1 ∧ splitW (toBA l) ≠ [] := by
  unfold splitW
  have := splitA_len 32 (toBA l).data.toList []
  have e : (toBA l).data.toList = l := by simp [toBA]
  rw [e] at this ⊢
  exact ⟨by simpa using this.1, by simpa using this.2⟩
theorem cb_of {x : Int} {l : List Int} {rows : List CRow} {n : Nat} (hn : n < 4611686018427387904) (h1 : l.length ≤ n) (h2 : rows.length ≤ n) (h3 : ∀ r ∈ rows, RowLe n r) : CB ⟨x, l, rows⟩ :=
  ⟨by simp only; omega, by simp only; omega, fun r hr => by
    obtain ⟨a, b, c⟩ := h3 r hr
    exact ⟨by omega, by omega, fun m hm => by have := c m hm; omega⟩⟩
theorem toBA_empty (l : List UInt8) : toBA l = ByteArray.empty ↔ l = [] := by
  rw [empty_iff]; simp [toBA]
/-- What both readers hold. -/
structure PrI (V : Casc × Int × Int) (l : List UInt8) (ln : Nat) (hd : List Int) (rows : List CRow) : Prop where
  v : linesV (splitA 10 l []) ln hd rows = V
  sz : ln + l.length ≤ 2000000
  hl : hd.length ≤ 2000000
  rl : rows.length ≤ ln
  rb : ∀ r ∈ rows, RowLe 2000000 r
  z : ln = 0 → rows = [] ∧ hd = []
  nz : 0 < ln → hd ≠ []
theorem PrI.cut {V : Casc × Int × Int} {l : List UInt8} {ln : Nat} {hd : List Int} {rows : List CRow} (h : PrI V l ln hd rows) (hc : (10 : UInt8) ∉ l) (hn : ln = 0 ∨ l ≠ []) : V = (zC, (ln : Int), 2) := by
  rw [← h.v, splitA_none hc]
  simp only [linesV, if_true, List.nil_append]
  rw [if_neg (by rintro ⟨a, b⟩; rcases hn with e | e; omega; exact e a)]
theorem PrI.fin {V : Casc × Int × Int} {ln : Nat} {hd : List Int} {rows : List CRow} (h : PrI V [] ln hd rows) (hn : 0 < ln) : V = finV hd rows := by
  rw [← h.v]
  simp [splitA, linesV, hn]
theorem PrI.line {V : Casc × Int × Int} {p q : List UInt8} {ln : Nat} {hd : List Int} {rows : List CRow} (h : PrI V (p ++ (10 : UInt8) :: q) ln hd rows) (hc : (10 : UInt8) ∉ p) :
    V = if ln = 0 then (match headV (splitW (toBA p)) with | some h => linesV (splitA 10 q []) 1 h rows | none => (zC, 0, 2)) else (match rowV (splitW (toBA p)) with | some r => linesV (splitA 10 q []) (ln + 1) hd (rows ++ [r]) | none => (zC, (ln : Int), 2)) := by
  rw [← h.v, splitA_some hc]
  simp only [linesV, List.nil_append]
  rw [if_neg (splitA_len 10 q []).2]
  all_goals rfl
theorem PrI.head {V : Casc × Int × Int} {p q : List UInt8} {hd hd' : List Int} {rows : List CRow} (h : PrI V (p ++ (10 : UInt8) :: q) 0 hd rows) (hc : (10 : UInt8) ∉ p) (hh : headV (splitW (toBA p)) = some hd') : PrI V q 1 hd' rows := by
  have h1 := h.line hc
  rw [if_pos rfl, hh] at h1
  have hs := h.sz
  simp only [List.length_append, List.length_cons] at hs
  have hw := (splitW_len p).1
  obtain ⟨a, b⟩ := headV_le hh
  exact ⟨h1.symm, by omega, by omega, Nat.le_trans h.rl (by omega), h.rb, (fun e => by cases e), fun _ => a⟩
theorem PrI.row {V : Casc × Int × Int} {p q : List UInt8} {ln : Nat} {hd : List Int} {rows : List CRow} {r : CRow} (h : PrI V (p ++ (10 : UInt8) :: q) ln hd rows) (hc : (10 : UInt8) ∉ p) (hn : 0 < ln) (hr : rowV (splitW (toBA p)) = some r) : PrI V q (ln + 1) hd (rows ++ [r]) := by
  have h1 := h.line hc
  rw [if_neg (by omega), hr] at h1
  have hs := h.sz
  simp only [List.length_append, List.length_cons] at hs
  have hw := (splitW_len p).1
  refine ⟨h1.symm, by omega, h.hl, ?_, fun x hx => ?_, (fun e => by cases e), fun _ => h.nz hn⟩
  · have := h.rl; simp only [List.length_append, List.length_singleton]; omega
  · rcases List.mem_append.1 hx with e | e
    · exact h.rb x e
    · rw [List.mem_singleton.1 e]; exact rowV_le hr (by omega)
theorem PrI.start {s : ByteArray} (h : ¬ 1048576 < s.size) : PrI (parseV s) s.data.toList 0 [] [] := by
  refine ⟨?_, by rw [toList_len]; omega, by simp, by simp, by simp, fun _ => ⟨rfl, rfl⟩, fun e => by cases e⟩
  unfold parseV
  rw [if_neg h]
theorem finV_cons {x : Int} {l : List Int} {rows : List CRow} : finV (x :: l) rows = if validE ⟨x, l, rows⟩ = 0 then (⟨x, l, rows⟩, -1, 0) else (zC, 0, validE ⟨x, l, rows⟩) := rfl
def unP (r : (Casc × Int × Int) ⊕ (Casc × Int × Int)) : Casc × Int × Int := match r with | .inl x => x | .inr x => x
/-- Errors come without a cascade. -/
def inlOk (r : (Casc × Int × Int) ⊕ (Casc × Int × Int)) : Prop := match r with | .inl x => x.1 = zC ∧ x.2.2 ≠ 0 | .inr x => x.2.2 = 0
theorem inl_ok {x : Casc × Int × Int} (h1 : x.1 = zC) (h2 : x.2.2 ≠ 0) : inlOk (.inl x) := ⟨h1, h2⟩
theorem inr_ok {x : Casc × Int × Int} (h : x.2.2 = 0) : inlOk (.inr x) := h
theorem Parse_eq (s : ByteArray) : ∃ r, cascade_Parse s = some r ∧ unP r = parseV s ∧ inlOk r := by
  unfold cascade_Parse
  by_cases hs : 1048576 < s.size
  · rw [if_pos (by omega)]
    refine ⟨_, rfl, ?_, inl_ok rfl (by simp)⟩
    unfold parseV
    rw [if_pos hs]
    all_goals rfl
  rw [if_neg (by omega)]
  refine Exists.elim (loopG_rule (b := cascade_Parse_b5) (fun st => ∃ (l : List UInt8) (ln : Nat) (hd : List Int), PrI (parseV s) l ln hd st.2.2.2.2 ∧ st.1 = toBA l ∧ st.2.1 = (ln : Int) ∧ (0 < ln → hd = st.2.2.1 :: st.2.2.2.1)) (fun st => st.1.size) (fun r => unP r = parseV s ∧ inlOk r) ?_ LFm (s, 0, 0, [], []) ⟨s.data.toList, 0, [], PrI.start hs, (toBA_toList s).symm, rfl, fun e => by cases e⟩ (by simp only [LFm]; omega)) fun r hr => ⟨r, hr⟩
  rintro ⟨_, _, x, szs, rows⟩ ⟨l, ln, hd, hI, h1, h2, h3⟩
  simp only at hI h1 h2 h3
  subst h1
  subst h2
  simp only [cascade_Parse_b5]
  have hsz := hI.sz
  have hrl := hI.rl
  by_cases h0 : ln = 0
  · subst h0
    rw [if_pos (by rfl)]
    rcases Cut_cases l (by omega) with ⟨hc, e⟩ | ⟨p, q, rfl, hc, e⟩
    · rw [e]
      right
      refine ⟨_, rfl, ?_, inl_ok rfl (by simp)⟩
      rw [hI.cut hc (.inl rfl)]
      all_goals rfl
    · simp only [List.length_append, List.length_cons] at hsz
      rw [e]
      simp only [Option.bind_some, if_true]
      rw [Split_eq _ (by rw [toBA_size]; omega)]
      simp only [Option.bind_some]
      rw [if_neg (by omega)]
      have hV := hI.line hc
      rw [if_pos rfl] at hV
      obtain ⟨hw1, hw2⟩ := splitW_len p
      have hH := fun hd' hh => hI.head (hd' := hd') hc hh
      generalize splitW (toBA p) = ws at hw1 hw2 hV hH ⊢
      cases ws with
      | nil => exact absurd rfl hw2
      | cons w ws =>
        simp only [List.length_cons] at hw1
        have hp : pieceL (w :: ws) 1 ((w :: ws).length : Int) = some ws := by
          have := piece_at (ws := w :: ws) (b := 1) (i := (w :: ws).length) (by simp) (Nat.le_refl _)
          simpa using this
        rw [hp, Option.bind_some, parseNumbers_eq ws (by omega), Option.bind_some, show atI (w :: ws) 0 = some w from rfl, Option.bind_some]
        by_cases hw : w = ⟨#[99, 97, 115, 99, 97, 100, 101]⟩
        · rw [if_pos hw]
          cases hN : numsV ws with
          | none =>
            right
            refine ⟨_, rfl, ?_, inl_ok rfl (by simp)⟩
            rw [hV]
            simp only [headV, if_pos hw, hN]
            all_goals rfl
          | some nl =>
            simp only [if_true]
            cases nl with
            | nil =>
              right
              refine ⟨_, rfl, ?_, inl_ok rfl (by simp)⟩
              rw [hV]
              simp only [headV, if_pos hw, hN]
              all_goals rfl
            | cons y ys =>
              left
              have hh : headV (w :: ws) = some (y :: ys) := by simp only [headV, if_pos hw, hN]
              have hp2 : pieceL (y :: ys) 1 ((y :: ys).length : Int) = some ys := by
                unfold pieceL
                rw [if_pos (by simp only [List.length_cons]; omega)]
                simp
              rw [if_neg (by simp only [List.length_cons]; omega), show atI (y :: ys) 0 = some y from rfl, Option.bind_some, hp2, Option.bind_some]
              refine ⟨_, rfl, ⟨q, 1, y :: ys, hH _ hh, rfl, rfl, fun _ => rfl⟩, ?_⟩
              simp only [toBA_size, List.length_append, List.length_cons]
              omega
        · rw [if_neg hw]
          right
          refine ⟨_, rfl, ?_, inl_ok rfl (by simp)⟩
          rw [hV]
          simp only [headV, if_neg hw]
          all_goals rfl
  · have hln : 0 < ln := by omega
    have hhd := h3 hln
    rw [if_neg (by omega)]
    by_cases hl : l = []
    · subst hl
      rw [if_pos ((toBA_empty []).2 rfl)]
      right
      have hcb : CB ⟨x, szs, rows⟩ := cb_of (n := 2000000) (by omega) (by have := hI.hl; rw [hhd] at this; simp only [List.length_cons] at this; omega) (by omega) hI.rb
      rw [Validate_eq _ hcb, Option.bind_some, hI.fin hln, hhd, finV_cons]
      by_cases hv : validE ⟨x, szs, rows⟩ = 0
      · rw [if_pos hv, if_pos hv]
        exact ⟨_, rfl, rfl, inr_ok rfl⟩
      · rw [if_neg hv, if_neg hv]
        exact ⟨_, rfl, rfl, inl_ok rfl hv⟩
    · rw [if_neg (fun e => hl ((toBA_empty l).1 e))]
      rcases Cut_cases l (by omega) with ⟨hc, e⟩ | ⟨p, q, rfl, hc, e⟩
      · rw [e]
        right
        refine ⟨_, rfl, ?_, inl_ok rfl (by simp)⟩
        rw [hI.cut hc (.inr hl)]
        all_goals rfl
      · simp only [List.length_append, List.length_cons] at hsz
        rw [e]
        simp only [Option.bind_some, if_true]
        rw [Split_eq _ (by rw [toBA_size]; omega)]
        simp only [Option.bind_some]
        rw [if_pos (by omega)]
        have hV := hI.line hc
        rw [if_neg h0] at hV
        obtain ⟨hw1, hw2⟩ := splitW_len p
        obtain ⟨r, hr1, hr2⟩ := parseRow_eq (splitW (toBA p)) hw2 (by omega)
        rw [hr1]
        simp only [Option.bind_some]
        cases hR : rowV (splitW (toBA p)) with
        | none =>
          right
          rw [hR] at hV
          refine ⟨_, rfl, ?_, inl_ok rfl (by simp)⟩
          rw [hV]
          all_goals rfl
        | some r' =>
          left
          have := hr2 _ hR
          subst this
          simp only [Option.isSome_some, if_true]
          rw [chk_pos _ (by unfold capOk; omega), wrapS (by omega)]
          refine ⟨_, rfl, ⟨q, ln + 1, hd, hI.row hc hln hR, rfl, rfl, fun _ => hhd⟩, ?_⟩
          simp only [toBA_size, List.length_append, List.length_cons]
          omega
end Go.Proofs.YthalofddjlhcjaaDoor
end
section
/- Plain: the tape. -/
namespace Go.Proofs.YthalofddjlhcjaaDoor
open Go
set_option linter.unusedVariables false
set_option linter.unusedSimpArgs false

/-- A tape at a place of it. -/
structure TapeOk (t : Tape) : Prop where
  a0 : 0 ≤ t.at_
  a1 : t.at_ ≤ t.l.length
  a2 : t.l.length ≤ 80
theorem made_Mod_in (x n : Int) (h1 : 1 ≤ n) (h2 : n < 4611686018427387904) : ∃ v, made_Mod x n = some v ∧ 0 ≤ v ∧ v < n := by
  have hx : x.tmod n < n := Int.tmod_lt_of_pos _ (by omega)
  have hy : -n < x.tmod n := Int.lt_tmod_of_pos x (by omega)
  unfold made_Mod
  rw [if_neg (by omega), chk_pos _ (by omega)]
  split
  · rw [wrapI (by omega) (by omega)]; exact ⟨_, rfl, by omega, by omega⟩
  · exact ⟨_, rfl, by omega, by omega⟩
theorem next_in {t : Tape} (ht : TapeOk t) (n : Int) (h1 : 1 ≤ n) (h2 : n < 4611686018427387904) : ∃ v t', made_Tape_Next t n = some (v, t') ∧ 0 ≤ v ∧ v < n ∧ TapeOk t' := by
  obtain ⟨a0, a1, a2⟩ := ht
  unfold made_Tape_Next
  split
  · exact ⟨_, _, rfl, by omega, by omega, a0, a1, a2⟩
  · rename_i hlt
    rw [wrapI (x := t.at_ + 1) (by omega) (by omega), wrapI (by omega) (by omega)]
    obtain ⟨k, hk⟩ := Int.eq_ofNat_of_zero_le a0
    have e : t.at_ + 1 - 1 = (k : Int) := by omega
    rw [e, atI_nat (by omega)]
    obtain ⟨v, hv, h3, h4⟩ := made_Mod_in t.l[k] n h1 h2
    simp only [Option.bind_some, hv]
    exact ⟨_, _, rfl, h3, h4, by simp only; omega, by simp only; omega, a2⟩
theorem new_in (l : List Int) : ∃ t, made_New l = some t ∧ TapeOk t := by
  unfold made_New
  split
  · rename_i h
    have := pieceL_to (xs := l) (k := 80) (by omega)
    simp only [Int.cast_ofNat_Int] at this
    rw [this]
    exact ⟨_, rfl, by simp, by simp, by simp only [List.length_take]; omega⟩
  · exact ⟨_, rfl, by simp, by simp, by simp; omega⟩
/-- Letters of a word. -/
def lettersB (m : Int) (w : ByteArray) : Prop := ∀ k, ∀ h : k < w.size, 97 ≤ (w[k].toNat : Int) ∧ (w[k].toNat : Int) < 97 + m
theorem bytesOf_size (l : List Int) : (bytesOf l).size = l.length := by simp [bytesOf, ByteArray.size]
theorem bytesOf_get (l : List Int) (k : Nat) (h : k < (bytesOf l).size) : (bytesOf l)[k] = UInt8.ofNat (l[k]'(by rw [bytesOf_size] at h; exact h)).toNat := by
  simp [bytesOf, ByteArray.getElem_eq_getElem_data]
theorem word_in {t : Tape} (ht : TapeOk t) (m most : Int) (hm : 1 ≤ m ∧ m ≤ 26) (hk : 0 ≤ most ∧ most < 1000) : ∃ w t', made_Tape_Word t m most = some (w, t') ∧ lettersB m w ∧ (w.size : Int) ≤ most ∧ TapeOk t' := by
  unfold made_Tape_Word
  rw [wrapI (by omega) (by omega)]
  obtain ⟨n, t1, e1, n0, n1, ht1⟩ := next_in ht (most + 1) (by omega) (by omega)
  simp only [e1, Option.bind_some]
  refine Exists.elim (loopG_rule (b := made_Tape_Word_b3 m) (fun s => 0 ≤ s.1 ∧ s.1 + s.2.2.2.length = n ∧ TapeOk ⟨s.2.1, s.2.2.1⟩ ∧ ∀ x ∈ s.2.2.2, 97 ≤ x ∧ x < 97 + m) (fun s => s.1.toNat) (fun r => lettersB m r.1 ∧ (r.1.size : Int) ≤ most ∧ TapeOk r.2) ?_ LFm (n, t1.l, t1.at_, []) ⟨n0, by simp, ht1, by simp⟩ (by simp only [LFm]; omega)) fun r h => ⟨r.1, r.2, h⟩
  rintro ⟨q, l, a, b⟩ ⟨i1, i2, i3, i4⟩
  simp only at i1 i2 i3 i4 ⊢
  simp only [made_Tape_Word_b3]
  by_cases hq : 0 < q
  · left
    obtain ⟨v, t2, e2, v0, v1, ht2⟩ := next_in i3 m (by omega) (by omega)
    rw [if_pos hq, e2]
    simp only [Option.bind_some]
    rw [chk_pos _ (by unfold capOk; omega), wrapI (x := q - 1) (by omega) (by omega), wrapI (x := 97 + v) (by omega) (by omega), wrap8 (by omega) (by omega)]
    refine ⟨_, rfl, ⟨by simp only; omega, by simp only [List.length_append, List.length_singleton]; omega, ht2, ?_⟩, by simp only; omega⟩
    intro x hx
    rcases List.mem_append.1 hx with h | h
    · exact i4 x h
    · have : x = 97 + v := by simpa using h
      omega
  · right
    rw [if_neg hq]
    refine ⟨_, rfl, fun k hk => ?_, by rw [bytesOf_size]; omega, i3⟩
    rw [bytesOf_get]
    have := i4 _ (List.getElem_mem (by rw [bytesOf_size] at hk; exact hk))
    generalize b[k]'_ = z at this
    simp only [UInt8.toNat_ofNat']
    omega
end Go.Proofs.YthalofddjlhcjaaDoor
end
section
/- Plain: steps and the flat form. -/
namespace Go.Proofs.YthalofddjlhcjaaDoor
open Go
set_option linter.unusedVariables false
set_option linter.unusedSimpArgs false

theorem rowIx_findI (c : Casc) (p : List Int) : findI (fun r => decide (r.pre = p)) c.rows = match rowIx c p with | some k => (k : Int) | none => -1 := rfl
/-- A cascade within bounds: what the proofs ask of its size. -/
theorem CB.of {c : Casc} (hv : Valid c) : CB c := by
  have h1 := hv.s1
  have h2 := hv.r1
  refine ⟨by omega, by omega, fun r hr => ?_⟩
  obtain ⟨i, hi, rfl⟩ := List.getElem_of_mem hr
  obtain ⟨f1, f2, f3, f4⟩ := rowB_facts (hv.row i hi)
  have h3 := hv.l2
  refine ⟨by omega, by omega, fun m hm => ?_⟩
  obtain ⟨j, hj, rfl⟩ := List.getElem_of_mem hm
  obtain ⟨g1, -⟩ := f4 j hj
  rw [getD_of_lt _ hj, getD_of_lt _ f1] at g1
  have := hv.sz _ f1
  rw [getD_of_lt _ f1] at this
  omega
theorem Runner_Step_eq (c : Casc) (hv : Valid c) (x : List Int) (l : Int) (hx : x.length < 4611686018427387904) : cascade_Runner_Step ⟨c⟩ x l = some (stepG c x l) := by
  have hcb := CB.of hv
  unfold cascade_Runner_Step stepG
  rw [isTuple_eq _ _ hx]
  simp only [Option.bind_some]
  by_cases ht : tupB c.sizes x = true
  case neg => rw [if_neg ht, if_neg (fun h => ht h.1)]
  rw [if_pos ht]
  by_cases h0 : l < 0
  · rw [if_pos h0, if_neg (by omega)]
  rw [if_neg h0]
  by_cases h1 : c.letters ≤ l
  · rw [if_pos h1, if_neg (by omega)]
  rw [if_neg h1, if_pos ⟨ht, by omega, by omega⟩]
  have hlen : x.length = c.sizes.length ∧ inB c.sizes x = true := by simpa [tupB] using ht
  have hs1 := hv.s1
  rw [chk_pos _ (by unfold makeOk; omega)]
  obtain ⟨n, rfl⟩ := Int.eq_ofNat_of_zero_le (show 0 ≤ l by omega)
  have hlt : (n : Int) < c.letters := by omega
  rw [loop_find (n := x.length) (fun k => ((k : Int), (stV c x n).take k ++ List.replicate (x.length - k) 0)) (fun k => !hasB c.rows (x.take k)) (fun _ => some ([], 23)) (x := some (stV c x n, 0)) (by simp) (by simp only [LFm]; omega)]
  · rw [find_all]
    simp only [Bool.not_not, Int.toNat_natCast]
    unfold stOk
    split <;> rfl
  · intro k hk
    simp only [cascade_Runner_Step_b5]
    rw [if_pos (by omega), atI_nat hk, pieceL_to (by omega)]
    simp only [Option.bind_some]
    rw [Search_eq _ _ hv.up (by exact hv.r1) (fun r hr => (hcb.row r hr).1)]
    simp only [Option.bind_some]
    cases hh : hasB c.rows (x.take k) with
    | false => simp
    | true =>
      obtain ⟨low, s, k1, k2, k3, e1, e2, e3⟩ := step_cell hv ht hlt hk hh
      rw [e1, e2, atI_nat k1]
      simp only [Option.bind_some, if_true]
      rw [atI_nat k2]
      simp only [Option.bind_some]
      rw [atI_nat k3]
      simp only [Option.bind_some]
      have hy : k < ((stV c x n).take k ++ List.replicate (x.length - k) 0).length := by simp [stV_length]; omega
      rw [atI_nat hy, wrapS (by omega)]
      simp only [Option.bind_some, Bool.not_true, Bool.false_eq_true, if_false]
      congr 2
      have hvv : (stV c x n)[k]? = some (stVal c x n k) := stV_get c x n k hk
      have hl := stV_length c x n
      rw [Int.toNat_natCast, ← e3, List.set_append_right _ _ (by simp; omega)]
      have e : k - (List.take k (stV c x n)).length = 0 := by simp; omega
      rw [e, List.take_add_one, hvv]
      obtain ⟨m, hm⟩ : ∃ m, x.length - k = m + 1 := ⟨x.length - k - 1, by omega⟩
      rw [hm, show x.length - (k + 1) = m by omega]
      simp [List.replicate_succ]
  · simp only [cascade_Runner_Step_b5]
    rw [if_neg (by omega)]
    simp [List.take_of_length_le (Nat.le_of_eq (stV_length c x n))]
theorem step_eq (c : Casc) (hv : Valid c) (x : List Int) (l : Int) (ht : tupB c.sizes x = true) (h0 : 0 ≤ l) (h1 : l < c.letters) : ref26_step c x l = some (stepG c x l) := by
  have hcb := CB.of hv
  have hlen : x.length = c.sizes.length ∧ inB c.sizes x = true := by simpa [tupB] using ht
  have hs1 := hv.s1
  unfold ref26_step stepG
  rw [if_pos ⟨ht, h0, h1⟩]
  obtain ⟨n, rfl⟩ := Int.eq_ofNat_of_zero_le h0
  rw [loop_find (n := x.length) (fun k => ((k : Int), (stV c x n).take k)) (fun k => !hasB c.rows (x.take k)) (fun _ => some ([], 23)) (x := some (stV c x n, 0)) (by simp) (by simp only [LFm]; omega)]
  · rw [find_all]
    simp only [Bool.not_not, Int.toNat_natCast]
    unfold stOk
    split <;> rfl
  · intro k hk
    simp only [ref26_step_b3]
    rw [if_pos (by omega), pieceL_to (by omega)]
    simp only [Option.bind_some]
    rw [Row_eq _ _ hcb, rowIx_findI]
    simp only [Option.bind_some]
    cases hh : hasB c.rows (x.take k) with
    | false => rw [rowIx_none hh]; simp
    | true =>
      obtain ⟨low, s, k1, k2, k3, e1, e2, e3⟩ := step_cell hv ht h1 hk hh
      rw [rowIx_has hv.up hh, e1]
      simp only
      rw [if_neg (by omega), atI_nat k1]
      simp only [Option.bind_some]
      rw [atI_nat k2]
      simp only [Option.bind_some]
      rw [atI_nat hk]
      simp only [Option.bind_some]
      rw [e2, atI_nat k3]
      simp only [Option.bind_some]
      have hl := stV_length c x n
      rw [chk_pos _ (by unfold capOk; simp; omega), wrapS (by omega)]
      simp only [Bool.not_true, Bool.false_eq_true, if_false]
      have hvv : (stV c x n)[k]? = some (stVal c x n k) := stV_get c x n k hk
      rw [List.take_add_one, hvv, e3]
      rfl
  · simp only [ref26_step_b3]
    rw [if_neg (by omega)]
    simp [List.take_of_length_le (Nat.le_of_eq (stV_length c x n))]
end Go.Proofs.YthalofddjlhcjaaDoor
end
