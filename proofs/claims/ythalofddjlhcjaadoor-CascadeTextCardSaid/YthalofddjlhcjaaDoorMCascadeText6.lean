/- Proved here: the law CascadeText returns true for every input, and its arguments read afterwards as before; the row's listed tables are tied to the program's text by the given tie. No other condition. -/
import Derived.Test.YthalofddjlhcjaaDoorMCascadeText5
import Derived.Shelf.Small.Wraps
import Derived.Shelf.Utf8.RuneCount
import Derived.Shelf.Strconv.Itoa0
import Derived.Shelf.Strconv.Itoa1
import Derived.Shelf.LaysM
import Derived.Shelf.Strconv.Itoa2
import Derived.Shelf.Strings.Search1
import Derived.Shelf.Strings.Search2
import Derived.Shelf.Strings.Search3
import Derived.Shelf.Strings.Cut
import Derived.Shelf.Strings.Count
import Derived.Shelf.Strings.Shaped
import Derived.Shelf.Strconv.AppendUint10
import Derived.Shelf.Strconv.AppendInt10
import Derived.Shelf.Strconv.AppendIntPublic10
import Derived.Shelf.Strings.Split
import Derived.Shelf.Strings.SplitShaped
import Derived.Shelf.Unicode.Decode
import Derived.Shelf.Strings.RuneCount
import Derived.Shelf.Strings.Explode
import Derived.Shelf.Unicode.DecodeSlow
import Derived.Shelf.Unicode.DecodeAny
import Derived.Ground.Names2Prog
import Derived.Shelf.Slices.Clone
import Derived.Shelf.Slices.SearchI
import Derived.Test.YthalofddjlhcjaaDoorProg
import Derived.ChangeOld
import Derived.ChangeReads
import Derived.Below
import Derived.ChangeSlices
import Derived.Deep.Grids
import Derived.WideShapes
import Derived.WalkKit
import Derived.ProofKit
import Derived.Test.YthalofddjlhcjaaDoorCards
import Derived.Test.YthalofddjlhcjaaDoorTie
import Derived.OpenShut
import Derived.ShutString
import Derived.Deep.DeepHandedRow
set_option linter.unusedVariables false
set_option linter.unusedSimpArgs false
section
/- Functions by value: program. -/
namespace Go.Proofs.YthalofddjlhcjaaDoor
open Go
set_option maxRecDepth 100000
set_option maxHeartbeats 4000000
set_option linter.unusedVariables false
set_option linter.unusedSimpArgs false



-- semigroup/semigroupref26.Same
def ref26_Same_b4 (a0 : Casc) (a1 : Casc) : Int → Option (Int ⊕ Bool)
  | w28 =>
  if w28 < (a0.rows.length : Int) then
    (atI a0.rows w28).bind fun v35 =>
    (atI a1.rows w28).bind fun v36 =>
    (ref03_Same v35.pre v36.pre).bind fun v37 =>
    if v37 = true then
      (ref03_SameRows v35.maps v36.maps).bind fun v40 =>
      if v40 = true then
        nextG (IntKind.i64.wrap (w28 + 1))
      else
        exitG <|
        some false
    else
      exitG <|
      some false
  else
    exitG <|
    some true
def ref26_Same_h4 (a0 : Casc) (a1 : Casc) : Int → Fr
  | w28 => ⟨65, [(2, .one (.a 2 [] (0))), (3, .one (.a 3 [] (0))), (30, .one (.t none (.sc (.int .i64 (a0.rows.length : Int))))), (31, .one (.t none (.sc (.int .i64 w28))))], [(2, .vr [.sc (.int .i64 a0.letters), .sl a0.sizes.length (a0.sizes.map fun x0 => .sc (.int .i64 x0)), .sl a0.rows.length (a0.rows.flatMap fun x0 => [.sl x0.pre.length (x0.pre.map fun x1 => .sc (.int .i64 x1)), .sl x0.maps.length (x0.maps.map fun x1 => .sl x1.length (x1.map fun x2 => .sc (.int .i64 x2)))])]), (3, .vr [.sc (.int .i64 a1.letters), .sl a1.sizes.length (a1.sizes.map fun x0 => .sc (.int .i64 x0)), .sl a1.rows.length (a1.rows.flatMap fun x0 => [.sl x0.pre.length (x0.pre.map fun x1 => .sc (.int .i64 x1)), .sl x0.maps.length (x0.maps.map fun x1 => .sl x1.length (x1.map fun x2 => .sc (.int .i64 x2)))])])]⟩
def ref26_Same (a0 : Casc) (a1 : Casc) : Option (Bool) :=
  if a0.letters = a1.letters then
    (ref03_Same a0.sizes a1.sizes).bind fun v21 =>
    if v21 = true then
      if (a0.rows.length : Int) = (a1.rows.length : Int) then
        loopG (ref26_Same_b4 a0 a1) LFm 0
      else
        some false
    else
      some false
  else
    some false
theorem ref26_Same_ok {a0 : Casc} {a1 : Casc} {r : Bool} (h0 : ref26_Same a0 a1 = some r) : L 27 [.agg [.sc (.int .i64 a0.letters), .sl a0.sizes.length (a0.sizes.map fun x0 => .sc (.int .i64 x0)), .sl a0.rows.length (a0.rows.flatMap fun x0 => [.sl x0.pre.length (x0.pre.map fun x1 => .sc (.int .i64 x1)), .sl x0.maps.length (x0.maps.map fun x1 => .sl x1.length (x1.map fun x2 => .sc (.int .i64 x2)))])], .agg [.sc (.int .i64 a1.letters), .sl a1.sizes.length (a1.sizes.map fun x0 => .sc (.int .i64 x0)), .sl a1.rows.length (a1.rows.flatMap fun x0 => [.sl x0.pre.length (x0.pre.map fun x1 => .sc (.int .i64 x1)), .sl x0.maps.length (x0.maps.map fun x1 => .sl x1.length (x1.map fun x2 => .sc (.int .i64 x2)))])]] = some (.sc (.bool r), [.dead, .dead]) := by
  simp only [ref26_Same] at h0
  refine L_run cfn27 fn27 (runF_of bd27 ⟨of_decide_eq_true rfl, of_decide_eq_true rfl⟩ ?_)
  simp only [entryF, entryT, entryO, entryE, isIo]
  refine zq rfl (zr rfl rfl rfl (by simp; rfl) ?_)
  refine thenC_n (zq rfl (zq rfl ?_))
  by_cases c26 : a0.letters = a1.letters
  · rw [if_pos c26] at h0
    have c26e := eq_true c26
    obtain ⟨v21, f27, h1⟩ := bnd_some h0
    have f27k := ref03_Same_ok f27
    try simp at f27k
    by_cases c28 : v21 = true
    · rw [if_pos c28] at h1
      refine zr rfl rfl rfl (by simp [c26e, f27k, c28]; rfl) ?_
      refine thenC_n ?_
      by_cases c29 : (a0.rows.length : Int) = (a1.rows.length : Int)
      · rw [if_pos c29] at h1
        have c29e := eq_true c29
        refine q_ifF rfl (by simp [c29e]) (q_skip rfl (thenC_n (zq rfl (zq rfl (zr rfl rfl rfl (by simp; rfl) ?_)))))
        refine thenC_n (zb rfl (q_loopG h1 (ref26_Same_h4 a0 a1) rfl rfl (by simp [ref26_Same_h4]) fun s o1 h2 hr1 => ?_))
        obtain ⟨w28, hs1⟩ : ∃ y, y = s := ⟨_, rfl⟩
        subst hs1
        simp only [ref26_Same_b4] at h2
        simp only [ref26_Same_h4]
        refine zq rfl (zr rfl rfl rfl (by simp; rfl) ?_)
        refine thenC_n (zq rfl ?_)
        by_cases c44 : w28 < (a0.rows.length : Int)
        · rw [if_pos c44] at h2
          refine q_ifT rfl (by simp [c44]) (q_skip rfl (thenC_n (zq rfl (zb rfl (zq rfl (zr rfl rfl rfl (by simp; rfl) ?_))))))
          refine thenC_n (zq rfl ?_)
          obtain ⟨v35, f45, h3⟩ := bnd_some h2
          obtain ⟨f45a, f45b, f45c, f45d, f45e⟩ := atI_some f45
          have f45g := flat_some (g := fun x : CRow => ([.sl x.pre.length (x.pre.map fun x0 => .sc (.int .i64 x0)), .sl x.maps.length (x.maps.map fun x0 => .sl x0.length (x0.map fun x1 => .sc (.int .i64 x1)))] : List T)) (m := 2) (fun _ => rfl) f45d
          have f45h := flat_len (g := fun x : CRow => ([.sl x.pre.length (x.pre.map fun x0 => .sc (.int .i64 x0)), .sl x.maps.length (x.maps.map fun x0 => .sl x0.length (x0.map fun x1 => .sc (.int .i64 x1)))] : List T)) (m := 2) (fun _ => rfl) a0.rows
          have f45k0 := f45g.2.2.1 0 (by decide)
          have f45m0 := f45g.2.2.2 0 _ rfl
          have f45k1 := f45g.2.2.1 1 (by decide)
          have f45m1 := f45g.2.2.2 1 _ rfl
          obtain ⟨f45g, f45i, -⟩ := f45g
          try simp at f45i f45h f45k0 f45m0 f45k1 f45m1
          obtain ⟨v36, f46, h4⟩ := bnd_some h3
          obtain ⟨f46a, f46b, f46c, f46d, f46e⟩ := atI_some f46
          have f46g := flat_some (g := fun x : CRow => ([.sl x.pre.length (x.pre.map fun x0 => .sc (.int .i64 x0)), .sl x.maps.length (x.maps.map fun x0 => .sl x0.length (x0.map fun x1 => .sc (.int .i64 x1)))] : List T)) (m := 2) (fun _ => rfl) f46d
          have f46h := flat_len (g := fun x : CRow => ([.sl x.pre.length (x.pre.map fun x0 => .sc (.int .i64 x0)), .sl x.maps.length (x.maps.map fun x0 => .sl x0.length (x0.map fun x1 => .sc (.int .i64 x1)))] : List T)) (m := 2) (fun _ => rfl) a1.rows
          have f46k0 := f46g.2.2.1 0 (by decide)
          have f46m0 := f46g.2.2.2 0 _ rfl
          have f46k1 := f46g.2.2.1 1 (by decide)
          have f46m1 := f46g.2.2.2 1 _ rfl
          obtain ⟨f46g, f46i, -⟩ := f46g
          try simp at f46i f46h f46k0 f46m0 f46k1 f46m1
          obtain ⟨v37, f47, h5⟩ := bnd_some h4
          have f47k := ref03_Same_ok f47
          try simp at f47k
          by_cases c48 : v37 = true
          · rw [if_pos c48] at h5
            obtain ⟨v40, f49, h6⟩ := bnd_some h5
            have f49k := ref03_SameRows_ok f49
            try simp at f49k
            refine q_drawW rfl rfl rfl rfl ?_; repeat' (first | (refine q_drawW_op rfl rfl fun Q' hQ => ?_; simp [f45a, f45b, f45c, f45d, f45e, f45g, f45i, f45h, f45k0, f45k1, f45m0, f45m1, f46a, f46b, f46c, f46d, f46e, f46g, f46i, f46h, f46k0, f46k1, f46m0, f46m1, f47k, c48, f49k]; refine hQ.out _ ?_; clear hQ; clear Q') | (refine q_drawW_guard rfl rfl fun Q1 Q2 h1 h2 => ?_; simp [f45a, f45b, f45c, f45d, f45e, f45g, f45i, f45h, f45k0, f45k1, f45m0, f45m1, f46a, f46b, f46c, f46d, f46e, f46g, f46i, f46h, f46k0, f46k1, f46m0, f46m1, f47k, c48, f49k, twoB_some]; (first | refine h1.out ?_ | refine h2.out ?_); clear h1 h2; clear Q1 Q2; intro Q' hQ; simp [f45a, f45b, f45c, f45d, f45e, f45g, f45i, f45h, f45k0, f45k1, f45m0, f45m1, f46a, f46b, f46c, f46d, f46e, f46g, f46i, f46h, f46k0, f46k1, f46m0, f46m1, f47k, c48, f49k]; refine hQ.out _ ?_; clear hQ; clear Q') | (refine q_drawW_nil rfl fun Q' hQ => ?_; simp [f45a, f45b, f45c, f45d, f45e, f45g, f45i, f45h, f45k0, f45k1, f45m0, f45m1, f46a, f46b, f46c, f46d, f46e, f46g, f46i, f46h, f46k0, f46k1, f46m0, f46m1, f47k, c48, f49k]; refine hQ.out _ ?_; clear hQ; clear Q'))
            refine thenC_n ?_
            by_cases c50 : v40 = true
            · rw [if_pos c50] at h6
              refine q_ifF rfl (by simp [c50]) (q_skip rfl (blockC_n (thenC_n (zr rfl rfl rfl (by simp; rfl) ?_))))
              have ho := next_some h6
              refine roundC_n ho ?_
              simp [ref26_Same_h4, c48, c50]
            · rw [if_neg c50] at h6
              refine q_ifT rfl (by simp [c50]) (zq rfl (zr rfl rfl rfl (by simp; rfl) ?_))
              refine thenC_n (q_ret rfl (blockC_r (thenC_r ?_)))
              obtain ⟨rr1, h7, ho1⟩ := exit_some h6
              have hs1 := hr1 _ ho1
              subst hs1
              refine roundC_r ho1 (blockC_r (thenC_r ?_))
              cases h7
              simp [c48, c50]
          · rw [if_neg c48] at h5
            refine q_drawW rfl rfl rfl rfl ?_; repeat' (first | (refine q_drawW_op rfl rfl fun Q' hQ => ?_; simp [f45a, f45b, f45c, f45d, f45e, f45g, f45i, f45h, f45k0, f45k1, f45m0, f45m1, f46a, f46b, f46c, f46d, f46e, f46g, f46i, f46h, f46k0, f46k1, f46m0, f46m1, f47k, c48]; refine hQ.out _ ?_; clear hQ; clear Q') | (refine q_drawW_guard rfl rfl fun Q1 Q2 h1 h2 => ?_; simp [f45a, f45b, f45c, f45d, f45e, f45g, f45i, f45h, f45k0, f45k1, f45m0, f45m1, f46a, f46b, f46c, f46d, f46e, f46g, f46i, f46h, f46k0, f46k1, f46m0, f46m1, f47k, c48, twoB_some]; (first | refine h1.out ?_ | refine h2.out ?_); clear h1 h2; clear Q1 Q2; intro Q' hQ; simp [f45a, f45b, f45c, f45d, f45e, f45g, f45i, f45h, f45k0, f45k1, f45m0, f45m1, f46a, f46b, f46c, f46d, f46e, f46g, f46i, f46h, f46k0, f46k1, f46m0, f46m1, f47k, c48]; refine hQ.out _ ?_; clear hQ; clear Q') | (refine q_drawW_nil rfl fun Q' hQ => ?_; simp [f45a, f45b, f45c, f45d, f45e, f45g, f45i, f45h, f45k0, f45k1, f45m0, f45m1, f46a, f46b, f46c, f46d, f46e, f46g, f46i, f46h, f46k0, f46k1, f46m0, f46m1, f47k, c48]; refine hQ.out _ ?_; clear hQ; clear Q'))
            refine thenC_n (q_ifT rfl (by simp) (zq rfl (zr rfl rfl rfl (by simp; rfl) ?_)))
            refine thenC_n (q_ret rfl (blockC_r (thenC_r ?_)))
            obtain ⟨rr1, h6, ho1⟩ := exit_some h5
            have hs1 := hr1 _ ho1
            subst hs1
            refine roundC_r ho1 (blockC_r (thenC_r ?_))
            cases h6
            simp [c48]
        · rw [if_neg c44] at h2
          refine q_ifF rfl (by simp [c44]) (q_exit rfl (thenC_x ?_))
          obtain ⟨rr1, h3, ho1⟩ := exit_some h2
          have hs1 := hr1 _ ho1
          subst hs1
          refine roundC_x ho1 (blockC_hit2 rfl (thenC_n (zq rfl (zr rfl rfl rfl (by simp; rfl) ?_))))
          refine thenC_n (q_ret rfl ?_)
          cases h3
          simp
      · rw [if_neg c29] at h1
        have c29e := eq_false c29
        refine q_ifT rfl (by simp [c29e]) (zq rfl (zr rfl rfl rfl (by simp; rfl) ?_))
        refine thenC_n (q_ret rfl (thenC_r ?_))
        cases h1
        simp [c28]
    · rw [if_neg c28] at h1
      refine zr rfl rfl rfl (by simp [c26e, f27k, c28]; rfl) ?_
      refine thenC_n (q_ifT rfl (by simp) (zq rfl (zr rfl rfl rfl (by simp; rfl) ?_)))
      refine thenC_n (q_ret rfl (thenC_r ?_))
      cases h1
      simp [c28]
  · rw [if_neg c26] at h0
    have c26e := eq_false c26
    refine zr rfl rfl rfl (by simp [c26e]; rfl) ?_
    refine thenC_n (q_ifT rfl (by simp) (zq rfl (zr rfl rfl rfl (by simp; rfl) ?_)))
    refine thenC_n (q_ret rfl (thenC_r ?_))
    cases h0
    simp

-- semigroup/semigrouplaw26.CascadeText
def law26_CascadeText (a0 : ByteArray) (a1 : List Int) (a2 : Int) (a3 : Int) (a4 : Int) : Option (Bool) :=
  if 300 < (a0.size : Int) then
    some true
  else
    (cascade_Parse a0).bind fun v35 =>
    (ref26_Parse a0).bind fun v36 =>
    if v35.2.2 = v36.2.2 then
      if v35.2.1 = v36.2.1 then
        (ref26_Same v35.1 v36.1).bind fun v37 =>
        if v37 = true then
          (made_New a1).bind fun v38 =>
          (law26_build v38).bind fun v39 =>
          (ref26_Format v39.1).bind fun v40 =>
          (made_Mod a2 (IntKind.i64.wrap ((v40.1.size : Int) + 1))).bind fun v41 =>
          (made_Mod a4 4).bind fun v42 =>
          if v42 = 0 then
            (pieceS v40.1 0 v41).bind fun v43 =>
            (cascade_Parse v43).bind fun v44 =>
            (ref26_Parse v43).bind fun v45 =>
            if v44.2.2 = v45.2.2 then
              if v44.2.1 = v45.2.1 then
                (ref26_Same v44.1 v45.1).bind fun v46 =>
                if v46 = true then
                  (xKnown).bind fun v47 =>
                  some v47
                else
                  some false
              else
                some false
            else
              some false
          else
            if v42 = 1 then
              (pieceS v40.1 0 v41).bind fun v48 =>
              (pieceS v40.1 v41 (v40.1.size : Int)).bind fun v49 =>
              chk (catOk v48 ⟨#[UInt8.ofNat (a3).toNat]⟩) <|
              chk (catOk (v48 ++ ⟨#[UInt8.ofNat (a3).toNat]⟩) v49) <|
              (cascade_Parse ((v48 ++ ⟨#[UInt8.ofNat (a3).toNat]⟩) ++ v49)).bind fun v50 =>
              (ref26_Parse ((v48 ++ ⟨#[UInt8.ofNat (a3).toNat]⟩) ++ v49)).bind fun v51 =>
              if v50.2.2 = v51.2.2 then
                if v50.2.1 = v51.2.1 then
                  (ref26_Same v50.1 v51.1).bind fun v52 =>
                  if v52 = true then
                    (xKnown).bind fun v53 =>
                    some v53
                  else
                    some false
                else
                  some false
              else
                some false
            else
              if v42 = 2 then
                if v41 < (v40.1.size : Int) then
                  (pieceS v40.1 0 v41).bind fun v54 =>
                  (pieceS ⟨#[32, 48, 59, 45, 49, 114, 99, 10]⟩ (Int.tmod (IntKind.i64.wrap a3) 8) (IntKind.i64.wrap ((Int.tmod (IntKind.i64.wrap a3) 8) + 1))).bind fun v55 =>
                  chk (catOk v54 v55) <|
                  (pieceS v40.1 (IntKind.i64.wrap (v41 + 1)) (v40.1.size : Int)).bind fun v56 =>
                  chk (catOk (v54 ++ v55) v56) <|
                  (cascade_Parse ((v54 ++ v55) ++ v56)).bind fun v57 =>
                  (ref26_Parse ((v54 ++ v55) ++ v56)).bind fun v58 =>
                  if v57.2.2 = v58.2.2 then
                    if v57.2.1 = v58.2.1 then
                      (ref26_Same v57.1 v58.1).bind fun v59 =>
                      if v59 = true then
                        (xKnown).bind fun v60 =>
                        some v60
                      else
                        some false
                    else
                      some false
                  else
                    some false
                else
                  (cascade_Parse v40.1).bind fun v61 =>
                  (ref26_Parse v40.1).bind fun v62 =>
                  if v61.2.2 = v62.2.2 then
                    if v61.2.1 = v62.2.1 then
                      (ref26_Same v61.1 v62.1).bind fun v63 =>
                      if v63 = true then
                        (xKnown).bind fun v64 =>
                        some v64
                      else
                        some false
                    else
                      some false
                  else
                    some false
              else
                (cascade_Parse v40.1).bind fun v65 =>
                (ref26_Parse v40.1).bind fun v66 =>
                if v65.2.2 = v66.2.2 then
                  if v65.2.1 = v66.2.1 then
                    (ref26_Same v65.1 v66.1).bind fun v67 =>
                    if v67 = true then
                      (xKnown).bind fun v68 =>
                      some v68
                    else
                      some false
                  else
                    some false
                else
                  some false
        else
          some false
      else
        some false
    else
      some false
theorem law26_CascadeText_ok {a0 : ByteArray} {a1 : List Int} {a2 : Int} {a3 : Int} {a4 : Int} {r : Bool} (h0 : law26_CascadeText a0 a1 a2 a3 a4 = some r) : L 9 [.sc (.string a0), .sl a1.length (a1.map fun x0 => .sc (.int .i64 x0)), .sc (.int .i64 a2), .sc (.int .u8 a3), .sc (.int .i64 a4)] = some (.sc (.bool r), [.dead, .dead, .dead, .dead, .dead]) := by
  simp only [law26_CascadeText] at h0
  refine L_run cfn9 fn9 (runF_of bd9 ⟨of_decide_eq_true rfl, of_decide_eq_true rfl⟩ ?_)
  simp only [entryF, entryT, entryO, entryE, isIo]
  refine zq rfl (zr rfl rfl rfl (by simp; rfl) ?_)
  refine thenC_n (zq rfl (zq rfl (zr rfl rfl rfl (by simp; rfl) ?_)))
  refine thenC_n ?_
  by_cases c62 : 300 < (a0.size : Int)
  · rw [if_pos c62] at h0
    refine q_ifT rfl (by simp [c62]) (zq rfl (zr rfl rfl rfl (by simp; rfl) ?_))
    refine thenC_n (q_ret rfl (thenC_r ?_))
    cases h0
    simp
  · rw [if_neg c62] at h0
    refine q_ifF rfl (by simp [c62]) (q_skip rfl (thenC_n (zq rfl ?_)))
    obtain ⟨v35, f63, h1⟩ := bnd_some h0
    have f63k := cascade_Parse_ok f63
    try simp at f63k
    refine zr rfl rfl rfl (by simp [f63k]; rfl) ?_
    refine thenC_n (zq rfl ?_)
    obtain ⟨v36, f64, h2⟩ := bnd_some h1
    have f64k := ref26_Parse_ok f64
    try simp at f64k
    refine zr rfl rfl rfl (by simp [f64k]; rfl) ?_
    refine thenC_n (zq rfl (zq rfl ?_))
    by_cases c65 : v35.2.2 = v36.2.2
    · rw [if_pos c65] at h2
      have c65e := eq_true c65
      by_cases c66 : v35.2.1 = v36.2.1
      · rw [if_pos c66] at h2
        have c66e := eq_true c66
        obtain ⟨v37, f67, h3⟩ := bnd_some h2
        have f67k := ref26_Same_ok f67
        try simp at f67k
        refine zr rfl rfl rfl (by simp [c65e, c66e, f67k]; rfl) ?_
        refine thenC_n ?_
        by_cases c68 : v37 = true
        · rw [if_pos c68] at h3
          refine q_ifF rfl (by simp [c68]) (q_skip rfl (thenC_n (zq rfl ?_)))
          obtain ⟨v38, f69, h4⟩ := bnd_some h3
          have f69k := made_New_ok f69
          try simp at f69k
          obtain ⟨v39, f70, h5⟩ := bnd_some h4
          have f70k := law26_build_ok f70
          try simp at f70k
          obtain ⟨v40, f71, h6⟩ := bnd_some h5
          have f71k := ref26_Format_ok f71
          try simp at f71k
          refine zr rfl rfl rfl (by simp [f69k, f70k, f71k]; rfl) ?_
          refine thenC_n (zq rfl ?_)
          obtain ⟨v41, f72, h7⟩ := bnd_some h6
          have f72k := made_Mod_ok f72
          try simp at f72k
          refine zr rfl rfl rfl (by simp [f72k]; rfl) ?_
          refine thenC_n (zq rfl (zq rfl ?_))
          obtain ⟨v42, f73, h8⟩ := bnd_some h7
          have f73k := made_Mod_ok f73
          try simp at f73k
          refine zr rfl rfl rfl (by simp [f73k]; rfl) ?_
          refine thenC_n (zb rfl (zq rfl (zr rfl rfl rfl (by simp; rfl) ?_)))
          refine thenC_n ?_
          by_cases c74 : v42 = 0
          · rw [if_pos c74] at h8
            have c74e := eq_true c74
            refine q_ifT rfl (by simp [c74e]) ?_
            obtain ⟨v43, f75, h9⟩ := bnd_some h8
            obtain ⟨f75a, f75b, f75c, f75d⟩ := pieceS_some f75
            obtain ⟨f75e, f75f⟩ := piece_hi f75a f75b
            have f75d := f75d.symm
            try simp only [Int.reduceToNat, Int.toNat_natCast] at f75d
            refine zr rfl rfl rfl (by simp [f75a, f75b, f75c, f75d, f75e, f75f]; rfl) ?_
            refine blockC_n (thenC_n (zq rfl ?_))
            obtain ⟨v44, f76, h10⟩ := bnd_some h9
            have f76k := cascade_Parse_ok f76
            try simp at f76k
            refine zr rfl rfl rfl (by simp [f76k]; rfl) ?_
            refine thenC_n (zq rfl ?_)
            obtain ⟨v45, f77, h11⟩ := bnd_some h10
            have f77k := ref26_Parse_ok f77
            try simp at f77k
            refine zr rfl rfl rfl (by simp [f77k]; rfl) ?_
            refine thenC_n (zq rfl ?_)
            by_cases c78 : v44.2.2 = v45.2.2
            · rw [if_pos c78] at h11
              have c78e := eq_true c78
              by_cases c79 : v44.2.1 = v45.2.1
              · rw [if_pos c79] at h11
                have c79e := eq_true c79
                obtain ⟨v46, f80, h12⟩ := bnd_some h11
                have f80k := ref26_Same_ok f80
                try simp at f80k
                by_cases c81 : v46 = true
                · rw [if_pos c81] at h12
                  obtain ⟨v47, f82, h13⟩ := bnd_some h12
                  have f82k := xKnown_ok f82
                  try simp at f82k
                  refine zr rfl rfl rfl (by simp [c78e, c79e, f80k, c81, f82k]; rfl) ?_
                  refine thenC_n (q_ret rfl ?_)
                  cases h13
                  simp [c68, c81]
                · rw [if_neg c81] at h12
                  refine zr rfl rfl rfl (by simp [c78e, c79e, f80k, c81]; rfl) ?_
                  refine thenC_n (q_ret rfl ?_)
                  cases h12
                  simp [c68, c81]
              · rw [if_neg c79] at h11
                have c79e := eq_false c79
                refine zr rfl rfl rfl (by simp [c78e, c79e]; rfl) ?_
                refine thenC_n (q_ret rfl ?_)
                cases h11
                simp [c68]
            · rw [if_neg c78] at h11
              have c78e := eq_false c78
              refine zr rfl rfl rfl (by simp [c78e]; rfl) ?_
              refine thenC_n (q_ret rfl ?_)
              cases h11
              simp [c68]
          · rw [if_neg c74] at h8
            have c74e := eq_false c74
            refine q_ifF rfl (by simp [c74e]) (zq rfl (zr rfl rfl rfl (by simp; rfl) ?_))
            refine thenC_n ?_
            by_cases c83 : v42 = 1
            · rw [if_pos c83] at h8
              have c83e := eq_true c83
              refine q_ifT rfl (by simp [c83e]) ?_
              obtain ⟨v48, f84, h9⟩ := bnd_some h8
              obtain ⟨f84a, f84b, f84c, f84d⟩ := pieceS_some f84
              obtain ⟨f84e, f84f⟩ := piece_hi f84a f84b
              have f84d := f84d.symm
              try simp only [Int.reduceToNat, Int.toNat_natCast] at f84d
              obtain ⟨v49, f85, h10⟩ := bnd_some h9
              obtain ⟨f85a, f85b, f85c, f85d⟩ := pieceS_some f85
              obtain ⟨f85e, f85f⟩ := piece_hi f85a f85b
              have f85d := f85d.symm
              try simp only [Int.reduceToNat, Int.toNat_natCast] at f85d
              obtain ⟨f86, h11⟩ := chk_some h10
              obtain ⟨f87, h12⟩ := chk_some h11
              refine q_drawW rfl rfl rfl rfl ?_; repeat' (first | (refine q_drawW_op rfl rfl fun Q' hQ => ?_; simp [f84a, f84b, f84c, f84d, f84e, f84f, f85a, f85b, f85c, f85d, f85e, f85f, f86, f87]; refine hQ.out _ ?_; clear hQ; clear Q') | (refine q_drawW_guard rfl rfl fun Q1 Q2 h1 h2 => ?_; simp [f84a, f84b, f84c, f84d, f84e, f84f, f85a, f85b, f85c, f85d, f85e, f85f, f86, f87, twoB_some]; (first | refine h1.out ?_ | refine h2.out ?_); clear h1 h2; clear Q1 Q2; intro Q' hQ; simp [f84a, f84b, f84c, f84d, f84e, f84f, f85a, f85b, f85c, f85d, f85e, f85f, f86, f87]; refine hQ.out _ ?_; clear hQ; clear Q') | (refine q_drawW_nil rfl fun Q' hQ => ?_; simp [f84a, f84b, f84c, f84d, f84e, f84f, f85a, f85b, f85c, f85d, f85e, f85f, f86, f87]; refine hQ.out _ ?_; clear hQ; clear Q'))
              refine blockC_n (thenC_n (zq rfl ?_))
              obtain ⟨v50, f88, h13⟩ := bnd_some h12
              have f88k := cascade_Parse_ok f88
              try simp at f88k
              refine zr rfl rfl rfl (by simp [f88k]; rfl) ?_
              refine thenC_n (zq rfl ?_)
              obtain ⟨v51, f89, h14⟩ := bnd_some h13
              have f89k := ref26_Parse_ok f89
              try simp at f89k
              refine zr rfl rfl rfl (by simp [f89k]; rfl) ?_
              refine thenC_n (zq rfl ?_)
              by_cases c90 : v50.2.2 = v51.2.2
              · rw [if_pos c90] at h14
                have c90e := eq_true c90
                by_cases c91 : v50.2.1 = v51.2.1
                · rw [if_pos c91] at h14
                  have c91e := eq_true c91
                  obtain ⟨v52, f92, h15⟩ := bnd_some h14
                  have f92k := ref26_Same_ok f92
                  try simp at f92k
                  by_cases c93 : v52 = true
                  · rw [if_pos c93] at h15
                    obtain ⟨v53, f94, h16⟩ := bnd_some h15
                    have f94k := xKnown_ok f94
                    try simp at f94k
                    refine zr rfl rfl rfl (by simp [c90e, c91e, f92k, c93, f94k]; rfl) ?_
                    refine thenC_n (q_ret rfl ?_)
                    cases h16
                    simp [c68, c93]
                  · rw [if_neg c93] at h15
                    refine zr rfl rfl rfl (by simp [c90e, c91e, f92k, c93]; rfl) ?_
                    refine thenC_n (q_ret rfl ?_)
                    cases h15
                    simp [c68, c93]
                · rw [if_neg c91] at h14
                  have c91e := eq_false c91
                  refine zr rfl rfl rfl (by simp [c90e, c91e]; rfl) ?_
                  refine thenC_n (q_ret rfl ?_)
                  cases h14
                  simp [c68]
              · rw [if_neg c90] at h14
                have c90e := eq_false c90
                refine zr rfl rfl rfl (by simp [c90e]; rfl) ?_
                refine thenC_n (q_ret rfl ?_)
                cases h14
                simp [c68]
            · rw [if_neg c83] at h8
              have c83e := eq_false c83
              refine q_ifF rfl (by simp [c83e]) (zq rfl (zr rfl rfl rfl (by simp; rfl) ?_))
              refine thenC_n ?_
              by_cases c95 : v42 = 2
              · rw [if_pos c95] at h8
                have c95e := eq_true c95
                refine q_ifT rfl (by simp [c95e]) (zq rfl (zr rfl rfl rfl (by simp; rfl) ?_))
                refine thenC_n ?_
                by_cases c96 : v41 < (v40.1.size : Int)
                · rw [if_pos c96] at h8
                  refine q_ifT rfl (by simp [c96]) ?_
                  obtain ⟨v54, f97, h9⟩ := bnd_some h8
                  obtain ⟨f97a, f97b, f97c, f97d⟩ := pieceS_some f97
                  obtain ⟨f97e, f97f⟩ := piece_hi f97a f97b
                  have f97d := f97d.symm
                  try simp only [Int.reduceToNat, Int.toNat_natCast] at f97d
                  obtain ⟨v55, f98, h10⟩ := bnd_some h9
                  obtain ⟨f98a, f98b, f98c, f98d⟩ := pieceS_some f98
                  obtain ⟨f98e, f98f⟩ := piece_hi f98a f98b
                  have f98d := f98d.symm
                  simp only [bszL] at f98c
                  try simp at f98c
                  have f98g : (Int.tmod (IntKind.i64.wrap a3) 8) ≤ max (IntKind.i64.wrap ((Int.tmod (IntKind.i64.wrap a3) 8) + 1)) 0 := by omega
                  obtain ⟨f99, h11⟩ := chk_some h10
                  obtain ⟨v56, f100, h12⟩ := bnd_some h11
                  obtain ⟨f100a, f100b, f100c, f100d⟩ := pieceS_some f100
                  obtain ⟨f100e, f100f⟩ := piece_hi f100a f100b
                  have f100d := f100d.symm
                  try simp only [Int.reduceToNat, Int.toNat_natCast] at f100d
                  obtain ⟨f101, h13⟩ := chk_some h12
                  refine q_drawW rfl rfl rfl rfl ?_; repeat' (first | (refine q_drawW_op rfl rfl fun Q' hQ => ?_; simp [f97a, f97b, f97c, f97d, f97e, f97f, f98a, f98b, f98c, f98d, f98e, f98f, f98g, f99, f100a, f100b, f100c, f100d, f100e, f100f, f101]; refine hQ.out _ ?_; clear hQ; clear Q') | (refine q_drawW_guard rfl rfl fun Q1 Q2 h1 h2 => ?_; simp [f97a, f97b, f97c, f97d, f97e, f97f, f98a, f98b, f98c, f98d, f98e, f98f, f98g, f99, f100a, f100b, f100c, f100d, f100e, f100f, f101, twoB_some]; (first | refine h1.out ?_ | refine h2.out ?_); clear h1 h2; clear Q1 Q2; intro Q' hQ; simp [f97a, f97b, f97c, f97d, f97e, f97f, f98a, f98b, f98c, f98d, f98e, f98f, f98g, f99, f100a, f100b, f100c, f100d, f100e, f100f, f101]; refine hQ.out _ ?_; clear hQ; clear Q') | (refine q_drawW_nil rfl fun Q' hQ => ?_; simp [f97a, f97b, f97c, f97d, f97e, f97f, f98a, f98b, f98c, f98d, f98e, f98f, f98g, f99, f100a, f100b, f100c, f100d, f100e, f100f, f101]; refine hQ.out _ ?_; clear hQ; clear Q'))
                  refine blockC_n (thenC_n (zq rfl ?_))
                  obtain ⟨v57, f102, h14⟩ := bnd_some h13
                  have f102k := cascade_Parse_ok f102
                  try simp at f102k
                  refine zr rfl rfl rfl (by simp [f102k]; rfl) ?_
                  refine thenC_n (zq rfl ?_)
                  obtain ⟨v58, f103, h15⟩ := bnd_some h14
                  have f103k := ref26_Parse_ok f103
                  try simp at f103k
                  refine zr rfl rfl rfl (by simp [f103k]; rfl) ?_
                  refine thenC_n (zq rfl ?_)
                  by_cases c104 : v57.2.2 = v58.2.2
                  · rw [if_pos c104] at h15
                    have c104e := eq_true c104
                    by_cases c105 : v57.2.1 = v58.2.1
                    · rw [if_pos c105] at h15
                      have c105e := eq_true c105
                      obtain ⟨v59, f106, h16⟩ := bnd_some h15
                      have f106k := ref26_Same_ok f106
                      try simp at f106k
                      by_cases c107 : v59 = true
                      · rw [if_pos c107] at h16
                        obtain ⟨v60, f108, h17⟩ := bnd_some h16
                        have f108k := xKnown_ok f108
                        try simp at f108k
                        refine zr rfl rfl rfl (by simp [c104e, c105e, f106k, c107, f108k]; rfl) ?_
                        refine thenC_n (q_ret rfl ?_)
                        cases h17
                        simp [c68, c107]
                      · rw [if_neg c107] at h16
                        refine zr rfl rfl rfl (by simp [c104e, c105e, f106k, c107]; rfl) ?_
                        refine thenC_n (q_ret rfl ?_)
                        cases h16
                        simp [c68, c107]
                    · rw [if_neg c105] at h15
                      have c105e := eq_false c105
                      refine zr rfl rfl rfl (by simp [c104e, c105e]; rfl) ?_
                      refine thenC_n (q_ret rfl ?_)
                      cases h15
                      simp [c68]
                  · rw [if_neg c104] at h15
                    have c104e := eq_false c104
                    refine zr rfl rfl rfl (by simp [c104e]; rfl) ?_
                    refine thenC_n (q_ret rfl ?_)
                    cases h15
                    simp [c68]
                · rw [if_neg c96] at h8
                  refine q_ifF rfl (by simp [c96]) (q_skip rfl (blockC_n (thenC_n (zq rfl ?_))))
                  obtain ⟨v61, f109, h9⟩ := bnd_some h8
                  have f109k := cascade_Parse_ok f109
                  try simp at f109k
                  refine zr rfl rfl rfl (by simp [f109k]; rfl) ?_
                  refine thenC_n (zq rfl ?_)
                  obtain ⟨v62, f110, h10⟩ := bnd_some h9
                  have f110k := ref26_Parse_ok f110
                  try simp at f110k
                  refine zr rfl rfl rfl (by simp [f110k]; rfl) ?_
                  refine thenC_n (zq rfl ?_)
                  by_cases c111 : v61.2.2 = v62.2.2
                  · rw [if_pos c111] at h10
                    have c111e := eq_true c111
                    by_cases c112 : v61.2.1 = v62.2.1
                    · rw [if_pos c112] at h10
                      have c112e := eq_true c112
                      obtain ⟨v63, f113, h11⟩ := bnd_some h10
                      have f113k := ref26_Same_ok f113
                      try simp at f113k
                      by_cases c114 : v63 = true
                      · rw [if_pos c114] at h11
                        obtain ⟨v64, f115, h12⟩ := bnd_some h11
                        have f115k := xKnown_ok f115
                        try simp at f115k
                        refine zr rfl rfl rfl (by simp [c111e, c112e, f113k, c114, f115k]; rfl) ?_
                        refine thenC_n (q_ret rfl ?_)
                        cases h12
                        simp [c68, c114]
                      · rw [if_neg c114] at h11
                        refine zr rfl rfl rfl (by simp [c111e, c112e, f113k, c114]; rfl) ?_
                        refine thenC_n (q_ret rfl ?_)
                        cases h11
                        simp [c68, c114]
                    · rw [if_neg c112] at h10
                      have c112e := eq_false c112
                      refine zr rfl rfl rfl (by simp [c111e, c112e]; rfl) ?_
                      refine thenC_n (q_ret rfl ?_)
                      cases h10
                      simp [c68]
                  · rw [if_neg c111] at h10
                    have c111e := eq_false c111
                    refine zr rfl rfl rfl (by simp [c111e]; rfl) ?_
                    refine thenC_n (q_ret rfl ?_)
                    cases h10
                    simp [c68]
              · rw [if_neg c95] at h8
                have c95e := eq_false c95
                refine q_ifF rfl (by simp [c95e]) (q_skip rfl (blockC_n (thenC_n (zq rfl ?_))))
                obtain ⟨v65, f116, h9⟩ := bnd_some h8
                have f116k := cascade_Parse_ok f116
                try simp at f116k
                refine zr rfl rfl rfl (by simp [f116k]; rfl) ?_
                refine thenC_n (zq rfl ?_)
                obtain ⟨v66, f117, h10⟩ := bnd_some h9
                have f117k := ref26_Parse_ok f117
                try simp at f117k
                refine zr rfl rfl rfl (by simp [f117k]; rfl) ?_
                refine thenC_n (zq rfl ?_)
                by_cases c118 : v65.2.2 = v66.2.2
                · rw [if_pos c118] at h10
                  have c118e := eq_true c118
                  by_cases c119 : v65.2.1 = v66.2.1
                  · rw [if_pos c119] at h10
                    have c119e := eq_true c119
                    obtain ⟨v67, f120, h11⟩ := bnd_some h10
                    have f120k := ref26_Same_ok f120
                    try simp at f120k
                    by_cases c121 : v67 = true
                    · rw [if_pos c121] at h11
                      obtain ⟨v68, f122, h12⟩ := bnd_some h11
                      have f122k := xKnown_ok f122
                      try simp at f122k
                      refine zr rfl rfl rfl (by simp [c118e, c119e, f120k, c121, f122k]; rfl) ?_
                      refine thenC_n (q_ret rfl ?_)
                      cases h12
                      simp [c68, c121]
                    · rw [if_neg c121] at h11
                      refine zr rfl rfl rfl (by simp [c118e, c119e, f120k, c121]; rfl) ?_
                      refine thenC_n (q_ret rfl ?_)
                      cases h11
                      simp [c68, c121]
                  · rw [if_neg c119] at h10
                    have c119e := eq_false c119
                    refine zr rfl rfl rfl (by simp [c118e, c119e]; rfl) ?_
                    refine thenC_n (q_ret rfl ?_)
                    cases h10
                    simp [c68]
                · rw [if_neg c118] at h10
                  have c118e := eq_false c118
                  refine zr rfl rfl rfl (by simp [c118e]; rfl) ?_
                  refine thenC_n (q_ret rfl ?_)
                  cases h10
                  simp [c68]
        · rw [if_neg c68] at h3
          refine q_ifT rfl (by simp [c68]) (zq rfl (zr rfl rfl rfl (by simp; rfl) ?_))
          refine thenC_n (q_ret rfl (thenC_r ?_))
          cases h3
          simp [c68]
      · rw [if_neg c66] at h2
        have c66e := eq_false c66
        refine zr rfl rfl rfl (by simp [c65e, c66e]; rfl) ?_
        refine thenC_n (q_ifT rfl (by simp) (zq rfl (zr rfl rfl rfl (by simp; rfl) ?_)))
        refine thenC_n (q_ret rfl (thenC_r ?_))
        cases h2
        simp
    · rw [if_neg c65] at h2
      have c65e := eq_false c65
      refine zr rfl rfl rfl (by simp [c65e]; rfl) ?_
      refine thenC_n (q_ifT rfl (by simp) (zq rfl (zr rfl rfl rfl (by simp; rfl) ?_)))
      refine thenC_n (q_ret rfl (thenC_r ?_))
      cases h2
      simp
end Go.Proofs.YthalofddjlhcjaaDoor
end
section
/- Plain: CascadeText holds. -/
namespace Go.Proofs.YthalofddjlhcjaaDoor
open Go
set_option linter.unusedVariables false
set_option linter.unusedSimpArgs false

theorem Same26_self (c : Casc) (h : CB c) : ref26_Same c c = some true := by
  unfold ref26_Same
  rw [if_pos rfl, Same_eq _ _ h.sz, Option.bind_some, if_pos (by simp), if_pos rfl]
  have hr := h.rl
  refine loop_to c.rows.length (fun k => (k : Int)) rfl (by simp only [LFm]; omega) (fun k hk => ?_) ?_
  · obtain ⟨r1, r2, r3⟩ := h.row _ (List.getElem_mem hk)
    simp only [ref26_Same_b4]
    rw [if_pos (by omega), atI_nat hk, Option.bind_some, Option.bind_some, Same_eq _ _ r1, Option.bind_some, if_pos (by simp), SameRows_eq _ _ ⟨r2, r3⟩, Option.bind_some, if_pos (by simp), wrapS (by omega)]
  · simp only [ref26_Same_b4]
    rw [if_neg (by omega)]
theorem built_fmt {c : Casc} (hB : Built c) : ∃ t, fmtV c = (t, 0) ∧ parseV t = (c, -1, 0) := by
  have hv := built_valid hB
  have hV := valid_of c hv
  have h1 := hB.l1
  have h2 := hB.l2
  have h3 := hB.rl
  have h4 := hB.s1
  exact ⟨_, parse_fmt hv (fun r hr => smR_of hV hr) (fun x hx => by
    rcases List.mem_cons.1 hx with rfl | hx
    · omega
    · have := hB.sz x hx; omega) (headT_len hV) (by omega)⟩
theorem parse_tail (s : ByteArray) : ((cascade_Parse s).bind fun v => (ref26_Parse s).bind fun w => if v.2.2 = w.2.2 then (if v.2.1 = w.2.1 then (ref26_Same v.1 w.1).bind fun b => if b = true then xKnown.bind fun k => some k else some false else some false) else some false) = some true := by
  rw [Parse_eq, refParse_eq]
  simp only [Option.bind_some, if_true]
  rw [Same26_self _ (parseV_cb s)]
  simp [xKnown]
theorem catOk_small {a b : ByteArray} (h : a.size + b.size < 100000000) : catOk a b := by unfold catOk; omega
theorem lit_piece : ∀ m : Nat, m < 8 → (pieceS ⟨#[32, 48, 59, 45, 49, 114, 99, 10]⟩ (m : Int) ((m + 1 : Nat) : Int)).map ByteArray.size = some 1 := by decide +kernel
theorem text_law (a0 : ByteArray) (a1 : List Int) (a2 a3 a4 : Int) (h3 : 0 ≤ a3 ∧ a3 < 256) : law26_CascadeText a0 a1 a2 a3 a4 = some true := by
  unfold law26_CascadeText
  by_cases h0 : 300 < (a0.size : Int)
  · rw [if_pos h0]
  rw [if_neg h0, Parse_eq, refParse_eq]
  rw [Option.bind_some, Option.bind_some, if_pos rfl, if_pos rfl, Same26_self _ (parseV_cb a0), Option.bind_some, if_pos rfl]
  obtain ⟨t, e1, ht⟩ := new_in a1
  rw [e1, Option.bind_some]
  obtain ⟨c, t2, e2, hB, ht2⟩ := build_in ht
  rw [e2, Option.bind_some]
  have hv := valid_of c (built_valid hB)
  have hcb := CB.of hv
  obtain ⟨s, f1, f2⟩ := built_fmt hB
  have hs : s.size ≤ 1048576 := by
    rcases Nat.lt_or_ge 1048576 s.size with h | h
    · exfalso
      unfold parseV at f2
      rw [if_pos h] at f2
      have := congrArg (fun x : Casc × Int × Int => x.2.1) f2
      simp at this
    · exact h
  rw [refFormat_eq c hcb, f1, Option.bind_some]
  obtain ⟨l, rfl⟩ : ∃ l, s = toBA l := ⟨_, (toBA_toList s).symm⟩
  rw [toBA_size] at hs
  have hw : IntKind.i64.wrap (((toBA l).size : Int) + 1) = ((l.length + 1 : Nat) : Int) := by rw [toBA_size]; exact wrapS (by omega)
  simp only [hw]
  obtain ⟨v, g1, g2, g3⟩ := made_Mod_in a2 ((l.length + 1 : Nat) : Int) (by omega) (by omega)
  rw [g1, Option.bind_some]
  obtain ⟨u, k1, k2, k3⟩ := made_Mod_in a4 4 (by omega) (by omega)
  rw [k1, Option.bind_some]
  obtain ⟨k, rfl⟩ : ∃ k : Nat, v = k := ⟨v.toNat, by omega⟩
  have hk : k ≤ l.length := by omega
  by_cases u0 : u = 0
  · rw [if_pos u0, pieceS_to hk, Option.bind_some]
    exact parse_tail _
  rw [if_neg u0]
  by_cases u1 : u = 1
  · rw [if_pos u1, pieceS_to hk, Option.bind_some, pieceS_from hk, Option.bind_some]
    have z1 : (toBA (l.take k)).size ≤ 1048576 := by rw [toBA_size, List.length_take]; omega
    have z2 : (toBA (l.drop k)).size ≤ 1048576 := by rw [toBA_size, List.length_drop]; omega
    have z3 : (⟨#[UInt8.ofNat a3.toNat]⟩ : ByteArray).size = 1 := rfl
    rw [chk_pos _ (catOk_small (by omega)), chk_pos _ (catOk_small (by rw [ByteArray.size_append]; omega))]
    exact parse_tail _
  rw [if_neg u1]
  by_cases u2 : u = 2
  · rw [if_pos u2]
    by_cases hlt : (k : Int) < ((toBA l).size : Int)
    · rw [toBA_size] at hlt
      have hlt' : (k : Int) < ((toBA l).size : Int) := by rw [toBA_size]; exact hlt
      rw [if_pos hlt', pieceS_to hk, Option.bind_some]
      obtain ⟨m, hm⟩ : ∃ m : Nat, Int.tmod (IntKind.i64.wrap a3) 8 = m ∧ m < 8 := by
        rw [wrapI (by omega) (by omega), Int.tmod_eq_emod_of_nonneg h3.1]
        exact ⟨(a3 % 8).toNat, by omega, by omega⟩
      rw [hm.1, wrapS (by omega)]
      have hp := lit_piece m hm.2
      rw [Option.map_eq_some_iff] at hp
      obtain ⟨q, q1, q2⟩ := hp
      rw [q1, Option.bind_some]
      have z1 : (toBA (l.take k)).size ≤ 1048576 := by rw [toBA_size, List.length_take]; omega
      have z2 : (toBA (l.drop (k + 1))).size ≤ 1048576 := by rw [toBA_size, List.length_drop]; omega
      rw [chk_pos _ (catOk_small (by omega)), wrapS (by omega), pieceS_from (show k + 1 ≤ l.length by omega), Option.bind_some, chk_pos _ (catOk_small (by rw [ByteArray.size_append]; omega))]
      exact parse_tail _
    · rw [if_neg hlt]
      exact parse_tail _
  · rw [if_neg u2]
    exact parse_tail _
theorem law9 (s : ByteArray) (_ : s.size ≤ maxLen) (l : List Int) (_ : l.length ≤ maxLen) (_ : ∀ x ∈ l, (Lit.int .i64 x).wf = true) (a : Int) (_ : (Lit.int .i64 a).wf = true) (b : Int) (hb : (Lit.int .u8 b).wf = true) (d : Int) (_ : (Lit.int .i64 d).wf = true) : ∃ outs, L 9 [.sc (.string s), ints l, .sc (.int .i64 a), .sc (.int .u8 b), .sc (.int .i64 d)] = some (bT true, outs) := ⟨_, law26_CascadeText_ok (text_law s l a b d (by
  simp only [Lit.wf, Bool.and_eq_true, decide_eq_true_eq] at hb
  have h1 : IntKind.u8.min = 0 := rfl
  have h2 : IntKind.u8.max = 255 := rfl
  omega))⟩
end Go.Proofs.YthalofddjlhcjaaDoor
end
section
/-
  DERIVED: THE SHELF's CONTRACTS AT THIS DUMP, IN PLAIN WORDS (tools/lay-plain.mjs out of 'TrydShelf.lean', which tools/lay-shelf.mjs wrote): THE SAME DECLARATIONS UNDER THE SAME NAMES: 'import', 'namespace', 'open', 'def', 'theorem' AND NOTHING ELSE: no command of the shelf's: FOR A HAND-IN. Each laying: the table of numbers ('.._ren') and one theorem, a field a fact of the dump's own or the kernel's comparison; each contract: ONE APPLICATION.
-/
namespace Go.Proofs
open Go.Shelf
def Tryd.lays215_ren : Go.Shelf.Ren := ⟨fun | 215 => 81 | n => n, fun | 3 => 3 | 4 => 4 | n => n, fun | n => n⟩
theorem Tryd.lays215 : Go.Proofs.Lays.n215 Tryd.prog Tryd.lays215_ren := {
  mixed := by kernel_rfl
  f215 := Tryd.func81.trans (congrArg some (by kernel_rfl))
  t3 := Tryd.underlying3
  a3 := Tryd.isAgg3
  z3 := Tryd.sizeOf3
  v3 := Tryd.zeroValue3
  t4 := Tryd.underlying4
  a4 := Tryd.isAgg4
  z4 := Tryd.sizeOf4
  v4 := Tryd.zeroValue4 }
open Go.RowKit in
/-- cmp.isNaN at int: 'x != x': false. (LAID: no walk: one application.) -/
theorem Tryd.cmp_isNaN_int (x : Int) (w : World) :
    Calls Tryd.prog 81 #[.int .i64 x] w fun e w' => e = .returned (.bool false) ∧ w' = w := Any.cmp_isNaN_int Tryd.lays215 x w
def Tryd.lays122_ren : Go.Shelf.Ren := ⟨fun | 122 => 72 | 215 => 81 | n => n, fun | 3 => 3 | 4 => 4 | n => n, fun | n => n⟩
theorem Tryd.lays122 : Go.Proofs.Lays.n122 Tryd.prog Tryd.lays122_ren := {
  mixed := by kernel_rfl
  f122 := Tryd.func72.trans (congrArg some (by kernel_rfl))
  f215 := Tryd.func81.trans (congrArg some (by kernel_rfl))
  t3 := Tryd.underlying3
  a3 := Tryd.isAgg3
  z3 := Tryd.sizeOf3
  v3 := Tryd.zeroValue3
  t4 := Tryd.underlying4
  a4 := Tryd.isAgg4
  z4 := Tryd.sizeOf4
  v4 := Tryd.zeroValue4 }
open Go.RowKit in
/-- cmp.Compare at int: "Compare returns -1 if x is less than y, 0 if x equals y, +1 if x is greater than y.": IT RETURNS 'Lib.compareInt x y'; the world is as it was. (LAID: no walk: one application.) -/
theorem Tryd.cmp_Compare_int (x y : Int) (w : World) :
    Calls Tryd.prog 72 #[.int .i64 x, .int .i64 y] w fun e w' => e = .returned (.int .i64 (Lib.compareInt x y)) ∧ w' = w := Any.cmp_Compare_int Tryd.lays122 x y w
def Tryd.lays195_ren : Go.Shelf.Ren := ⟨fun | 195 => 86 | n => n, fun | 9 => 9 | 3 => 3 | 0 => 0 | 4 => 4 | n => n, fun | n => n⟩
theorem Tryd.lays195 : Go.Proofs.Lays.n195 Tryd.prog Tryd.lays195_ren := {
  mixed := by kernel_rfl
  f195 := Tryd.func86.trans (congrArg some (by kernel_rfl))
  t0 := Tryd.underlying0
  a0 := Tryd.isAgg0
  z0 := Tryd.sizeOf0
  v0 := Tryd.zeroValue0
  t3 := Tryd.underlying3
  a3 := Tryd.isAgg3
  z3 := Tryd.sizeOf3
  v3 := Tryd.zeroValue3
  t4 := Tryd.underlying4
  a4 := Tryd.isAgg4
  z4 := Tryd.sizeOf4
  v4 := Tryd.zeroValue4
  t9 := Tryd.underlying9
  a9 := Tryd.isAgg9
  z9 := Tryd.sizeOf9
  v9 := Tryd.zeroValue9 }
open Go.RowKit in
/-- unicode/utf8.RuneCountInString: "RuneCountInString is like RuneCount but its input is a string." ("RuneCount returns the number of runes in p. Erroneous and short encodings are treated as single runes of width 1 byte."): EVERY STRING, valid UTF-8 or not: 'Lib.runeCount s' (plain Lean over the model's own 'Utf8.decode'; 'Lib.runeCount_le': at most len(s); 'Lib.runeCount_ascii': on ASCII: len(s)). THE ONE CONDITION: len(s) below 2^63 - 1 (the counter does not wrap): the form's reach pays it. THE WORLD BEHIND THE CALL: ONE BLOCK MORE: the model's iterator over s, at its end: all else as it was. (LAID: no walk: one application.) -/
theorem Tryd.utf8_RuneCountInString (s : ByteArray) (w : World) (hs : s.size < 9223372036854775807) :
    Calls Tryd.prog 86 #[.string s] w fun e w' => e = .returned (.int .i64 (Lib.runeCount s)) ∧ ∃ pos, w' = w.iter s pos := Any.utf8_RuneCountInString Tryd.lays195 s w hs
def Tryd.lays129_ren : Go.Shelf.Ren := ⟨fun | 129 => 98 | n => n, fun | 53 => 112 | 3 => 3 | 4 => 4 | 46 => 102 | 5 => 5 | 9 => 9 | n => n, fun | n => n⟩
theorem Tryd.lays129 : Go.Proofs.Lays.n129 Tryd.prog Tryd.lays129_ren := {
  mixed := by kernel_rfl
  f129 := Tryd.func98.trans (congrArg some (by kernel_rfl))
  t3 := Tryd.underlying3
  a3 := Tryd.isAgg3
  z3 := Tryd.sizeOf3
  v3 := Tryd.zeroValue3
  t4 := Tryd.underlying4
  a4 := Tryd.isAgg4
  z4 := Tryd.sizeOf4
  v4 := Tryd.zeroValue4
  t5 := Tryd.underlying5
  a5 := Tryd.isAgg5
  z5 := Tryd.sizeOf5
  v5 := Tryd.zeroValue5
  t9 := Tryd.underlying9
  a9 := Tryd.isAgg9
  z9 := Tryd.sizeOf9
  v9 := Tryd.zeroValue9
  t46 := Tryd.underlying102
  a46 := Tryd.isAgg102
  z46 := Tryd.sizeOf102
  v46 := Tryd.zeroValue102
  t53 := Tryd.underlying112
  a53 := Tryd.isAgg112
  z53 := Tryd.sizeOf112
  v53 := Tryd.zeroValue112 }
/-- bits.Len64: "Len64 returns the minimum number of bits required to represent x; the result is 0 for x == 0.": IT RETURNS 'Lib.bitLen x'; the world is as it was. ('h0', 'h1': x is a uint64.) (LAID: no walk: one application.) -/
theorem Tryd.bits_Len64 (x : Int) (w : World) (h0 : 0 ≤ x) (h1 : x ≤ 18446744073709551615) :
    Calls Tryd.prog 98 #[.int .u64 x] w fun e w' => e = .returned (.int .i64 (Lib.bitLen x.toNat)) ∧ w' = w := Any.bits_Len64 Tryd.lays129 x w h0 h1
def Tryd.lays317_ren : Go.Shelf.Ren := ⟨fun | 317 => 97 | n => n, fun | 3 => 3 | 46 => 102 | n => n, fun | n => n⟩
theorem Tryd.lays317 : Go.Proofs.Lays.n317 Tryd.prog Tryd.lays317_ren := {
  mixed := by kernel_rfl
  f317 := Tryd.func97.trans (congrArg some (by kernel_rfl))
  t3 := Tryd.underlying3
  a3 := Tryd.isAgg3
  z3 := Tryd.sizeOf3
  v3 := Tryd.zeroValue3
  t46 := Tryd.underlying102
  a46 := Tryd.isAgg102
  z46 := Tryd.sizeOf102
  v46 := Tryd.zeroValue102 }
open Go.Lib in
/-- internal/strconv.log10Pow2: "log10Pow2(x) returns ⌊log₁₀ 2**x⌋ = ⌊x * log₁₀ 2⌋.": '(x * 78913) >> 18', at an x up to 64 (a length in bits). The world is as it was. (LAID: no walk: one application.) -/
theorem Tryd.internal_strconv_log10Pow2 (x : Nat) (h : x ≤ 64) (w : World) :
    Calls Tryd.prog 97 #[.int .i64 x] w fun e w' => e = .returned (.int .i64 (Lib.l10 x)) ∧ w' = w := Any.internal_strconv_log10Pow2 Tryd.lays317 x h w
def Tryd.lays318_ren : Go.Shelf.Ren := ⟨fun | 318 => 99 | n => n, fun | 3 => 3 | 4 => 4 | n => n, fun | n => n⟩
theorem Tryd.lays318 : Go.Proofs.Lays.n318 Tryd.prog Tryd.lays318_ren := {
  mixed := by kernel_rfl
  f318 := Tryd.func99.trans (congrArg some (by kernel_rfl))
  t3 := Tryd.underlying3
  a3 := Tryd.isAgg3
  z3 := Tryd.sizeOf3
  v3 := Tryd.zeroValue3
  t4 := Tryd.underlying4
  a4 := Tryd.isAgg4
  z4 := Tryd.sizeOf4
  v4 := Tryd.zeroValue4 }
open Go.Lib in
/-- internal/strconv.bool2: "bool2 converts b to an integer: 1 for true, 0 for false." The world is as it was. (LAID: no walk: one application.) -/
theorem Tryd.internal_strconv_bool2_int (b : Bool) (w : World) :
    Calls Tryd.prog 99 #[.bool b] w fun e w' => e = .returned (.int .i64 (if b then 1 else 0)) ∧ w' = w := Any.internal_strconv_bool2_int Tryd.lays318 b w
def Tryd.lays283_ren : Go.Shelf.Ren := ⟨fun | 283 => 93 | n => n, fun | 3 => 3 | 9 => 9 | 4 => 4 | n => n, fun | n => n⟩
theorem Tryd.lays283 : Go.Proofs.Lays.n283 Tryd.prog Tryd.lays283_ren := {
  mixed := by kernel_rfl
  f283 := Tryd.func93.trans (congrArg some (by kernel_rfl))
  t3 := Tryd.underlying3
  a3 := Tryd.isAgg3
  z3 := Tryd.sizeOf3
  v3 := Tryd.zeroValue3
  t4 := Tryd.underlying4
  a4 := Tryd.isAgg4
  z4 := Tryd.sizeOf4
  v4 := Tryd.zeroValue4
  t9 := Tryd.underlying9
  a9 := Tryd.isAgg9
  z9 := Tryd.sizeOf9
  v9 := Tryd.zeroValue9 }
open Go.Lib in
/-- internal/strconv.small: "small returns the string for an i with 0 <= i < nSmalls.": i's decimal numeral. The world is as it was. (LAID: no walk: one application.) -/
theorem Tryd.internal_strconv_small (i : Nat) (h : i < 100) (w : World) :
    Calls Tryd.prog 93 #[.int .i64 i] w fun e w' => e = .returned (.string ⟨(Lib.decDigits i).toArray⟩) ∧ w' = w := Any.internal_strconv_small Tryd.lays283 i h w
def Tryd.laysM284_ren : Go.Shelf.Ren := ⟨fun | 284 => 94 | 129 => 98 | 317 => 97 | 318 => 99 | n => n, fun | 53 => 112 | 3 => 3 | 212 => 127 | 0 => 0 | 4 => 4 | 46 => 102 | 5 => 5 | 9 => 9 | n => n, fun | 17 => 3 | n => n⟩
theorem Tryd.laysM284 : Go.Proofs.LaysM.n284 Tryd.prog Tryd.laysM284_ren := {
  mixed := by kernel_rfl
  f129 := Tryd.func98.trans (congrArg some (by kernel_rfl))
  f284 := Tryd.func94.trans (congrArg some (by kernel_rfl))
  f317 := Tryd.func97.trans (congrArg some (by kernel_rfl))
  f318 := Tryd.func99.trans (congrArg some (by kernel_rfl))
  t0 := Tryd.underlying0
  a0 := Tryd.isAgg0
  z0 := Tryd.sizeOf0
  v0 := Tryd.zeroValue0
  t3 := Tryd.underlying3
  a3 := Tryd.isAgg3
  z3 := Tryd.sizeOf3
  v3 := Tryd.zeroValue3
  t4 := Tryd.underlying4
  a4 := Tryd.isAgg4
  z4 := Tryd.sizeOf4
  v4 := Tryd.zeroValue4
  t5 := Tryd.underlying5
  a5 := Tryd.isAgg5
  z5 := Tryd.sizeOf5
  v5 := Tryd.zeroValue5
  t9 := Tryd.underlying9
  a9 := Tryd.isAgg9
  z9 := Tryd.sizeOf9
  v9 := Tryd.zeroValue9
  t46 := Tryd.underlying102
  a46 := Tryd.isAgg102
  z46 := Tryd.sizeOf102
  v46 := Tryd.zeroValue102
  t53 := Tryd.underlying112
  a53 := Tryd.isAgg112
  z53 := Tryd.sizeOf112
  v53 := Tryd.zeroValue112
  t212 := Tryd.underlying127
  a212 := Tryd.isAgg127
  z212 := Tryd.sizeOf127
  v212 := Tryd.zeroValue127
  g17 := by kernel_rfl
  i0 := by kernel_rfl
  i3 := by kernel_rfl
  i4 := by kernel_rfl
  i5 := by kernel_rfl
  i9 := by kernel_rfl
  i46 := by kernel_rfl
  i53 := by kernel_rfl
  i212 := by kernel_rfl
  m17 := by kernel_rfl }
open Go.Lib in
/-- internal/strconv.numDigits, at a d that is not 0: THE NUMBER OF d's DECIMAL DIGITS. The world is as it was. (LAID: no walk: one application.) -/
theorem Tryd.internal_strconv_numDigits (u : Nat) (h1 : 1 ≤ u) (h2 : u < 18446744073709551616) (w : World) (htab : Lib.TabIs Tryd.prog w "internal/strconv.uint64pow10" .u64 Lib.pow10Tab) :
    Calls Tryd.prog 94 #[.int .u64 u] w fun e w' => e = .returned (.int .i64 (Lib.nDigits u)) ∧ w' = w := Any.internal_strconv_numDigits Tryd.laysM284 u h1 h2 w htab
def Tryd.lays285_ren : Go.Shelf.Ren := ⟨fun | 285 => 95 | n => n, fun | 37 => 54 | 53 => 112 | 3 => 3 | 4 => 4 | 51 => 114 | 9 => 9 | 5 => 5 | 0 => 0 | n => n, fun | n => n⟩
theorem Tryd.lays285 : Go.Proofs.Lays.n285 Tryd.prog Tryd.lays285_ren := {
  mixed := by kernel_rfl
  f285 := Tryd.func95.trans (congrArg some (by kernel_rfl))
  t0 := Tryd.underlying0
  a0 := Tryd.isAgg0
  z0 := Tryd.sizeOf0
  v0 := Tryd.zeroValue0
  t3 := Tryd.underlying3
  a3 := Tryd.isAgg3
  z3 := Tryd.sizeOf3
  v3 := Tryd.zeroValue3
  t4 := Tryd.underlying4
  a4 := Tryd.isAgg4
  z4 := Tryd.sizeOf4
  v4 := Tryd.zeroValue4
  t5 := Tryd.underlying5
  a5 := Tryd.isAgg5
  z5 := Tryd.sizeOf5
  v5 := Tryd.zeroValue5
  t9 := Tryd.underlying9
  a9 := Tryd.isAgg9
  z9 := Tryd.sizeOf9
  v9 := Tryd.zeroValue9
  t37 := Tryd.underlying54
  a37 := Tryd.isAgg54
  z37 := Tryd.sizeOf54
  v37 := Tryd.zeroValue54
  t51 := Tryd.underlying114
  a51 := Tryd.isAgg114
  z51 := Tryd.sizeOf114
  v51 := Tryd.zeroValue114
  t53 := Tryd.underlying112
  a53 := Tryd.isAgg112
  z53 := Tryd.sizeOf112
  v53 := Tryd.zeroValue112 }
open Go.RowKit Go.Sort Go.Lib in
/-- internal/strconv.formatBase10: "formatBase10 formats the decimal representation of u into a. The caller is responsible for ensuring that a is big enough to hold u. If a is too big, leading zeros will be filled in as needed.": THE ROW HOLDS u's DIGITS ('FmtInv .. 0 ..': every place t holds 'dg u (len - 1 - t)'); all else is as it was but for the count of draws. (LAID: no walk: one application.) -/
theorem Tryd.internal_strconv_formatBase10 (blk off cap : Nat) (u : Nat) (d : Array UInt8) (w : World) (hH : Holds (fun (b : UInt8) => Value.int .u8 (b.toNat : Int)) w blk off d) (hu : u < 10 ^ d.size) (hu64 : u < 18446744073709551616) (hsz : d.size < 4611686018427387904) :
    Calls Tryd.prog 95 #[.slice (some ⟨blk, off, none⟩) d.size cap, .int .u64 u] w fun e w' =>
      e = .returned (.tuple #[]) ∧ ∃ (n v' : Nat) (dk : Array UInt8), w' = (putRow (fun (b : UInt8) => Value.int .u8 (b.toNat : Int)) w blk off dk).drewN n ∧ FmtInv d.size u 0 v' dk := Any.internal_strconv_formatBase10 Tryd.lays285 blk off cap u d w hH hu hu64 hsz
def Tryd.lays217_ren : Go.Shelf.Ren := ⟨fun | 217 => 82 | 266 => 90 | n => n, fun | 9 => 9 | 5 => 5 | 3 => 3 | n => n, fun | n => n⟩
theorem Tryd.lays217 : Go.Proofs.Lays.n217 Tryd.prog Tryd.lays217_ren := {
  mixed := by kernel_rfl
  f217 := Tryd.func82.trans (congrArg some (by kernel_rfl))
  f266 := Tryd.func90.trans (congrArg some (by kernel_rfl))
  t3 := Tryd.underlying3
  a3 := Tryd.isAgg3
  z3 := Tryd.sizeOf3
  v3 := Tryd.zeroValue3
  t5 := Tryd.underlying5
  a5 := Tryd.isAgg5
  z5 := Tryd.sizeOf5
  v5 := Tryd.zeroValue5
  t9 := Tryd.underlying9
  a9 := Tryd.isAgg9
  z9 := Tryd.sizeOf9
  v9 := Tryd.zeroValue9 }
open Go.RowKit Go.Lib in
/-- internal/stringslite.IndexByte (what strings.IndexByte calls): IT RETURNS 'Lib.indexByte s c'; the world is as it was. (LAID: no walk: one application.) -/
theorem Tryd.stringslite_IndexByte (s : ByteArray) (c : Int) (w : World) :
    Calls Tryd.prog 82 #[.string s, .int .u8 c] w fun e w' => e = .returned (.int .i64 (Lib.indexByte s.data.toList c.toNat.toUInt8)) ∧ w' = w := Any.stringslite_IndexByte Tryd.lays217 s c w
def Tryd.lays224_ren : Go.Shelf.Ren := ⟨fun | 224 => 84 | n => n, fun | 3 => 3 | n => n, fun | n => n⟩
theorem Tryd.lays224 : Go.Proofs.Lays.n224 Tryd.prog Tryd.lays224_ren := {
  mixed := by kernel_rfl
  f224 := Tryd.func84.trans (congrArg some (by kernel_rfl))
  t3 := Tryd.underlying3
  a3 := Tryd.isAgg3
  z3 := Tryd.sizeOf3
  v3 := Tryd.zeroValue3 }
open Go.RowKit Go.Lib in
/-- internal/bytealg.Cutover: "Cutover reports the number of failures of IndexByte we should tolerate before switching over to Index. n is the number of bytes processed so far.": on amd64: (n + 16) / 8. (LAID: no walk: one application.) -/
theorem Tryd.bytealg_Cutover (n : Int) (h0 : 0 ≤ n) (h1 : n < 4611686018427387904) (w : World) :
    Calls Tryd.prog 84 #[.int .i64 n] w fun e w' => e = .returned (.int .i64 ((n + 16) / 8)) ∧ w' = w := Any.bytealg_Cutover Tryd.lays224 n h0 h1 w
def Tryd.lays314_ren : Go.Shelf.Ren := ⟨fun | 314 => 91 | n => n, fun | 9 => 9 | 51 => 114 | 3 => 3 | 4 => 4 | 5 => 5 | 46 => 102 | n => n, fun | n => n⟩
theorem Tryd.lays314 : Go.Proofs.Lays.n314 Tryd.prog Tryd.lays314_ren := {
  mixed := by kernel_rfl
  f314 := Tryd.func91.trans (congrArg some (by kernel_rfl))
  t3 := Tryd.underlying3
  a3 := Tryd.isAgg3
  z3 := Tryd.sizeOf3
  v3 := Tryd.zeroValue3
  t4 := Tryd.underlying4
  a4 := Tryd.isAgg4
  z4 := Tryd.sizeOf4
  v4 := Tryd.zeroValue4
  t5 := Tryd.underlying5
  a5 := Tryd.isAgg5
  z5 := Tryd.sizeOf5
  v5 := Tryd.zeroValue5
  t9 := Tryd.underlying9
  a9 := Tryd.isAgg9
  z9 := Tryd.sizeOf9
  v9 := Tryd.zeroValue9
  t46 := Tryd.underlying102
  a46 := Tryd.isAgg102
  z46 := Tryd.sizeOf102
  v46 := Tryd.zeroValue102
  t51 := Tryd.underlying114
  a51 := Tryd.isAgg114
  z51 := Tryd.sizeOf114
  v51 := Tryd.zeroValue114 }
open Go.RowKit Go.Lib in
/-- hashStr: "returns the hash and the appropriate multiplicative factor for use in Rabin-Karp algorithm": THE HASH OF ALL OF sep, AND 16777619 ^ len(sep), both in uint32. (LAID: no walk: one application.) -/
theorem Tryd.bytealg_hashStr (sep : ByteArray) (hs : sep.size < 4294967281) (w : World) :
    Calls Tryd.prog 91 #[.string sep] w fun e w' => e = .returned (.tuple #[.int .u32 (RK.H sep.data.toList % 4294967296), .int .u32 (16777619 ^ sep.size % 4294967296)]) ∧ w' = w := Any.bytealg_hashStr Tryd.lays314 sep hs w
def Tryd.lays267_ren : Go.Shelf.Ren := ⟨fun | 267 => 85 | 314 => 91 | n => n, fun | 9 => 9 | 3 => 3 | 146 => 115 | 51 => 114 | 4 => 4 | 5 => 5 | 46 => 102 | n => n, fun | n => n⟩
theorem Tryd.lays267 : Go.Proofs.Lays.n267 Tryd.prog Tryd.lays267_ren := {
  mixed := by kernel_rfl
  f267 := Tryd.func85.trans (congrArg some (by kernel_rfl))
  f314 := Tryd.func91.trans (congrArg some (by kernel_rfl))
  t3 := Tryd.underlying3
  a3 := Tryd.isAgg3
  z3 := Tryd.sizeOf3
  v3 := Tryd.zeroValue3
  t4 := Tryd.underlying4
  a4 := Tryd.isAgg4
  z4 := Tryd.sizeOf4
  v4 := Tryd.zeroValue4
  t5 := Tryd.underlying5
  a5 := Tryd.isAgg5
  z5 := Tryd.sizeOf5
  v5 := Tryd.zeroValue5
  t9 := Tryd.underlying9
  a9 := Tryd.isAgg9
  z9 := Tryd.sizeOf9
  v9 := Tryd.zeroValue9
  t46 := Tryd.underlying102
  a46 := Tryd.isAgg102
  z46 := Tryd.sizeOf102
  v46 := Tryd.zeroValue102
  t51 := Tryd.underlying114
  a51 := Tryd.isAgg114
  z51 := Tryd.sizeOf114
  v51 := Tryd.zeroValue114
  t146 := Tryd.underlying115
  a146 := Tryd.isAgg115
  z146 := Tryd.sizeOf115
  v146 := Tryd.zeroValue115 }
open Go.RowKit Go.Lib in
theorem Tryd.bytealg_IndexRabinKarp (s sep : ByteArray) (h1 : 1 ≤ sep.size) (h2 : sep.size ≤ s.size) (hs : s.size < 4294967281) (w : World) :
    Calls Tryd.prog 85 #[.string s, .string sep] w fun e w' => e = .returned (.int .i64 (Lib.index s.data.toList sep.data.toList)) ∧ w' = w := Any.bytealg_IndexRabinKarp Tryd.lays267 s sep h1 h2 hs w
def Tryd.lays219_ren : Go.Shelf.Ren := ⟨fun | 219 => 76 | 217 => 82 | 225 => 83 | 224 => 84 | 267 => 85 | 266 => 90 | 314 => 91 | n => n, fun | 9 => 9 | 3 => 3 | 4 => 4 | 5 => 5 | 46 => 102 | 146 => 115 | 51 => 114 | n => n, fun | 1 => 0 | n => n⟩
theorem Tryd.lays219 : Go.Proofs.Lays.n219 Tryd.prog Tryd.lays219_ren := {
  mixed := by kernel_rfl
  f217 := Tryd.func82.trans (congrArg some (by kernel_rfl))
  f219 := Tryd.func76.trans (congrArg some (by kernel_rfl))
  f224 := Tryd.func84.trans (congrArg some (by kernel_rfl))
  f225 := Tryd.func83.trans (congrArg some (by kernel_rfl))
  f266 := Tryd.func90.trans (congrArg some (by kernel_rfl))
  f267 := Tryd.func85.trans (congrArg some (by kernel_rfl))
  f314 := Tryd.func91.trans (congrArg some (by kernel_rfl))
  t3 := Tryd.underlying3
  a3 := Tryd.isAgg3
  z3 := Tryd.sizeOf3
  v3 := Tryd.zeroValue3
  t4 := Tryd.underlying4
  a4 := Tryd.isAgg4
  z4 := Tryd.sizeOf4
  v4 := Tryd.zeroValue4
  t5 := Tryd.underlying5
  a5 := Tryd.isAgg5
  z5 := Tryd.sizeOf5
  v5 := Tryd.zeroValue5
  t9 := Tryd.underlying9
  a9 := Tryd.isAgg9
  z9 := Tryd.sizeOf9
  v9 := Tryd.zeroValue9
  t46 := Tryd.underlying102
  a46 := Tryd.isAgg102
  z46 := Tryd.sizeOf102
  v46 := Tryd.zeroValue102
  t51 := Tryd.underlying114
  a51 := Tryd.isAgg114
  z51 := Tryd.sizeOf114
  v51 := Tryd.zeroValue114
  t146 := Tryd.underlying115
  a146 := Tryd.isAgg115
  z146 := Tryd.sizeOf115
  v146 := Tryd.zeroValue115
  g1 := by kernel_rfl }
open Go.RowKit Go.Lib in
/-- internal/stringslite.Index (what strings.Index calls) AT A substr OF ONE BYTE c: IT RETURNS 'Lib.indexByte s c'; the world is as it was. (LAID: no walk: one application.) -/
theorem Tryd.stringslite_Index_one (s : ByteArray) (c : UInt8) (w : World) :
    Calls Tryd.prog 76 #[.string s, .string ⟨#[c]⟩] w fun e w' => e = .returned (.int .i64 (Lib.indexByte s.data.toList c)) ∧ w' = w := Any.stringslite_Index_one Tryd.lays219 s c w
open Go.RowKit Go.Lib in
/-- internal/stringslite.Index (what strings.Index calls) AT A substr OF WHATEVER LENGTH: IT RETURNS 'Lib.index s substr'; the world is as it was. 'm': what internal/bytealg.MaxLen holds: whatever. (LAID: no walk: one application.) -/
theorem Tryd.stringslite_Index (s sub : ByteArray) (m : Int) (w : World) (hs : s.size < 4294967281) (hm : w.cell? ⟨0, 0, none⟩ = some (.int .i64 m)) :
    Calls Tryd.prog 76 #[.string s, .string sub] w fun e w' => e = .returned (.int .i64 (Lib.index s.data.toList sub.data.toList)) ∧ w' = w := Any.stringslite_Index Tryd.lays219 s sub m w hs hm
def Tryd.lays143_ren : Go.Shelf.Ren := ⟨fun | 143 => 79 | 219 => 76 | 217 => 82 | 225 => 83 | 224 => 84 | 267 => 85 | 266 => 90 | 314 => 91 | n => n, fun | 9 => 9 | 3 => 3 | 4 => 4 | 5 => 5 | 46 => 102 | 146 => 115 | 51 => 114 | n => n, fun | 1 => 0 | n => n⟩
theorem Tryd.lays143 : Go.Proofs.Lays.n143 Tryd.prog Tryd.lays143_ren := {
  mixed := by kernel_rfl
  f143 := Tryd.func79.trans (congrArg some (by kernel_rfl))
  f217 := Tryd.func82.trans (congrArg some (by kernel_rfl))
  f219 := Tryd.func76.trans (congrArg some (by kernel_rfl))
  f224 := Tryd.func84.trans (congrArg some (by kernel_rfl))
  f225 := Tryd.func83.trans (congrArg some (by kernel_rfl))
  f266 := Tryd.func90.trans (congrArg some (by kernel_rfl))
  f267 := Tryd.func85.trans (congrArg some (by kernel_rfl))
  f314 := Tryd.func91.trans (congrArg some (by kernel_rfl))
  t3 := Tryd.underlying3
  a3 := Tryd.isAgg3
  z3 := Tryd.sizeOf3
  v3 := Tryd.zeroValue3
  t4 := Tryd.underlying4
  a4 := Tryd.isAgg4
  z4 := Tryd.sizeOf4
  v4 := Tryd.zeroValue4
  t5 := Tryd.underlying5
  a5 := Tryd.isAgg5
  z5 := Tryd.sizeOf5
  v5 := Tryd.zeroValue5
  t9 := Tryd.underlying9
  a9 := Tryd.isAgg9
  z9 := Tryd.sizeOf9
  v9 := Tryd.zeroValue9
  t46 := Tryd.underlying102
  a46 := Tryd.isAgg102
  z46 := Tryd.sizeOf102
  v46 := Tryd.zeroValue102
  t51 := Tryd.underlying114
  a51 := Tryd.isAgg114
  z51 := Tryd.sizeOf114
  v51 := Tryd.zeroValue114
  t146 := Tryd.underlying115
  a146 := Tryd.isAgg115
  z146 := Tryd.sizeOf115
  v146 := Tryd.zeroValue115
  g1 := by kernel_rfl }
open Go.RowKit Go.Lib in
/-- strings.Index: "Index returns the index of the first instance of substr in s, or -1 if substr is not present in s.": AT A substr OF ONE BYTE c: IT RETURNS 'Lib.indexByte s c'; the world is as it was. (LAID: no walk: one application.) -/
theorem Tryd.strings_Index_one (s : ByteArray) (c : UInt8) (w : World) :
    Calls Tryd.prog 79 #[.string s, .string ⟨#[c]⟩] w fun e w' => e = .returned (.int .i64 (Lib.indexByte s.data.toList c)) ∧ w' = w := Any.strings_Index_one Tryd.lays143 s c w
open Go.RowKit Go.Lib in
/-- strings.Index: "Index returns the index of the first instance of substr in s, or -1 if substr is not present in s.": IT RETURNS 'Lib.index s substr'; the world is as it was. (LAID: no walk: one application.) -/
theorem Tryd.strings_Index (s sub : ByteArray) (m : Int) (w : World) (hs : s.size < 4294967281) (hm : w.cell? ⟨0, 0, none⟩ = some (.int .i64 m)) :
    Calls Tryd.prog 79 #[.string s, .string sub] w fun e w' => e = .returned (.int .i64 (Lib.index s.data.toList sub.data.toList)) ∧ w' = w := Any.strings_Index Tryd.lays143 s sub m w hs hm
def Tryd.lays220_ren : Go.Shelf.Ren := ⟨fun | 220 => 67 | 219 => 76 | 217 => 82 | 225 => 83 | 224 => 84 | 267 => 85 | 266 => 90 | 314 => 91 | n => n, fun | 9 => 9 | 4 => 4 | 3 => 3 | 5 => 5 | 46 => 102 | 146 => 115 | 51 => 114 | n => n, fun | 1 => 0 | n => n⟩
theorem Tryd.lays220 : Go.Proofs.Lays.n220 Tryd.prog Tryd.lays220_ren := {
  mixed := by kernel_rfl
  f217 := Tryd.func82.trans (congrArg some (by kernel_rfl))
  f219 := Tryd.func76.trans (congrArg some (by kernel_rfl))
  f220 := Tryd.func67.trans (congrArg some (by kernel_rfl))
  f224 := Tryd.func84.trans (congrArg some (by kernel_rfl))
  f225 := Tryd.func83.trans (congrArg some (by kernel_rfl))
  f266 := Tryd.func90.trans (congrArg some (by kernel_rfl))
  f267 := Tryd.func85.trans (congrArg some (by kernel_rfl))
  f314 := Tryd.func91.trans (congrArg some (by kernel_rfl))
  t3 := Tryd.underlying3
  a3 := Tryd.isAgg3
  z3 := Tryd.sizeOf3
  v3 := Tryd.zeroValue3
  t4 := Tryd.underlying4
  a4 := Tryd.isAgg4
  z4 := Tryd.sizeOf4
  v4 := Tryd.zeroValue4
  t5 := Tryd.underlying5
  a5 := Tryd.isAgg5
  z5 := Tryd.sizeOf5
  v5 := Tryd.zeroValue5
  t9 := Tryd.underlying9
  a9 := Tryd.isAgg9
  z9 := Tryd.sizeOf9
  v9 := Tryd.zeroValue9
  t46 := Tryd.underlying102
  a46 := Tryd.isAgg102
  z46 := Tryd.sizeOf102
  v46 := Tryd.zeroValue102
  t51 := Tryd.underlying114
  a51 := Tryd.isAgg114
  z51 := Tryd.sizeOf114
  v51 := Tryd.zeroValue114
  t146 := Tryd.underlying115
  a146 := Tryd.isAgg115
  z146 := Tryd.sizeOf115
  v146 := Tryd.zeroValue115
  g1 := by kernel_rfl }
open Go.RowKit Go.Lib in
/-- internal/stringslite.Cut (what strings.Cut calls): IT RETURNS 'Lib.cut s sep'; the world is as it was but for the count of draws. (LAID: no walk: one application.) -/
theorem Tryd.stringslite_Cut (s sep : ByteArray) (m : Int) (w : World) (hs : s.size < 4294967281) (hm : w.cell? ⟨0, 0, none⟩ = some (.int .i64 m)) :
    Calls Tryd.prog 67 #[.string s, .string sep] w fun e w' => e = .returned (.tuple #[.string ⟨(Lib.cut s.data.toList sep.data.toList).1.toArray⟩, .string ⟨(Lib.cut s.data.toList sep.data.toList).2.1.toArray⟩, .bool (Lib.cut s.data.toList sep.data.toList).2.2]) ∧ ∃ n, w' = w.drewN n := Any.stringslite_Cut Tryd.lays220 s sep m w hs hm
def Tryd.lays145_ren : Go.Shelf.Ren := ⟨fun | 145 => 48 | 220 => 67 | 219 => 76 | 217 => 82 | 225 => 83 | 224 => 84 | 267 => 85 | 266 => 90 | 314 => 91 | n => n, fun | 9 => 9 | 4 => 4 | 59 => 75 | 3 => 3 | 5 => 5 | 46 => 102 | 146 => 115 | 51 => 114 | n => n, fun | 1 => 0 | n => n⟩
theorem Tryd.lays145 : Go.Proofs.Lays.n145 Tryd.prog Tryd.lays145_ren := {
  mixed := by kernel_rfl
  f145 := Tryd.func48.trans (congrArg some (by kernel_rfl))
  f217 := Tryd.func82.trans (congrArg some (by kernel_rfl))
  f219 := Tryd.func76.trans (congrArg some (by kernel_rfl))
  f220 := Tryd.func67.trans (congrArg some (by kernel_rfl))
  f224 := Tryd.func84.trans (congrArg some (by kernel_rfl))
  f225 := Tryd.func83.trans (congrArg some (by kernel_rfl))
  f266 := Tryd.func90.trans (congrArg some (by kernel_rfl))
  f267 := Tryd.func85.trans (congrArg some (by kernel_rfl))
  f314 := Tryd.func91.trans (congrArg some (by kernel_rfl))
  t3 := Tryd.underlying3
  a3 := Tryd.isAgg3
  z3 := Tryd.sizeOf3
  v3 := Tryd.zeroValue3
  t4 := Tryd.underlying4
  a4 := Tryd.isAgg4
  z4 := Tryd.sizeOf4
  v4 := Tryd.zeroValue4
  t5 := Tryd.underlying5
  a5 := Tryd.isAgg5
  z5 := Tryd.sizeOf5
  v5 := Tryd.zeroValue5
  t9 := Tryd.underlying9
  a9 := Tryd.isAgg9
  z9 := Tryd.sizeOf9
  v9 := Tryd.zeroValue9
  t46 := Tryd.underlying102
  a46 := Tryd.isAgg102
  z46 := Tryd.sizeOf102
  v46 := Tryd.zeroValue102
  t51 := Tryd.underlying114
  a51 := Tryd.isAgg114
  z51 := Tryd.sizeOf114
  v51 := Tryd.zeroValue114
  t59 := Tryd.underlying75
  a59 := Tryd.isAgg75
  z59 := Tryd.sizeOf75
  v59 := Tryd.zeroValue75
  t146 := Tryd.underlying115
  a146 := Tryd.isAgg115
  z146 := Tryd.sizeOf115
  v146 := Tryd.zeroValue115
  g1 := by kernel_rfl }
open Go.RowKit Go.Lib in
/-- strings.Cut: "Cut slices s around the first instance of sep, returning the text before and after sep. The found result reports whether sep appears in s. If sep does not appear in s, cut returns s, "", false.": IT RETURNS 'Lib.cut s sep'; the world is as it was but for the count of draws. (LAID: no walk: one application.) -/
theorem Tryd.strings_Cut (s sep : ByteArray) (m : Int) (w : World) (hs : s.size < 4294967281) (hm : w.cell? ⟨0, 0, none⟩ = some (.int .i64 m)) :
    Calls Tryd.prog 48 #[.string s, .string sep] w fun e w' => e = .returned (.tuple #[.string ⟨(Lib.cut s.data.toList sep.data.toList).1.toArray⟩, .string ⟨(Lib.cut s.data.toList sep.data.toList).2.1.toArray⟩, .bool (Lib.cut s.data.toList sep.data.toList).2.2]) ∧ ∃ n, w' = w.drewN n := Any.strings_Cut Tryd.lays145 s sep m w hs hm
def Tryd.lays138_ren : Go.Shelf.Ren := ⟨fun | 138 => 78 | 195 => 86 | 218 => 88 | 143 => 79 | 219 => 76 | 217 => 82 | 225 => 83 | 224 => 84 | 267 => 85 | 266 => 90 | 314 => 91 | n => n, fun | 9 => 9 | 3 => 3 | 4 => 4 | 5 => 5 | 0 => 0 | 46 => 102 | 146 => 115 | 51 => 114 | n => n, fun | 1 => 0 | n => n⟩
theorem Tryd.lays138 : Go.Proofs.Lays.n138 Tryd.prog Tryd.lays138_ren := {
  mixed := by kernel_rfl
  f138 := Tryd.func78.trans (congrArg some (by kernel_rfl))
  f143 := Tryd.func79.trans (congrArg some (by kernel_rfl))
  f195 := Tryd.func86.trans (congrArg some (by kernel_rfl))
  f217 := Tryd.func82.trans (congrArg some (by kernel_rfl))
  f218 := Tryd.func88.trans (congrArg some (by kernel_rfl))
  f219 := Tryd.func76.trans (congrArg some (by kernel_rfl))
  f224 := Tryd.func84.trans (congrArg some (by kernel_rfl))
  f225 := Tryd.func83.trans (congrArg some (by kernel_rfl))
  f266 := Tryd.func90.trans (congrArg some (by kernel_rfl))
  f267 := Tryd.func85.trans (congrArg some (by kernel_rfl))
  f314 := Tryd.func91.trans (congrArg some (by kernel_rfl))
  t0 := Tryd.underlying0
  a0 := Tryd.isAgg0
  z0 := Tryd.sizeOf0
  v0 := Tryd.zeroValue0
  t3 := Tryd.underlying3
  a3 := Tryd.isAgg3
  z3 := Tryd.sizeOf3
  v3 := Tryd.zeroValue3
  t4 := Tryd.underlying4
  a4 := Tryd.isAgg4
  z4 := Tryd.sizeOf4
  v4 := Tryd.zeroValue4
  t5 := Tryd.underlying5
  a5 := Tryd.isAgg5
  z5 := Tryd.sizeOf5
  v5 := Tryd.zeroValue5
  t9 := Tryd.underlying9
  a9 := Tryd.isAgg9
  z9 := Tryd.sizeOf9
  v9 := Tryd.zeroValue9
  t46 := Tryd.underlying102
  a46 := Tryd.isAgg102
  z46 := Tryd.sizeOf102
  v46 := Tryd.zeroValue102
  t51 := Tryd.underlying114
  a51 := Tryd.isAgg114
  z51 := Tryd.sizeOf114
  v51 := Tryd.zeroValue114
  t146 := Tryd.underlying115
  a146 := Tryd.isAgg115
  z146 := Tryd.sizeOf115
  v146 := Tryd.zeroValue115
  g1 := by kernel_rfl }
open Go.RowKit Go.Lib in
/-- strings.Count AT A substr OF ONE BYTE ('hp'): "Count counts the number of non-overlapping instances of substr in s.": IT RETURNS 'Lib.countByte s (that byte)'; the world is as it was. ✋ NO CONTRACT HERE YET at an empty substr (utf8.RuneCountInString) or at a longer one (a loop over strings.Index). (LAID: no walk: one application.) -/
theorem Tryd.strings_Count_one (s : ByteArray) (c : UInt8) (w : World) :
    Calls Tryd.prog 78 #[.string s, .string ⟨#[c]⟩] w fun e w' => e = .returned (.int .i64 (Lib.countByte s.data.toList c)) ∧ w' = w := Any.strings_Count_one Tryd.lays138 s c w
open Go.RowKit Go.Lib in
/-- strings.Count AT A substr OF TWO BYTES OR MORE: "Count counts the number of non-overlapping instances of substr in s.": IT RETURNS 'Lib.count s substr'; the world is as it was. (LAID: no walk: one application.) -/
theorem Tryd.strings_Count (s sub : ByteArray) (m : Int) (w : World) (hs : s.size < 4294967281) (hm : w.cell? ⟨0, 0, none⟩ = some (.int .i64 m)) (h2 : 2 ≤ sub.size) :
    Calls Tryd.prog 78 #[.string s, .string sub] w fun e w' => e = .returned (.int .i64 (Lib.countB s sub)) ∧ w' = w := Any.strings_Count Tryd.lays138 s sub m w hs hm h2
def Tryd.laysM219_ren : Go.Shelf.Ren := ⟨fun | 219 => 76 | 217 => 82 | 225 => 83 | 224 => 84 | 267 => 85 | 266 => 90 | 314 => 91 | n => n, fun | 9 => 9 | 3 => 3 | 4 => 4 | 5 => 5 | 46 => 102 | 146 => 115 | 51 => 114 | n => n, fun | 1 => 0 | n => n⟩
theorem Tryd.laysM219 : Go.Proofs.LaysM.n219 Tryd.prog Tryd.laysM219_ren := {
  mixed := by kernel_rfl
  f217 := Tryd.func82.trans (congrArg some (by kernel_rfl))
  f219 := Tryd.func76.trans (congrArg some (by kernel_rfl))
  f224 := Tryd.func84.trans (congrArg some (by kernel_rfl))
  f225 := Tryd.func83.trans (congrArg some (by kernel_rfl))
  f266 := Tryd.func90.trans (congrArg some (by kernel_rfl))
  f267 := Tryd.func85.trans (congrArg some (by kernel_rfl))
  f314 := Tryd.func91.trans (congrArg some (by kernel_rfl))
  t3 := Tryd.underlying3
  a3 := Tryd.isAgg3
  z3 := Tryd.sizeOf3
  v3 := Tryd.zeroValue3
  t4 := Tryd.underlying4
  a4 := Tryd.isAgg4
  z4 := Tryd.sizeOf4
  v4 := Tryd.zeroValue4
  t5 := Tryd.underlying5
  a5 := Tryd.isAgg5
  z5 := Tryd.sizeOf5
  v5 := Tryd.zeroValue5
  t9 := Tryd.underlying9
  a9 := Tryd.isAgg9
  z9 := Tryd.sizeOf9
  v9 := Tryd.zeroValue9
  t46 := Tryd.underlying102
  a46 := Tryd.isAgg102
  z46 := Tryd.sizeOf102
  v46 := Tryd.zeroValue102
  t51 := Tryd.underlying114
  a51 := Tryd.isAgg114
  z51 := Tryd.sizeOf114
  v51 := Tryd.zeroValue114
  t146 := Tryd.underlying115
  a146 := Tryd.isAgg115
  z146 := Tryd.sizeOf115
  v146 := Tryd.zeroValue115
  g1 := by kernel_rfl
  i3 := by kernel_rfl
  i4 := by kernel_rfl
  i5 := by kernel_rfl
  i9 := by kernel_rfl
  i46 := by kernel_rfl
  i51 := by kernel_rfl
  i146 := by kernel_rfl
  m1 := by kernel_rfl
  s1_3 := fun w h => Go.Proofs.cell_of_shapedOpen_int (zero := #[.int .i64 0]) (t := 3) h (of_decide_eq_true (by kernel_rfl)) (by kernel_rfl) rfl (by kernel_rfl) (by kernel_rfl) Tryd.underlying3 }
open Go.RowKit Go.Lib in
theorem Tryd.stringslite_Index_shaped (s sub : ByteArray) (w : World) (h : w.ShapedOpen Tryd.prog) (hs : s.size < 4294967281) :
    Calls Tryd.prog 76 #[.string s, .string sub] w fun e w' => e = .returned (.int .i64 (Lib.index s.data.toList sub.data.toList)) ∧ w' = w := Any.stringslite_Index_shaped Tryd.laysM219 s sub w h hs
def Tryd.laysM143_ren : Go.Shelf.Ren := ⟨fun | 143 => 79 | 219 => 76 | 217 => 82 | 225 => 83 | 224 => 84 | 267 => 85 | 266 => 90 | 314 => 91 | n => n, fun | 9 => 9 | 3 => 3 | 4 => 4 | 5 => 5 | 46 => 102 | 146 => 115 | 51 => 114 | n => n, fun | 1 => 0 | n => n⟩
theorem Tryd.laysM143 : Go.Proofs.LaysM.n143 Tryd.prog Tryd.laysM143_ren := {
  mixed := by kernel_rfl
  f143 := Tryd.func79.trans (congrArg some (by kernel_rfl))
  f217 := Tryd.func82.trans (congrArg some (by kernel_rfl))
  f219 := Tryd.func76.trans (congrArg some (by kernel_rfl))
  f224 := Tryd.func84.trans (congrArg some (by kernel_rfl))
  f225 := Tryd.func83.trans (congrArg some (by kernel_rfl))
  f266 := Tryd.func90.trans (congrArg some (by kernel_rfl))
  f267 := Tryd.func85.trans (congrArg some (by kernel_rfl))
  f314 := Tryd.func91.trans (congrArg some (by kernel_rfl))
  t3 := Tryd.underlying3
  a3 := Tryd.isAgg3
  z3 := Tryd.sizeOf3
  v3 := Tryd.zeroValue3
  t4 := Tryd.underlying4
  a4 := Tryd.isAgg4
  z4 := Tryd.sizeOf4
  v4 := Tryd.zeroValue4
  t5 := Tryd.underlying5
  a5 := Tryd.isAgg5
  z5 := Tryd.sizeOf5
  v5 := Tryd.zeroValue5
  t9 := Tryd.underlying9
  a9 := Tryd.isAgg9
  z9 := Tryd.sizeOf9
  v9 := Tryd.zeroValue9
  t46 := Tryd.underlying102
  a46 := Tryd.isAgg102
  z46 := Tryd.sizeOf102
  v46 := Tryd.zeroValue102
  t51 := Tryd.underlying114
  a51 := Tryd.isAgg114
  z51 := Tryd.sizeOf114
  v51 := Tryd.zeroValue114
  t146 := Tryd.underlying115
  a146 := Tryd.isAgg115
  z146 := Tryd.sizeOf115
  v146 := Tryd.zeroValue115
  g1 := by kernel_rfl
  i3 := by kernel_rfl
  i4 := by kernel_rfl
  i5 := by kernel_rfl
  i9 := by kernel_rfl
  i46 := by kernel_rfl
  i51 := by kernel_rfl
  i146 := by kernel_rfl
  m1 := by kernel_rfl
  s1_3 := fun w h => Go.Proofs.cell_of_shapedOpen_int (zero := #[.int .i64 0]) (t := 3) h (of_decide_eq_true (by kernel_rfl)) (by kernel_rfl) rfl (by kernel_rfl) (by kernel_rfl) Tryd.underlying3 }
open Go.RowKit Go.Lib in
theorem Tryd.strings_Index_shaped (s sub : ByteArray) (w : World) (h : w.ShapedOpen Tryd.prog) (hs : s.size < 4294967281) :
    Calls Tryd.prog 79 #[.string s, .string sub] w fun e w' => e = .returned (.int .i64 (Lib.index s.data.toList sub.data.toList)) ∧ w' = w := Any.strings_Index_shaped Tryd.laysM143 s sub w h hs
def Tryd.laysM220_ren : Go.Shelf.Ren := ⟨fun | 220 => 67 | 219 => 76 | 217 => 82 | 225 => 83 | 224 => 84 | 267 => 85 | 266 => 90 | 314 => 91 | n => n, fun | 9 => 9 | 4 => 4 | 3 => 3 | 5 => 5 | 46 => 102 | 146 => 115 | 51 => 114 | n => n, fun | 1 => 0 | n => n⟩
theorem Tryd.laysM220 : Go.Proofs.LaysM.n220 Tryd.prog Tryd.laysM220_ren := {
  mixed := by kernel_rfl
  f217 := Tryd.func82.trans (congrArg some (by kernel_rfl))
  f219 := Tryd.func76.trans (congrArg some (by kernel_rfl))
  f220 := Tryd.func67.trans (congrArg some (by kernel_rfl))
  f224 := Tryd.func84.trans (congrArg some (by kernel_rfl))
  f225 := Tryd.func83.trans (congrArg some (by kernel_rfl))
  f266 := Tryd.func90.trans (congrArg some (by kernel_rfl))
  f267 := Tryd.func85.trans (congrArg some (by kernel_rfl))
  f314 := Tryd.func91.trans (congrArg some (by kernel_rfl))
  t3 := Tryd.underlying3
  a3 := Tryd.isAgg3
  z3 := Tryd.sizeOf3
  v3 := Tryd.zeroValue3
  t4 := Tryd.underlying4
  a4 := Tryd.isAgg4
  z4 := Tryd.sizeOf4
  v4 := Tryd.zeroValue4
  t5 := Tryd.underlying5
  a5 := Tryd.isAgg5
  z5 := Tryd.sizeOf5
  v5 := Tryd.zeroValue5
  t9 := Tryd.underlying9
  a9 := Tryd.isAgg9
  z9 := Tryd.sizeOf9
  v9 := Tryd.zeroValue9
  t46 := Tryd.underlying102
  a46 := Tryd.isAgg102
  z46 := Tryd.sizeOf102
  v46 := Tryd.zeroValue102
  t51 := Tryd.underlying114
  a51 := Tryd.isAgg114
  z51 := Tryd.sizeOf114
  v51 := Tryd.zeroValue114
  t146 := Tryd.underlying115
  a146 := Tryd.isAgg115
  z146 := Tryd.sizeOf115
  v146 := Tryd.zeroValue115
  g1 := by kernel_rfl
  i3 := by kernel_rfl
  i4 := by kernel_rfl
  i5 := by kernel_rfl
  i9 := by kernel_rfl
  i46 := by kernel_rfl
  i51 := by kernel_rfl
  i146 := by kernel_rfl
  m1 := by kernel_rfl
  s1_3 := fun w h => Go.Proofs.cell_of_shapedOpen_int (zero := #[.int .i64 0]) (t := 3) h (of_decide_eq_true (by kernel_rfl)) (by kernel_rfl) rfl (by kernel_rfl) (by kernel_rfl) Tryd.underlying3 }
open Go.RowKit Go.Lib in
theorem Tryd.stringslite_Cut_shaped (s sep : ByteArray) (w : World) (h : w.ShapedOpen Tryd.prog) (hs : s.size < 4294967281) :
    Calls Tryd.prog 67 #[.string s, .string sep] w fun e w' => e = .returned (.tuple #[.string ⟨(Lib.cut s.data.toList sep.data.toList).1.toArray⟩, .string ⟨(Lib.cut s.data.toList sep.data.toList).2.1.toArray⟩, .bool (Lib.cut s.data.toList sep.data.toList).2.2]) ∧ ∃ n, w' = w.drewN n := Any.stringslite_Cut_shaped Tryd.laysM220 s sep w h hs
def Tryd.laysM145_ren : Go.Shelf.Ren := ⟨fun | 145 => 48 | 220 => 67 | 219 => 76 | 217 => 82 | 225 => 83 | 224 => 84 | 267 => 85 | 266 => 90 | 314 => 91 | n => n, fun | 9 => 9 | 4 => 4 | 59 => 75 | 3 => 3 | 5 => 5 | 46 => 102 | 146 => 115 | 51 => 114 | n => n, fun | 1 => 0 | n => n⟩
theorem Tryd.laysM145 : Go.Proofs.LaysM.n145 Tryd.prog Tryd.laysM145_ren := {
  mixed := by kernel_rfl
  f145 := Tryd.func48.trans (congrArg some (by kernel_rfl))
  f217 := Tryd.func82.trans (congrArg some (by kernel_rfl))
  f219 := Tryd.func76.trans (congrArg some (by kernel_rfl))
  f220 := Tryd.func67.trans (congrArg some (by kernel_rfl))
  f224 := Tryd.func84.trans (congrArg some (by kernel_rfl))
  f225 := Tryd.func83.trans (congrArg some (by kernel_rfl))
  f266 := Tryd.func90.trans (congrArg some (by kernel_rfl))
  f267 := Tryd.func85.trans (congrArg some (by kernel_rfl))
  f314 := Tryd.func91.trans (congrArg some (by kernel_rfl))
  t3 := Tryd.underlying3
  a3 := Tryd.isAgg3
  z3 := Tryd.sizeOf3
  v3 := Tryd.zeroValue3
  t4 := Tryd.underlying4
  a4 := Tryd.isAgg4
  z4 := Tryd.sizeOf4
  v4 := Tryd.zeroValue4
  t5 := Tryd.underlying5
  a5 := Tryd.isAgg5
  z5 := Tryd.sizeOf5
  v5 := Tryd.zeroValue5
  t9 := Tryd.underlying9
  a9 := Tryd.isAgg9
  z9 := Tryd.sizeOf9
  v9 := Tryd.zeroValue9
  t46 := Tryd.underlying102
  a46 := Tryd.isAgg102
  z46 := Tryd.sizeOf102
  v46 := Tryd.zeroValue102
  t51 := Tryd.underlying114
  a51 := Tryd.isAgg114
  z51 := Tryd.sizeOf114
  v51 := Tryd.zeroValue114
  t59 := Tryd.underlying75
  a59 := Tryd.isAgg75
  z59 := Tryd.sizeOf75
  v59 := Tryd.zeroValue75
  t146 := Tryd.underlying115
  a146 := Tryd.isAgg115
  z146 := Tryd.sizeOf115
  v146 := Tryd.zeroValue115
  g1 := by kernel_rfl
  i3 := by kernel_rfl
  i4 := by kernel_rfl
  i5 := by kernel_rfl
  i9 := by kernel_rfl
  i46 := by kernel_rfl
  i51 := by kernel_rfl
  i59 := by kernel_rfl
  i146 := by kernel_rfl
  m1 := by kernel_rfl
  s1_3 := fun w h => Go.Proofs.cell_of_shapedOpen_int (zero := #[.int .i64 0]) (t := 3) h (of_decide_eq_true (by kernel_rfl)) (by kernel_rfl) rfl (by kernel_rfl) (by kernel_rfl) Tryd.underlying3 }
open Go.RowKit Go.Lib in
theorem Tryd.strings_Cut_shaped (s sep : ByteArray) (w : World) (h : w.ShapedOpen Tryd.prog) (hs : s.size < 4294967281) :
    Calls Tryd.prog 48 #[.string s, .string sep] w fun e w' => e = .returned (.tuple #[.string ⟨(Lib.cut s.data.toList sep.data.toList).1.toArray⟩, .string ⟨(Lib.cut s.data.toList sep.data.toList).2.1.toArray⟩, .bool (Lib.cut s.data.toList sep.data.toList).2.2]) ∧ ∃ n, w' = w.drewN n := Any.strings_Cut_shaped Tryd.laysM145 s sep w h hs
def Tryd.laysM138_ren : Go.Shelf.Ren := ⟨fun | 138 => 78 | 195 => 86 | 218 => 88 | 143 => 79 | 219 => 76 | 217 => 82 | 225 => 83 | 224 => 84 | 267 => 85 | 266 => 90 | 314 => 91 | n => n, fun | 9 => 9 | 3 => 3 | 4 => 4 | 5 => 5 | 0 => 0 | 46 => 102 | 146 => 115 | 51 => 114 | n => n, fun | 1 => 0 | n => n⟩
theorem Tryd.laysM138 : Go.Proofs.LaysM.n138 Tryd.prog Tryd.laysM138_ren := {
  mixed := by kernel_rfl
  f138 := Tryd.func78.trans (congrArg some (by kernel_rfl))
  f143 := Tryd.func79.trans (congrArg some (by kernel_rfl))
  f195 := Tryd.func86.trans (congrArg some (by kernel_rfl))
  f217 := Tryd.func82.trans (congrArg some (by kernel_rfl))
  f218 := Tryd.func88.trans (congrArg some (by kernel_rfl))
  f219 := Tryd.func76.trans (congrArg some (by kernel_rfl))
  f224 := Tryd.func84.trans (congrArg some (by kernel_rfl))
  f225 := Tryd.func83.trans (congrArg some (by kernel_rfl))
  f266 := Tryd.func90.trans (congrArg some (by kernel_rfl))
  f267 := Tryd.func85.trans (congrArg some (by kernel_rfl))
  f314 := Tryd.func91.trans (congrArg some (by kernel_rfl))
  t0 := Tryd.underlying0
  a0 := Tryd.isAgg0
  z0 := Tryd.sizeOf0
  v0 := Tryd.zeroValue0
  t3 := Tryd.underlying3
  a3 := Tryd.isAgg3
  z3 := Tryd.sizeOf3
  v3 := Tryd.zeroValue3
  t4 := Tryd.underlying4
  a4 := Tryd.isAgg4
  z4 := Tryd.sizeOf4
  v4 := Tryd.zeroValue4
  t5 := Tryd.underlying5
  a5 := Tryd.isAgg5
  z5 := Tryd.sizeOf5
  v5 := Tryd.zeroValue5
  t9 := Tryd.underlying9
  a9 := Tryd.isAgg9
  z9 := Tryd.sizeOf9
  v9 := Tryd.zeroValue9
  t46 := Tryd.underlying102
  a46 := Tryd.isAgg102
  z46 := Tryd.sizeOf102
  v46 := Tryd.zeroValue102
  t51 := Tryd.underlying114
  a51 := Tryd.isAgg114
  z51 := Tryd.sizeOf114
  v51 := Tryd.zeroValue114
  t146 := Tryd.underlying115
  a146 := Tryd.isAgg115
  z146 := Tryd.sizeOf115
  v146 := Tryd.zeroValue115
  g1 := by kernel_rfl
  i0 := by kernel_rfl
  i3 := by kernel_rfl
  i4 := by kernel_rfl
  i5 := by kernel_rfl
  i9 := by kernel_rfl
  i46 := by kernel_rfl
  i51 := by kernel_rfl
  i146 := by kernel_rfl
  m1 := by kernel_rfl
  s1_3 := fun w h => Go.Proofs.cell_of_shapedOpen_int (zero := #[.int .i64 0]) (t := 3) h (of_decide_eq_true (by kernel_rfl)) (by kernel_rfl) rfl (by kernel_rfl) (by kernel_rfl) Tryd.underlying3 }
open Go.RowKit Go.Lib in
theorem Tryd.strings_Count_shaped (s sub : ByteArray) (w : World) (h : w.ShapedOpen Tryd.prog) (hs : s.size < 4294967281) (h2 : 2 ≤ sub.size) :
    Calls Tryd.prog 78 #[.string s, .string sub] w fun e w' => e = .returned (.int .i64 (Lib.countB s sub)) ∧ w' = w := Any.strings_Count_shaped Tryd.laysM138 s sub w h hs h2
def Tryd.laysM288_ren : Go.Shelf.Ren := ⟨fun | 288 => 89 | 283 => 93 | 284 => 94 | 285 => 95 | 286 => 96 | 129 => 98 | 317 => 97 | 318 => 99 | 319 => 100 | 320 => 101 | 337 => 102 | 338 => 103 | n => n, fun | 37 => 54 | 53 => 112 | 3 => 3 | 4 => 4 | 9 => 9 | 171 => 117 | 0 => 0 | 173 => 120 | 212 => 127 | 51 => 114 | 5 => 5 | 20 => 20 | 213 => 128 | 46 => 102 | 232 => 131 | 233 => 132 | n => n, fun | 17 => 3 | 18 => 4 | 19 => 5 | n => n⟩
theorem Tryd.laysM288 : Go.Proofs.LaysM.n288 Tryd.prog Tryd.laysM288_ren := {
  mixed := by kernel_rfl
  f129 := Tryd.func98.trans (congrArg some (by kernel_rfl))
  f283 := Tryd.func93.trans (congrArg some (by kernel_rfl))
  f284 := Tryd.func94.trans (congrArg some (by kernel_rfl))
  f285 := Tryd.func95.trans (congrArg some (by kernel_rfl))
  f286 := Tryd.func96.trans (congrArg some (by kernel_rfl))
  f288 := Tryd.func89.trans (congrArg some (by kernel_rfl))
  f317 := Tryd.func97.trans (congrArg some (by kernel_rfl))
  f318 := Tryd.func99.trans (congrArg some (by kernel_rfl))
  f319 := Tryd.func100.trans (congrArg some (by kernel_rfl))
  f320 := Tryd.func101.trans (congrArg some (by kernel_rfl))
  f337 := Tryd.func102.trans (congrArg some (by kernel_rfl))
  f338 := Tryd.func103.trans (congrArg some (by kernel_rfl))
  t0 := Tryd.underlying0
  a0 := Tryd.isAgg0
  z0 := Tryd.sizeOf0
  v0 := Tryd.zeroValue0
  t3 := Tryd.underlying3
  a3 := Tryd.isAgg3
  z3 := Tryd.sizeOf3
  v3 := Tryd.zeroValue3
  t4 := Tryd.underlying4
  a4 := Tryd.isAgg4
  z4 := Tryd.sizeOf4
  v4 := Tryd.zeroValue4
  t5 := Tryd.underlying5
  a5 := Tryd.isAgg5
  z5 := Tryd.sizeOf5
  v5 := Tryd.zeroValue5
  t9 := Tryd.underlying9
  a9 := Tryd.isAgg9
  z9 := Tryd.sizeOf9
  v9 := Tryd.zeroValue9
  t20 := Tryd.underlying20
  a20 := Tryd.isAgg20
  z20 := Tryd.sizeOf20
  v20 := Tryd.zeroValue20
  t37 := Tryd.underlying54
  a37 := Tryd.isAgg54
  z37 := Tryd.sizeOf54
  v37 := Tryd.zeroValue54
  t46 := Tryd.underlying102
  a46 := Tryd.isAgg102
  z46 := Tryd.sizeOf102
  v46 := Tryd.zeroValue102
  t51 := Tryd.underlying114
  a51 := Tryd.isAgg114
  z51 := Tryd.sizeOf114
  v51 := Tryd.zeroValue114
  t53 := Tryd.underlying112
  a53 := Tryd.isAgg112
  z53 := Tryd.sizeOf112
  v53 := Tryd.zeroValue112
  t171 := Tryd.underlying117
  a171 := Tryd.isAgg117
  z171 := Tryd.sizeOf117
  v171 := Tryd.zeroValue117
  t173 := Tryd.underlying120
  a173 := Tryd.isAgg120
  z173 := Tryd.sizeOf120
  v173 := Tryd.zeroValue120
  t212 := Tryd.underlying127
  a212 := Tryd.isAgg127
  z212 := Tryd.sizeOf127
  v212 := Tryd.zeroValue127
  t213 := Tryd.underlying128
  a213 := Tryd.isAgg128
  z213 := Tryd.sizeOf128
  t232 := Tryd.underlying131
  a232 := Tryd.isAgg131
  z232 := Tryd.sizeOf131
  v232 := Tryd.zeroValue131
  t233 := Tryd.underlying132
  a233 := Tryd.isAgg132
  z233 := Tryd.sizeOf132
  v233 := Tryd.zeroValue132
  g17 := by kernel_rfl
  g18 := by kernel_rfl
  g19 := by kernel_rfl
  i0 := by kernel_rfl
  i3 := by kernel_rfl
  i4 := by kernel_rfl
  i5 := by kernel_rfl
  i9 := by kernel_rfl
  i20 := by kernel_rfl
  i37 := by kernel_rfl
  i46 := by kernel_rfl
  i51 := by kernel_rfl
  i53 := by kernel_rfl
  i171 := by kernel_rfl
  i173 := by kernel_rfl
  i212 := by kernel_rfl
  i232 := by kernel_rfl
  i233 := by kernel_rfl
  m17 := by kernel_rfl
  m18 := by kernel_rfl
  m19 := by kernel_rfl }
open Go.RowKit Go.Sort Go.Lib in
/-- internal/strconv.AppendUint(dst, i, 10), i BELOW 100: WHAT COMES BACK OWNS dst's CELLS AND, BEHIND THEM, i's DECIMAL NUMERAL. No table is read. Below the call's own blocks nothing has turned. (LAID: no walk: one application.) -/
theorem Tryd.internal_strconv_AppendUint_10_small (B n u : Nat) (hu : u < 100) (sv : Value) (xs : List Value) (w : World) (hown : w.ownsRow B 5 1 sv n xs) (hBw : B ≤ w.heap.size) (hlim : n + 20 ≤ 140737488355328) :
    Calls Tryd.prog 89 #[sv, .int .u64 u, .int .i64 10] w fun e w' => ∃ v', e = .returned v' ∧ w'.ownsRow B 5 1 v' (n + (Lib.decDigits u).length) (xs ++ Lib.byteCells (Lib.decDigits u)) ∧ Below B w w' ∧ Lib.OthersKept 5 none w w' := Any.internal_strconv_AppendUint_10_small Tryd.laysM288 B n u hu sv xs w hown hBw hlim
open Go.RowKit Go.Sort Go.Lib in
/-- internal/strconv.AppendUint(dst, i, 10), i FROM 100 ON: likewise; the digits are laid in an array of the call's own and appended. (LAID: no walk: one application.) -/
theorem Tryd.internal_strconv_AppendUint_10_big (B n u : Nat) (hu : 100 ≤ u) (hu64 : u < 18446744073709551616) (sv : Value) (xs : List Value) (w : World) (hown : w.ownsRow B 5 1 sv n xs) (hBw : B ≤ w.heap.size) (hlim : n + 20 ≤ 140737488355328) (htab : Lib.TabIs Tryd.prog w "internal/strconv.uint64pow10" .u64 Lib.pow10Tab) :
    Calls Tryd.prog 89 #[sv, .int .u64 u, .int .i64 10] w fun e w' => ∃ v', e = .returned v' ∧ w'.ownsRow B 5 1 v' (n + (Lib.decDigits u).length) (xs ++ Lib.byteCells (Lib.decDigits u)) ∧ Below B w w' ∧ Lib.OthersKept 5 none w w' := Any.internal_strconv_AppendUint_10_big Tryd.laysM288 B n u hu hu64 sv xs w hown hBw hlim htab
open Go.RowKit Go.Sort Go.Lib in
/-- internal/strconv.AppendUint(dst, i, 10): the two contracts as one. NO WALK. (LAID: no walk: one application.) -/
theorem Tryd.internal_strconv_AppendUint_10 (B n u : Nat) (hu64 : u < 18446744073709551616) (sv : Value) (xs : List Value) (w : World) (hown : w.ownsRow B 5 1 sv n xs) (hBw : B ≤ w.heap.size) (hlim : n + 20 ≤ 140737488355328) (htab : Lib.TabIs Tryd.prog w "internal/strconv.uint64pow10" .u64 Lib.pow10Tab) :
    Calls Tryd.prog 89 #[sv, .int .u64 u, .int .i64 10] w fun e w' => ∃ v', e = .returned v' ∧ w'.ownsRow B 5 1 v' (n + (Lib.decDigits u).length) (xs ++ Lib.byteCells (Lib.decDigits u)) ∧ Below B w w' ∧ Lib.OthersKept 5 none w w' := Any.internal_strconv_AppendUint_10 Tryd.laysM288 B n u hu64 sv xs w hown hBw hlim htab
def Tryd.laysM249_ren : Go.Shelf.Ren := ⟨fun | 249 => 80 | 288 => 89 | 283 => 93 | 284 => 94 | 285 => 95 | 286 => 96 | 129 => 98 | 317 => 97 | 318 => 99 | 319 => 100 | 320 => 101 | 337 => 102 | 338 => 103 | n => n, fun | 37 => 54 | 2 => 2 | 3 => 3 | 53 => 112 | 4 => 4 | 9 => 9 | 171 => 117 | 0 => 0 | 173 => 120 | 212 => 127 | 51 => 114 | 5 => 5 | 20 => 20 | 213 => 128 | 46 => 102 | 232 => 131 | 233 => 132 | n => n, fun | 17 => 3 | 18 => 4 | 19 => 5 | n => n⟩
theorem Tryd.laysM249 : Go.Proofs.LaysM.n249 Tryd.prog Tryd.laysM249_ren := {
  mixed := by kernel_rfl
  f129 := Tryd.func98.trans (congrArg some (by kernel_rfl))
  f249 := Tryd.func80.trans (congrArg some (by kernel_rfl))
  f283 := Tryd.func93.trans (congrArg some (by kernel_rfl))
  f284 := Tryd.func94.trans (congrArg some (by kernel_rfl))
  f285 := Tryd.func95.trans (congrArg some (by kernel_rfl))
  f286 := Tryd.func96.trans (congrArg some (by kernel_rfl))
  f288 := Tryd.func89.trans (congrArg some (by kernel_rfl))
  f317 := Tryd.func97.trans (congrArg some (by kernel_rfl))
  f318 := Tryd.func99.trans (congrArg some (by kernel_rfl))
  f319 := Tryd.func100.trans (congrArg some (by kernel_rfl))
  f320 := Tryd.func101.trans (congrArg some (by kernel_rfl))
  f337 := Tryd.func102.trans (congrArg some (by kernel_rfl))
  f338 := Tryd.func103.trans (congrArg some (by kernel_rfl))
  t0 := Tryd.underlying0
  a0 := Tryd.isAgg0
  z0 := Tryd.sizeOf0
  v0 := Tryd.zeroValue0
  t2 := Tryd.underlying2
  a2 := Tryd.isAgg2
  z2 := Tryd.sizeOf2
  v2 := Tryd.zeroValue2
  t3 := Tryd.underlying3
  a3 := Tryd.isAgg3
  z3 := Tryd.sizeOf3
  v3 := Tryd.zeroValue3
  t4 := Tryd.underlying4
  a4 := Tryd.isAgg4
  z4 := Tryd.sizeOf4
  v4 := Tryd.zeroValue4
  t5 := Tryd.underlying5
  a5 := Tryd.isAgg5
  z5 := Tryd.sizeOf5
  v5 := Tryd.zeroValue5
  t9 := Tryd.underlying9
  a9 := Tryd.isAgg9
  z9 := Tryd.sizeOf9
  v9 := Tryd.zeroValue9
  t20 := Tryd.underlying20
  a20 := Tryd.isAgg20
  z20 := Tryd.sizeOf20
  v20 := Tryd.zeroValue20
  t37 := Tryd.underlying54
  a37 := Tryd.isAgg54
  z37 := Tryd.sizeOf54
  v37 := Tryd.zeroValue54
  t46 := Tryd.underlying102
  a46 := Tryd.isAgg102
  z46 := Tryd.sizeOf102
  v46 := Tryd.zeroValue102
  t51 := Tryd.underlying114
  a51 := Tryd.isAgg114
  z51 := Tryd.sizeOf114
  v51 := Tryd.zeroValue114
  t53 := Tryd.underlying112
  a53 := Tryd.isAgg112
  z53 := Tryd.sizeOf112
  v53 := Tryd.zeroValue112
  t171 := Tryd.underlying117
  a171 := Tryd.isAgg117
  z171 := Tryd.sizeOf117
  v171 := Tryd.zeroValue117
  t173 := Tryd.underlying120
  a173 := Tryd.isAgg120
  z173 := Tryd.sizeOf120
  v173 := Tryd.zeroValue120
  t212 := Tryd.underlying127
  a212 := Tryd.isAgg127
  z212 := Tryd.sizeOf127
  v212 := Tryd.zeroValue127
  t213 := Tryd.underlying128
  a213 := Tryd.isAgg128
  z213 := Tryd.sizeOf128
  t232 := Tryd.underlying131
  a232 := Tryd.isAgg131
  z232 := Tryd.sizeOf131
  v232 := Tryd.zeroValue131
  t233 := Tryd.underlying132
  a233 := Tryd.isAgg132
  z233 := Tryd.sizeOf132
  v233 := Tryd.zeroValue132
  g17 := by kernel_rfl
  g18 := by kernel_rfl
  g19 := by kernel_rfl
  i0 := by kernel_rfl
  i2 := by kernel_rfl
  i3 := by kernel_rfl
  i4 := by kernel_rfl
  i5 := by kernel_rfl
  i9 := by kernel_rfl
  i20 := by kernel_rfl
  i37 := by kernel_rfl
  i46 := by kernel_rfl
  i51 := by kernel_rfl
  i53 := by kernel_rfl
  i171 := by kernel_rfl
  i173 := by kernel_rfl
  i212 := by kernel_rfl
  i232 := by kernel_rfl
  i233 := by kernel_rfl
  m17 := by kernel_rfl
  m18 := by kernel_rfl
  m19 := by kernel_rfl }
open Go.RowKit Go.Sort Go.Lib in
/-- internal/strconv.AppendInt: "AppendInt appends the string form of the integer i, as generated by FormatInt, to dst and returns the extended buffer.": AT BASE 10: WHAT COMES BACK OWNS dst's CELLS AND, BEHIND THEM, i's DECIMAL NUMERAL ('Lib.itoa i': at most 20 bytes), for every int64. Below the call's own blocks nothing has turned. (LAID: no walk: one application.) -/
theorem Tryd.internal_strconv_AppendInt_10 (B n : Nat) (i : Int) (h0 : -9223372036854775808 ≤ i) (h1 : i ≤ 9223372036854775807) (sv : Value) (xs : List Value) (w : World) (hown : w.ownsRow B 5 1 sv n xs) (hBw : B ≤ w.heap.size) (hlim : n + 21 ≤ 140737488355328) (htab : Lib.TabBelow Tryd.prog B w "internal/strconv.uint64pow10" .u64 Lib.pow10Tab) :
    Calls Tryd.prog 80 #[sv, .int .i64 i, .int .i64 10] w fun e w' => ∃ v', e = .returned v' ∧ w'.ownsRow B 5 1 v' (n + (Lib.itoa i).length) (xs ++ Lib.byteCells (Lib.itoa i)) ∧ Below B w w' ∧ Lib.OthersKept 5 none w w' := Any.internal_strconv_AppendInt_10 Tryd.laysM249 B n i h0 h1 sv xs w hown hBw hlim htab
def Tryd.laysM176_ren : Go.Shelf.Ren := ⟨fun | 176 => 70 | 249 => 80 | 288 => 89 | 283 => 93 | 284 => 94 | 285 => 95 | 286 => 96 | 129 => 98 | 317 => 97 | 318 => 99 | 319 => 100 | 320 => 101 | 337 => 102 | 338 => 103 | n => n, fun | 37 => 54 | 2 => 2 | 3 => 3 | 53 => 112 | 4 => 4 | 9 => 9 | 171 => 117 | 0 => 0 | 173 => 120 | 212 => 127 | 51 => 114 | 5 => 5 | 20 => 20 | 213 => 128 | 46 => 102 | 232 => 131 | 233 => 132 | n => n, fun | 17 => 3 | 18 => 4 | 19 => 5 | n => n⟩
theorem Tryd.laysM176 : Go.Proofs.LaysM.n176 Tryd.prog Tryd.laysM176_ren := {
  mixed := by kernel_rfl
  f129 := Tryd.func98.trans (congrArg some (by kernel_rfl))
  f176 := Tryd.func70.trans (congrArg some (by kernel_rfl))
  f249 := Tryd.func80.trans (congrArg some (by kernel_rfl))
  f283 := Tryd.func93.trans (congrArg some (by kernel_rfl))
  f284 := Tryd.func94.trans (congrArg some (by kernel_rfl))
  f285 := Tryd.func95.trans (congrArg some (by kernel_rfl))
  f286 := Tryd.func96.trans (congrArg some (by kernel_rfl))
  f288 := Tryd.func89.trans (congrArg some (by kernel_rfl))
  f317 := Tryd.func97.trans (congrArg some (by kernel_rfl))
  f318 := Tryd.func99.trans (congrArg some (by kernel_rfl))
  f319 := Tryd.func100.trans (congrArg some (by kernel_rfl))
  f320 := Tryd.func101.trans (congrArg some (by kernel_rfl))
  f337 := Tryd.func102.trans (congrArg some (by kernel_rfl))
  f338 := Tryd.func103.trans (congrArg some (by kernel_rfl))
  t0 := Tryd.underlying0
  a0 := Tryd.isAgg0
  z0 := Tryd.sizeOf0
  v0 := Tryd.zeroValue0
  t2 := Tryd.underlying2
  a2 := Tryd.isAgg2
  z2 := Tryd.sizeOf2
  v2 := Tryd.zeroValue2
  t3 := Tryd.underlying3
  a3 := Tryd.isAgg3
  z3 := Tryd.sizeOf3
  v3 := Tryd.zeroValue3
  t4 := Tryd.underlying4
  a4 := Tryd.isAgg4
  z4 := Tryd.sizeOf4
  v4 := Tryd.zeroValue4
  t5 := Tryd.underlying5
  a5 := Tryd.isAgg5
  z5 := Tryd.sizeOf5
  v5 := Tryd.zeroValue5
  t9 := Tryd.underlying9
  a9 := Tryd.isAgg9
  z9 := Tryd.sizeOf9
  v9 := Tryd.zeroValue9
  t20 := Tryd.underlying20
  a20 := Tryd.isAgg20
  z20 := Tryd.sizeOf20
  v20 := Tryd.zeroValue20
  t37 := Tryd.underlying54
  a37 := Tryd.isAgg54
  z37 := Tryd.sizeOf54
  v37 := Tryd.zeroValue54
  t46 := Tryd.underlying102
  a46 := Tryd.isAgg102
  z46 := Tryd.sizeOf102
  v46 := Tryd.zeroValue102
  t51 := Tryd.underlying114
  a51 := Tryd.isAgg114
  z51 := Tryd.sizeOf114
  v51 := Tryd.zeroValue114
  t53 := Tryd.underlying112
  a53 := Tryd.isAgg112
  z53 := Tryd.sizeOf112
  v53 := Tryd.zeroValue112
  t171 := Tryd.underlying117
  a171 := Tryd.isAgg117
  z171 := Tryd.sizeOf117
  v171 := Tryd.zeroValue117
  t173 := Tryd.underlying120
  a173 := Tryd.isAgg120
  z173 := Tryd.sizeOf120
  v173 := Tryd.zeroValue120
  t212 := Tryd.underlying127
  a212 := Tryd.isAgg127
  z212 := Tryd.sizeOf127
  v212 := Tryd.zeroValue127
  t213 := Tryd.underlying128
  a213 := Tryd.isAgg128
  z213 := Tryd.sizeOf128
  t232 := Tryd.underlying131
  a232 := Tryd.isAgg131
  z232 := Tryd.sizeOf131
  v232 := Tryd.zeroValue131
  t233 := Tryd.underlying132
  a233 := Tryd.isAgg132
  z233 := Tryd.sizeOf132
  v233 := Tryd.zeroValue132
  g17 := by kernel_rfl
  g18 := by kernel_rfl
  g19 := by kernel_rfl
  i0 := by kernel_rfl
  i2 := by kernel_rfl
  i3 := by kernel_rfl
  i4 := by kernel_rfl
  i5 := by kernel_rfl
  i9 := by kernel_rfl
  i20 := by kernel_rfl
  i37 := by kernel_rfl
  i46 := by kernel_rfl
  i51 := by kernel_rfl
  i53 := by kernel_rfl
  i171 := by kernel_rfl
  i173 := by kernel_rfl
  i212 := by kernel_rfl
  i232 := by kernel_rfl
  i233 := by kernel_rfl
  m17 := by kernel_rfl
  m18 := by kernel_rfl
  m19 := by kernel_rfl }
open Go.RowKit Go.Sort Go.Lib in
/-- strconv.AppendInt: "AppendInt appends the string form of the integer i, as generated by FormatInt, to dst and returns the extended buffer.": AT BASE 10: WHAT COMES BACK OWNS dst's CELLS AND, BEHIND THEM, i's DECIMAL NUMERAL ('Lib.itoa i': at most 20 bytes), for every int64. Below the call's own blocks nothing has turned. (LAID: no walk: one application.) -/
theorem Tryd.strconv_AppendInt_10 (B n : Nat) (i : Int) (h0 : -9223372036854775808 ≤ i) (h1 : i ≤ 9223372036854775807) (sv : Value) (xs : List Value) (w : World) (hown : w.ownsRow B 5 1 sv n xs) (hBw : B ≤ w.heap.size) (hlim : n + 21 ≤ 140737488355328) (htab : Lib.TabBelow Tryd.prog B w "internal/strconv.uint64pow10" .u64 Lib.pow10Tab) :
    Calls Tryd.prog 70 #[sv, .int .i64 i, .int .i64 10] w fun e w' => ∃ v', e = .returned v' ∧ w'.ownsRow B 5 1 v' (n + (Lib.itoa i).length) (xs ++ Lib.byteCells (Lib.itoa i)) ∧ Below B w w' ∧ Lib.OthersKept 5 none w w' := Any.strconv_AppendInt_10 Tryd.laysM176 B n i h0 h1 sv xs w hown hBw hlim htab
open Go.RowKit Go.Lib in
/-- strings.Count at whatever sep that is not empty: the two roads under one statement. (LAID: no walk: one application.) -/
theorem Tryd.strings_Count_any (s sep : ByteArray) (m : Int) (w : World) (hs : s.size < 4294967281) (hm : w.cell? ⟨0, 0, none⟩ = some (.int .i64 m)) (h1 : 1 ≤ sep.size) :
    Calls Tryd.prog 78 #[.string s, .string sep] w fun e w' => e = .returned (.int .i64 (Lib.countB s sep)) ∧ w' = w := Any.strings_Count_any Tryd.lays138 s sep m w hs hm h1
def Tryd.lays221_ren : Go.Shelf.Ren := ⟨fun | 221 => 68 | 268 => 77 | 138 => 78 | 143 => 79 | 195 => 86 | 197 => 87 | 218 => 88 | 219 => 76 | 260 => 92 | 217 => 82 | 225 => 83 | 224 => 84 | 267 => 85 | 266 => 90 | 314 => 91 | n => n, fun | 9 => 9 | 3 => 3 | 31 => 77 | 4 => 4 | 0 => 0 | 105 => 110 | 21 => 21 | 5 => 5 | 46 => 102 | 119 => 122 | 139 => 125 | 138 => 124 | 146 => 115 | 51 => 114 | n => n, fun | 1 => 0 | 3 => 1 | 4 => 2 | n => n⟩
theorem Tryd.lays221 : Go.Proofs.Lays.n221 Tryd.prog Tryd.lays221_ren := {
  mixed := by kernel_rfl
  f138 := Tryd.func78.trans (congrArg some (by kernel_rfl))
  f143 := Tryd.func79.trans (congrArg some (by kernel_rfl))
  f195 := Tryd.func86.trans (congrArg some (by kernel_rfl))
  f197 := Tryd.func87.trans (congrArg some (by kernel_rfl))
  f217 := Tryd.func82.trans (congrArg some (by kernel_rfl))
  f218 := Tryd.func88.trans (congrArg some (by kernel_rfl))
  f219 := Tryd.func76.trans (congrArg some (by kernel_rfl))
  f221 := Tryd.func68.trans (congrArg some (by kernel_rfl))
  f224 := Tryd.func84.trans (congrArg some (by kernel_rfl))
  f225 := Tryd.func83.trans (congrArg some (by kernel_rfl))
  f260 := Tryd.func92.trans (congrArg some (by kernel_rfl))
  f266 := Tryd.func90.trans (congrArg some (by kernel_rfl))
  f267 := Tryd.func85.trans (congrArg some (by kernel_rfl))
  f268 := Tryd.func77.trans (congrArg some (by kernel_rfl))
  f314 := Tryd.func91.trans (congrArg some (by kernel_rfl))
  t0 := Tryd.underlying0
  a0 := Tryd.isAgg0
  z0 := Tryd.sizeOf0
  v0 := Tryd.zeroValue0
  t3 := Tryd.underlying3
  a3 := Tryd.isAgg3
  z3 := Tryd.sizeOf3
  v3 := Tryd.zeroValue3
  t4 := Tryd.underlying4
  a4 := Tryd.isAgg4
  z4 := Tryd.sizeOf4
  v4 := Tryd.zeroValue4
  t5 := Tryd.underlying5
  a5 := Tryd.isAgg5
  z5 := Tryd.sizeOf5
  v5 := Tryd.zeroValue5
  t9 := Tryd.underlying9
  a9 := Tryd.isAgg9
  z9 := Tryd.sizeOf9
  v9 := Tryd.zeroValue9
  t21 := Tryd.underlying21
  a21 := Tryd.isAgg21
  z21 := Tryd.sizeOf21
  v21 := Tryd.zeroValue21
  t31 := Tryd.underlying77
  a31 := Tryd.isAgg77
  z31 := Tryd.sizeOf77
  v31 := Tryd.zeroValue77
  t46 := Tryd.underlying102
  a46 := Tryd.isAgg102
  z46 := Tryd.sizeOf102
  v46 := Tryd.zeroValue102
  t51 := Tryd.underlying114
  a51 := Tryd.isAgg114
  z51 := Tryd.sizeOf114
  v51 := Tryd.zeroValue114
  t105 := Tryd.underlying110
  a105 := Tryd.isAgg110
  z105 := Tryd.sizeOf110
  v105 := Tryd.zeroValue110
  t119 := Tryd.underlying122
  a119 := Tryd.isAgg122
  z119 := Tryd.sizeOf122
  t138 := Tryd.underlying124
  a138 := Tryd.isAgg124
  z138 := Tryd.sizeOf124
  v138 := Tryd.zeroValue124
  t139 := Tryd.underlying125
  a139 := Tryd.isAgg125
  z139 := Tryd.sizeOf125
  v139 := Tryd.zeroValue125
  t146 := Tryd.underlying115
  a146 := Tryd.isAgg115
  z146 := Tryd.sizeOf115
  v146 := Tryd.zeroValue115
  g1 := by kernel_rfl
  g3 := by kernel_rfl
  g4 := by kernel_rfl }
open Go.RowKit Go.Lib in
theorem Tryd.strings_genSplit (s sep : ByteArray) (sv : Nat) (n : Int) (N : Nat) (m : Int) (w : World) (hs : s.size < 4294967281) (hm : w.cell? ⟨0, 0, none⟩ = some (.int .i64 m)) (h1 : 1 ≤ sep.size) (hsv : sv ≤ sep.size) (hn0 : n ≠ 0) (hn63 : n ≤ 9223372036854775807) (hN : (N : Int) = min (if n < 0 then (Lib.countB s sep : Int) + 1 else n) ((s.size : Int) + 1)) :
    Calls Tryd.prog 68 #[.string s, .string sep, .int .i64 sv, .int .i64 n] w fun e w' =>
      e = .returned (.slice (some ⟨w.heap.size, 0, none⟩) (Lib.splitB sep sv (N - 1) s).length N) ∧ w' = w.alloc (.cells (Lib.cellsOf (Lib.splitB sep sv (N - 1) s) N) 9) := Any.strings_genSplit Tryd.lays221 (by kernel_rfl) s sep sv n N m w hs hm h1 hsv hn0 hn63 hN
def Tryd.lays146_ren : Go.Shelf.Ren := ⟨fun | 146 => 49 | 221 => 68 | 268 => 77 | 138 => 78 | 143 => 79 | 195 => 86 | 197 => 87 | 218 => 88 | 219 => 76 | 260 => 92 | 217 => 82 | 225 => 83 | 224 => 84 | 267 => 85 | 266 => 90 | 314 => 91 | n => n, fun | 9 => 9 | 31 => 77 | 3 => 3 | 4 => 4 | 0 => 0 | 105 => 110 | 21 => 21 | 5 => 5 | 46 => 102 | 119 => 122 | 139 => 125 | 138 => 124 | 146 => 115 | 51 => 114 | n => n, fun | 1 => 0 | 3 => 1 | 4 => 2 | n => n⟩
theorem Tryd.lays146 : Go.Proofs.Lays.n146 Tryd.prog Tryd.lays146_ren := {
  mixed := by kernel_rfl
  f138 := Tryd.func78.trans (congrArg some (by kernel_rfl))
  f143 := Tryd.func79.trans (congrArg some (by kernel_rfl))
  f146 := Tryd.func49.trans (congrArg some (by kernel_rfl))
  f195 := Tryd.func86.trans (congrArg some (by kernel_rfl))
  f197 := Tryd.func87.trans (congrArg some (by kernel_rfl))
  f217 := Tryd.func82.trans (congrArg some (by kernel_rfl))
  f218 := Tryd.func88.trans (congrArg some (by kernel_rfl))
  f219 := Tryd.func76.trans (congrArg some (by kernel_rfl))
  f221 := Tryd.func68.trans (congrArg some (by kernel_rfl))
  f224 := Tryd.func84.trans (congrArg some (by kernel_rfl))
  f225 := Tryd.func83.trans (congrArg some (by kernel_rfl))
  f260 := Tryd.func92.trans (congrArg some (by kernel_rfl))
  f266 := Tryd.func90.trans (congrArg some (by kernel_rfl))
  f267 := Tryd.func85.trans (congrArg some (by kernel_rfl))
  f268 := Tryd.func77.trans (congrArg some (by kernel_rfl))
  f314 := Tryd.func91.trans (congrArg some (by kernel_rfl))
  t0 := Tryd.underlying0
  a0 := Tryd.isAgg0
  z0 := Tryd.sizeOf0
  v0 := Tryd.zeroValue0
  t3 := Tryd.underlying3
  a3 := Tryd.isAgg3
  z3 := Tryd.sizeOf3
  v3 := Tryd.zeroValue3
  t4 := Tryd.underlying4
  a4 := Tryd.isAgg4
  z4 := Tryd.sizeOf4
  v4 := Tryd.zeroValue4
  t5 := Tryd.underlying5
  a5 := Tryd.isAgg5
  z5 := Tryd.sizeOf5
  v5 := Tryd.zeroValue5
  t9 := Tryd.underlying9
  a9 := Tryd.isAgg9
  z9 := Tryd.sizeOf9
  v9 := Tryd.zeroValue9
  t21 := Tryd.underlying21
  a21 := Tryd.isAgg21
  z21 := Tryd.sizeOf21
  v21 := Tryd.zeroValue21
  t31 := Tryd.underlying77
  a31 := Tryd.isAgg77
  z31 := Tryd.sizeOf77
  v31 := Tryd.zeroValue77
  t46 := Tryd.underlying102
  a46 := Tryd.isAgg102
  z46 := Tryd.sizeOf102
  v46 := Tryd.zeroValue102
  t51 := Tryd.underlying114
  a51 := Tryd.isAgg114
  z51 := Tryd.sizeOf114
  v51 := Tryd.zeroValue114
  t105 := Tryd.underlying110
  a105 := Tryd.isAgg110
  z105 := Tryd.sizeOf110
  v105 := Tryd.zeroValue110
  t119 := Tryd.underlying122
  a119 := Tryd.isAgg122
  z119 := Tryd.sizeOf122
  t138 := Tryd.underlying124
  a138 := Tryd.isAgg124
  z138 := Tryd.sizeOf124
  v138 := Tryd.zeroValue124
  t139 := Tryd.underlying125
  a139 := Tryd.isAgg125
  z139 := Tryd.sizeOf125
  v139 := Tryd.zeroValue125
  t146 := Tryd.underlying115
  a146 := Tryd.isAgg115
  z146 := Tryd.sizeOf115
  v146 := Tryd.zeroValue115
  g1 := by kernel_rfl
  g3 := by kernel_rfl
  g4 := by kernel_rfl }
open Go.RowKit Go.Lib in
/-- strings.Split. (LAID: no walk: one application.) -/
theorem Tryd.strings_Split (s sep : ByteArray) (m : Int) (w : World) (hs : s.size < 4294967281) (hm : w.cell? ⟨0, 0, none⟩ = some (.int .i64 m)) (h1 : 1 ≤ sep.size) :
    Calls Tryd.prog 49 #[.string s, .string sep] w fun e w' =>
      e = .returned (.slice (some ⟨w.heap.size, 0, none⟩) (Lib.countB s sep + 1) (Lib.countB s sep + 1)) ∧ w' = w.alloc (.cells ((Lib.splitB sep 0 (Lib.countB s sep) s).map Value.string).toArray 9) := Any.strings_Split Tryd.lays146 (by kernel_rfl) s sep m w hs hm h1
def Tryd.laysM146_ren : Go.Shelf.Ren := ⟨fun | 146 => 49 | 221 => 68 | 268 => 77 | 138 => 78 | 143 => 79 | 195 => 86 | 197 => 87 | 218 => 88 | 219 => 76 | 260 => 92 | 217 => 82 | 225 => 83 | 224 => 84 | 267 => 85 | 266 => 90 | 314 => 91 | n => n, fun | 9 => 9 | 31 => 77 | 3 => 3 | 4 => 4 | 0 => 0 | 105 => 110 | 21 => 21 | 5 => 5 | 46 => 102 | 119 => 122 | 139 => 125 | 138 => 124 | 146 => 115 | 51 => 114 | n => n, fun | 1 => 0 | 3 => 1 | 4 => 2 | n => n⟩
theorem Tryd.laysM146 : Go.Proofs.LaysM.n146 Tryd.prog Tryd.laysM146_ren := {
  mixed := by kernel_rfl
  f138 := Tryd.func78.trans (congrArg some (by kernel_rfl))
  f143 := Tryd.func79.trans (congrArg some (by kernel_rfl))
  f146 := Tryd.func49.trans (congrArg some (by kernel_rfl))
  f195 := Tryd.func86.trans (congrArg some (by kernel_rfl))
  f197 := Tryd.func87.trans (congrArg some (by kernel_rfl))
  f217 := Tryd.func82.trans (congrArg some (by kernel_rfl))
  f218 := Tryd.func88.trans (congrArg some (by kernel_rfl))
  f219 := Tryd.func76.trans (congrArg some (by kernel_rfl))
  f221 := Tryd.func68.trans (congrArg some (by kernel_rfl))
  f224 := Tryd.func84.trans (congrArg some (by kernel_rfl))
  f225 := Tryd.func83.trans (congrArg some (by kernel_rfl))
  f260 := Tryd.func92.trans (congrArg some (by kernel_rfl))
  f266 := Tryd.func90.trans (congrArg some (by kernel_rfl))
  f267 := Tryd.func85.trans (congrArg some (by kernel_rfl))
  f268 := Tryd.func77.trans (congrArg some (by kernel_rfl))
  f314 := Tryd.func91.trans (congrArg some (by kernel_rfl))
  t0 := Tryd.underlying0
  a0 := Tryd.isAgg0
  z0 := Tryd.sizeOf0
  v0 := Tryd.zeroValue0
  t3 := Tryd.underlying3
  a3 := Tryd.isAgg3
  z3 := Tryd.sizeOf3
  v3 := Tryd.zeroValue3
  t4 := Tryd.underlying4
  a4 := Tryd.isAgg4
  z4 := Tryd.sizeOf4
  v4 := Tryd.zeroValue4
  t5 := Tryd.underlying5
  a5 := Tryd.isAgg5
  z5 := Tryd.sizeOf5
  v5 := Tryd.zeroValue5
  t9 := Tryd.underlying9
  a9 := Tryd.isAgg9
  z9 := Tryd.sizeOf9
  v9 := Tryd.zeroValue9
  t21 := Tryd.underlying21
  a21 := Tryd.isAgg21
  z21 := Tryd.sizeOf21
  v21 := Tryd.zeroValue21
  t31 := Tryd.underlying77
  a31 := Tryd.isAgg77
  z31 := Tryd.sizeOf77
  v31 := Tryd.zeroValue77
  t46 := Tryd.underlying102
  a46 := Tryd.isAgg102
  z46 := Tryd.sizeOf102
  v46 := Tryd.zeroValue102
  t51 := Tryd.underlying114
  a51 := Tryd.isAgg114
  z51 := Tryd.sizeOf114
  v51 := Tryd.zeroValue114
  t105 := Tryd.underlying110
  a105 := Tryd.isAgg110
  z105 := Tryd.sizeOf110
  v105 := Tryd.zeroValue110
  t119 := Tryd.underlying122
  a119 := Tryd.isAgg122
  z119 := Tryd.sizeOf122
  t138 := Tryd.underlying124
  a138 := Tryd.isAgg124
  z138 := Tryd.sizeOf124
  v138 := Tryd.zeroValue124
  t139 := Tryd.underlying125
  a139 := Tryd.isAgg125
  z139 := Tryd.sizeOf125
  v139 := Tryd.zeroValue125
  t146 := Tryd.underlying115
  a146 := Tryd.isAgg115
  z146 := Tryd.sizeOf115
  v146 := Tryd.zeroValue115
  g1 := by kernel_rfl
  g3 := by kernel_rfl
  g4 := by kernel_rfl
  i0 := by kernel_rfl
  i3 := by kernel_rfl
  i4 := by kernel_rfl
  i5 := by kernel_rfl
  i9 := by kernel_rfl
  i21 := by kernel_rfl
  i31 := by kernel_rfl
  i46 := by kernel_rfl
  i51 := by kernel_rfl
  i105 := by kernel_rfl
  i138 := by kernel_rfl
  i139 := by kernel_rfl
  i146 := by kernel_rfl
  m1 := by kernel_rfl
  s1_3 := fun w h => Go.Proofs.cell_of_shapedOpen_int (zero := #[.int .i64 0]) (t := 3) h (of_decide_eq_true (by kernel_rfl)) (by kernel_rfl) rfl (by kernel_rfl) (by kernel_rfl) Tryd.underlying3
  m3 := by kernel_rfl
  m4 := by kernel_rfl }
open Go.RowKit Go.Lib in
/-- strings.Split, sep not empty. (LAID: no walk: one application.) -/
theorem Tryd.strings_Split_shaped (s sep : ByteArray) (w : World) (h : w.ShapedOpen Tryd.prog) (hs : s.size < 4294967281) (h1 : 1 ≤ sep.size) :
    Calls Tryd.prog 49 #[.string s, .string sep] w fun e w' =>
      e = .returned (.slice (some ⟨w.heap.size, 0, none⟩) (Lib.countB s sep + 1) (Lib.countB s sep + 1)) ∧ w' = w.alloc (.cells ((Lib.splitB sep 0 (Lib.countB s sep) s).map Value.string).toArray 9) := Any.strings_Split_shaped Tryd.laysM146 s sep w h hs h1
def Tryd.lays197_ren : Go.Shelf.Ren := ⟨fun | 197 => 87 | 260 => 92 | n => n, fun | 9 => 9 | 21 => 21 | 3 => 3 | 4 => 4 | 5 => 5 | 105 => 110 | 119 => 122 | 0 => 0 | 46 => 102 | 139 => 125 | 138 => 124 | n => n, fun | 3 => 1 | 4 => 2 | n => n⟩
theorem Tryd.lays197 : Go.Proofs.Lays.n197 Tryd.prog Tryd.lays197_ren := {
  mixed := by kernel_rfl
  f197 := Tryd.func87.trans (congrArg some (by kernel_rfl))
  f260 := Tryd.func92.trans (congrArg some (by kernel_rfl))
  t0 := Tryd.underlying0
  a0 := Tryd.isAgg0
  z0 := Tryd.sizeOf0
  v0 := Tryd.zeroValue0
  t3 := Tryd.underlying3
  a3 := Tryd.isAgg3
  z3 := Tryd.sizeOf3
  v3 := Tryd.zeroValue3
  t4 := Tryd.underlying4
  a4 := Tryd.isAgg4
  z4 := Tryd.sizeOf4
  v4 := Tryd.zeroValue4
  t5 := Tryd.underlying5
  a5 := Tryd.isAgg5
  z5 := Tryd.sizeOf5
  v5 := Tryd.zeroValue5
  t9 := Tryd.underlying9
  a9 := Tryd.isAgg9
  z9 := Tryd.sizeOf9
  v9 := Tryd.zeroValue9
  t21 := Tryd.underlying21
  a21 := Tryd.isAgg21
  z21 := Tryd.sizeOf21
  v21 := Tryd.zeroValue21
  t46 := Tryd.underlying102
  a46 := Tryd.isAgg102
  z46 := Tryd.sizeOf102
  v46 := Tryd.zeroValue102
  t105 := Tryd.underlying110
  a105 := Tryd.isAgg110
  z105 := Tryd.sizeOf110
  v105 := Tryd.zeroValue110
  t119 := Tryd.underlying122
  a119 := Tryd.isAgg122
  z119 := Tryd.sizeOf122
  t138 := Tryd.underlying124
  a138 := Tryd.isAgg124
  z138 := Tryd.sizeOf124
  v138 := Tryd.zeroValue124
  t139 := Tryd.underlying125
  a139 := Tryd.isAgg125
  z139 := Tryd.sizeOf125
  v139 := Tryd.zeroValue125
  g3 := by kernel_rfl
  g4 := by kernel_rfl }
open Go.RowKit Go.Lib in
/-- unicode/utf8.DecodeRuneInString: "DecodeRuneInString is like DecodeRune but its input is a string.": ("DecodeRune unpacks the first UTF-8 encoding in p and returns the rune and its width in bytes."): WHERE s BEGINS WITH AN ASCII BYTE x: (x, 1). (LAID: no walk: one application.) -/
theorem Tryd.utf8_DecodeRuneInString_ascii (s : ByteArray) (x : UInt8) (w : World) (h0 : s.data.toList[0]? = some x) (hx : x.toNat < 128) :
    Calls Tryd.prog 87 #[.string s] w fun e w' => e = .returned (.tuple #[.int .i32 x.toNat, .int .i64 1]) ∧ w' = w := Any.utf8_DecodeRuneInString_ascii Tryd.lays197 s x w h0 hx
open Go.RowKit Go.Lib in
theorem Tryd.utf8_RuneCountInString_ascii (s : ByteArray) (w : World) (hs : s.size < 4294967281) (hascii : ∀ (j : Nat) b, s.data.toList[j]? = some b → b.toNat < 128) :
    Calls Tryd.prog 86 #[.string s] w fun e w' => e = .returned (.int .i64 s.size) ∧ w' = w.iter s s.size := Any.utf8_RuneCountInString_ascii Tryd.lays195 s w hs hascii
def Tryd.lays268_ren : Go.Shelf.Ren := ⟨fun | 268 => 77 | 195 => 86 | 197 => 87 | 260 => 92 | n => n, fun | 9 => 9 | 3 => 3 | 31 => 77 | 4 => 4 | 105 => 110 | 21 => 21 | 0 => 0 | 5 => 5 | 119 => 122 | 46 => 102 | 139 => 125 | 138 => 124 | n => n, fun | 3 => 1 | 4 => 2 | n => n⟩
theorem Tryd.lays268 : Go.Proofs.Lays.n268 Tryd.prog Tryd.lays268_ren := {
  mixed := by kernel_rfl
  f195 := Tryd.func86.trans (congrArg some (by kernel_rfl))
  f197 := Tryd.func87.trans (congrArg some (by kernel_rfl))
  f260 := Tryd.func92.trans (congrArg some (by kernel_rfl))
  f268 := Tryd.func77.trans (congrArg some (by kernel_rfl))
  t0 := Tryd.underlying0
  a0 := Tryd.isAgg0
  z0 := Tryd.sizeOf0
  v0 := Tryd.zeroValue0
  t3 := Tryd.underlying3
  a3 := Tryd.isAgg3
  z3 := Tryd.sizeOf3
  v3 := Tryd.zeroValue3
  t4 := Tryd.underlying4
  a4 := Tryd.isAgg4
  z4 := Tryd.sizeOf4
  v4 := Tryd.zeroValue4
  t5 := Tryd.underlying5
  a5 := Tryd.isAgg5
  z5 := Tryd.sizeOf5
  v5 := Tryd.zeroValue5
  t9 := Tryd.underlying9
  a9 := Tryd.isAgg9
  z9 := Tryd.sizeOf9
  v9 := Tryd.zeroValue9
  t21 := Tryd.underlying21
  a21 := Tryd.isAgg21
  z21 := Tryd.sizeOf21
  v21 := Tryd.zeroValue21
  t31 := Tryd.underlying77
  a31 := Tryd.isAgg77
  z31 := Tryd.sizeOf77
  v31 := Tryd.zeroValue77
  t46 := Tryd.underlying102
  a46 := Tryd.isAgg102
  z46 := Tryd.sizeOf102
  v46 := Tryd.zeroValue102
  t105 := Tryd.underlying110
  a105 := Tryd.isAgg110
  z105 := Tryd.sizeOf110
  v105 := Tryd.zeroValue110
  t119 := Tryd.underlying122
  a119 := Tryd.isAgg122
  z119 := Tryd.sizeOf122
  t138 := Tryd.underlying124
  a138 := Tryd.isAgg124
  z138 := Tryd.sizeOf124
  v138 := Tryd.zeroValue124
  t139 := Tryd.underlying125
  a139 := Tryd.isAgg125
  z139 := Tryd.sizeOf125
  v139 := Tryd.zeroValue125
  g3 := by kernel_rfl
  g4 := by kernel_rfl }
open Go.RowKit Go.Lib in
theorem Tryd.strings_explode_all (s : ByteArray) (n : Int) (w : World) (hn : n < 0) (hs : s.size < 4294967281) (hascii : ∀ (j : Nat) b, s.data.toList[j]? = some b → b.toNat < 128) :
    Calls Tryd.prog 77 #[.string s, .int .i64 n] w fun e w' =>
      e = .returned (.slice (some ⟨(w.iter s s.size).heap.size, 0, none⟩) s.size s.size) ∧ w' = (w.iter s s.size).alloc (.cells ((Lib.charsB s).map Value.string).toArray 9) := Any.strings_explode_all Tryd.lays268 (by kernel_rfl) s n w hn hs hascii
open Go.RowKit Go.Lib in
/-- strings.genSplit at sep == "", n < 0: 'return explode(s, n)'. (LAID: no walk: one application.) -/
theorem Tryd.strings_genSplit_chars (s sep : ByteArray) (sv n : Int) (w : World) (h0 : sep.size = 0) (hn : n < 0) (hs : s.size < 4294967281) (hascii : ∀ (j : Nat) b, s.data.toList[j]? = some b → b.toNat < 128) :
    Calls Tryd.prog 68 #[.string s, .string sep, .int .i64 sv, .int .i64 n] w fun e w' =>
      e = .returned (.slice (some ⟨(w.iter s s.size).heap.size, 0, none⟩) s.size s.size) ∧ w' = (w.iter s s.size).alloc (.cells ((Lib.charsB s).map Value.string).toArray 9) := Any.strings_genSplit_chars Tryd.lays221 (by kernel_rfl) s sep sv n w h0 hn hs hascii
open Go.RowKit Go.Lib in
/-- strings.Split(s, ""), s ASCII: a piece a byte. (LAID: no walk: one application.) -/
theorem Tryd.strings_Split_chars (s sep : ByteArray) (w : World) (h0 : sep.size = 0) (hs : s.size < 4294967281) (hascii : ∀ (j : Nat) b, s.data.toList[j]? = some b → b.toNat < 128) :
    Calls Tryd.prog 49 #[.string s, .string sep] w fun e w' =>
      e = .returned (.slice (some ⟨(w.iter s s.size).heap.size, 0, none⟩) s.size s.size) ∧ w' = (w.iter s s.size).alloc (.cells ((Lib.charsB s).map Value.string).toArray 9) := Any.strings_Split_chars Tryd.lays146 (by kernel_rfl) s sep w h0 hs hascii
def Tryd.lays260_ren : Go.Shelf.Ren := ⟨fun | 260 => 92 | n => n, fun | 9 => 9 | 21 => 21 | 3 => 3 | 4 => 4 | 5 => 5 | 119 => 122 | 0 => 0 | 46 => 102 | 139 => 125 | 138 => 124 | n => n, fun | 3 => 1 | 4 => 2 | n => n⟩
theorem Tryd.lays260 : Go.Proofs.Lays.n260 Tryd.prog Tryd.lays260_ren := {
  mixed := by kernel_rfl
  f260 := Tryd.func92.trans (congrArg some (by kernel_rfl))
  t0 := Tryd.underlying0
  a0 := Tryd.isAgg0
  z0 := Tryd.sizeOf0
  v0 := Tryd.zeroValue0
  t3 := Tryd.underlying3
  a3 := Tryd.isAgg3
  z3 := Tryd.sizeOf3
  v3 := Tryd.zeroValue3
  t4 := Tryd.underlying4
  a4 := Tryd.isAgg4
  z4 := Tryd.sizeOf4
  v4 := Tryd.zeroValue4
  t5 := Tryd.underlying5
  a5 := Tryd.isAgg5
  z5 := Tryd.sizeOf5
  v5 := Tryd.zeroValue5
  t9 := Tryd.underlying9
  a9 := Tryd.isAgg9
  z9 := Tryd.sizeOf9
  v9 := Tryd.zeroValue9
  t21 := Tryd.underlying21
  a21 := Tryd.isAgg21
  z21 := Tryd.sizeOf21
  v21 := Tryd.zeroValue21
  t46 := Tryd.underlying102
  a46 := Tryd.isAgg102
  z46 := Tryd.sizeOf102
  v46 := Tryd.zeroValue102
  t119 := Tryd.underlying122
  a119 := Tryd.isAgg122
  z119 := Tryd.sizeOf122
  t138 := Tryd.underlying124
  a138 := Tryd.isAgg124
  z138 := Tryd.sizeOf124
  v138 := Tryd.zeroValue124
  t139 := Tryd.underlying125
  a139 := Tryd.isAgg125
  z139 := Tryd.sizeOf125
  v139 := Tryd.zeroValue125
  g3 := by kernel_rfl
  g4 := by kernel_rfl }
open Go.RowKit Go.Lib in
theorem Tryd.utf8_decodeRuneInStringSlow (s : ByteArray) (w : World) (hT : Lib.Utf8Tabs 1 2 w) :
    Calls Tryd.prog 92 #[.string s] w fun e w' => e = .returned (.tuple #[.int .i32 (Lib.decodeGo s).1, .int .i64 (Lib.decodeGo s).2]) ∧ Below w.heap.size w w' := Any.utf8_decodeRuneInStringSlow Tryd.lays260 s w hT
open Go.RowKit Go.Lib in
/-- **unicode/utf8.DecodeRuneInString AT EVERY STRING.** (LAID: no walk: one application.) -/
theorem Tryd.utf8_DecodeRuneInString (s : ByteArray) (w : World) (hT : Lib.Utf8Tabs 1 2 w) :
    Calls Tryd.prog 87 #[.string s] w fun e w' => e = .returned (.tuple #[.int .i32 (Lib.decodeGo s).1, .int .i64 (Lib.decodeGo s).2]) ∧ Below w.heap.size w w' := Any.utf8_DecodeRuneInString Tryd.lays197 s w hT
def Tryd.laysNm215_ren : Go.Shelf.Ren := ⟨fun | 15 => 33 | n => n, fun | 22 => 22 | 3 => 3 | 4 => 4 | n => n, fun | n => n⟩
theorem Tryd.laysNm215 : Go.Proofs.Lays2.n15 Tryd.prog Tryd.laysNm215_ren := {
  mixed := by kernel_rfl
  f15 := Tryd.func33.trans (congrArg some (by kernel_rfl))
  t3 := Tryd.underlying3
  a3 := Tryd.isAgg3
  z3 := Tryd.sizeOf3
  v3 := Tryd.zeroValue3
  t4 := Tryd.underlying4
  a4 := Tryd.isAgg4
  z4 := Tryd.sizeOf4
  v4 := Tryd.zeroValue4
  t22 := Tryd.underlying22
  a22 := Tryd.isAgg22
  z22 := Tryd.sizeOf22
  v22 := Tryd.zeroValue22
  i3 := by kernel_rfl }
open Go.RowKit Go.Lib in
/-- slices.Clone at []int: "Clone returns a copy of the slice. The elements are copied using assignment, so this is a shallow clone. The result may have additional unused capacity. The result preserves the nilness of s.": OF A SLICE THAT IS NOT nil IT RETURNS A SLICE THAT IS NOT nil, OF THE SAME ELEMENTS, IN MEMORY OF THE CALL's OWN: in the how-to's words (6f): 'w'.ownsRow B e 1 v' n cells': v' begins at the head of a row among the blocks from B on (B: the heap's size at the call), not frozen, whose first cells are the elements · 'Below B w w'': below B all is as it was. The capacity is whatever the run-time gives. 'zs': what the cells behind the slice's address hold; 'zs.take n': its elements. (LAID: no walk: one application.) -/
theorem Tryd.slices_Clone_int (b off n c : Nat) (zs : List Int) (w : World) (hz : n ≤ zs.length) (hbig : n * 8 ≤ 140737488355328) (hc : ∀ j, j < zs.length → w.cell? ⟨b, off + j, none⟩ = some (.int .i64 (zs.getD j 0))) :
    Calls Tryd.prog 33 #[.slice (some ⟨b, off, none⟩) n c] w fun e w' => ∃ v', e = .returned v' ∧ w'.ownsRow w.heap.size 3 1 v' n ((zs.take n).map (Value.int .i64)) ∧ v' ≠ .slice none 0 0 ∧ Below w.heap.size w w' := Any.slices_Clone_int Tryd.laysNm215 b off n c zs w hz hbig hc
open Go.RowKit Go.Lib in
/-- The same at nil: nil comes back; the world is as it was. (LAID: no walk: one application.) -/
theorem Tryd.slices_Clone_int_nil (n c : Nat) (w : World) :
    Calls Tryd.prog 33 #[.slice none n c] w fun e w' => e = .returned (.slice none 0 0) ∧ w' = w := Any.slices_Clone_int_nil Tryd.laysNm215 n c w
open Go.RowKit Go.Lib in
/-- The same at a slice of length 0 that is not nil, WHATEVER ITS ADDRESS (no cell is asked for): a slice that is not nil and owns nothing comes back. (LAID: no walk: one application.) -/
theorem Tryd.slices_Clone_int_zero (a : Addr) (c : Nat) (w : World) :
    Calls Tryd.prog 33 #[.slice (some a) 0 c] w fun e w' => ∃ v', e = .returned v' ∧ w'.ownsRow w.heap.size 3 1 v' 0 [] ∧ v' ≠ .slice none 0 0 ∧ Below w.heap.size w w' := Any.slices_Clone_int_zero Tryd.laysNm215 a c w
def Tryd.laysNm237_ren : Go.Shelf.Ren := ⟨fun | 37 => 81 | n => n, fun | 3 => 3 | 4 => 4 | n => n, fun | n => n⟩
theorem Tryd.laysNm237 : Go.Proofs.Lays2.n37 Tryd.prog Tryd.laysNm237_ren := {
  mixed := by kernel_rfl
  f37 := Tryd.func81.trans (congrArg some (by kernel_rfl))
  t3 := Tryd.underlying3
  a3 := Tryd.isAgg3
  z3 := Tryd.sizeOf3
  v3 := Tryd.zeroValue3
  t4 := Tryd.underlying4
  a4 := Tryd.isAgg4
  z4 := Tryd.sizeOf4
  v4 := Tryd.zeroValue4 }
open Go.RowKit Go.Lib in
/-- cmp.isNaN[int]: 'x != x': false. (LAID: no walk: one application.) -/
theorem Tryd.cmp_isNaN_int2 (x : Int) (w : World) :
    Calls Tryd.prog 81 #[.int .i64 x] w fun e w' => e = .returned (.bool false) ∧ w' = w := Any.cmp_isNaN_int2 Tryd.laysNm237 x w
end Go.Proofs
end
section
/- slices.Clone of numbers keeps its promise. -/
namespace Go.Proofs.YthalofddjlhcjaaDoor
open Go Go.RowKit
set_option maxRecDepth 100000
set_option maxHeartbeats 4000000
set_option linter.unusedVariables false
set_option linter.unusedSimpArgs false

theorem intsI_inv : ∀ {cs : List T} {xs : List Int}, intsI cs = some xs → cs = xs.map fun x => .sc (.int .i64 x)
  | [], xs, h => by simp [intsI] at h; subst h; rfl
  | c :: cs, xs, h => by
    unfold intsI at h
    split at h
    · rename_i he; cases he
    · rename_i x l he
      cases he
      simp only [Option.map_eq_some_iff] at h
      obtain ⟨ys, hy, rfl⟩ := h
      simp [← intsI_inv hy]
    · cases h

/-- New blocks are the result's. -/
def newK (B : Nat) (K : Nat → Color) (b : Nat) : Color := if B ≤ b then [0] else K b
theorem below_step {w w' : World} {K : Nat → Color} (h : Below w.heap.size w w') : Step w K w' (newK w.heap.size K) :=
  ⟨h.os, h.tape, h.output, h.size, fun b hb _ => ⟨by unfold newK; rw [if_neg (by omega)], h.block b hb⟩, .olds fun b hb => h.block b hb⟩
theorem own_row {w : World} {K : Nat → Color} {B : Nat} {e : TypeId} {v : Value} {n : Nat} {xs : List Int} (hn : xs.length = n) (h : w.ownsRow B e 1 v n (xs.map (Value.int .i64))) : TRep w (newK B K) [0] v (ointsT xs) := by
  obtain ⟨h1, h2⟩ := h
  subst hn
  rcases h2 with ⟨rfl, h0⟩ | ⟨g, cap, cur, rfl, hb, hg, hc1, hc2, hs, ht⟩
  · have : xs = [] := List.eq_nil_of_length_eq_zero h0
    subst this
    exact .nil _ _
  · refine .own [0] g xs.length cap 1 _ cur e (0, 0) (fun j => .int .i64 (xs.getD j 0)) (fun i _ => by simp) (by simp) (by unfold newK; rw [if_pos hb]) hg hs (by simp) (by omega) hc1 hc2 (fun j hj => ?_) (fun j t ht => ?_)
    · have hj' : j < xs.length := by simpa using hj
      have h3 : (cur.toList.take (xs.length * 1))[j]? = (xs.map (Value.int .i64))[j]? := by rw [ht]
      rw [List.getElem?_take_of_lt (by omega), List.getElem?_map, List.getElem?_eq_getElem hj'] at h3
      simp only [Option.map_some, Array.getElem?_toList] at h3
      rw [h3, List.getD, List.getElem?_eq_getElem hj']
      rfl
    · simp only [List.getElem?_map, Option.map_eq_some_iff] at ht
      obtain ⟨x, hx, rfl⟩ := ht
      simp only [List.getD, hx]
      exact .sc _ _ rfl

theorem index_sound {I : World → (Nat → Color) → Prop} {f : FuncId} {fn : Func} (hf : Tryd.prog.funcs[f]? = some fn) (hb : ∃ c, fn.body = some c) (hn : fn.name ≠ "runtime.NumGoroutine") {g : ByteArray → UInt8 → Int}
    (hc : ∀ (s : ByteArray) (c : UInt8) (w : World), Calls Tryd.prog f #[.string s, .string ⟨#[c]⟩] w fun e w' => e = .returned (.int .i64 (g s c)) ∧ w' = w) (s b : ByteArray) (c : UInt8) (h : b.data.toList = [c]) :
    CallOk Tryd.prog I f [.sc (.string s), .sc (.string b)] (.sc (.int .i64 (g s c))) [.dead, .dead] := by
  obtain ⟨cd, hb⟩ := hb
  have eb : b = ⟨#[c]⟩ := by
    obtain ⟨d⟩ := b
    congr 1
    exact Array.toList_inj.1 (by simpa using h)
  subst eb
  refine ⟨fun vals w => ?_, fun w K vals hs ha hI => ?_⟩
  · simp [callFunc, program, Sem.run, hf, hn, hb]
  · obtain ⟨v, u, rfl⟩ : ∃ v u, vals = #[v, u] := by
      obtain ⟨l⟩ := vals
      match l, hs with
      | [v, u], _ => exact ⟨v, u, rfl⟩
    have h1 : TRep w K [] v (.sc (.string s)) := ha 0 _ rfl
    have h2 : TRep w K [] u (.sc (.string ⟨#[c]⟩)) := ha 1 _ rfl
    rw [h1.sc_eq, h2.sc_eq]
    refine (hc s c w).mono fun e w' ⟨he, hw⟩ => ?_
    subst hw
    refine ⟨_, K, he, .sc _ _ rfl, fun i t hi hio => ?_, Step.refl _ _⟩
    match i, hi with
    | 0, hi => cases hi; cases hio
    | 1, hi => cases hi; cases hio
theorem xtC_sound {I : World → (Nat → Color) → Prop} : Sound Tryd.prog I xtC := by
  intro f args r outs h
  unfold xtC at h
  split at h
  case isFalse =>
    split at h
    · rename_i hf
      unfold xIndex at h
      split at h
      case h_2 => cases h
      rename_i s b
      split at h
      case h_2 => cases h
      rename_i c hcc
      cases h
      rcases hf with rfl | rfl
      · exact index_sound (g := fun s c => Lib.indexByte s.data.toList c) (fn := Tryd.f76) Tryd.func76 ⟨_, rfl⟩ (by decide) (fun s c w => Tryd.stringslite_Index_one s c w) s b c hcc
      · exact index_sound (g := fun s c => Lib.indexByte s.data.toList c) (fn := Tryd.f79) Tryd.func79 ⟨_, rfl⟩ (by decide) (fun s c w => Tryd.strings_Index_one s c w) s b c hcc
    · split at h
      case isFalse => cases h
      rename_i hf
      subst hf
      unfold xCount at h
      split at h
      case h_2 => cases h
      rename_i s b
      split at h
      case h_2 => cases h
      rename_i c hcc
      cases h
      exact index_sound (g := fun s c => ((Lib.countByte s.data.toList c : Nat) : Int)) (fn := Tryd.f78) Tryd.func78 ⟨_, rfl⟩ (by decide) (fun s c w => Tryd.strings_Count_one s c w) s b c hcc
  rename_i hf
  subst hf
  unfold xClone at h
  split at h
  case h_2 => cases h
  rename_i n cs
  split at h
  case h_2 => cases h
  rename_i xs hxs
  split at h
  case isFalse => cases h
  rename_i hc
  obtain ⟨hl, hb⟩ := hc
  obtain ⟨rfl, rfl⟩ : ointsT xs = r ∧ [T.dead] = outs := by simpa using h
  have hcs := intsI_inv hxs
  subst hcs
  clear hxs h
  subst hl
  refine ⟨fun vals w => ?_, fun w K vals hs ha hI => ?_⟩
  · have hb : ∃ c, Tryd.f33.body = some c := ⟨_, rfl⟩
    obtain ⟨c, hb⟩ := hb
    have hname : Tryd.f33.name ≠ "runtime.NumGoroutine" := by decide
    simp [callFunc, program, Sem.run, Tryd.func33, hname, hb]
  · obtain ⟨v, rfl⟩ : ∃ v, vals = #[v] := by
      obtain ⟨l⟩ := vals
      match l, hs with
      | [v], _ => exact ⟨v, rfl⟩
    have hv := ha 0 _ rfl
    have hv : TRep w K [] v (ints xs) := hv
    have fin : ∀ e w', (∃ v', e = Ending.returned v' ∧ w'.ownsRow w.heap.size 3 1 v' xs.length (xs.map (Value.int .i64)) ∧ Below w.heap.size w w') → ∃ v' K', e = Ending.returned v' ∧ TRep w' K' [0] v' (ointsT xs) ∧ (∀ i t, [ints xs][i]? = some t → isIo t = true → ∃ t', [T.dead][i]? = some t' ∧ TRep w' K' (col i) (#[v].getD i undef) t') ∧ Step w K w' K' := by
      rintro e w' ⟨v', he, ho, hbl⟩
      refine ⟨v', newK w.heap.size K, he, own_row rfl ho, fun i t hi hio => ?_, below_step hbl⟩
      match i, hi with
      | 0, hi => cases hi; cases hio
    generalize hT : ints xs = t at hv
    cases hv with
    | emp c a cap hcap =>
      have : xs = [] := by
        have : xs.length = 0 := by injection hT
        exact List.eq_nil_of_length_eq_zero this
      subst this
      cases a with
      | none => exact (Tryd.slices_Clone_int_nil 0 cap w).mono fun e w' ⟨he, hw⟩ => fin e w' ⟨_, he, ⟨by simp, .inl ⟨rfl, rfl⟩⟩, hw ▸ Below.refl _ _⟩
      | some a => exact (Tryd.slices_Clone_int_zero a cap w).mono fun e w' ⟨v', he, ho, _, hb⟩ => fin e w' ⟨v', he, ho, hb⟩
    | fro c g o n cap cs F hK hg hn hcap hF hh =>
      injection hT with e1 e2
      subst e1
      subst e2
      refine (Tryd.slices_Clone_int g o xs.length cap xs w (Nat.le_refl _) hb (fun j hj => ?_)).mono fun e w' ⟨v', he, ho, _, hbl⟩ => fin e w' ⟨v', he, ?_, hbl⟩
      · have h1 := hF j (by simpa using hj)
        rw [h1]
        have h2 := hh j (.sc (.int .i64 (xs.getD j 0))) (by simp [List.getD, hj])
        rw [h2.sc_eq]
      · rw [List.take_of_length_le (Nat.le_refl _)] at ho
        exact ho
    | _ => cases hT
end Go.Proofs.YthalofddjlhcjaaDoor
end
section
/- The schedules are orders. -/
namespace Go.Proofs.YthalofddjlhcjaaDoor
open Go
set_option maxRecDepth 100000

theorem cok3 : okFn Tryd.prog 3 cf3 = true := by kernel_rfl
theorem cok4 : okFn Tryd.prog 4 cf4 = true := by kernel_rfl
theorem cok5 : okFn Tryd.prog 5 cf5 = true := by kernel_rfl
theorem cok6 : okFn Tryd.prog 6 cf6 = true := by kernel_rfl
theorem cok7 : okFn Tryd.prog 7 cf7 = true := by kernel_rfl
theorem cok8 : okFn Tryd.prog 8 cf8 = true := by kernel_rfl
theorem cok9 : okFn Tryd.prog 9 cf9 = true := by kernel_rfl
theorem cok10 : okFn Tryd.prog 10 cf10 = true := by kernel_rfl
theorem cok11 : okFn Tryd.prog 11 cf11 = true := by kernel_rfl
theorem cok12 : okFn Tryd.prog 12 cf12 = true := by kernel_rfl
theorem cok13 : okFn Tryd.prog 13 cf13 = true := by kernel_rfl
theorem cok14 : okFn Tryd.prog 14 cf14 = true := by kernel_rfl
theorem cok15 : okFn Tryd.prog 15 cf15 = true := by kernel_rfl
theorem cok16 : okFn Tryd.prog 16 cf16 = true := by kernel_rfl
theorem cok17 : okFn Tryd.prog 17 cf17 = true := by kernel_rfl
theorem cok18 : okFn Tryd.prog 18 cf18 = true := by kernel_rfl
theorem cok19 : okFn Tryd.prog 19 cf19 = true := by kernel_rfl
theorem cok20 : okFn Tryd.prog 20 cf20 = true := by kernel_rfl
theorem cok21 : okFn Tryd.prog 21 cf21 = true := by kernel_rfl
theorem cok22 : okFn Tryd.prog 22 cf22 = true := by kernel_rfl
theorem cok23 : okFn Tryd.prog 23 cf23 = true := by kernel_rfl
theorem cok24 : okFn Tryd.prog 24 cf24 = true := by kernel_rfl
theorem cok25 : okFn Tryd.prog 25 cf25 = true := by kernel_rfl
theorem cok26 : okFn Tryd.prog 26 cf26 = true := by kernel_rfl
theorem cok27 : okFn Tryd.prog 27 cf27 = true := by kernel_rfl
theorem cok28 : okFn Tryd.prog 28 cf28 = true := by kernel_rfl
theorem cok29 : okFn Tryd.prog 29 cf29 = true := by kernel_rfl
theorem cok30 : okFn Tryd.prog 30 cf30 = true := by kernel_rfl
theorem cok31 : okFn Tryd.prog 31 cf31 = true := by kernel_rfl
theorem cok32 : okFn Tryd.prog 32 cf32 = true := by kernel_rfl
theorem cok34 : okFn Tryd.prog 34 cf34 = true := by kernel_rfl
theorem cok35 : okFn Tryd.prog 35 cf35 = true := by kernel_rfl
theorem cok36 : okFn Tryd.prog 36 cf36 = true := by kernel_rfl
theorem cok37 : okFn Tryd.prog 37 cf37 = true := by kernel_rfl
theorem cok38 : okFn Tryd.prog 38 cf38 = true := by kernel_rfl
theorem cok39 : okFn Tryd.prog 39 cf39 = true := by kernel_rfl
theorem cok40 : okFn Tryd.prog 40 cf40 = true := by kernel_rfl
theorem cok41 : okFn Tryd.prog 41 cf41 = true := by kernel_rfl
theorem cok42 : okFn Tryd.prog 42 cf42 = true := by kernel_rfl
theorem cok43 : okFn Tryd.prog 43 cf43 = true := by kernel_rfl
theorem cok44 : okFn Tryd.prog 44 cf44 = true := by kernel_rfl
theorem cok45 : okFn Tryd.prog 45 cf45 = true := by kernel_rfl
theorem cok46 : okFn Tryd.prog 46 cf46 = true := by kernel_rfl
theorem cok47 : okFn Tryd.prog 47 cf47 = true := by kernel_rfl
theorem cok48 : okFn Tryd.prog 48 cf48 = true := by kernel_rfl
theorem cok49 : okFn Tryd.prog 49 cf49 = true := by kernel_rfl
theorem cok50 : okFn Tryd.prog 50 cf50 = true := by kernel_rfl
theorem cok51 : okFn Tryd.prog 51 cf51 = true := by kernel_rfl
theorem cok52 : okFn Tryd.prog 52 cf52 = true := by kernel_rfl
theorem cok53 : okFn Tryd.prog 53 cf53 = true := by kernel_rfl
theorem cok54 : okFn Tryd.prog 54 cf54 = true := by kernel_rfl
theorem cok55 : okFn Tryd.prog 55 cf55 = true := by kernel_rfl
theorem cok56 : okFn Tryd.prog 56 cf56 = true := by kernel_rfl
theorem cok57 : okFn Tryd.prog 57 cf57 = true := by kernel_rfl
theorem cok58 : okFn Tryd.prog 58 cf58 = true := by kernel_rfl
theorem cok59 : okFn Tryd.prog 59 cf59 = true := by kernel_rfl
theorem cok60 : okFn Tryd.prog 60 cf60 = true := by kernel_rfl
theorem cok61 : okFn Tryd.prog 61 cf61 = true := by kernel_rfl
theorem cok62 : okFn Tryd.prog 62 cf62 = true := by kernel_rfl
theorem cok63 : okFn Tryd.prog 63 cf63 = true := by kernel_rfl
theorem cok64 : okFn Tryd.prog 64 cf64 = true := by kernel_rfl
theorem cok65 : okFn Tryd.prog 65 cf65 = true := by kernel_rfl
theorem cok66 : okFn Tryd.prog 66 cf66 = true := by kernel_rfl
theorem cok67 : okFn Tryd.prog 67 cf67 = true := by kernel_rfl
theorem cok68 : okFn Tryd.prog 68 cf68 = true := by kernel_rfl
theorem cok69 : okFn Tryd.prog 69 cf69 = true := by kernel_rfl
theorem cok70 : okFn Tryd.prog 70 cf70 = true := by kernel_rfl
theorem cok71 : okFn Tryd.prog 71 cf71 = true := by kernel_rfl
theorem cok72 : okFn Tryd.prog 72 cf72 = true := by kernel_rfl
theorem cok73 : okFn Tryd.prog 73 cf73 = true := by kernel_rfl
theorem cok74 : okFn Tryd.prog 74 cf74 = true := by kernel_rfl
theorem cok75 : okFn Tryd.prog 75 cf75 = true := by kernel_rfl
theorem cok80 : okFn Tryd.prog 80 cf80 = true := by kernel_rfl
theorem cok81 : okFn Tryd.prog 81 cf81 = true := by kernel_rfl
theorem cok89 : okFn Tryd.prog 89 cf89 = true := by kernel_rfl
theorem cok93 : okFn Tryd.prog 93 cf93 = true := by kernel_rfl
theorem if_ok {p : Prop} [Decidable p] {a c : Cfg} {r : Option Cfg} {G : Prop} (h : (if p then some a else r) = some c) (h1 : p → a = c → G) (h2 : r = some c → G) : G := by
  split at h
  · rename_i hp; exact h1 hp (Option.some.inj h)
  · exact h2 h
theorem cfOk : ∀ f c, cfAll f = some c → okFn Tryd.prog f c = true := by
  intro f c h
  unfold cfAll at h
  refine if_ok h (fun e h => by rw [e, ← h]; exact cok3) fun h => ?_
  refine if_ok h (fun e h => by rw [e, ← h]; exact cok4) fun h => ?_
  refine if_ok h (fun e h => by rw [e, ← h]; exact cok5) fun h => ?_
  refine if_ok h (fun e h => by rw [e, ← h]; exact cok6) fun h => ?_
  refine if_ok h (fun e h => by rw [e, ← h]; exact cok7) fun h => ?_
  refine if_ok h (fun e h => by rw [e, ← h]; exact cok8) fun h => ?_
  refine if_ok h (fun e h => by rw [e, ← h]; exact cok9) fun h => ?_
  refine if_ok h (fun e h => by rw [e, ← h]; exact cok10) fun h => ?_
  refine if_ok h (fun e h => by rw [e, ← h]; exact cok11) fun h => ?_
  refine if_ok h (fun e h => by rw [e, ← h]; exact cok12) fun h => ?_
  refine if_ok h (fun e h => by rw [e, ← h]; exact cok13) fun h => ?_
  refine if_ok h (fun e h => by rw [e, ← h]; exact cok14) fun h => ?_
  refine if_ok h (fun e h => by rw [e, ← h]; exact cok15) fun h => ?_
  refine if_ok h (fun e h => by rw [e, ← h]; exact cok16) fun h => ?_
  refine if_ok h (fun e h => by rw [e, ← h]; exact cok17) fun h => ?_
  refine if_ok h (fun e h => by rw [e, ← h]; exact cok18) fun h => ?_
  refine if_ok h (fun e h => by rw [e, ← h]; exact cok19) fun h => ?_
  refine if_ok h (fun e h => by rw [e, ← h]; exact cok20) fun h => ?_
  refine if_ok h (fun e h => by rw [e, ← h]; exact cok21) fun h => ?_
  refine if_ok h (fun e h => by rw [e, ← h]; exact cok22) fun h => ?_
  refine if_ok h (fun e h => by rw [e, ← h]; exact cok23) fun h => ?_
  refine if_ok h (fun e h => by rw [e, ← h]; exact cok24) fun h => ?_
  refine if_ok h (fun e h => by rw [e, ← h]; exact cok25) fun h => ?_
  refine if_ok h (fun e h => by rw [e, ← h]; exact cok26) fun h => ?_
  refine if_ok h (fun e h => by rw [e, ← h]; exact cok27) fun h => ?_
  refine if_ok h (fun e h => by rw [e, ← h]; exact cok28) fun h => ?_
  refine if_ok h (fun e h => by rw [e, ← h]; exact cok29) fun h => ?_
  refine if_ok h (fun e h => by rw [e, ← h]; exact cok30) fun h => ?_
  refine if_ok h (fun e h => by rw [e, ← h]; exact cok31) fun h => ?_
  refine if_ok h (fun e h => by rw [e, ← h]; exact cok32) fun h => ?_
  refine if_ok h (fun e h => by rw [e, ← h]; exact cok34) fun h => ?_
  refine if_ok h (fun e h => by rw [e, ← h]; exact cok35) fun h => ?_
  refine if_ok h (fun e h => by rw [e, ← h]; exact cok36) fun h => ?_
  refine if_ok h (fun e h => by rw [e, ← h]; exact cok37) fun h => ?_
  refine if_ok h (fun e h => by rw [e, ← h]; exact cok38) fun h => ?_
  refine if_ok h (fun e h => by rw [e, ← h]; exact cok39) fun h => ?_
  refine if_ok h (fun e h => by rw [e, ← h]; exact cok40) fun h => ?_
  refine if_ok h (fun e h => by rw [e, ← h]; exact cok41) fun h => ?_
  refine if_ok h (fun e h => by rw [e, ← h]; exact cok42) fun h => ?_
  refine if_ok h (fun e h => by rw [e, ← h]; exact cok43) fun h => ?_
  refine if_ok h (fun e h => by rw [e, ← h]; exact cok44) fun h => ?_
  refine if_ok h (fun e h => by rw [e, ← h]; exact cok45) fun h => ?_
  refine if_ok h (fun e h => by rw [e, ← h]; exact cok46) fun h => ?_
  refine if_ok h (fun e h => by rw [e, ← h]; exact cok47) fun h => ?_
  refine if_ok h (fun e h => by rw [e, ← h]; exact cok48) fun h => ?_
  refine if_ok h (fun e h => by rw [e, ← h]; exact cok49) fun h => ?_
  refine if_ok h (fun e h => by rw [e, ← h]; exact cok50) fun h => ?_
  refine if_ok h (fun e h => by rw [e, ← h]; exact cok51) fun h => ?_
  refine if_ok h (fun e h => by rw [e, ← h]; exact cok52) fun h => ?_
  refine if_ok h (fun e h => by rw [e, ← h]; exact cok53) fun h => ?_
  refine if_ok h (fun e h => by rw [e, ← h]; exact cok54) fun h => ?_
  refine if_ok h (fun e h => by rw [e, ← h]; exact cok55) fun h => ?_
  refine if_ok h (fun e h => by rw [e, ← h]; exact cok56) fun h => ?_
  refine if_ok h (fun e h => by rw [e, ← h]; exact cok57) fun h => ?_
  refine if_ok h (fun e h => by rw [e, ← h]; exact cok58) fun h => ?_
  refine if_ok h (fun e h => by rw [e, ← h]; exact cok59) fun h => ?_
  refine if_ok h (fun e h => by rw [e, ← h]; exact cok60) fun h => ?_
  refine if_ok h (fun e h => by rw [e, ← h]; exact cok61) fun h => ?_
  refine if_ok h (fun e h => by rw [e, ← h]; exact cok62) fun h => ?_
  refine if_ok h (fun e h => by rw [e, ← h]; exact cok63) fun h => ?_
  refine if_ok h (fun e h => by rw [e, ← h]; exact cok64) fun h => ?_
  refine if_ok h (fun e h => by rw [e, ← h]; exact cok65) fun h => ?_
  refine if_ok h (fun e h => by rw [e, ← h]; exact cok66) fun h => ?_
  refine if_ok h (fun e h => by rw [e, ← h]; exact cok67) fun h => ?_
  refine if_ok h (fun e h => by rw [e, ← h]; exact cok68) fun h => ?_
  refine if_ok h (fun e h => by rw [e, ← h]; exact cok69) fun h => ?_
  refine if_ok h (fun e h => by rw [e, ← h]; exact cok70) fun h => ?_
  refine if_ok h (fun e h => by rw [e, ← h]; exact cok71) fun h => ?_
  refine if_ok h (fun e h => by rw [e, ← h]; exact cok72) fun h => ?_
  refine if_ok h (fun e h => by rw [e, ← h]; exact cok73) fun h => ?_
  refine if_ok h (fun e h => by rw [e, ← h]; exact cok74) fun h => ?_
  refine if_ok h (fun e h => by rw [e, ← h]; exact cok75) fun h => ?_
  refine if_ok h (fun e h => by rw [e, ← h]; exact cok80) fun h => ?_
  refine if_ok h (fun e h => by rw [e, ← h]; exact cok81) fun h => ?_
  refine if_ok h (fun e h => by rw [e, ← h]; exact cok89) fun h => ?_
  refine if_ok h (fun e h => by rw [e, ← h]; exact cok93) fun h => ?_
  cases h
end Go.Proofs.YthalofddjlhcjaaDoor
end
section
/- What was read before a call that keeps all old blocks is read behind it. Over any program. -/
namespace Go.Proofs.YthalofddjlhcjaaDoor
set_option linter.unusedVariables false
set_option linter.unusedSimpArgs false
open Go.RowKit

/-- A type none of whose parts is a slice of elements without cells. -/
def flatT (P : Program) : Nat → TypeId → Bool
  | 0, _ => false
  | m + 1, t =>
    match P.underlying t with
    | some (.slice e) => P.cellsOf e != 0 && flatT P m e
    | some (.pointer e) => flatT P m e
    | some (.struct fs) => fs.toList.all fun f => flatT P m f.type
    | some (.array _ e) => flatT P m e
    | some (.map _ e) => flatT P m e
    | _ => true

section
variable {H : Type} {enc : TypeId × Value → H} {P : Program} {w : World} {base : Nat}

theorem trodStep_spare {m : Nat} {r r' : TypeId → List Value → Option (DataW H × List MemPlace)}
    (hr : ∀ t cs x, flatT P m t = true → r t cs = some x → r' t cs = some x) {t : TypeId} {cs : List Value} {x : DataW H × List MemPlace} (hf : flatT P (m + 1) t = true)
    (h : DataW.trodStep enc P w base (fun _ => true) true r t cs = some x) : DataW.trodStep enc P w base (fun b => decide (b < w.heap.size)) true r' t cs = some x := by
  unfold DataW.trodStep at h ⊢
  unfold flatT at hf
  split at h
  case h_1 => exact h
  case h_2 => exact h
  case h_3 => exact h
  case h_4 => exact h
  case h_5 => exact h
  case h_6 e a hu =>
    rw [hu] at hf
    simp only [Option.map_eq_some_iff, Option.bind_eq_some_iff] at h ⊢
    obtain ⟨y, ⟨cs', hc, hy⟩, rfl⟩ := h
    exact ⟨y, ⟨cs', hc, hr _ _ _ hf hy⟩, rfl⟩
  case h_7 => exact h
  case h_8 e a len cap hu =>
    rw [hu] at hf
    simp only [Bool.and_eq_true, bne_iff_ne, ne_eq] at hf
    obtain ⟨hcell, hfe⟩ := hf
    simp only at h ⊢
    split at h
    · rename_i hc
      rw [if_pos hc]
      simp only [Option.map_eq_some_iff, Option.bind_eq_some_iff, if_true] at h ⊢
      obtain ⟨elems, he, rest, hrest, rfl⟩ := h
      have one : ∀ (i : Nat) (y : DataW H × List MemPlace), (w.cells? base (a.add (i * P.cellsOf e)) (P.cellsOf e)).bind (r e) = some y → (w.cells? base (a.add (i * P.cellsOf e)) (P.cellsOf e)).bind (r' e) = some y := by
        intro i y hv
        simp only [Option.bind_eq_some_iff] at hv ⊢
        obtain ⟨cs', hc', hy'⟩ := hv
        exact ⟨cs', hc', hr _ _ _ hfe hy'⟩
      refine ⟨elems, mapM_carry he (fun i y _ _ hy => one i y hy), rest, ?_, rfl⟩
      by_cases hb : a.block < w.heap.size
      · rw [if_pos (by simpa using hb)]
        exact mapM_carry hrest (fun j y _ _ hy => one (len + j) y hy)
      · rw [if_neg (by simpa using hb)]
        have hz : cap - len = 0 := by
          rcases Nat.eq_zero_or_pos (cap - len) with h0 | h0
          · exact h0
          · exfalso
            have hl : rest.length = cap - len := by simpa using mapM_some_length hrest
            have h1 := mapM_some_get hrest 0 0 (by simp [h0])
            obtain ⟨y, hy⟩ : ∃ y, rest[0]? = some y := ⟨rest[0], List.getElem?_eq_getElem (by omega)⟩
            rw [hy] at h1
            simp only [Option.bind_eq_some_iff] at h1
            obtain ⟨cs', hc', _⟩ := h1
            have h2 := World.cells?_block hc' (by omega)
            have h3 : (a.add ((len + 0) * P.cellsOf e)).block = a.block := by unfold Addr.add; split <;> rfl
            omega
        rw [hz] at hrest
        simpa using hrest
    · cases h
  case h_9 fs _ hu =>
    rw [hu] at hf
    split at h
    · rename_i hc
      rw [if_pos hc]
      simp only [Option.map_eq_some_iff] at h ⊢
      obtain ⟨xs, hx, rfl⟩ := h
      exact ⟨xs, mapM_carry hx (fun f y hin _ hv => hr _ _ _ (List.all_eq_true.1 hf f hin) hv), rfl⟩
    · cases h
  case h_10 n e _ hu =>
    rw [hu] at hf
    split at h
    · rename_i hc
      rw [if_pos hc]
      simp only [Option.map_eq_some_iff] at h ⊢
      obtain ⟨xs, hx, rfl⟩ := h
      exact ⟨xs, mapM_carry hx (fun f y _ _ hv => hr _ _ _ hf hv), rfl⟩
    · cases h
  case h_11 => exact h
  case h_12 => exact h
  case h_13 => exact h
  case h_14 k e b hu =>
    rw [hu] at hf
    split at h
    · rename_i es clock hb
      split at h
      · rename_i hc
        simp only [Option.bind_eq_some_iff] at h
        obtain ⟨entries, he, hd⟩ := h
        split at hd
        · rename_i hris
          have hx := Option.some.inj hd
          subst hx
          simp only [if_pos hc, Option.bind_eq_some_iff]
          refine ⟨entries, mapM_carry he (fun x y _ hy hv => ?_), by simp [hris]⟩
          simp only [Option.bind_eq_some_iff] at hv ⊢
          obtain ⟨key, hk, hz⟩ := hv
          refine ⟨key, hk, ?_⟩
          split at hz
          · rename_i hfm
            rw [if_pos hfm]
            simp only [Option.map_eq_some_iff] at hz ⊢
            obtain ⟨q, hq, rfl⟩ := hz
            exact ⟨q, hr _ _ _ hf hq, rfl⟩
          · cases hz
        · cases hd
      · cases h
    · cases h
  case h_15 => exact h
  case h_16 => exact h
  case h_17 => exact h
  case h_18 => exact h
  case h_19 => exact h
  case h_20 => exact h
  case h_21 => cases h

theorem trod_spare : ∀ (n m : Nat) (t : TypeId) (cs : List Value) (x : DataW H × List MemPlace), flatT P m t = true →
    DataW.trod enc P w base (fun _ => true) true n t cs = some x → DataW.trod enc P w base (fun b => decide (b < w.heap.size)) true n t cs = some x := by
  intro n
  induction n with
  | zero => intro m t cs x _ h; simp [DataW.trod] at h
  | succ n ih =>
    intro m t cs x hf h
    cases m with
    | zero => simp [flatT] at hf
    | succ m =>
      rw [DataW.trod_step] at h ⊢
      exact trodStep_spare (m := m) (fun t cs x hf hx => ih m t cs x hf hx) hf h

theorem sameAt_below {w' : World} (hb : Below w.heap.size w w') {p : MemPlace} (hp : p.block < w.heap.size) : w.sameAt w' p := by
  cases p with
  | cell b off => exact hb.cell (p := ⟨b, off, none⟩) hp
  | map b => exact hb.block b hp

theorem trodAll_below {w' : World} (m : Nat) (hb : Below w.heap.size w w') : ∀ {ts : List TypeId} {vs : List Value} {ds : List (DataW H)} {ps : List MemPlace}, (ts.all (flatT P m)) = true →
    DataW.TrodAll enc P w 0 (fun _ => true) true ts vs ds ps → DataW.TrodAll enc P w' 0 (fun b => decide (b < w.heap.size)) true ts vs ds ps
  | [], [], [], ps, _, h => h
  | t :: ts, v :: vs, d :: ds, ps, hf, ⟨p, q, ⟨n, h1⟩, h2, e⟩ => by
    simp only [List.all_cons, Bool.and_eq_true] at hf
    have h3 := trod_spare n m t _ _ hf.1 h1
    exact ⟨p, q, ⟨n, DataW.trod_carry n _ _ _ h3 (fun z hz => sameAt_below hb (DataW.trod_lt n _ _ _ h3 z hz))⟩, trodAll_below m hb hf.2 h2, e⟩
  | [], _ :: _, _, _, _, h => by cases h
  | [], [], _ :: _, _, _, h => by cases h
  | _ :: _, [], _, _, _, h => by cases h
  | _ :: _, _ :: _, [], _, _, h => by cases h
end

section
variable {H : Type} {enc : TypeId × Value → H} {P : Program} {w : World} {r : Reach} {b0 : Nat}
open Go.ChangeShapes Go.WideShapes
open Go.Deep (open_bools)

/-- What the first n cells of a slice hold. -/
def CellsAt (w : World) (n : Nat) (ga : Option Addr) (F : Nat → Value) : Prop := ∀ j, j < n → ∃ a, ga = some a ∧ w.cell? (a.add j) = some (F j) ∧ a.block < w.heap.size

theorem add_block (a : Addr) (j : Nat) : (a.add j).block = a.block := by unfold Addr.add; split <;> rfl

theorem open_boolS {t e : TypeId} {v : Value} {d : DataW H} {ps : List MemPlace} (ht : P.underlying t = some (.slice e)) (he : P.underlying e = some .bool) (hc : P.cellsOf e = 1)
    (hval : Value.okWide P w r b0 t v) (hd : DataW.Trod enc P w 0 (fun _ => true) true t v d ps) :
    ∃ ga n cap, ∃ B : Nat → Bool, v = .slice ga n cap ∧ n ≤ maxLen ∧ CellsAt w n ga (fun j => .bool (B j)) := by
  obtain ⟨ga, n, cap, rfl⟩ := okWide_slice ht hval
  obtain ⟨fuel, hf⟩ := hd
  rcases open_bools ht he hc hf with ⟨hcs, _⟩ | ⟨a, len', cap', B, hcs, _, hl, hm, _, hcell⟩
  · simp [Value.cells] at hcs
    obtain ⟨rfl, rfl, rfl⟩ := hcs
    exact ⟨_, _, _, fun _ => false, rfl, by decide, fun j hj => by omega⟩
  · simp [Value.cells] at hcs
    obtain ⟨rfl, rfl, rfl⟩ := hcs
    exact ⟨_, _, _, B, rfl, by omega, fun j hj => ⟨a, rfl, hcell j (by omega), by have := World.block_lt_of_cell? w _ (hcell j (by omega)); rwa [add_block] at this⟩⟩

theorem open_intS {t e : TypeId} {v : Value} {d : DataW H} {ps : List MemPlace} (ht : P.underlying t = some (.slice e)) (he : P.underlying e = some (.int .i64)) (hc : P.cellsOf e = 1)
    (hval : Value.okWide P w r b0 t v) (hd : DataW.Trod enc P w 0 (fun _ => true) true t v d ps) :
    ∃ ga n cap, ∃ B : List Int, v = .slice ga n cap ∧ n ≤ maxLen ∧ (B.length = n ∧ CellsAt w n ga (fun j => .int .i64 (B.getD j 0)) ∧ ∀ x ∈ B, (Lit.int .i64 x).wf = true) := by
  obtain ⟨ga, n, cap, rfl⟩ := okWide_slice ht hval
  obtain ⟨fuel, hf⟩ := hd
  rcases open_ints ht he hc hf with ⟨hcs, _⟩ | ⟨a, len', cap', zs, hcs, _, hl, hm, hz, _, hcell, hwz⟩
  · simp [Value.cells] at hcs
    obtain ⟨rfl, rfl, rfl⟩ := hcs
    exact ⟨_, _, _, [], rfl, by decide, rfl, fun j hj => by omega, fun x hx => by cases hx⟩
  · simp [Value.cells] at hcs
    obtain ⟨rfl, rfl, rfl⟩ := hcs
    simp only [if_true] at hz
    refine ⟨_, _, _, zs.take n, rfl, by omega, by simp; omega, fun j hj => ⟨a, rfl, ?_, by have := World.block_lt_of_cell? w _ (hcell j (by omega)); rwa [add_block] at this⟩, fun x hx => hwz x (List.mem_of_mem_take hx)⟩
    rw [hcell j (by omega)]
    simp [List.getD, List.getElem?_take_of_lt hj]
end
end Go.Proofs.YthalofddjlhcjaaDoor
end
section
/- From a law's run on trees to its call: every block of before is laid for good. Over any program. -/
namespace Go.Proofs.YthalofddjlhcjaaDoor
open Go.ChangeShapes Go.WideShapes Go.RowKit
set_option linter.unusedVariables false
set_option linter.unusedSimpArgs false

/-- Nothing of what was there before is the call's. -/
def KZ : Nat → Color := fun _ => []

theorem lift_true {P : Program} {Xc : Contract} {cf : FuncId → Option Cfg} {f : FuncId} {args : List T} {outs : List T} (hX : Sound P (fun _ _ => True) Xc) (hm : P.follows .mixedOrders = true) (hf : ∀ f c, cf f = some c → okFn P f c = true)
    (h : Lim P Xc cf f args = some (.sc (.bool true), outs)) (hio : args.all (fun t => !isIo t) = true) (W : World) (vals : Array Value) (hs : vals.size = args.length)
    (ha : ∀ i t, args[i]? = some t → TRep W KZ [] (vals.getD i undef) t) : Calls P f vals W fun e W' => e = .returned (.bool true) ∧ Below W.heap.size W W' := by
  have hc := lim_ok (I := fun _ _ => True) EnvS.none hX hm hf h
  refine (hc.calls W KZ vals hs (fun i t hi => ?_) trivial).mono fun e W' ⟨v, K', he, hv, _, hst⟩ => ?_
  · have h1 := List.all_eq_true.1 hio t (List.mem_of_getElem? hi)
    unfold ArgRep
    rw [if_neg (by simpa using h1)]
    exact ha i t hi
  · generalize hT : T.sc (.bool true) = t at hv
    cases hv with
    | sc c v hb => cases hT; exact ⟨he, hst.os, hst.tape, hst.output, hst.size, fun b hb => (hst.old b hb (.inl rfl)).2⟩
    | _ => cases hT

section
variable {H : Type} {enc : TypeId × Value → H} {P : Program} {w : World} {r : Reach} {b0 : Nat}
/-- A slice of integers reads as a tree. -/
theorem open_intT {t e : TypeId} {v : Value} {d : DataW H} {ps : List MemPlace} (ht : P.underlying t = some (.slice e)) (he : P.underlying e = some (.int .i64)) (hc : P.cellsOf e = 1)
    (hval : Value.okWide P w r b0 t v) (hd : DataW.Trod enc P w 0 (fun _ => true) true t v d ps) :
    ∃ xs : List Int, TRep w KZ [] v (.sl xs.length (xs.map fun x => .sc (.int .i64 x))) ∧ xs.length ≤ maxLen ∧ ∀ x ∈ xs, (Lit.int .i64 x).wf = true := by
  obtain ⟨ga, n, cap, rfl⟩ := okWide_slice ht hval
  obtain ⟨fuel, hf⟩ := hd
  rcases open_ints ht he hc hf with ⟨hcs, _⟩ | ⟨a, len', cap', zs, hcs, _, hl, hm, hz, _, hcell, hwz⟩
  · simp [Value.cells] at hcs
    obtain ⟨rfl, rfl, rfl⟩ := hcs
    exact ⟨[], .emp _ _ _ (by decide), by decide, fun x hx => by cases hx⟩
  · simp [Value.cells] at hcs
    obtain ⟨rfl, rfl, rfl⟩ := hcs
    simp only [if_true] at hz
    refine ⟨zs.take n, ?_, by simp; omega, fun x hx => hwz x (List.mem_of_mem_take hx)⟩
    have hln : (zs.take n).length = n := by simp; omega
    rw [hln]
    by_cases h0 : n = 0
    · subst h0
      simp only [List.take_zero, List.map_nil]
      exact .emp _ _ _ hm
    · have hc0 := hcell 0 (by omega)
      have hb := World.block_lt_of_cell? w _ hc0
      rw [add_block] at hb
      have hsp : a.spot = none := by
        have : a.add 0 = a := by simp [Addr.add]
        rw [this] at hc0
        unfold World.cell? at hc0
        split at hc0
        · split at hc0
          · cases hc0
          · rename_i hh
            simpa using hh
        · cases hc0
      obtain ⟨g, o, sp⟩ := a
      simp only at hsp
      subst hsp
      refine .fro [] g o n cap _ (fun j => .int .i64 (zs.getD j 0)) rfl hb hl hm (fun j hj => ?_) (fun j t hj => ?_)
      · have h1 := hcell j (by simp at hj; omega)
        have e : (⟨g, o, none⟩ : Addr).add j = ⟨g, o + j, none⟩ := by
          unfold Addr.add
          split
          · rename_i h; subst h; rfl
          · rfl
        rw [e] at h1
        exact h1
      · simp only [List.getElem?_map, Option.map_eq_some_iff] at hj
        obtain ⟨x, hx, rfl⟩ := hj
        have hjn : j < n := by
          have := (List.getElem?_eq_some_iff.1 hx).1
          simp at this; omega
        rw [List.getElem?_take_of_lt hjn] at hx
        simp only [List.getD, hx]
        exact .sc _ _ rfl
end
end Go.Proofs.YthalofddjlhcjaaDoor
end
section
/- Proved here: the law CascadeText returns true for every input, and its arguments read afterwards as before; the row's listed tables are tied to the program's text by the given tie. No other condition. -/
namespace Go.Proofs.YthalofddjlhcjaaDoor.cascadeText
open Go.ChangeShapes Go.WideShapes Go.ChangeAt Go.RowKit
open Go.ChangeMaps (open_string shut_string)
set_option linter.unusedVariables false
set_option linter.unusedSimpArgs false

theorem own : ownKnob Tryd.prog.godebug = none := by kernel_rfl
set_option maxRecDepth 100000 in
/-- What the call gives, for every argument. -/
theorem contract (H : Type) (enc : TypeId × Value → H) (W : World) (base : Nat) (args : Array Value) (ds gs : List (DataW H)) (before : List MemPlace)
    (hval0 : ∀ (j : Nat) t v, Tryd.f9.params[j]? = some t → args[j]? = some v → Value.okWide Tryd.prog W .any base t v)
    (hW : DataW.Whole enc Tryd.prog Tryd.f9.params.toList Rows.cascadeTextSpec.vars false W args.toList ds gs before) :
    Calls Tryd.prog 9 args W fun e W' => ∃ v, e = .returned v ∧ Rows.cascadeTextSpec.post enc Tryd.prog Tryd.f9 false true false false W args v W' := by
  have hW' := hW
  obtain ⟨p, q, hA0, hV, rfl, hfz, hnd⟩ := hW
  have hval := hval0
  have hA : DataW.TrodAll enc Tryd.prog W 0 (fun _ => true) true Tryd.f9.params.toList args.toList ds p := hA0
  rw [Tryd.params9] at hA hval
  obtain ⟨v0, vs0, d0, ds0, p0, q0, hargs, rfl, rfl, h0, r0⟩ := trodAll_cons hA
  obtain ⟨v1, vs1, d1, ds1, p1, q1, rfl, rfl, rfl, h1, r1⟩ := trodAll_cons r0
  obtain ⟨v2, vs2, d2, ds2, p2, q2, rfl, rfl, rfl, h2, r2⟩ := trodAll_cons r1
  obtain ⟨v3, vs3, d3, ds3, p3, q3, rfl, rfl, rfl, h3, r3⟩ := trodAll_cons r2
  obtain ⟨v4, vs4, d4, ds4, p4, q4, rfl, rfl, rfl, h4, r4⟩ := trodAll_cons r3
  obtain ⟨rfl, rfl, rfl⟩ := trodAll_nil r4
  obtain rfl : args = #[v0, v1, v2, v3, v4] := by cases args; simp_all
  obtain ⟨rfl, rfl⟩ := trodVars_none hV
  obtain ⟨a0, rfl, rfl, rfl, w0⟩ := open_string Tryd.underlying9 (hval 0 9 v0 rfl rfl) h0
  obtain ⟨a1, t1, w1, z1⟩ := open_intT Tryd.underlying22 Tryd.underlying3 (by kernel_rfl) (hval 1 22 v1 rfl rfl) h1
  obtain ⟨a2, rfl, rfl, rfl, w2⟩ := open_int Tryd.underlying3 (hval 2 3 v2 rfl rfl) h2
  obtain ⟨a3, rfl, rfl, rfl, w3⟩ := open_int Tryd.underlying5 (hval 3 5 v3 rfl rfl) h3
  obtain ⟨a4, rfl, rfl, rfl, w4⟩ := open_int Tryd.underlying3 (hval 4 3 v4 rfl rfl) h4
  obtain ⟨outs, hlaw⟩ := law9 a0 w0 a1 w1 z1 a2 w2 a3 w3 a4 w4
  refine (lift_true xtC_sound (by kernel_rfl) cfOk hlaw rfl W _ rfl (fun i t hi => ?_)).mono fun e W' ⟨he, bel⟩ => ?_
  · match i, hi with
    | 0, hi => cases hi; exact .sc _ _ rfl
    | 1, hi => cases hi; exact t1
    | 2, hi => cases hi; exact .sc _ _ rfl
    | 3, hi => cases hi; exact .sc _ _ rfl
    | 4, hi => cases hi; exact .sc _ _ rfl
  · subst he
    exact ⟨_, rfl, _, _, _, [], _, [], hW', trodAll_mk1 (shut_bool Tryd.underlying4 _), trodAll_below 12 bel (by kernel_rfl) hA0, rfl, bel.frame _, fun h => by cases h⟩

/-- A world for the witness: the settled one, the listed tables laid. -/
noncomputable def laidWorld (os : Os) : World :=
  { World.holding Tryd.prog os ⟨#[], #[], []⟩ with heap := ((((((World.holding Tryd.prog os ⟨#[], #[], []⟩).heap.modify 4 fun | .cells _ t frozen => .cells #[.int .u8 0, .int .u8 1, .int .u8 28, .int .u8 2, .int .u8 29, .int .u8 14, .int .u8 24, .int .u8 3, .int .u8 30, .int .u8 22, .int .u8 20, .int .u8 15, .int .u8 25, .int .u8 17, .int .u8 4, .int .u8 8, .int .u8 31, .int .u8 27, .int .u8 13, .int .u8 23, .int .u8 21, .int .u8 19, .int .u8 16, .int .u8 7, .int .u8 26, .int .u8 12, .int .u8 18, .int .u8 6, .int .u8 11, .int .u8 5, .int .u8 10, .int .u8 9] t frozen | o => o).modify 5 fun | .cells _ t frozen => .cells #[.int .u8 0, .int .u8 1, .int .u8 56, .int .u8 2, .int .u8 57, .int .u8 49, .int .u8 28, .int .u8 3, .int .u8 61, .int .u8 58, .int .u8 42, .int .u8 50, .int .u8 38, .int .u8 29, .int .u8 17, .int .u8 4, .int .u8 62, .int .u8 47, .int .u8 59, .int .u8 36, .int .u8 45, .int .u8 43, .int .u8 51, .int .u8 22, .int .u8 53, .int .u8 39, .int .u8 33, .int .u8 30, .int .u8 24, .int .u8 18, .int .u8 12, .int .u8 5, .int .u8 63, .int .u8 55, .int .u8 48, .int .u8 27, .int .u8 60, .int .u8 41, .int .u8 37, .int .u8 16, .int .u8 46, .int .u8 35, .int .u8 44, .int .u8 21, .int .u8 52, .int .u8 32, .int .u8 23, .int .u8 11, .int .u8 54, .int .u8 26, .int .u8 40, .int .u8 15, .int .u8 34, .int .u8 20, .int .u8 31, .int .u8 10, .int .u8 25, .int .u8 14, .int .u8 19, .int .u8 9, .int .u8 13, .int .u8 8, .int .u8 7, .int .u8 6] t frozen | o => o).modify 3 fun | .cells _ t frozen => .cells #[.int .u64 1, .int .u64 10, .int .u64 100, .int .u64 1000, .int .u64 10000, .int .u64 100000, .int .u64 1000000, .int .u64 10000000, .int .u64 100000000, .int .u64 1000000000, .int .u64 10000000000, .int .u64 100000000000, .int .u64 1000000000000, .int .u64 10000000000000, .int .u64 100000000000000, .int .u64 1000000000000000, .int .u64 10000000000000000, .int .u64 100000000000000000, .int .u64 1000000000000000000, .int .u64 10000000000000000000] t frozen | o => o).modify 2 fun | .cells _ t frozen => .cells #[.int .u8 128, .int .u8 191, .int .u8 160, .int .u8 191, .int .u8 128, .int .u8 159, .int .u8 144, .int .u8 191, .int .u8 128, .int .u8 143, .int .u8 0, .int .u8 0, .int .u8 0, .int .u8 0, .int .u8 0, .int .u8 0, .int .u8 0, .int .u8 0, .int .u8 0, .int .u8 0, .int .u8 0, .int .u8 0, .int .u8 0, .int .u8 0, .int .u8 0, .int .u8 0, .int .u8 0, .int .u8 0, .int .u8 0, .int .u8 0, .int .u8 0, .int .u8 0] t frozen | o => o).modify 1 fun | .cells _ t frozen => .cells #[.int .u8 240, .int .u8 240, .int .u8 240, .int .u8 240, .int .u8 240, .int .u8 240, .int .u8 240, .int .u8 240, .int .u8 240, .int .u8 240, .int .u8 240, .int .u8 240, .int .u8 240, .int .u8 240, .int .u8 240, .int .u8 240, .int .u8 240, .int .u8 240, .int .u8 240, .int .u8 240, .int .u8 240, .int .u8 240, .int .u8 240, .int .u8 240, .int .u8 240, .int .u8 240, .int .u8 240, .int .u8 240, .int .u8 240, .int .u8 240, .int .u8 240, .int .u8 240, .int .u8 240, .int .u8 240, .int .u8 240, .int .u8 240, .int .u8 240, .int .u8 240, .int .u8 240, .int .u8 240, .int .u8 240, .int .u8 240, .int .u8 240, .int .u8 240, .int .u8 240, .int .u8 240, .int .u8 240, .int .u8 240, .int .u8 240, .int .u8 240, .int .u8 240, .int .u8 240, .int .u8 240, .int .u8 240, .int .u8 240, .int .u8 240, .int .u8 240, .int .u8 240, .int .u8 240, .int .u8 240, .int .u8 240, .int .u8 240, .int .u8 240, .int .u8 240, .int .u8 240, .int .u8 240, .int .u8 240, .int .u8 240, .int .u8 240, .int .u8 240, .int .u8 240, .int .u8 240, .int .u8 240, .int .u8 240, .int .u8 240, .int .u8 240, .int .u8 240, .int .u8 240, .int .u8 240, .int .u8 240, .int .u8 240, .int .u8 240, .int .u8 240, .int .u8 240, .int .u8 240, .int .u8 240, .int .u8 240, .int .u8 240, .int .u8 240, .int .u8 240, .int .u8 240, .int .u8 240, .int .u8 240, .int .u8 240, .int .u8 240, .int .u8 240, .int .u8 240, .int .u8 240, .int .u8 240, .int .u8 240, .int .u8 240, .int .u8 240, .int .u8 240, .int .u8 240, .int .u8 240, .int .u8 240, .int .u8 240, .int .u8 240, .int .u8 240, .int .u8 240, .int .u8 240, .int .u8 240, .int .u8 240, .int .u8 240, .int .u8 240, .int .u8 240, .int .u8 240, .int .u8 240, .int .u8 240, .int .u8 240, .int .u8 240, .int .u8 240, .int .u8 240, .int .u8 240, .int .u8 240, .int .u8 240, .int .u8 240, .int .u8 240, .int .u8 241, .int .u8 241, .int .u8 241, .int .u8 241, .int .u8 241, .int .u8 241, .int .u8 241, .int .u8 241, .int .u8 241, .int .u8 241, .int .u8 241, .int .u8 241, .int .u8 241, .int .u8 241, .int .u8 241, .int .u8 241, .int .u8 241, .int .u8 241, .int .u8 241, .int .u8 241, .int .u8 241, .int .u8 241, .int .u8 241, .int .u8 241, .int .u8 241, .int .u8 241, .int .u8 241, .int .u8 241, .int .u8 241, .int .u8 241, .int .u8 241, .int .u8 241, .int .u8 241, .int .u8 241, .int .u8 241, .int .u8 241, .int .u8 241, .int .u8 241, .int .u8 241, .int .u8 241, .int .u8 241, .int .u8 241, .int .u8 241, .int .u8 241, .int .u8 241, .int .u8 241, .int .u8 241, .int .u8 241, .int .u8 241, .int .u8 241, .int .u8 241, .int .u8 241, .int .u8 241, .int .u8 241, .int .u8 241, .int .u8 241, .int .u8 241, .int .u8 241, .int .u8 241, .int .u8 241, .int .u8 241, .int .u8 241, .int .u8 241, .int .u8 241, .int .u8 241, .int .u8 241, .int .u8 2, .int .u8 2, .int .u8 2, .int .u8 2, .int .u8 2, .int .u8 2, .int .u8 2, .int .u8 2, .int .u8 2, .int .u8 2, .int .u8 2, .int .u8 2, .int .u8 2, .int .u8 2, .int .u8 2, .int .u8 2, .int .u8 2, .int .u8 2, .int .u8 2, .int .u8 2, .int .u8 2, .int .u8 2, .int .u8 2, .int .u8 2, .int .u8 2, .int .u8 2, .int .u8 2, .int .u8 2, .int .u8 2, .int .u8 2, .int .u8 19, .int .u8 3, .int .u8 3, .int .u8 3, .int .u8 3, .int .u8 3, .int .u8 3, .int .u8 3, .int .u8 3, .int .u8 3, .int .u8 3, .int .u8 3, .int .u8 3, .int .u8 35, .int .u8 3, .int .u8 3, .int .u8 52, .int .u8 4, .int .u8 4, .int .u8 4, .int .u8 68, .int .u8 241, .int .u8 241, .int .u8 241, .int .u8 241, .int .u8 241, .int .u8 241, .int .u8 241, .int .u8 241, .int .u8 241, .int .u8 241, .int .u8 241] t frozen | o => o) }
theorem laid_met (os : Os) : laidMet Tryd.prog Rows.cascadeTextRow.laid ((laidWorld os).forCall (fun _ _ => 0) ⟨#[], #[.string ByteArray.empty, .slice none 0 0, .int .i64 0, .int .u8 0, .int .i64 0], []⟩).memory :=
  laidMet_of_run' 8 (by kernel_rfl) (by kernel_rfl)
theorem reads (os : Os) {H : Type} (enc : TypeId × Value → H) : ∃ places, DataW.whole enc Tryd.prog ((laidWorld os).forCall (fun _ _ => 0) ⟨#[], #[.string ByteArray.empty, .slice none 0 0, .int .i64 0, .int .u8 0, .int .i64 0], []⟩).memory Tryd.f9.params.toList Rows.cascadeTextSpec.vars false (#[.string ByteArray.empty, .slice none 0 0, .int .i64 0, .int .u8 0, .int .i64 0] : Array Value).toList 8 = some ([.lit (.string []), .nil, .lit (.int .i64 0), .lit (.int .u8 0), .lit (.int .i64 0)], [], places) :=
  ⟨[], by kernel_rfl⟩

set_option maxRecDepth 100000 in
theorem lifted (os : Os) (started : os.Started) (H : Type) (enc : TypeId × Value → H) (F : Stop.Interp) :
    ReturnsInHanded {} Tryd.checked os 9 .any ((OpenSpec.ofChange Rows.cascadeTextSpec).preRow enc Tryd.prog Tryd.f9 Rows.cascadeTextRow.domain false Rows.cascadeTextRow.laid) (((OpenSpec.ofChange Rows.cascadeTextSpec).at F).post enc Tryd.prog Tryd.f9 false true false false) := by
  obtain ⟨places, hx⟩ := reads os enc
  refine returnsInHanded_of_row (C := Tryd.checked) (s := (OpenSpec.ofChange Rows.cascadeTextSpec)) own started (by kernel_rfl) Tryd.func9
    (witness_row_at (enc := enc) (C := Tryd.checked) false (laidWorld os) #[.string ByteArray.empty, .slice none 0 0, .int .i64 0, .int .u8 0, .int .i64 0] rfl (by kernel_rfl) (by kernel_rfl) (by kernel_rfl)
      (OpenSpec.preRow_of_cond 8 hx (by kernel_rfl) (fun k hk => by cases hk) (by kernel_rfl) (laid_met os))) ?_
  intro W base args ds gs before hval hW _ _ _ hL _ _
  exact contract H enc W base args ds gs before hval hW

theorem said : Rows.CascadeTextSaid :=
  OpenClaim.holds_of_cond 9 Tryd.f9 rfl rfl rfl rfl rfl rfl rfl ⟨rfl, rfl, rfl, rfl, rfl⟩ rfl rfl rfl rfl rfl (by kernel_rfl) Tryd.func9 (by kernel_rfl)
    (of_decide_eq_true (by kernel_rfl)) (by unfold Func.isWrapper; first | (rw [if_pos (by decide +kernel)]; kernel_rfl) | (rw [if_neg (by decide +kernel)]; exact ⟨rfl, rfl⟩))
    (fun os started H enc _ F => by rw [OpenClaim.pre_eq_preRow]; exact lifted os started H enc F)

theorem plain (f : FuncId) (fn : Func) (hf : Tryd.pinned.checked.prog.funcNamed "semigroup/semigrouplaw26.CascadeText" = some f) (hfn : Tryd.pinned.checked.prog.funcs[f]? = some fn) :
    false = Tryd.pinned.checked.prog.looks [] ∧ ∀ (j : Nat) t, fn.params[j]? = some t → Tryd.pinned.checked.prog.wantsStandIn t = false := by
  obtain rfl : f = 9 := Option.some.inj ((show Tryd.prog.funcNamed "semigroup/semigrouplaw26.CascadeText" = some 9 by kernel_rfl).symm.trans hf) |>.symm
  obtain rfl : fn = Tryd.f9 := (Option.some.inj (Tryd.func9.symm.trans hfn)).symm
  refine ⟨by kernel_rfl, fun j t ht => ?_⟩
  rw [Tryd.params9] at ht
  have ht2 : t = 9 ∨ t = 22 ∨ t = 3 ∨ t = 5 ∨ t = 3 := by simpa using Array.mem_of_getElem? ht
  rcases ht2 with h | h | h | h | h
  · exact (congrArg (fun t => Tryd.pinned.checked.prog.wantsStandIn t) h).trans (show Tryd.pinned.checked.prog.wantsStandIn 9 = false by kernel_rfl)
  · exact (congrArg (fun t => Tryd.pinned.checked.prog.wantsStandIn t) h).trans (show Tryd.pinned.checked.prog.wantsStandIn 22 = false by kernel_rfl)
  · exact (congrArg (fun t => Tryd.pinned.checked.prog.wantsStandIn t) h).trans (show Tryd.pinned.checked.prog.wantsStandIn 3 = false by kernel_rfl)
  · exact (congrArg (fun t => Tryd.pinned.checked.prog.wantsStandIn t) h).trans (show Tryd.pinned.checked.prog.wantsStandIn 5 = false by kernel_rfl)
  · exact (congrArg (fun t => Tryd.pinned.checked.prog.wantsStandIn t) h).trans (show Tryd.pinned.checked.prog.wantsStandIn 3 = false by kernel_rfl)

/-- The given statement. -/
theorem proved : Rows.CascadeTextCardSaid :=
  Claim7.holds_tied_plain_at .later [] _ _ _ _ said (fun _ h => by cases h) (by kernel_rfl) (fun _ h => by cases h) cascadeText_row_tie rfl ⟨rfl, rfl⟩ (by kernel_rfl) rfl plain (by kernel_rfl)
#print axioms proved
end Go.Proofs.YthalofddjlhcjaaDoor.cascadeText
end
