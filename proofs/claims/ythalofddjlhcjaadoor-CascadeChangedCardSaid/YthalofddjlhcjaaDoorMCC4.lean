/- Proved here: a part of the proof of the law at hand, in one text: no condition. -/
import Derived.Test.YthalofddjlhcjaaDoorMCC3
set_option linter.unusedVariables false
set_option linter.unusedSimpArgs false
namespace Go.Proofs.YthalofddjlhcjaaDoor
section
open Go
noncomputable section
set_option maxRecDepth 100000
set_option maxHeartbeats 4000000
structure Runner where
  c : Casc
deriving Inhabited
def z1s (a0 : List Int) (a1 : List Int) : Option (Int) :=
  (cmp_Compare_int (a0.length : Int) (a1.length : Int)).bind fun v4 =>
  (z1j a0 a1).bind fun v5 =>
  (z6o [v4, v5]).bind fun v6 =>
  some v6
theorem z4s {a0 : List Int} {a1 : List Int} {r : Int} (h0 : z1s a0 a1 = some r) : L 58 [.sl a0.length (a0.map fun x0 => .sc (.int .i64 x0)), .sl a1.length (a1.map fun x0 => .sc (.int .i64 x0))] = some (.sc (.int .i64 r), [.dead, .dead]) := by
  simp only [z1s] at h0
  refine z1Q zn1 zog (z0F zpN ⟨of_decide_eq_true rfl, of_decide_eq_true rfl⟩ ?_)
  simp only [z0K, z0H, z0G, z0L, z1S]
  refine zq rfl (zr rfl rfl rfl (by simp; rfl) ?_)
  refine z0a (zq rfl ?_)
  obtain ⟨v4, f4, h1⟩ := z0b h0
  have f4k := z5P f4
  try simp at f4k
  obtain ⟨v5, f5, h2⟩ := z0b h1
  have f5k := z5I f5
  try simp at f5k
  obtain ⟨v6, f6, h3⟩ := z0b h2
  have f6k := zbW f6
  try simp at f6k
  refine zr rfl rfl rfl (by simp [f4k, f5k, f6k]; rfl) ?_
  refine z0a (z0o rfl ?_)
  cases h3
  simp
def z2U (a0 : List Int) (a1 : List Int) : Int -> Option (Int ⊕ Bool)
  | w10 =>
  if w10 < (a1.length : Int) then
    (atI a1 w10).bind fun v13 =>
    if v13 < 0 then
      z0t <|
      some false
    else
      (atI a0 w10).bind fun v14 =>
      if v14 <= v13 then
        z0t <|
        some false
      else
        z0y (IntKind.i64.wrap (w10 + 1))
  else
    z0t <|
    some true
def z2T (a0 : List Int) (a1 : List Int) : Int -> Fr
  | w10 => ⟨30, [(0, .one (.t none (.sl a0.length (a0.map fun x0 => .sc (.int .i64 x0))))), (12, .one (.t none (.sl a1.length (a1.map fun x0 => .sc (.int .i64 x0))))), (13, .one (.t none (.sc (.int .i64 (a1.length : Int))))), (14, .one (.t none (.sc (.int .i64 w10))))], []⟩
def z1w (a0 : List Int) (a1 : List Int) : Option (Bool) :=
  if (a1.length : Int) = (a0.length : Int) then
    z0E (z2U a0 a1) LFm 0
  else
    some false
theorem z2S {a0 : List Int} {a1 : List Int} {r : Bool} (h0 : z1w a0 a1 = some r) : L 31 [.sl a0.length (a0.map fun x0 => .sc (.int .i64 x0)), .sl a1.length (a1.map fun x0 => .sc (.int .i64 x0))] = some (.sc (.bool r), [.dead, .dead]) := by
  simp only [z1w] at h0
  refine z1Q znh zow (z0F zq3 ⟨of_decide_eq_true rfl, of_decide_eq_true rfl⟩ ?_)
  simp only [z0K, z0H, z0G, z0L, z1S]
  refine zq rfl (zr rfl rfl rfl (by simp; rfl) ?_)
  refine z0a (zq rfl (zq rfl (zr rfl rfl rfl (by simp; rfl) ?_)))
  refine z0a ?_
  by_cases c17 : (a1.length : Int) = (a0.length : Int)
  ·rw [if_pos c17] at h0
   have c17e := eq_true c17
   refine z0s rfl (by simp [c17e]) (z0n rfl (z0a (zq rfl (zq rfl (zr rfl rfl rfl (by simp; rfl) ?_)))))
   refine z0a (zb rfl (z0C h0 (z2T a0 a1) rfl rfl (by simp [z2T]) fun s o1 h1 hr1 => ?_))
   obtain ⟨w10, hs1⟩ : ∃ y, y = s := ⟨_, rfl⟩
   subst hs1
   simp only [z2U] at h1
   simp only [z2T]
   refine zq rfl (zr rfl rfl rfl (by simp; rfl) ?_)
   refine z0a (zq rfl ?_)
   by_cases c28 : w10 < (a1.length : Int)
   ·rw [if_pos c28] at h1
    refine z0p rfl (by simp [c28]) (z0n rfl (z0a (zq rfl (zb rfl (zq rfl ?_)))))
    obtain ⟨v13, f29, h2⟩ := z1x h1
    refine zr rfl rfl rfl (by simp [f29]; rfl) ?_
    refine z0a (zq rfl ?_)
    by_cases c30 : v13 < 0
    ·rw [if_pos c30] at h2
     refine zr rfl rfl rfl (by simp [c30]; rfl) ?_
     refine z0a (z0p rfl (by simp) (zq rfl (zr rfl rfl rfl (by simp; rfl) ?_)))
     refine z0a (z0o rfl (z0h (z0c ?_)))
     obtain ⟨rr1, h3, ho1⟩ := z0d h2
     have hs1 := hr1 _ ho1
     subst hs1
     refine z0w ho1 (z0h (z0c ?_))
     cases h3
     simp
    ·rw [if_neg c30] at h2
     obtain ⟨v14, f31, h3⟩ := z1x h2
     refine zr rfl rfl rfl (by simp [c30, f31]; rfl) ?_
     refine z0a ?_
     by_cases c32 : v14 <= v13
     ·rw [if_pos c32] at h3
      refine z0p rfl (by simp [c32]) (zq rfl (zr rfl rfl rfl (by simp; rfl) ?_))
      refine z0a (z0o rfl (z0h (z0c ?_)))
      obtain ⟨rr1, h4, ho1⟩ := z0d h3
      have hs1 := hr1 _ ho1
      subst hs1
      refine z0w ho1 (z0h (z0c ?_))
      cases h4
      simp
     ·rw [if_neg c32] at h3
      refine z0s rfl (by simp [c32]) (z0n rfl (z0g (z0a (zr rfl rfl rfl (by simp; rfl) ?_))))
      have ho := z0f h3
      refine z0j ho ?_
      simp [z2T]
   ·rw [if_neg c28] at h1
    refine z0s rfl (by simp [c28]) (z0I rfl (z0B ?_))
    obtain ⟨rr1, h2, ho1⟩ := z0d h1
    have hs1 := hr1 _ ho1
    subst hs1
    refine z0v ho1 (z0l rfl (z0a (zq rfl (zr rfl rfl rfl (by simp; rfl) ?_))))
    refine z0a (z0o rfl ?_)
    cases h2
    simp
  ·rw [if_neg c17] at h0
   have c17e := eq_false c17
   refine z0p rfl (by simp [c17e]) (zq rfl (zr rfl rfl rfl (by simp; rfl) ?_))
   refine z0a (z0o rfl (z0c ?_))
   cases h0
   simp
def z6w (a0 : List Int) (a1 : List Int) : Int -> Option (Int ⊕ Bool)
  | w10 =>
  if w10 < (a1.length : Int) then
    (atI a1 w10).bind fun v13 =>
    if v13 < 0 then
      z0t <|
      some false
    else
      (atI a0 w10).bind fun v14 =>
      if v14 <= v13 then
        z0t <|
        some false
      else
        z0y (IntKind.i64.wrap (w10 + 1))
  else
    z0t <|
    some true
def z6v (a0 : List Int) (a1 : List Int) : Int -> Fr
  | w10 => ⟨25, [(0, .one (.t none (.sl a0.length (a0.map fun x0 => .sc (.int .i64 x0))))), (7, .one (.t none (.sl a1.length (a1.map fun x0 => .sc (.int .i64 x0))))), (8, .one (.t none (.sc (.int .i64 (a1.length : Int))))), (9, .one (.t none (.sc (.int .i64 w10))))], []⟩
def z7o (a0 : List Int) (a1 : List Int) : Option (Bool) :=
  z0E (z6w a0 a1) LFm 0
theorem za0 {a0 : List Int} {a1 : List Int} {r : Bool} (h0 : z7o a0 a1 = some r) : L 59 [.sl a0.length (a0.map fun x0 => .sc (.int .i64 x0)), .sl a1.length (a1.map fun x0 => .sc (.int .i64 x0))] = some (.sc (.bool r), [.dead, .dead]) := by
  simp only [z7o] at h0
  refine z1Q zn0 zof (z0F zpM ⟨of_decide_eq_true rfl, of_decide_eq_true rfl⟩ ?_)
  simp only [z0K, z0H, z0G, z0L, z1S]
  refine zq rfl (zr rfl rfl rfl (by simp; rfl) ?_)
  refine z0a (zq rfl (zq rfl (zr rfl rfl rfl (by simp; rfl) ?_)))
  refine z0a (zb rfl (z0C h0 (z6v a0 a1) rfl rfl (by simp [z6v]) fun s o1 h1 hr1 => ?_))
  obtain ⟨w10, hs1⟩ : ∃ y, y = s := ⟨_, rfl⟩
  subst hs1
  simp only [z6w] at h1
  simp only [z6v]
  refine zq rfl (zr rfl rfl rfl (by simp; rfl) ?_)
  refine z0a (zq rfl ?_)
  by_cases c26 : w10 < (a1.length : Int)
  ·rw [if_pos c26] at h1
   refine z0p rfl (by simp [c26]) (z0n rfl (z0a (zq rfl (zb rfl (zq rfl ?_)))))
   obtain ⟨v13, f27, h2⟩ := z1x h1
   refine zr rfl rfl rfl (by simp [f27]; rfl) ?_
   refine z0a (zq rfl ?_)
   by_cases c28 : v13 < 0
   ·rw [if_pos c28] at h2
    refine zr rfl rfl rfl (by simp [c28]; rfl) ?_
    refine z0a (z0p rfl (by simp) (zq rfl (zr rfl rfl rfl (by simp; rfl) ?_)))
    refine z0a (z0o rfl (z0h (z0c ?_)))
    obtain ⟨rr1, h3, ho1⟩ := z0d h2
    have hs1 := hr1 _ ho1
    subst hs1
    refine z0w ho1 (z0h (z0c ?_))
    cases h3
    simp
   ·rw [if_neg c28] at h2
    obtain ⟨v14, f29, h3⟩ := z1x h2
    refine zr rfl rfl rfl (by simp [c28, f29]; rfl) ?_
    refine z0a ?_
    by_cases c30 : v14 <= v13
    ·rw [if_pos c30] at h3
     refine z0p rfl (by simp [c30]) (zq rfl (zr rfl rfl rfl (by simp; rfl) ?_))
     refine z0a (z0o rfl (z0h (z0c ?_)))
     obtain ⟨rr1, h4, ho1⟩ := z0d h3
     have hs1 := hr1 _ ho1
     subst hs1
     refine z0w ho1 (z0h (z0c ?_))
     cases h4
     simp
    ·rw [if_neg c30] at h3
     refine z0s rfl (by simp [c30]) (z0n rfl (z0g (z0a (zr rfl rfl rfl (by simp; rfl) ?_))))
     have ho := z0f h3
     refine z0j ho ?_
     simp [z6v]
  ·rw [if_neg c26] at h1
   refine z0s rfl (by simp [c26]) (z0I rfl (z0B ?_))
   obtain ⟨rr1, h2, ho1⟩ := z0d h1
   have hs1 := hr1 _ ho1
   subst hs1
   refine z0v ho1 (z0l rfl (z0a (zq rfl (zr rfl rfl rfl (by simp; rfl) ?_))))
   refine z0a (z0o rfl ?_)
   cases h2
   simp
def z3h (a0 : Casc) (a1 : List Int) : Option (Bool) :=
  if (a1.length : Int) = (a0.sizes.length : Int) then
    (z7o a0.sizes a1).bind fun v2 =>
    some v2
  else
    some false
theorem z6H {a0 : Casc} {a1 : List Int} {r : Bool} (h0 : z3h a0 a1 = some r) : L 39 [.agg [.sc (.int .i64 a0.letters), .sl a0.sizes.length (a0.sizes.map fun x0 => .sc (.int .i64 x0)), .sl a0.rows.length (a0.rows.flatMap fun x0 => [.sl x0.pre.length (x0.pre.map fun x1 => .sc (.int .i64 x1)), .sl x0.maps.length (x0.maps.map fun x1 => .sl x1.length (x1.map fun x2 => .sc (.int .i64 x2)))])], .sl a1.length (a1.map fun x0 => .sc (.int .i64 x0))] = some (.sc (.bool r), [.dead, .dead]) := by
  simp only [z3h] at h0
  refine z1Q znc zor (z0F zpY ⟨of_decide_eq_true rfl, of_decide_eq_true rfl⟩ ?_)
  simp only [z0K, z0H, z0G, z0L, z1S]
  refine zq rfl (zr rfl rfl rfl (by simp; rfl) ?_)
  refine z0a (zq rfl ?_)
  by_cases c3 : (a1.length : Int) = (a0.sizes.length : Int)
  ·rw [if_pos c3] at h0
   have c3e := eq_true c3
   obtain ⟨v2, f4, h1⟩ := z0b h0
   have f4k := za0 f4
   try simp at f4k
   refine zr rfl rfl rfl (by simp [c3e, f4k]; rfl) ?_
   refine z0a (z0o rfl ?_)
   cases h1
   simp
  ·rw [if_neg c3] at h0
   have c3e := eq_false c3
   refine zr rfl rfl rfl (by simp [c3e]; rfl) ?_
   refine z0a (z0o rfl ?_)
   cases h0
   simp
def z6e (a0 : List Int) (a1 : List Int) : Option (Bool) :=
  if (a0.length : Int) = (a1.length : Int) then
    (z6f a0 a1).bind fun v2 =>
    some v2
  else
    some (decide (a0.length < a1.length))
theorem zbs {a0 : List Int} {a1 : List Int} {r : Bool} (h0 : z6e a0 a1 = some r) : L 60 [.sl a0.length (a0.map fun x0 => .sc (.int .i64 x0)), .sl a1.length (a1.map fun x0 => .sc (.int .i64 x0))] = some (.sc (.bool r), [.dead, .dead]) := by
  simp only [z6e] at h0
  refine z1Q zmZ zoe (z0F zpL ⟨of_decide_eq_true rfl, of_decide_eq_true rfl⟩ ?_)
  simp only [z0K, z0H, z0G, z0L, z1S]
  refine zq rfl (zr rfl rfl rfl (by simp; rfl) ?_)
  refine z0a (zq rfl (zq rfl (zr rfl rfl rfl (by simp; rfl) ?_)))
  refine z0a ?_
  by_cases c3 : (a0.length : Int) = (a1.length : Int)
  ·rw [if_pos c3] at h0
   have c3e := eq_true c3
   refine z0s rfl (by simp [c3e]) (z0n rfl (z0a (zq rfl ?_)))
   obtain ⟨v2, f4, h1⟩ := z0b h0
   have f4k := zbt f4
   try simp at f4k
   refine zr rfl rfl rfl (by simp [f4k]; rfl) ?_
   refine z0a (z0o rfl ?_)
   cases h1
   simp
  ·rw [if_neg c3] at h0
   have c3e := eq_false c3
   refine z0p rfl (by simp [c3e]) (zq rfl (zr rfl rfl rfl (by simp; rfl) ?_))
   refine z0a (z0o rfl (z0c ?_))
   cases h0
   simp
def z5N (a0 : Casc) (a1 : List Int) : Int -> Option (Int ⊕ Int)
  | w10 =>
  if w10 < (a0.rows.length : Int) then
    (atI a0.rows w10).bind fun v13 =>
    (z3V v13.pre a1).bind fun v14 =>
    if v14 = true then
      z0t <|
      some w10
    else
      z0y (IntKind.i64.wrap (w10 + 1))
  else
    z0t <|
    some (-1)
def z5M (a0 : Casc) (a1 : List Int) : Int -> Fr
  | w10 => ⟨21, [(1, .one (.t none (.sl a1.length (a1.map fun x0 => .sc (.int .i64 x0))))), (8, .one (.t none (.sl a0.rows.length (a0.rows.flatMap fun x0 => [.sl x0.pre.length (x0.pre.map fun x1 => .sc (.int .i64 x1)), .sl x0.maps.length (x0.maps.map fun x1 => .sl x1.length (x1.map fun x2 => .sc (.int .i64 x2)))])))), (9, .one (.t none (.sc (.int .i64 (a0.rows.length : Int))))), (10, .one (.t none (.sc (.int .i64 w10))))], []⟩
def z6Y (a0 : Casc) (a1 : List Int) : Option (Int) :=
  z0E (z5N a0 a1) LFm 0
theorem zcB {a0 : Casc} {a1 : List Int} {r : Int} (h0 : z6Y a0 a1 = some r) : L 61 [.agg [.sc (.int .i64 a0.letters), .sl a0.sizes.length (a0.sizes.map fun x0 => .sc (.int .i64 x0)), .sl a0.rows.length (a0.rows.flatMap fun x0 => [.sl x0.pre.length (x0.pre.map fun x1 => .sc (.int .i64 x1)), .sl x0.maps.length (x0.maps.map fun x1 => .sl x1.length (x1.map fun x2 => .sc (.int .i64 x2)))])], .sl a1.length (a1.map fun x0 => .sc (.int .i64 x0))] = some (.sc (.int .i64 r), [.dead, .dead]) := by
  simp only [z6Y] at h0
  refine z1Q zmY zod (z0F zpK ⟨of_decide_eq_true rfl, of_decide_eq_true rfl⟩ ?_)
  simp only [z0K, z0H, z0G, z0L, z1S]
  refine zq rfl (zr rfl rfl rfl (by simp; rfl) ?_)
  refine z0a (zq rfl (zq rfl (zr rfl rfl rfl (by simp; rfl) ?_)))
  refine z0a (zb rfl (z0C h0 (z5M a0 a1) rfl rfl (by simp [z5M]) fun s o1 h1 hr1 => ?_))
  obtain ⟨w10, hs1⟩ : ∃ y, y = s := ⟨_, rfl⟩
  subst hs1
  simp only [z5N] at h1
  simp only [z5M]
  refine zq rfl (zr rfl rfl rfl (by simp; rfl) ?_)
  refine z0a (zq rfl ?_)
  by_cases c21 : w10 < (a0.rows.length : Int)
  ·rw [if_pos c21] at h1
   refine z0p rfl (by simp [c21]) (z0n rfl (z0a (zq rfl (zb rfl (zq rfl ?_)))))
   obtain ⟨v13, f22, h2⟩ := z0b h1
   obtain ⟨f22a, f22b, f22c, f22d, f22e⟩ := z0W f22
   have f22g := z1e (g := fun x : CRow => ([.sl x.pre.length (x.pre.map fun x0 => .sc (.int .i64 x0)), .sl x.maps.length (x.maps.map fun x0 => .sl x0.length (x0.map fun x1 => .sc (.int .i64 x1)))] : List T)) (m := 2) (fun _ => rfl) f22d
   have f22h := z1k (g := fun x : CRow => ([.sl x.pre.length (x.pre.map fun x0 => .sc (.int .i64 x0)), .sl x.maps.length (x.maps.map fun x0 => .sl x0.length (x0.map fun x1 => .sc (.int .i64 x1)))] : List T)) (m := 2) (fun _ => rfl) a0.rows
   have f22k0 := f22g.2.2.1 0 (by decide)
   have f22m0 := f22g.2.2.2 0 _ rfl
   have f22k1 := f22g.2.2.1 1 (by decide)
   have f22m1 := f22g.2.2.2 1 _ rfl
   obtain ⟨f22g, f22i, -⟩ := f22g
   try simp at f22i f22h f22k0 f22m0 f22k1 f22m1
   refine zr rfl rfl rfl (by simp [f22a, f22b, f22c, f22d, f22e, f22g, f22i, f22h, f22k0, f22k1, f22m0, f22m1]; rfl) ?_
   refine z0a (zq rfl ?_)
   obtain ⟨v14, f23, h3⟩ := z0b h2
   have f23k := z5b f23
   try simp at f23k
   refine zr rfl rfl rfl (by simp [f23k]; rfl) ?_
   refine z0a ?_
   by_cases c24 : v14 = true
   ·rw [if_pos c24] at h3
    refine z0p rfl (by simp [c24]) (zq rfl (zr rfl rfl rfl (by simp; rfl) ?_))
    refine z0a (z0o rfl (z0h (z0c ?_)))
    obtain ⟨rr1, h4, ho1⟩ := z0d h3
    have hs1 := hr1 _ ho1
    subst hs1
    refine z0w ho1 (z0h (z0c ?_))
    cases h4
    simp [c24]
   ·rw [if_neg c24] at h3
    refine z0s rfl (by simp [c24]) (z0n rfl (z0g (z0a (zr rfl rfl rfl (by simp; rfl) ?_))))
    have ho := z0f h3
    refine z0j ho ?_
    simp [z5M, c24]
  ·rw [if_neg c21] at h1
   refine z0s rfl (by simp [c21]) (z0I rfl (z0B ?_))
   obtain ⟨rr1, h2, ho1⟩ := z0d h1
   have hs1 := hr1 _ ho1
   subst hs1
   refine z0v ho1 (z0l rfl (z0a (zq rfl (zr rfl rfl rfl (by simp; rfl) ?_))))
   refine z0a (z0o rfl ?_)
   cases h2
   simp
def z2b (a0 : Casc) (a1 : CRow) (w42 : Int) (v52 : List Int) : Int -> Option (Int ⊕ (Int ⊕ Bool))
  | w56 =>
  if w56 < (v52.length : Int) then
    (atI v52 w56).bind fun v59 =>
    if v59 < 0 then
      z0t <|
      z0t <|
      some false
    else
      (atI a0.sizes (a1.pre.length : Int)).bind fun v60 =>
      if v60 <= v59 then
        z0t <|
        z0t <|
        some false
      else
        z0y (IntKind.i64.wrap (w56 + 1))
  else
    z0t <|
    z0y (IntKind.i64.wrap (w42 + 1))
def z2a (a0 : Casc) (a1 : CRow) (w42 : Int) (v52 : List Int) : Int -> Fr
  | w56 => ⟨70, [(2, .one (.a 2 [] (0))), (5, .one (.t none (.sc (.int .i64 (a1.pre.length : Int))))), (37, .one (.t none (.sl a1.maps.length (a1.maps.map fun x0 => .sl x0.length (x0.map fun x1 => .sc (.int .i64 x1)))))), (38, .one (.t none (.sc (.int .i64 (a1.maps.length : Int))))), (39, .one (.t none (.sc (.int .i64 w42)))), (51, .one (.t none (.sl v52.length (v52.map fun x0 => .sc (.int .i64 x0))))), (52, .one (.t none (.sc (.int .i64 (v52.length : Int))))), (53, .one (.t none (.sc (.int .i64 w56))))], [(2, .vr [.sc (.int .i64 a0.letters), .sl a0.sizes.length (a0.sizes.map fun x0 => .sc (.int .i64 x0)), .sl a0.rows.length (a0.rows.flatMap fun x0 => [.sl x0.pre.length (x0.pre.map fun x1 => .sc (.int .i64 x1)), .sl x0.maps.length (x0.maps.map fun x1 => .sl x1.length (x1.map fun x2 => .sc (.int .i64 x2)))])])]⟩
def z2w (a0 : Casc) (a1 : CRow) : Int -> Option (Int ⊕ Bool)
  | w42 =>
  if w42 < (a1.maps.length : Int) then
    (atI a1.maps w42).bind fun v52 =>
    (atI a0.sizes (a1.pre.length : Int)).bind fun v53 =>
    if (v52.length : Int) = v53 then
      z0E (z2b a0 a1 w42 v52) LFm 0
    else
      z0t <|
      some false
  else
    z0t <|
    some true
def z2v (a0 : Casc) (a1 : CRow) : Int -> Fr
  | w42 => ⟨70, [(2, .one (.a 2 [] (0))), (5, .one (.t none (.sc (.int .i64 (a1.pre.length : Int))))), (37, .one (.t none (.sl a1.maps.length (a1.maps.map fun x0 => .sl x0.length (x0.map fun x1 => .sc (.int .i64 x1)))))), (38, .one (.t none (.sc (.int .i64 (a1.maps.length : Int))))), (39, .one (.t none (.sc (.int .i64 w42))))], [(2, .vr [.sc (.int .i64 a0.letters), .sl a0.sizes.length (a0.sizes.map fun x0 => .sc (.int .i64 x0)), .sl a0.rows.length (a0.rows.flatMap fun x0 => [.sl x0.pre.length (x0.pre.map fun x1 => .sc (.int .i64 x1)), .sl x0.maps.length (x0.maps.map fun x1 => .sl x1.length (x1.map fun x2 => .sc (.int .i64 x2)))])])]⟩
def z2G (a0 : Casc) (a1 : CRow) : Option (Bool) :=
  if a0.sizes.length <= a1.pre.length then
    some false
  else
    (z6i a0.sizes 0 (a1.pre.length : Int)).bind fun v31 =>
    (z1w v31 a1.pre).bind fun v32 =>
    if v32 = true then
      if (a1.maps.length : Int) = a0.letters then
        z0E (z2w a0 a1) LFm 0
      else
        some false
    else
      some false
theorem z8f {a0 : Casc} {a1 : CRow} {r : Bool} (h0 : z2G a0 a1 = some r) : L 62 [.agg [.sc (.int .i64 a0.letters), .sl a0.sizes.length (a0.sizes.map fun x0 => .sc (.int .i64 x0)), .sl a0.rows.length (a0.rows.flatMap fun x0 => [.sl x0.pre.length (x0.pre.map fun x1 => .sc (.int .i64 x1)), .sl x0.maps.length (x0.maps.map fun x1 => .sl x1.length (x1.map fun x2 => .sc (.int .i64 x2)))])], .agg [.sl a1.pre.length (a1.pre.map fun x0 => .sc (.int .i64 x0)), .sl a1.maps.length (a1.maps.map fun x0 => .sl x0.length (x0.map fun x1 => .sc (.int .i64 x1)))]] = some (.sc (.bool r), [.dead, .dead]) := by
  simp only [z2G] at h0
  refine z1Q zmX zoc (z0F zpJ ⟨of_decide_eq_true rfl, of_decide_eq_true rfl⟩ ?_)
  simp only [z0K, z0H, z0G, z0L, z1S]
  refine zq rfl (zr rfl rfl rfl (by simp; rfl) ?_)
  refine z0a (zq rfl (zr rfl rfl rfl (by simp; rfl) ?_))
  refine z0a (zq rfl (zq rfl ?_))
  by_cases c60 : a0.sizes.length <= a1.pre.length
  ·rw [if_pos c60] at h0
   refine z1o rfl rfl rfl rfl ?_; repeat' (first | (refine z0D rfl rfl fun Q' hQ => ?_; simp [c60]; refine hQ.out _ ?_; clear hQ; clear Q') | (refine z0V rfl rfl fun Q1 Q2 h1 h2 => ?_; simp [c60, z2e]; (first | refine h1.out ?_ | refine h2.out ?_); clear h1 h2; clear Q1 Q2; intro Q' hQ; simp [c60]; refine hQ.out _ ?_; clear hQ; clear Q') | (refine z0A rfl fun Q' hQ => ?_; simp [c60]; refine hQ.out _ ?_; clear hQ; clear Q'))
   refine z0a (z0p rfl (by simp) (zq rfl (zr rfl rfl rfl (by simp; rfl) ?_)))
   refine z0a (z0o rfl (z0c ?_))
   cases h0
   simp
  ·rw [if_neg c60] at h0
   obtain ⟨v31, f61, h1⟩ := z0b h0
   obtain ⟨f61a, f61b, f61c, -⟩ := z3O f61
   obtain ⟨f61d, f61g⟩ := z6x f61a f61b
   have f61e := z6h (g := fun x : Int => (.sc (.int .i64 x) : T)) f61
   try simp at f61e
   have f61f := z6g f61
   try simp only [Int.reduceToNat, Int.toNat_natCast, Nat.sub_zero] at f61f
   obtain ⟨v32, f62, h2⟩ := z0b h1
   have f62k := z2S f62
   try simp at f62k
   by_cases c63 : v32 = true
   ·rw [if_pos c63] at h2
    refine z1o rfl rfl rfl rfl ?_; repeat' (first | (refine z0D rfl rfl fun Q' hQ => ?_; simp [c60, f61a, f61b, f61c, f61d, f61g, f61e, f61f, f62k, c63]; refine hQ.out _ ?_; clear hQ; clear Q') | (refine z0V rfl rfl fun Q1 Q2 h1 h2 => ?_; simp [c60, f61a, f61b, f61c, f61d, f61g, f61e, f61f, f62k, c63, z2e]; (first | refine h1.out ?_ | refine h2.out ?_); clear h1 h2; clear Q1 Q2; intro Q' hQ; simp [c60, f61a, f61b, f61c, f61d, f61g, f61e, f61f, f62k, c63]; refine hQ.out _ ?_; clear hQ; clear Q') | (refine z0A rfl fun Q' hQ => ?_; simp [c60, f61a, f61b, f61c, f61d, f61g, f61e, f61f, f62k, c63]; refine hQ.out _ ?_; clear hQ; clear Q'))
    refine z0a ?_
    by_cases c64 : (a1.maps.length : Int) = a0.letters
    ·rw [if_pos c64] at h2
     have c64e := eq_true c64
     refine z0s rfl (by simp [c64e]) (z0n rfl (z0a (zq rfl (zq rfl (zr rfl rfl rfl (by simp; rfl) ?_)))))
     refine z0a (zb rfl (z0C h2 (z2v a0 a1) rfl rfl (by simp [z2v]) fun s o1 h3 hr1 => ?_))
     obtain ⟨w42, hs1⟩ : ∃ y, y = s := ⟨_, rfl⟩
     subst hs1
     simp only [z2w] at h3
     simp only [z2v]
     refine zq rfl (zr rfl rfl rfl (by simp; rfl) ?_)
     refine z0a (zq rfl ?_)
     by_cases c101 : w42 < (a1.maps.length : Int)
     ·rw [if_pos c101] at h3
      refine z0p rfl (by simp [c101]) (z0n rfl (z0a (zq rfl (zb rfl (zq rfl ?_)))))
      obtain ⟨v52, f102, h4⟩ := z1x h3
      refine zr rfl rfl rfl (by simp [f102]; rfl) ?_
      refine z0a (zq rfl (zq rfl ?_))
      obtain ⟨v53, f103, h5⟩ := zji h4
      refine zr rfl rfl rfl (by simp [f103]; rfl) ?_
      refine z0a ?_
      by_cases c104 : (v52.length : Int) = v53
      ·rw [if_pos c104] at h5
       have c104e := eq_true c104
       refine z0s rfl (by simp [c104e]) (z0n rfl (z0a (zq rfl (zr rfl rfl rfl (by simp; rfl) ?_))))
       refine z0a (zb rfl (z0C h5 (z2a a0 a1 w42 v52) rfl rfl (by simp [z2a]) fun s o2 h6 hr2 => ?_))
       obtain ⟨w56, hs2⟩ : ∃ y, y = s := ⟨_, rfl⟩
       subst hs2
       simp only [z2b] at h6
       simp only [z2a]
       refine zq rfl (zr rfl rfl rfl (by simp; rfl) ?_)
       refine z0a (zq rfl ?_)
       by_cases c115 : w56 < (v52.length : Int)
       ·rw [if_pos c115] at h6
        refine z0p rfl (by simp [c115]) (z0n rfl (z0a (zq rfl (zb rfl (zq rfl ?_)))))
        obtain ⟨v59, f116, h7⟩ := z1x h6
        refine zr rfl rfl rfl (by simp [f116]; rfl) ?_
        refine z0a (zq rfl ?_)
        by_cases c117 : v59 < 0
        ·rw [if_pos c117] at h7
         refine zr rfl rfl rfl (by simp [c117]; rfl) ?_
         refine z0a (z0p rfl (by simp) (zq rfl (zr rfl rfl rfl (by simp; rfl) ?_)))
         refine z0a (z0o rfl (z0h (z0c ?_)))
         obtain ⟨rr2, h8, ho2⟩ := z0d h7
         have hs2 := hr2 _ ho2
         subst hs2
         refine z0w ho2 (z0h (z0h (z0c ?_)))
         obtain ⟨rr1, h9, ho1⟩ := z0d h8
         have hs1 := hr1 _ ho1
         subst hs1
         refine z0w ho1 (z0h (z0c ?_))
         cases h9
         simp
        ·rw [if_neg c117] at h7
         obtain ⟨v60, f118, h8⟩ := zji h7
         refine zr rfl rfl rfl (by simp [c117, f118]; rfl) ?_
         refine z0a ?_
         by_cases c119 : v60 <= v59
         ·rw [if_pos c119] at h8
          refine z0p rfl (by simp [c119]) (zq rfl (zr rfl rfl rfl (by simp; rfl) ?_))
          refine z0a (z0o rfl (z0h (z0c ?_)))
          obtain ⟨rr2, h9, ho2⟩ := z0d h8
          have hs2 := hr2 _ ho2
          subst hs2
          refine z0w ho2 (z0h (z0h (z0c ?_)))
          obtain ⟨rr1, h10, ho1⟩ := z0d h9
          have hs1 := hr1 _ ho1
          subst hs1
          refine z0w ho1 (z0h (z0c ?_))
          cases h10
          simp
         ·rw [if_neg c119] at h8
          refine z0s rfl (by simp [c119]) (z0n rfl (z0g (z0a (zr rfl rfl rfl (by simp; rfl) ?_))))
          have ho := z0f h8
          refine z0j ho ?_
          simp [z2a]
       ·rw [if_neg c115] at h6
        refine z0s rfl (by simp [c115]) (z0I rfl (z0B ?_))
        obtain ⟨rr2, h7, ho2⟩ := z0d h6
        have hs2 := hr2 _ ho2
        subst hs2
        refine z0v ho2 (z0l rfl (z0g (z0a (zr rfl rfl rfl (by simp; rfl) ?_))))
        have ho := z0f h7
        refine z0j ho ?_
        simp [z2v]
      ·rw [if_neg c104] at h5
       have c104e := eq_false c104
       refine z0p rfl (by simp [c104e]) (zq rfl (zr rfl rfl rfl (by simp; rfl) ?_))
       refine z0a (z0o rfl (z0c (z0h (z0c ?_))))
       obtain ⟨rr1, h6, ho1⟩ := z0d h5
       have hs1 := hr1 _ ho1
       subst hs1
       refine z0w ho1 (z0h (z0c ?_))
       cases h6
       simp
     ·rw [if_neg c101] at h3
      refine z0s rfl (by simp [c101]) (z0I rfl (z0B ?_))
      obtain ⟨rr1, h4, ho1⟩ := z0d h3
      have hs1 := hr1 _ ho1
      subst hs1
      refine z0v ho1 (z0l rfl (z0a (zq rfl (zr rfl rfl rfl (by simp; rfl) ?_))))
      refine z0a (z0o rfl ?_)
      cases h4
      simp
    ·rw [if_neg c64] at h2
     have c64e := eq_false c64
     refine z0p rfl (by simp [c64e]) (zq rfl (zr rfl rfl rfl (by simp; rfl) ?_))
     refine z0a (z0o rfl (z0c ?_))
     cases h2
     simp [c63]
   ·rw [if_neg c63] at h2
    refine z1o rfl rfl rfl rfl ?_; repeat' (first | (refine z0D rfl rfl fun Q' hQ => ?_; simp [c60, f61a, f61b, f61c, f61d, f61g, f61e, f61f, f62k, c63]; refine hQ.out _ ?_; clear hQ; clear Q') | (refine z0V rfl rfl fun Q1 Q2 h1 h2 => ?_; simp [c60, f61a, f61b, f61c, f61d, f61g, f61e, f61f, f62k, c63, z2e]; (first | refine h1.out ?_ | refine h2.out ?_); clear h1 h2; clear Q1 Q2; intro Q' hQ; simp [c60, f61a, f61b, f61c, f61d, f61g, f61e, f61f, f62k, c63]; refine hQ.out _ ?_; clear hQ; clear Q') | (refine z0A rfl fun Q' hQ => ?_; simp [c60, f61a, f61b, f61c, f61d, f61g, f61e, f61f, f62k, c63]; refine hQ.out _ ?_; clear hQ; clear Q'))
    refine z0a (z0p rfl (by simp) (zq rfl (zr rfl rfl rfl (by simp; rfl) ?_)))
    refine z0a (z0o rfl (z0c ?_))
    cases h2
    simp [c63]
def z1H (a0 : Casc) : Int -> Option (Int ⊕ Int)
  | w26 =>
  if w26 < (a0.rows.length : Int) then
    (atI a0.rows w26).bind fun v31 =>
    (z2G a0 v31).bind fun v32 =>
    if v32 = true then
      if 0 < w26 then
        (atI a0.rows (IntKind.i64.wrap (w26 - 1))).bind fun v33 =>
        (z1s v33.pre v31.pre).bind fun v34 =>
        if 0 <= v34 then
          z0t <|
          some 23
        else
          z0y (IntKind.i64.wrap (w26 + 1))
      else
        z0y (IntKind.i64.wrap (w26 + 1))
    else
      z0t <|
      some 23
  else
    z0t <|
    some 0
def z1G (a0 : Casc) : Int -> Fr
  | w26 => ⟨69, [(1, .one (.a 1 [] (0))), (40, .one (.t none (.sl a0.rows.length (a0.rows.flatMap fun x0 => [.sl x0.pre.length (x0.pre.map fun x1 => .sc (.int .i64 x1)), .sl x0.maps.length (x0.maps.map fun x1 => .sl x1.length (x1.map fun x2 => .sc (.int .i64 x2)))])))), (41, .one (.t none (.sc (.int .i64 (a0.rows.length : Int))))), (42, .one (.t none (.sc (.int .i64 w26))))], [(1, .vr [.sc (.int .i64 a0.letters), .sl a0.sizes.length (a0.sizes.map fun x0 => .sc (.int .i64 x0)), .sl a0.rows.length (a0.rows.flatMap fun x0 => [.sl x0.pre.length (x0.pre.map fun x1 => .sc (.int .i64 x1)), .sl x0.maps.length (x0.maps.map fun x1 => .sl x1.length (x1.map fun x2 => .sc (.int .i64 x2)))])])]⟩
def z2A (a0 : Casc) : Int -> Option (Int ⊕ Int)
  | w19 =>
  if w19 < (a0.sizes.length : Int) then
    (atI a0.sizes w19).bind fun v21 =>
    if v21 < 1 then
      z0t <|
      some 23
    else
      if 32 < v21 then
        z0t <|
        some 23
      else
        z0y (IntKind.i64.wrap (w19 + 1))
  else
    z0t <|
    z0E (z1H a0) LFm 0
def z2z (a0 : Casc) : Int -> Fr
  | w19 => ⟨69, [(1, .one (.a 1 [] (0))), (26, .one (.t none (.sl a0.sizes.length (a0.sizes.map fun x0 => .sc (.int .i64 x0))))), (27, .one (.t none (.sc (.int .i64 (a0.sizes.length : Int))))), (28, .one (.t none (.sc (.int .i64 w19))))], [(1, .vr [.sc (.int .i64 a0.letters), .sl a0.sizes.length (a0.sizes.map fun x0 => .sc (.int .i64 x0)), .sl a0.rows.length (a0.rows.flatMap fun x0 => [.sl x0.pre.length (x0.pre.map fun x1 => .sc (.int .i64 x1)), .sl x0.maps.length (x0.maps.map fun x1 => .sl x1.length (x1.map fun x2 => .sc (.int .i64 x2)))])])]⟩
def z1n (a0 : Casc) : Option (Int) :=
  if a0.letters < 1 then
    some 1
  else
    if 6 < a0.letters then
      some 1
    else
      if 24 < (a0.sizes.length : Int) then
        some 3
      else
        if 48000 < (a0.rows.length : Int) then
          some 3
        else
          z0E (z2A a0) LFm 0
theorem z2y {a0 : Casc} {r : Int} (h0 : z1n a0 = some r) : L 43 [.agg [.sc (.int .i64 a0.letters), .sl a0.sizes.length (a0.sizes.map fun x0 => .sc (.int .i64 x0)), .sl a0.rows.length (a0.rows.flatMap fun x0 => [.sl x0.pre.length (x0.pre.map fun x1 => .sc (.int .i64 x1)), .sl x0.maps.length (x0.maps.map fun x1 => .sl x1.length (x1.map fun x2 => .sc (.int .i64 x2)))])]] = some (.sc (.int .i64 r), [.dead]) := by
  simp only [z1n] at h0
  refine z1Q zna zop (z0F zpW ⟨of_decide_eq_true rfl, of_decide_eq_true rfl⟩ ?_)
  simp only [z0K, z0H, z0G, z0L, z1S]
  refine zq rfl (zr rfl rfl rfl (by simp; rfl) ?_)
  refine z0a (zq rfl (zq rfl ?_))
  by_cases c41 : a0.letters < 1
  ·rw [if_pos c41] at h0
   refine zr rfl rfl rfl (by simp [c41]; rfl) ?_
   refine z0a (z0p rfl (by simp) (zq rfl (zr rfl rfl rfl (by simp; rfl) ?_)))
   refine z0a (z0o rfl (z0c ?_))
   cases h0
   simp
  ·rw [if_neg c41] at h0
   refine zr rfl rfl rfl (by simp [c41]; rfl) ?_
   refine z0a ?_
   by_cases c42 : 6 < a0.letters
   ·rw [if_pos c42] at h0
    refine z0p rfl (by simp [c42]) (zq rfl (zr rfl rfl rfl (by simp; rfl) ?_))
    refine z0a (z0o rfl (z0c ?_))
    cases h0
    simp
   ·rw [if_neg c42] at h0
    refine z0s rfl (by simp [c42]) (z0n rfl (z0a (zq rfl (zq rfl ?_))))
    by_cases c43 : 24 < (a0.sizes.length : Int)
    ·rw [if_pos c43] at h0
     refine zr rfl rfl rfl (by simp [c43]; rfl) ?_
     refine z0a (z0p rfl (by simp) (zq rfl (zr rfl rfl rfl (by simp; rfl) ?_)))
     refine z0a (z0o rfl (z0c ?_))
     cases h0
     simp
    ·rw [if_neg c43] at h0
     refine zr rfl rfl rfl (by simp [c43]; rfl) ?_
     refine z0a ?_
     by_cases c44 : 48000 < (a0.rows.length : Int)
     ·rw [if_pos c44] at h0
      refine z0p rfl (by simp [c44]) (zq rfl (zr rfl rfl rfl (by simp; rfl) ?_))
      refine z0a (z0o rfl (z0c ?_))
      cases h0
      simp
     ·rw [if_neg c44] at h0
      refine z0s rfl (by simp [c44]) (z0n rfl (z0a (zq rfl (zq rfl (zr rfl rfl rfl (by simp; rfl) ?_)))))
      refine z0a (zb rfl (z0C h0 (z2z a0) rfl rfl (by simp [z2z]) fun s o1 h1 hr1 => ?_))
      obtain ⟨w19, hs1⟩ : ∃ y, y = s := ⟨_, rfl⟩
      subst hs1
      simp only [z2A] at h1
      simp only [z2z]
      refine zq rfl (zr rfl rfl rfl (by simp; rfl) ?_)
      refine z0a (zq rfl ?_)
      by_cases c53 : w19 < (a0.sizes.length : Int)
      ·rw [if_pos c53] at h1
       refine z0p rfl (by simp [c53]) (z0n rfl (z0a (zq rfl (zb rfl (zq rfl ?_)))))
       obtain ⟨v21, f54, h2⟩ := z1x h1
       refine zr rfl rfl rfl (by simp [f54]; rfl) ?_
       refine z0a (zq rfl ?_)
       by_cases c55 : v21 < 1
       ·rw [if_pos c55] at h2
        refine zr rfl rfl rfl (by simp [c55]; rfl) ?_
        refine z0a (z0p rfl (by simp) (zq rfl (zr rfl rfl rfl (by simp; rfl) ?_)))
        refine z0a (z0o rfl (z0h (z0c ?_)))
        obtain ⟨rr1, h3, ho1⟩ := z0d h2
        have hs1 := hr1 _ ho1
        subst hs1
        refine z0w ho1 (z0h (z0c ?_))
        cases h3
        simp
       ·rw [if_neg c55] at h2
        refine zr rfl rfl rfl (by simp [c55]; rfl) ?_
        refine z0a ?_
        by_cases c56 : 32 < v21
        ·rw [if_pos c56] at h2
         refine z0p rfl (by simp [c56]) (zq rfl (zr rfl rfl rfl (by simp; rfl) ?_))
         refine z0a (z0o rfl (z0h (z0c ?_)))
         obtain ⟨rr1, h3, ho1⟩ := z0d h2
         have hs1 := hr1 _ ho1
         subst hs1
         refine z0w ho1 (z0h (z0c ?_))
         cases h3
         simp
        ·rw [if_neg c56] at h2
         refine z0s rfl (by simp [c56]) (z0n rfl (z0g (z0a (zr rfl rfl rfl (by simp; rfl) ?_))))
         have ho := z0f h2
         refine z0j ho ?_
         simp [z2z]
      ·rw [if_neg c53] at h1
       refine z0s rfl (by simp [c53]) (z0I rfl (z0B ?_))
       obtain ⟨rr1, h2, ho1⟩ := z0d h1
       have hs1 := hr1 _ ho1
       subst hs1
       refine z0v ho1 (z0l rfl (z0a (zq rfl (zq rfl (zr rfl rfl rfl (by simp; rfl) ?_)))))
       refine z0a (zb rfl (z0C h2 (z1G a0) rfl rfl (by simp [z1G]) fun s o2 h3 hr2 => ?_))
       obtain ⟨w26, hs2⟩ : ∃ y, y = s := ⟨_, rfl⟩
       subst hs2
       simp only [z1H] at h3
       simp only [z1G]
       refine zq rfl (zr rfl rfl rfl (by simp; rfl) ?_)
       refine z0a (zq rfl ?_)
       by_cases c73 : w26 < (a0.rows.length : Int)
       ·rw [if_pos c73] at h3
        refine z0p rfl (by simp [c73]) (z0n rfl (z0a (zq rfl (zb rfl (zq rfl ?_)))))
        obtain ⟨v31, f74, h4⟩ := z0b h3
        obtain ⟨f74a, f74b, f74c, f74d, f74e⟩ := z0W f74
        have f74g := z1e (g := fun x : CRow => ([.sl x.pre.length (x.pre.map fun x0 => .sc (.int .i64 x0)), .sl x.maps.length (x.maps.map fun x0 => .sl x0.length (x0.map fun x1 => .sc (.int .i64 x1)))] : List T)) (m := 2) (fun _ => rfl) f74d
        have f74h := z1k (g := fun x : CRow => ([.sl x.pre.length (x.pre.map fun x0 => .sc (.int .i64 x0)), .sl x.maps.length (x.maps.map fun x0 => .sl x0.length (x0.map fun x1 => .sc (.int .i64 x1)))] : List T)) (m := 2) (fun _ => rfl) a0.rows
        have f74k0 := f74g.2.2.1 0 (by decide)
        have f74m0 := f74g.2.2.2 0 _ rfl
        have f74k1 := f74g.2.2.1 1 (by decide)
        have f74m1 := f74g.2.2.2 1 _ rfl
        obtain ⟨f74g, f74i, -⟩ := f74g
        try simp at f74i f74h f74k0 f74m0 f74k1 f74m1
        refine zr rfl rfl rfl (by simp [f74a, f74b, f74c, f74d, f74e, f74g, f74i, f74h, f74k0, f74k1, f74m0, f74m1]; rfl) ?_
        refine z0a (zq rfl ?_)
        obtain ⟨v32, f75, h5⟩ := z0b h4
        have f75k := z8f f75
        try simp at f75k
        by_cases c76 : v32 = true
        ·rw [if_pos c76] at h5
         by_cases c77 : 0 < w26
         ·rw [if_pos c77] at h5
          obtain ⟨v33, f78, h6⟩ := z0b h5
          obtain ⟨f78a, f78b, f78c, f78d, f78e⟩ := z0W f78
          have f78g := z1e (g := fun x : CRow => ([.sl x.pre.length (x.pre.map fun x0 => .sc (.int .i64 x0)), .sl x.maps.length (x.maps.map fun x0 => .sl x0.length (x0.map fun x1 => .sc (.int .i64 x1)))] : List T)) (m := 2) (fun _ => rfl) f78d
          have f78h := z1k (g := fun x : CRow => ([.sl x.pre.length (x.pre.map fun x0 => .sc (.int .i64 x0)), .sl x.maps.length (x.maps.map fun x0 => .sl x0.length (x0.map fun x1 => .sc (.int .i64 x1)))] : List T)) (m := 2) (fun _ => rfl) a0.rows
          have f78k0 := f78g.2.2.1 0 (by decide)
          have f78m0 := f78g.2.2.2 0 _ rfl
          have f78k1 := f78g.2.2.1 1 (by decide)
          have f78m1 := f78g.2.2.2 1 _ rfl
          obtain ⟨f78g, f78i, -⟩ := f78g
          try simp at f78i f78h f78k0 f78m0 f78k1 f78m1
          obtain ⟨v34, f79, h7⟩ := z0b h6
          have f79k := z4s f79
          try simp at f79k
          refine z1o rfl rfl rfl rfl ?_; repeat' (first | (refine z0D rfl rfl fun Q' hQ => ?_; simp [f75k, c76, c77, f78a, f78b, f78c, f78d, f78e, f78g, f78i, f78h, f78k0, f78k1, f78m0, f78m1, f79k]; refine hQ.out _ ?_; clear hQ; clear Q') | (refine z0V rfl rfl fun Q1 Q2 h1 h2 => ?_; simp [f75k, c76, c77, f78a, f78b, f78c, f78d, f78e, f78g, f78i, f78h, f78k0, f78k1, f78m0, f78m1, f79k, z2e]; (first | refine h1.out ?_ | refine h2.out ?_); clear h1 h2; clear Q1 Q2; intro Q' hQ; simp [f75k, c76, c77, f78a, f78b, f78c, f78d, f78e, f78g, f78i, f78h, f78k0, f78k1, f78m0, f78m1, f79k]; refine hQ.out _ ?_; clear hQ; clear Q') | (refine z0A rfl fun Q' hQ => ?_; simp [f75k, c76, c77, f78a, f78b, f78c, f78d, f78e, f78g, f78i, f78h, f78k0, f78k1, f78m0, f78m1, f79k]; refine hQ.out _ ?_; clear hQ; clear Q'))
          refine z0a ?_
          by_cases c80 : 0 <= v34
          ·rw [if_pos c80] at h7
           refine z0p rfl (by simp [c80]) (zq rfl (zr rfl rfl rfl (by simp; rfl) ?_))
           refine z0a (z0o rfl (z0h (z0c ?_)))
           obtain ⟨rr2, h8, ho2⟩ := z0d h7
           have hs2 := hr2 _ ho2
           subst hs2
           refine z0w ho2 (z0h (z0c ?_))
           cases h8
           simp [c76]
          ·rw [if_neg c80] at h7
           refine z0s rfl (by simp [c80]) (z0n rfl (z0g (z0a (zr rfl rfl rfl (by simp; rfl) ?_))))
           have ho := z0f h7
           refine z0j ho ?_
           simp [z1G, c76]
         ·rw [if_neg c77] at h5
          refine z1o rfl rfl rfl rfl ?_; repeat' (first | (refine z0D rfl rfl fun Q' hQ => ?_; simp [f75k, c76, c77]; refine hQ.out _ ?_; clear hQ; clear Q') | (refine z0V rfl rfl fun Q1 Q2 h1 h2 => ?_; simp [f75k, c76, c77, z2e]; (first | refine h1.out ?_ | refine h2.out ?_); clear h1 h2; clear Q1 Q2; intro Q' hQ; simp [f75k, c76, c77]; refine hQ.out _ ?_; clear hQ; clear Q') | (refine z0A rfl fun Q' hQ => ?_; simp [f75k, c76, c77]; refine hQ.out _ ?_; clear hQ; clear Q'))
          refine z0a (z0s rfl (by simp) (z0n rfl (z0g (z0a (zr rfl rfl rfl (by simp; rfl) ?_)))))
          have ho := z0f h5
          refine z0j ho ?_
          simp [z1G, c76]
        ·rw [if_neg c76] at h5
         refine z1o rfl rfl rfl rfl ?_; repeat' (first | (refine z0D rfl rfl fun Q' hQ => ?_; simp [f75k, c76]; refine hQ.out _ ?_; clear hQ; clear Q') | (refine z0V rfl rfl fun Q1 Q2 h1 h2 => ?_; simp [f75k, c76, z2e]; (first | refine h1.out ?_ | refine h2.out ?_); clear h1 h2; clear Q1 Q2; intro Q' hQ; simp [f75k, c76]; refine hQ.out _ ?_; clear hQ; clear Q') | (refine z0A rfl fun Q' hQ => ?_; simp [f75k, c76]; refine hQ.out _ ?_; clear hQ; clear Q'))
         refine z0a (z0p rfl (by simp) (zq rfl (zr rfl rfl rfl (by simp; rfl) ?_)))
         refine z0a (z0o rfl (z0h (z0c ?_)))
         obtain ⟨rr2, h6, ho2⟩ := z0d h5
         have hs2 := hr2 _ ho2
         subst hs2
         refine z0w ho2 (z0h (z0c ?_))
         cases h6
         simp [c76]
       ·rw [if_neg c73] at h3
        refine z0s rfl (by simp [c73]) (z0I rfl (z0B ?_))
        obtain ⟨rr2, h4, ho2⟩ := z0d h3
        have hs2 := hr2 _ ho2
        subst hs2
        refine z0v ho2 (z0l rfl (z0a (zq rfl (zr rfl rfl rfl (by simp; rfl) ?_))))
        refine z0a (z0o rfl ?_)
        cases h4
        simp
def z2P (v205 : Int) (w211 : Int) (v217 : List Int) : Int -> Option (Int ⊕ (Int ⊕ (Int ⊕ Int)))
  | w219 =>
  if w219 < (v217.length : Int) then
    (atI v217 w219).bind fun v221 =>
    if v221 < 0 then
      z0t <|
      z0t <|
      z0t <|
      some 23
    else
      if v205 <= v221 then
        z0t <|
        z0t <|
        z0t <|
        some 23
      else
        z0y (IntKind.i64.wrap (w219 + 1))
  else
    z0t <|
    z0y (IntKind.i64.wrap (w211 + 1))
def z2N (a0 : Casc) (w162 : Int) (v201 : CRow) (v205 : Int) (w211 : Int) (v217 : List Int) : Int -> Fr
  | w219 => ⟨126, [(1, .one (.a 1 [] (0))), (7, .one (.t none (.sc (.int .i64 v205)))), (45, .one (.t none (.sl a0.rows.length (a0.rows.flatMap fun x0 => [.sl x0.pre.length (x0.pre.map fun x1 => .sc (.int .i64 x1)), .sl x0.maps.length (x0.maps.map fun x1 => .sl x1.length (x1.map fun x2 => .sc (.int .i64 x2)))])))), (46, .one (.t none (.sc (.int .i64 (a0.rows.length : Int))))), (47, .one (.t none (.sc (.int .i64 w162)))), (100, .one (.t none (.sl v201.maps.length (v201.maps.map fun x0 => .sl x0.length (x0.map fun x1 => .sc (.int .i64 x1)))))), (101, .one (.t none (.sc (.int .i64 (v201.maps.length : Int))))), (102, .one (.t none (.sc (.int .i64 w211)))), (110, .one (.t none (.sl v217.length (v217.map fun x0 => .sc (.int .i64 x0))))), (111, .one (.t none (.sc (.int .i64 (v217.length : Int))))), (112, .one (.t none (.sc (.int .i64 w219))))], [(1, .vr [.sc (.int .i64 a0.letters), .sl a0.sizes.length (a0.sizes.map fun x0 => .sc (.int .i64 x0)), .sl a0.rows.length (a0.rows.flatMap fun x0 => [.sl x0.pre.length (x0.pre.map fun x1 => .sc (.int .i64 x1)), .sl x0.maps.length (x0.maps.map fun x1 => .sl x1.length (x1.map fun x2 => .sc (.int .i64 x2)))])])]⟩
def z4f (w162 : Int) (v201 : CRow) (v205 : Int) : Int -> Option (Int ⊕ (Int ⊕ Int))
  | w211 =>
  if w211 < (v201.maps.length : Int) then
    (atI v201.maps w211).bind fun v217 =>
    if (v217.length : Int) = v205 then
      z0E (z2P v205 w211 v217) LFm 0
    else
      z0t <|
      z0t <|
      some 23
  else
    z0t <|
    z0y (IntKind.i64.wrap (w162 + 1))
def z2O (a0 : Casc) (w162 : Int) (v201 : CRow) (v205 : Int) : Int -> Fr
  | w211 => ⟨126, [(1, .one (.a 1 [] (0))), (7, .one (.t none (.sc (.int .i64 v205)))), (45, .one (.t none (.sl a0.rows.length (a0.rows.flatMap fun x0 => [.sl x0.pre.length (x0.pre.map fun x1 => .sc (.int .i64 x1)), .sl x0.maps.length (x0.maps.map fun x1 => .sl x1.length (x1.map fun x2 => .sc (.int .i64 x2)))])))), (46, .one (.t none (.sc (.int .i64 (a0.rows.length : Int))))), (47, .one (.t none (.sc (.int .i64 w162)))), (100, .one (.t none (.sl v201.maps.length (v201.maps.map fun x0 => .sl x0.length (x0.map fun x1 => .sc (.int .i64 x1)))))), (101, .one (.t none (.sc (.int .i64 (v201.maps.length : Int))))), (102, .one (.t none (.sc (.int .i64 w211))))], [(1, .vr [.sc (.int .i64 a0.letters), .sl a0.sizes.length (a0.sizes.map fun x0 => .sc (.int .i64 x0)), .sl a0.rows.length (a0.rows.flatMap fun x0 => [.sl x0.pre.length (x0.pre.map fun x1 => .sc (.int .i64 x1)), .sl x0.maps.length (x0.maps.map fun x1 => .sl x1.length (x1.map fun x2 => .sc (.int .i64 x2)))])])]⟩
def z2s (v222 : Int) (w228 : Int) (v234 : List Int) : Int -> Option (Int ⊕ (Int ⊕ (Int ⊕ Int)))
  | w236 =>
  if w236 < (v234.length : Int) then
    (atI v234 w236).bind fun v238 =>
    if v238 < 0 then
      z0t <|
      z0t <|
      z0t <|
      some 23
    else
      if v222 <= v238 then
        z0t <|
        z0t <|
        z0t <|
        some 23
      else
        z0y (IntKind.i64.wrap (w236 + 1))
  else
    z0t <|
    z0y (IntKind.i64.wrap (w228 + 1))
def z2q (a0 : Casc) (w162 : Int) (v201 : CRow) (v222 : Int) (w228 : Int) (v234 : List Int) : Int -> Fr
  | w236 => ⟨126, [(1, .one (.a 1 [] (0))), (7, .one (.t none (.sc (.int .i64 v222)))), (45, .one (.t none (.sl a0.rows.length (a0.rows.flatMap fun x0 => [.sl x0.pre.length (x0.pre.map fun x1 => .sc (.int .i64 x1)), .sl x0.maps.length (x0.maps.map fun x1 => .sl x1.length (x1.map fun x2 => .sc (.int .i64 x2)))])))), (46, .one (.t none (.sc (.int .i64 (a0.rows.length : Int))))), (47, .one (.t none (.sc (.int .i64 w162)))), (100, .one (.t none (.sl v201.maps.length (v201.maps.map fun x0 => .sl x0.length (x0.map fun x1 => .sc (.int .i64 x1)))))), (101, .one (.t none (.sc (.int .i64 (v201.maps.length : Int))))), (102, .one (.t none (.sc (.int .i64 w228)))), (110, .one (.t none (.sl v234.length (v234.map fun x0 => .sc (.int .i64 x0))))), (111, .one (.t none (.sc (.int .i64 (v234.length : Int))))), (112, .one (.t none (.sc (.int .i64 w236))))], [(1, .vr [.sc (.int .i64 a0.letters), .sl a0.sizes.length (a0.sizes.map fun x0 => .sc (.int .i64 x0)), .sl a0.rows.length (a0.rows.flatMap fun x0 => [.sl x0.pre.length (x0.pre.map fun x1 => .sc (.int .i64 x1)), .sl x0.maps.length (x0.maps.map fun x1 => .sl x1.length (x1.map fun x2 => .sc (.int .i64 x2)))])])]⟩
def z3N (w162 : Int) (v201 : CRow) (v222 : Int) : Int -> Option (Int ⊕ (Int ⊕ Int))
  | w228 =>
  if w228 < (v201.maps.length : Int) then
    (atI v201.maps w228).bind fun v234 =>
    if (v234.length : Int) = v222 then
      z0E (z2s v222 w228 v234) LFm 0
    else
      z0t <|
      z0t <|
      some 23
  else
    z0t <|
    z0y (IntKind.i64.wrap (w162 + 1))
def z2r (a0 : Casc) (w162 : Int) (v201 : CRow) (v222 : Int) : Int -> Fr
  | w228 => ⟨126, [(1, .one (.a 1 [] (0))), (7, .one (.t none (.sc (.int .i64 v222)))), (45, .one (.t none (.sl a0.rows.length (a0.rows.flatMap fun x0 => [.sl x0.pre.length (x0.pre.map fun x1 => .sc (.int .i64 x1)), .sl x0.maps.length (x0.maps.map fun x1 => .sl x1.length (x1.map fun x2 => .sc (.int .i64 x2)))])))), (46, .one (.t none (.sc (.int .i64 (a0.rows.length : Int))))), (47, .one (.t none (.sc (.int .i64 w162)))), (100, .one (.t none (.sl v201.maps.length (v201.maps.map fun x0 => .sl x0.length (x0.map fun x1 => .sc (.int .i64 x1)))))), (101, .one (.t none (.sc (.int .i64 (v201.maps.length : Int))))), (102, .one (.t none (.sc (.int .i64 w228))))], [(1, .vr [.sc (.int .i64 a0.letters), .sl a0.sizes.length (a0.sizes.map fun x0 => .sc (.int .i64 x0)), .sl a0.rows.length (a0.rows.flatMap fun x0 => [.sl x0.pre.length (x0.pre.map fun x1 => .sc (.int .i64 x1)), .sl x0.maps.length (x0.maps.map fun x1 => .sl x1.length (x1.map fun x2 => .sc (.int .i64 x2)))])])]⟩
def z1V (a0 : Casc) : Int -> Option (Int ⊕ Int)
  | w162 =>
  if w162 < (a0.rows.length : Int) then
    (atI a0.rows w162).bind fun v201 =>
    if a0.sizes.length <= v201.pre.length then
      z0t <|
      some 23
    else
      (z7o a0.sizes v201.pre).bind fun v202 =>
      if v202 = true then
        if 0 < w162 then
          (atI a0.rows (IntKind.i64.wrap (w162 - 1))).bind fun v203 =>
          (z6e v203.pre v201.pre).bind fun v204 =>
          if v204 = true then
            if (v201.maps.length : Int) = a0.letters then
              (atI a0.sizes (v201.pre.length : Int)).bind fun v205 =>
              z0E (z4f w162 v201 v205) LFm 0
            else
              z0t <|
              some 23
          else
            z0t <|
            some 23
        else
          if (v201.maps.length : Int) = a0.letters then
            (atI a0.sizes (v201.pre.length : Int)).bind fun v222 =>
            z0E (z3N w162 v201 v222) LFm 0
          else
            z0t <|
            some 23
      else
        z0t <|
        some 23
  else
    z0t <|
    some 0
def z1U (a0 : Casc) : Int -> Fr
  | w162 => ⟨126, [(1, .one (.a 1 [] (0))), (45, .one (.t none (.sl a0.rows.length (a0.rows.flatMap fun x0 => [.sl x0.pre.length (x0.pre.map fun x1 => .sc (.int .i64 x1)), .sl x0.maps.length (x0.maps.map fun x1 => .sl x1.length (x1.map fun x2 => .sc (.int .i64 x2)))])))), (46, .one (.t none (.sc (.int .i64 (a0.rows.length : Int))))), (47, .one (.t none (.sc (.int .i64 w162))))], [(1, .vr [.sc (.int .i64 a0.letters), .sl a0.sizes.length (a0.sizes.map fun x0 => .sc (.int .i64 x0)), .sl a0.rows.length (a0.rows.flatMap fun x0 => [.sl x0.pre.length (x0.pre.map fun x1 => .sc (.int .i64 x1)), .sl x0.maps.length (x0.maps.map fun x1 => .sl x1.length (x1.map fun x2 => .sc (.int .i64 x2)))])])]⟩
def z3g (a0 : Casc) : Int -> Option (Int ⊕ Int)
  | w121 =>
  if w121 < (a0.sizes.length : Int) then
    (atI a0.sizes w121).bind fun v123 =>
    if v123 < 1 then
      z0t <|
      some 23
    else
      if 32 < v123 then
        z0t <|
        some 23
      else
        z0y (IntKind.i64.wrap (w121 + 1))
  else
    z0t <|
    z0E (z1V a0) LFm 0
def z3f (a0 : Casc) : Int -> Fr
  | w121 => ⟨126, [(1, .one (.a 1 [] (0))), (31, .one (.t none (.sl a0.sizes.length (a0.sizes.map fun x0 => .sc (.int .i64 x0))))), (32, .one (.t none (.sc (.int .i64 (a0.sizes.length : Int))))), (33, .one (.t none (.sc (.int .i64 w121))))], [(1, .vr [.sc (.int .i64 a0.letters), .sl a0.sizes.length (a0.sizes.map fun x0 => .sc (.int .i64 x0)), .sl a0.rows.length (a0.rows.flatMap fun x0 => [.sl x0.pre.length (x0.pre.map fun x1 => .sc (.int .i64 x1)), .sl x0.maps.length (x0.maps.map fun x1 => .sl x1.length (x1.map fun x2 => .sc (.int .i64 x2)))])])]⟩
def z1t (a0 : Casc) : Option (Int) :=
  if a0.letters < 1 then
    some 1
  else
    if 6 < a0.letters then
      some 1
    else
      if 24 < (a0.sizes.length : Int) then
        some 3
      else
        if 48000 < (a0.rows.length : Int) then
          some 3
        else
          z0E (z3g a0) LFm 0
theorem z2g {a0 : Casc} {r : Int} (h0 : z1t a0 = some r) : L 38 [.agg [.sc (.int .i64 a0.letters), .sl a0.sizes.length (a0.sizes.map fun x0 => .sc (.int .i64 x0)), .sl a0.rows.length (a0.rows.flatMap fun x0 => [.sl x0.pre.length (x0.pre.map fun x1 => .sc (.int .i64 x1)), .sl x0.maps.length (x0.maps.map fun x1 => .sl x1.length (x1.map fun x2 => .sc (.int .i64 x2)))])]] = some (.sc (.int .i64 r), [.dead]) := by
  simp only [z1t] at h0
  refine z1Q znd zos (z0F zpZ ⟨of_decide_eq_true rfl, of_decide_eq_true rfl⟩ ?_)
  simp only [z0K, z0H, z0G, z0L, z1S]
  refine zq rfl (zr rfl rfl rfl (by simp; rfl) ?_)
  refine z0a (zq rfl (zq rfl ?_))
  by_cases c326 : a0.letters < 1
  ·rw [if_pos c326] at h0
   refine zr rfl rfl rfl (by simp [c326]; rfl) ?_
   refine z0a (z0p rfl (by simp) (zq rfl (zr rfl rfl rfl (by simp; rfl) ?_)))
   refine z0a (z0o rfl (z0c ?_))
   cases h0
   simp
  ·rw [if_neg c326] at h0
   refine zr rfl rfl rfl (by simp [c326]; rfl) ?_
   refine z0a ?_
   by_cases c327 : 6 < a0.letters
   ·rw [if_pos c327] at h0
    refine z0p rfl (by simp [c327]) (zq rfl (zr rfl rfl rfl (by simp; rfl) ?_))
    refine z0a (z0o rfl (z0c ?_))
    cases h0
    simp
   ·rw [if_neg c327] at h0
    refine z0s rfl (by simp [c327]) (z0n rfl (z0a (zq rfl (zq rfl ?_))))
    by_cases c328 : 24 < (a0.sizes.length : Int)
    ·rw [if_pos c328] at h0
     refine zr rfl rfl rfl (by simp [c328]; rfl) ?_
     refine z0a (z0p rfl (by simp) (zq rfl (zr rfl rfl rfl (by simp; rfl) ?_)))
     refine z0a (z0o rfl (z0c ?_))
     cases h0
     simp
    ·rw [if_neg c328] at h0
     refine zr rfl rfl rfl (by simp [c328]; rfl) ?_
     refine z0a ?_
     by_cases c329 : 48000 < (a0.rows.length : Int)
     ·rw [if_pos c329] at h0
      refine z0p rfl (by simp [c329]) (zq rfl (zr rfl rfl rfl (by simp; rfl) ?_))
      refine z0a (z0o rfl (z0c ?_))
      cases h0
      simp
     ·rw [if_neg c329] at h0
      refine z0s rfl (by simp [c329]) (z0n rfl (z0a (zq rfl (zq rfl (zr rfl rfl rfl (by simp; rfl) ?_)))))
      refine z0a (zb rfl (z0C h0 (z3f a0) rfl rfl (by simp [z3f]) fun s o1 h1 hr1 => ?_))
      obtain ⟨w121, hs1⟩ : ∃ y, y = s := ⟨_, rfl⟩
      subst hs1
      simp only [z3g] at h1
      simp only [z3f]
      refine zq rfl (zr rfl rfl rfl (by simp; rfl) ?_)
      refine z0a (zq rfl ?_)
      by_cases c338 : w121 < (a0.sizes.length : Int)
      ·rw [if_pos c338] at h1
       refine z0p rfl (by simp [c338]) (z0n rfl (z0a (zq rfl (zb rfl (zq rfl ?_)))))
       obtain ⟨v123, f339, h2⟩ := z1x h1
       refine zr rfl rfl rfl (by simp [f339]; rfl) ?_
       refine z0a (zq rfl ?_)
       by_cases c340 : v123 < 1
       ·rw [if_pos c340] at h2
        refine zr rfl rfl rfl (by simp [c340]; rfl) ?_
        refine z0a (z0p rfl (by simp) (zq rfl (zr rfl rfl rfl (by simp; rfl) ?_)))
        refine z0a (z0o rfl (z0h (z0c ?_)))
        obtain ⟨rr1, h3, ho1⟩ := z0d h2
        have hs1 := hr1 _ ho1
        subst hs1
        refine z0w ho1 (z0h (z0c ?_))
        cases h3
        simp
       ·rw [if_neg c340] at h2
        refine zr rfl rfl rfl (by simp [c340]; rfl) ?_
        refine z0a ?_
        by_cases c341 : 32 < v123
        ·rw [if_pos c341] at h2
         refine z0p rfl (by simp [c341]) (zq rfl (zr rfl rfl rfl (by simp; rfl) ?_))
         refine z0a (z0o rfl (z0h (z0c ?_)))
         obtain ⟨rr1, h3, ho1⟩ := z0d h2
         have hs1 := hr1 _ ho1
         subst hs1
         refine z0w ho1 (z0h (z0c ?_))
         cases h3
         simp
        ·rw [if_neg c341] at h2
         refine z0s rfl (by simp [c341]) (z0n rfl (z0g (z0a (zr rfl rfl rfl (by simp; rfl) ?_))))
         have ho := z0f h2
         refine z0j ho ?_
         simp [z3f]
      ·rw [if_neg c338] at h1
       refine z0s rfl (by simp [c338]) (z0I rfl (z0B ?_))
       obtain ⟨rr1, h2, ho1⟩ := z0d h1
       have hs1 := hr1 _ ho1
       subst hs1
       refine z0v ho1 (z0l rfl (z0a (zq rfl (zq rfl (zr rfl rfl rfl (by simp; rfl) ?_)))))
       refine z0a (zb rfl (z0C h2 (z1U a0) rfl rfl (by simp [z1U]) fun s o2 h3 hr2 => ?_))
       obtain ⟨w162, hs2⟩ : ∃ y, y = s := ⟨_, rfl⟩
       subst hs2
       simp only [z1V] at h3
       simp only [z1U]
       refine zq rfl (zr rfl rfl rfl (by simp; rfl) ?_)
       refine z0a (zq rfl ?_)
       by_cases c548 : w162 < (a0.rows.length : Int)
       ·rw [if_pos c548] at h3
        refine z0p rfl (by simp [c548]) (z0n rfl (z0a (zq rfl (zb rfl (zq rfl ?_)))))
        obtain ⟨v201, f549, h4⟩ := z0b h3
        obtain ⟨f549a, f549b, f549c, f549d, f549e⟩ := z0W f549
        have f549g := z1e (g := fun x : CRow => ([.sl x.pre.length (x.pre.map fun x0 => .sc (.int .i64 x0)), .sl x.maps.length (x.maps.map fun x0 => .sl x0.length (x0.map fun x1 => .sc (.int .i64 x1)))] : List T)) (m := 2) (fun _ => rfl) f549d
        have f549h := z1k (g := fun x : CRow => ([.sl x.pre.length (x.pre.map fun x0 => .sc (.int .i64 x0)), .sl x.maps.length (x.maps.map fun x0 => .sl x0.length (x0.map fun x1 => .sc (.int .i64 x1)))] : List T)) (m := 2) (fun _ => rfl) a0.rows
        have f549k0 := f549g.2.2.1 0 (by decide)
        have f549m0 := f549g.2.2.2 0 _ rfl
        have f549k1 := f549g.2.2.1 1 (by decide)
        have f549m1 := f549g.2.2.2 1 _ rfl
        obtain ⟨f549g, f549i, -⟩ := f549g
        try simp at f549i f549h f549k0 f549m0 f549k1 f549m1
        refine zr rfl rfl rfl (by simp [f549a, f549b, f549c, f549d, f549e, f549g, f549i, f549h, f549k0, f549k1, f549m0, f549m1]; rfl) ?_
        refine z0a (zq rfl (zq rfl ?_))
        by_cases c550 : a0.sizes.length <= v201.pre.length
        ·rw [if_pos c550] at h4
         refine z1o rfl rfl rfl rfl ?_; repeat' (first | (refine z0D rfl rfl fun Q' hQ => ?_; simp [c550]; refine hQ.out _ ?_; clear hQ; clear Q') | (refine z0V rfl rfl fun Q1 Q2 h1 h2 => ?_; simp [c550, z2e]; (first | refine h1.out ?_ | refine h2.out ?_); clear h1 h2; clear Q1 Q2; intro Q' hQ; simp [c550]; refine hQ.out _ ?_; clear hQ; clear Q') | (refine z0A rfl fun Q' hQ => ?_; simp [c550]; refine hQ.out _ ?_; clear hQ; clear Q'))
         refine z0a (z0p rfl (by simp) (zq rfl (zr rfl rfl rfl (by simp; rfl) ?_)))
         refine z0a (z0o rfl (z0c (z0h (z0c ?_))))
         obtain ⟨rr2, h5, ho2⟩ := z0d h4
         have hs2 := hr2 _ ho2
         subst hs2
         refine z0w ho2 (z0h (z0c ?_))
         cases h5
         simp
        ·rw [if_neg c550] at h4
         obtain ⟨v202, f551, h5⟩ := z0b h4
         have f551k := za0 f551
         try simp at f551k
         by_cases c552 : v202 = true
         ·rw [if_pos c552] at h5
          by_cases c553 : 0 < w162
          ·rw [if_pos c553] at h5
           obtain ⟨v203, f554, h6⟩ := z0b h5
           obtain ⟨f554a, f554b, f554c, f554d, f554e⟩ := z0W f554
           have f554g := z1e (g := fun x : CRow => ([.sl x.pre.length (x.pre.map fun x0 => .sc (.int .i64 x0)), .sl x.maps.length (x.maps.map fun x0 => .sl x0.length (x0.map fun x1 => .sc (.int .i64 x1)))] : List T)) (m := 2) (fun _ => rfl) f554d
           have f554h := z1k (g := fun x : CRow => ([.sl x.pre.length (x.pre.map fun x0 => .sc (.int .i64 x0)), .sl x.maps.length (x.maps.map fun x0 => .sl x0.length (x0.map fun x1 => .sc (.int .i64 x1)))] : List T)) (m := 2) (fun _ => rfl) a0.rows
           have f554k0 := f554g.2.2.1 0 (by decide)
           have f554m0 := f554g.2.2.2 0 _ rfl
           have f554k1 := f554g.2.2.1 1 (by decide)
           have f554m1 := f554g.2.2.2 1 _ rfl
           obtain ⟨f554g, f554i, -⟩ := f554g
           try simp at f554i f554h f554k0 f554m0 f554k1 f554m1
           obtain ⟨v204, f555, h7⟩ := z0b h6
           have f555k := zbs f555
           try simp at f555k
           by_cases c556 : v204 = true
           ·rw [if_pos c556] at h7
            refine z1o rfl rfl rfl rfl ?_; repeat' (first | (refine z0D rfl rfl fun Q' hQ => ?_; simp [c550, f551k, c552, c553, f554a, f554b, f554c, f554d, f554e, f554g, f554i, f554h, f554k0, f554k1, f554m0, f554m1, f555k, c556]; refine hQ.out _ ?_; clear hQ; clear Q') | (refine z0V rfl rfl fun Q1 Q2 h1 h2 => ?_; simp [c550, f551k, c552, c553, f554a, f554b, f554c, f554d, f554e, f554g, f554i, f554h, f554k0, f554k1, f554m0, f554m1, f555k, c556, z2e]; (first | refine h1.out ?_ | refine h2.out ?_); clear h1 h2; clear Q1 Q2; intro Q' hQ; simp [c550, f551k, c552, c553, f554a, f554b, f554c, f554d, f554e, f554g, f554i, f554h, f554k0, f554k1, f554m0, f554m1, f555k, c556]; refine hQ.out _ ?_; clear hQ; clear Q') | (refine z0A rfl fun Q' hQ => ?_; simp [c550, f551k, c552, c553, f554a, f554b, f554c, f554d, f554e, f554g, f554i, f554h, f554k0, f554k1, f554m0, f554m1, f555k, c556]; refine hQ.out _ ?_; clear hQ; clear Q'))
            refine z0a ?_
            by_cases c557 : (v201.maps.length : Int) = a0.letters
            ·rw [if_pos c557] at h7
             have c557e := eq_true c557
             refine z0s rfl (by simp [c557e]) (z0n rfl (z0a (zq rfl ?_)))
             obtain ⟨v205, f558, h8⟩ := zji h7
             refine zr rfl rfl rfl (by simp [f558]; rfl) ?_
             refine z0a (zq rfl (zr rfl rfl rfl (by simp; rfl) ?_))
             refine z0a (zb rfl (z0C h8 (z2O a0 w162 v201 v205) rfl rfl (by simp [z2O]) fun s o3 h9 hr3 => ?_))
             obtain ⟨w211, hs3⟩ : ∃ y, y = s := ⟨_, rfl⟩
             subst hs3
             simp only [z4f] at h9
             simp only [z2O]
             refine zq rfl (zr rfl rfl rfl (by simp; rfl) ?_)
             refine z0a (zq rfl ?_)
             by_cases c589 : w211 < (v201.maps.length : Int)
             ·rw [if_pos c589] at h9
              refine z0p rfl (by simp [c589]) (z0n rfl (z0a (zq rfl (zb rfl (zq rfl ?_)))))
              obtain ⟨v217, f590, h10⟩ := z1x h9
              refine zr rfl rfl rfl (by simp [f590]; rfl) ?_
              refine z0a (zq rfl (zq rfl (zr rfl rfl rfl (by simp; rfl) ?_)))
              refine z0a ?_
              by_cases c591 : (v217.length : Int) = v205
              ·rw [if_pos c591] at h10
               have c591e := eq_true c591
               refine z0s rfl (by simp [c591e]) (z0n rfl (z0a (zq rfl (zr rfl rfl rfl (by simp; rfl) ?_))))
               refine z0a (zb rfl (z0C h10 (z2N a0 w162 v201 v205 w211 v217) rfl rfl (by simp [z2N]) fun s o4 h11 hr4 => ?_))
               obtain ⟨w219, hs4⟩ : ∃ y, y = s := ⟨_, rfl⟩
               subst hs4
               simp only [z2P] at h11
               simp only [z2N]
               refine zq rfl (zr rfl rfl rfl (by simp; rfl) ?_)
               refine z0a (zq rfl ?_)
               by_cases c600 : w219 < (v217.length : Int)
               ·rw [if_pos c600] at h11
                refine z0p rfl (by simp [c600]) (z0n rfl (z0a (zq rfl (zb rfl (zq rfl ?_)))))
                obtain ⟨v221, f601, h12⟩ := z1x h11
                refine zr rfl rfl rfl (by simp [f601]; rfl) ?_
                refine z0a (zq rfl ?_)
                by_cases c602 : v221 < 0
                ·rw [if_pos c602] at h12
                 refine zr rfl rfl rfl (by simp [c602]; rfl) ?_
                 refine z0a (z0p rfl (by simp) (zq rfl (zr rfl rfl rfl (by simp; rfl) ?_)))
                 refine z0a (z0o rfl (z0h (z0c ?_)))
                 obtain ⟨rr4, h13, ho4⟩ := z0d h12
                 have hs4 := hr4 _ ho4
                 subst hs4
                 refine z0w ho4 (z0h (z0h (z0c ?_)))
                 obtain ⟨rr3, h14, ho3⟩ := z0d h13
                 have hs3 := hr3 _ ho3
                 subst hs3
                 refine z0w ho3 (z0h (z0h (z0c ?_)))
                 obtain ⟨rr2, h15, ho2⟩ := z0d h14
                 have hs2 := hr2 _ ho2
                 subst hs2
                 refine z0w ho2 (z0h (z0c ?_))
                 cases h15
                 simp
                ·rw [if_neg c602] at h12
                 refine zr rfl rfl rfl (by simp [c602]; rfl) ?_
                 refine z0a ?_
                 by_cases c603 : v205 <= v221
                 ·rw [if_pos c603] at h12
                  refine z0p rfl (by simp [c603]) (zq rfl (zr rfl rfl rfl (by simp; rfl) ?_))
                  refine z0a (z0o rfl (z0h (z0c ?_)))
                  obtain ⟨rr4, h13, ho4⟩ := z0d h12
                  have hs4 := hr4 _ ho4
                  subst hs4
                  refine z0w ho4 (z0h (z0h (z0c ?_)))
                  obtain ⟨rr3, h14, ho3⟩ := z0d h13
                  have hs3 := hr3 _ ho3
                  subst hs3
                  refine z0w ho3 (z0h (z0h (z0c ?_)))
                  obtain ⟨rr2, h15, ho2⟩ := z0d h14
                  have hs2 := hr2 _ ho2
                  subst hs2
                  refine z0w ho2 (z0h (z0c ?_))
                  cases h15
                  simp
                 ·rw [if_neg c603] at h12
                  refine z0s rfl (by simp [c603]) (z0n rfl (z0g (z0a (zr rfl rfl rfl (by simp; rfl) ?_))))
                  have ho := z0f h12
                  refine z0j ho ?_
                  simp [z2N]
               ·rw [if_neg c600] at h11
                refine z0s rfl (by simp [c600]) (z0I rfl (z0B ?_))
                obtain ⟨rr4, h12, ho4⟩ := z0d h11
                have hs4 := hr4 _ ho4
                subst hs4
                refine z0v ho4 (z0l rfl (z0g (z0a (zr rfl rfl rfl (by simp; rfl) ?_))))
                have ho := z0f h12
                refine z0j ho ?_
                simp [z2O]
              ·rw [if_neg c591] at h10
               have c591e := eq_false c591
               refine z0p rfl (by simp [c591e]) (zq rfl (zr rfl rfl rfl (by simp; rfl) ?_))
               refine z0a (z0o rfl (z0c (z0h (z0c ?_))))
               obtain ⟨rr3, h11, ho3⟩ := z0d h10
               have hs3 := hr3 _ ho3
               subst hs3
               refine z0w ho3 (z0h (z0h (z0c ?_)))
               obtain ⟨rr2, h12, ho2⟩ := z0d h11
               have hs2 := hr2 _ ho2
               subst hs2
               refine z0w ho2 (z0h (z0c ?_))
               cases h12
               simp
             ·rw [if_neg c589] at h9
              refine z0s rfl (by simp [c589]) (z0I rfl (z0B ?_))
              obtain ⟨rr3, h10, ho3⟩ := z0d h9
              have hs3 := hr3 _ ho3
              subst hs3
              refine z0v ho3 (z0l rfl (z0g (z0a (zr rfl rfl rfl (by simp; rfl) ?_))))
              have ho := z0f h10
              refine z0j ho ?_
              simp [z1U]
            ·rw [if_neg c557] at h7
             have c557e := eq_false c557
             refine z0p rfl (by simp [c557e]) (zq rfl (zr rfl rfl rfl (by simp; rfl) ?_))
             refine z0a (z0o rfl (z0c (z0h (z0c ?_))))
             obtain ⟨rr2, h8, ho2⟩ := z0d h7
             have hs2 := hr2 _ ho2
             subst hs2
             refine z0w ho2 (z0h (z0c ?_))
             cases h8
             simp [c552, c556]
           ·rw [if_neg c556] at h7
            refine z1o rfl rfl rfl rfl ?_; repeat' (first | (refine z0D rfl rfl fun Q' hQ => ?_; simp [c550, f551k, c552, c553, f554a, f554b, f554c, f554d, f554e, f554g, f554i, f554h, f554k0, f554k1, f554m0, f554m1, f555k, c556]; refine hQ.out _ ?_; clear hQ; clear Q') | (refine z0V rfl rfl fun Q1 Q2 h1 h2 => ?_; simp [c550, f551k, c552, c553, f554a, f554b, f554c, f554d, f554e, f554g, f554i, f554h, f554k0, f554k1, f554m0, f554m1, f555k, c556, z2e]; (first | refine h1.out ?_ | refine h2.out ?_); clear h1 h2; clear Q1 Q2; intro Q' hQ; simp [c550, f551k, c552, c553, f554a, f554b, f554c, f554d, f554e, f554g, f554i, f554h, f554k0, f554k1, f554m0, f554m1, f555k, c556]; refine hQ.out _ ?_; clear hQ; clear Q') | (refine z0A rfl fun Q' hQ => ?_; simp [c550, f551k, c552, c553, f554a, f554b, f554c, f554d, f554e, f554g, f554i, f554h, f554k0, f554k1, f554m0, f554m1, f555k, c556]; refine hQ.out _ ?_; clear hQ; clear Q'))
            refine z0a (z0p rfl (by simp) (zq rfl (zr rfl rfl rfl (by simp; rfl) ?_)))
            refine z0a (z0o rfl (z0c (z0h (z0c ?_))))
            obtain ⟨rr2, h8, ho2⟩ := z0d h7
            have hs2 := hr2 _ ho2
            subst hs2
            refine z0w ho2 (z0h (z0c ?_))
            cases h8
            simp [c552, c556]
          ·rw [if_neg c553] at h5
           refine z1o rfl rfl rfl rfl ?_; repeat' (first | (refine z0D rfl rfl fun Q' hQ => ?_; simp [c550, f551k, c552, c553]; refine hQ.out _ ?_; clear hQ; clear Q') | (refine z0V rfl rfl fun Q1 Q2 h1 h2 => ?_; simp [c550, f551k, c552, c553, z2e]; (first | refine h1.out ?_ | refine h2.out ?_); clear h1 h2; clear Q1 Q2; intro Q' hQ; simp [c550, f551k, c552, c553]; refine hQ.out _ ?_; clear hQ; clear Q') | (refine z0A rfl fun Q' hQ => ?_; simp [c550, f551k, c552, c553]; refine hQ.out _ ?_; clear hQ; clear Q'))
           refine z0a ?_
           by_cases c604 : (v201.maps.length : Int) = a0.letters
           ·rw [if_pos c604] at h5
            have c604e := eq_true c604
            refine z0s rfl (by simp [c604e]) (z0n rfl (z0a (zq rfl ?_)))
            obtain ⟨v222, f605, h6⟩ := zji h5
            refine zr rfl rfl rfl (by simp [f605]; rfl) ?_
            refine z0a (zq rfl (zr rfl rfl rfl (by simp; rfl) ?_))
            refine z0a (zb rfl (z0C h6 (z2r a0 w162 v201 v222) rfl rfl (by simp [z2r]) fun s o5 h7 hr5 => ?_))
            obtain ⟨w228, hs5⟩ : ∃ y, y = s := ⟨_, rfl⟩
            subst hs5
            simp only [z3N] at h7
            simp only [z2r]
            refine zq rfl (zr rfl rfl rfl (by simp; rfl) ?_)
            refine z0a (zq rfl ?_)
            by_cases c636 : w228 < (v201.maps.length : Int)
            ·rw [if_pos c636] at h7
             refine z0p rfl (by simp [c636]) (z0n rfl (z0a (zq rfl (zb rfl (zq rfl ?_)))))
             obtain ⟨v234, f637, h8⟩ := z1x h7
             refine zr rfl rfl rfl (by simp [f637]; rfl) ?_
             refine z0a (zq rfl (zq rfl (zr rfl rfl rfl (by simp; rfl) ?_)))
             refine z0a ?_
             by_cases c638 : (v234.length : Int) = v222
             ·rw [if_pos c638] at h8
              have c638e := eq_true c638
              refine z0s rfl (by simp [c638e]) (z0n rfl (z0a (zq rfl (zr rfl rfl rfl (by simp; rfl) ?_))))
              refine z0a (zb rfl (z0C h8 (z2q a0 w162 v201 v222 w228 v234) rfl rfl (by simp [z2q]) fun s o6 h9 hr6 => ?_))
              obtain ⟨w236, hs6⟩ : ∃ y, y = s := ⟨_, rfl⟩
              subst hs6
              simp only [z2s] at h9
              simp only [z2q]
              refine zq rfl (zr rfl rfl rfl (by simp; rfl) ?_)
              refine z0a (zq rfl ?_)
              by_cases c647 : w236 < (v234.length : Int)
              ·rw [if_pos c647] at h9
               refine z0p rfl (by simp [c647]) (z0n rfl (z0a (zq rfl (zb rfl (zq rfl ?_)))))
               obtain ⟨v238, f648, h10⟩ := z1x h9
               refine zr rfl rfl rfl (by simp [f648]; rfl) ?_
               refine z0a (zq rfl ?_)
               by_cases c649 : v238 < 0
               ·rw [if_pos c649] at h10
                refine zr rfl rfl rfl (by simp [c649]; rfl) ?_
                refine z0a (z0p rfl (by simp) (zq rfl (zr rfl rfl rfl (by simp; rfl) ?_)))
                refine z0a (z0o rfl (z0h (z0c ?_)))
                obtain ⟨rr6, h11, ho6⟩ := z0d h10
                have hs6 := hr6 _ ho6
                subst hs6
                refine z0w ho6 (z0h (z0h (z0c ?_)))
                obtain ⟨rr5, h12, ho5⟩ := z0d h11
                have hs5 := hr5 _ ho5
                subst hs5
                refine z0w ho5 (z0h (z0h (z0c ?_)))
                obtain ⟨rr2, h13, ho2⟩ := z0d h12
                have hs2 := hr2 _ ho2
                subst hs2
                refine z0w ho2 (z0h (z0c ?_))
                cases h13
                simp
               ·rw [if_neg c649] at h10
                refine zr rfl rfl rfl (by simp [c649]; rfl) ?_
                refine z0a ?_
                by_cases c650 : v222 <= v238
                ·rw [if_pos c650] at h10
                 refine z0p rfl (by simp [c650]) (zq rfl (zr rfl rfl rfl (by simp; rfl) ?_))
                 refine z0a (z0o rfl (z0h (z0c ?_)))
                 obtain ⟨rr6, h11, ho6⟩ := z0d h10
                 have hs6 := hr6 _ ho6
                 subst hs6
                 refine z0w ho6 (z0h (z0h (z0c ?_)))
                 obtain ⟨rr5, h12, ho5⟩ := z0d h11
                 have hs5 := hr5 _ ho5
                 subst hs5
                 refine z0w ho5 (z0h (z0h (z0c ?_)))
                 obtain ⟨rr2, h13, ho2⟩ := z0d h12
                 have hs2 := hr2 _ ho2
                 subst hs2
                 refine z0w ho2 (z0h (z0c ?_))
                 cases h13
                 simp
                ·rw [if_neg c650] at h10
                 refine z0s rfl (by simp [c650]) (z0n rfl (z0g (z0a (zr rfl rfl rfl (by simp; rfl) ?_))))
                 have ho := z0f h10
                 refine z0j ho ?_
                 simp [z2q]
              ·rw [if_neg c647] at h9
               refine z0s rfl (by simp [c647]) (z0I rfl (z0B ?_))
               obtain ⟨rr6, h10, ho6⟩ := z0d h9
               have hs6 := hr6 _ ho6
               subst hs6
               refine z0v ho6 (z0l rfl (z0g (z0a (zr rfl rfl rfl (by simp; rfl) ?_))))
               have ho := z0f h10
               refine z0j ho ?_
               simp [z2r]
             ·rw [if_neg c638] at h8
              have c638e := eq_false c638
              refine z0p rfl (by simp [c638e]) (zq rfl (zr rfl rfl rfl (by simp; rfl) ?_))
              refine z0a (z0o rfl (z0c (z0h (z0c ?_))))
              obtain ⟨rr5, h9, ho5⟩ := z0d h8
              have hs5 := hr5 _ ho5
              subst hs5
              refine z0w ho5 (z0h (z0h (z0c ?_)))
              obtain ⟨rr2, h10, ho2⟩ := z0d h9
              have hs2 := hr2 _ ho2
              subst hs2
              refine z0w ho2 (z0h (z0c ?_))
              cases h10
              simp
            ·rw [if_neg c636] at h7
             refine z0s rfl (by simp [c636]) (z0I rfl (z0B ?_))
             obtain ⟨rr5, h8, ho5⟩ := z0d h7
             have hs5 := hr5 _ ho5
             subst hs5
             refine z0v ho5 (z0l rfl (z0g (z0a (zr rfl rfl rfl (by simp; rfl) ?_))))
             have ho := z0f h8
             refine z0j ho ?_
             simp [z1U]
           ·rw [if_neg c604] at h5
            have c604e := eq_false c604
            refine z0p rfl (by simp [c604e]) (zq rfl (zr rfl rfl rfl (by simp; rfl) ?_))
            refine z0a (z0o rfl (z0c (z0h (z0c ?_))))
            obtain ⟨rr2, h6, ho2⟩ := z0d h5
            have hs2 := hr2 _ ho2
            subst hs2
            refine z0w ho2 (z0h (z0c ?_))
            cases h6
            simp [c552]
         ·rw [if_neg c552] at h5
          refine z1o rfl rfl rfl rfl ?_; repeat' (first | (refine z0D rfl rfl fun Q' hQ => ?_; simp [c550, f551k, c552]; refine hQ.out _ ?_; clear hQ; clear Q') | (refine z0V rfl rfl fun Q1 Q2 h1 h2 => ?_; simp [c550, f551k, c552, z2e]; (first | refine h1.out ?_ | refine h2.out ?_); clear h1 h2; clear Q1 Q2; intro Q' hQ; simp [c550, f551k, c552]; refine hQ.out _ ?_; clear hQ; clear Q') | (refine z0A rfl fun Q' hQ => ?_; simp [c550, f551k, c552]; refine hQ.out _ ?_; clear hQ; clear Q'))
          refine z0a (z0p rfl (by simp) (zq rfl (zr rfl rfl rfl (by simp; rfl) ?_)))
          refine z0a (z0o rfl (z0c (z0h (z0c ?_))))
          obtain ⟨rr2, h6, ho2⟩ := z0d h5
          have hs2 := hr2 _ ho2
          subst hs2
          refine z0w ho2 (z0h (z0c ?_))
          cases h6
          simp [c552]
       ·rw [if_neg c548] at h3
        refine z0s rfl (by simp [c548]) (z0I rfl (z0B ?_))
        obtain ⟨rr2, h4, ho2⟩ := z0d h3
        have hs2 := hr2 _ ho2
        subst hs2
        refine z0v ho2 (z0l rfl (z0a (zq rfl (zr rfl rfl rfl (by simp; rfl) ?_))))
        refine z0a (z0o rfl ?_)
        cases h4
        simp
def z1L (a0 : Casc) : Option ((Runner × Int) ⊕ (Runner × Int)) :=
  (z1n a0).bind fun v2 =>
  if v2 = 0 then
    some (.inl ((⟨⟨a0.letters, a0.sizes, a0.rows⟩⟩ : Runner), 0))
  else
    some (.inr ((⟨⟨0, [], []⟩⟩ : Runner), v2))
theorem z2c {a0 : Casc} {r : (Runner × Int) ⊕ (Runner × Int)} (h0 : z1L a0 = some r) : L 30 [.agg [.sc (.int .i64 a0.letters), .sl a0.sizes.length (a0.sizes.map fun x0 => .sc (.int .i64 x0)), .sl a0.rows.length (a0.rows.flatMap fun x0 => [.sl x0.pre.length (x0.pre.map fun x1 => .sc (.int .i64 x1)), .sl x0.maps.length (x0.maps.map fun x1 => .sl x1.length (x1.map fun x2 => .sc (.int .i64 x2)))])]] = some (match r with | (.inl r) => (.tup [.agg [.sc (.int .i64 r.1.c.letters), .sl r.1.c.sizes.length (r.1.c.sizes.map fun x0 => .sc (.int .i64 x0)), .sl r.1.c.rows.length (r.1.c.rows.flatMap fun x0 => [.sl x0.pre.length (x0.pre.map fun x1 => .sc (.int .i64 x1)), .sl x0.maps.length (x0.maps.map fun x1 => .sl x1.length (x1.map fun x2 => .sc (.int .i64 x2)))])], .sc (.int .i64 r.2)], [.dead]) | (.inr r) => (.tup [.agg [.sc (.int .i64 r.1.c.letters), .os 1 0 [], .os 2 0 []], .sc (.int .i64 r.2)], [.dead])) := by
  simp only [z1L] at h0
  refine z1Q zni zox (z0F zq4 ⟨of_decide_eq_true rfl, of_decide_eq_true rfl⟩ ?_)
  simp only [z0K, z0H, z0G, z0L, z1S]
  refine zq rfl (zr rfl rfl rfl (by simp; rfl) ?_)
  refine z0a (zq rfl (zq rfl ?_))
  obtain ⟨v2, f3, h1⟩ := z0b h0
  have f3k := z2y f3
  try simp at f3k
  refine zr rfl rfl rfl (by simp [f3k]; rfl) ?_
  refine z0a (zq rfl (zr rfl rfl rfl (by simp; rfl) ?_))
  refine z0a ?_
  by_cases c4 : v2 = 0
  ·rw [if_pos c4] at h1
   have c4e := eq_true c4
   refine z0s rfl (by simp [c4e]) (z0n rfl (z0a (zq rfl (zr rfl rfl rfl (by simp; rfl) ?_))))
   refine z0a (z0o rfl ?_)
   cases h1
   simp
  ·rw [if_neg c4] at h1
   have c4e := eq_false c4
   refine z0p rfl (by simp [c4e]) (zq rfl (zr rfl rfl rfl (by simp; rfl) ?_))
   refine z0a (z0o rfl (z0c ?_))
   cases h1
   simp
def z1f (a0 : CRow) (a1 : List Int) : Option (Int) :=
  (z1s a0.pre a1).bind fun v2 =>
  some v2
theorem z3Y {a0 : CRow} {a1 : List Int} {r : Int} (h0 : z1f a0 a1 = some r) : L 57 [.agg [.sl a0.pre.length (a0.pre.map fun x0 => .sc (.int .i64 x0)), .sl a0.maps.length (a0.maps.map fun x0 => .sl x0.length (x0.map fun x1 => .sc (.int .i64 x1)))], .sl a1.length (a1.map fun x0 => .sc (.int .i64 x0))] = some (.sc (.int .i64 r), [.dead, .dead]) := by
  simp only [z1f] at h0
  refine z1Q zn2 zoh (z0F zpO ⟨of_decide_eq_true rfl, of_decide_eq_true rfl⟩ ?_)
  simp only [z0K, z0H, z0G, z0L, z1S]
  refine zq rfl (zr rfl rfl rfl (by simp; rfl) ?_)
  refine z0a (zq rfl ?_)
  obtain ⟨v2, f2, h1⟩ := z0b h0
  have f2k := z4s f2
  try simp at f2k
  refine zr rfl rfl rfl (by simp [f2k]; rfl) ?_
  refine z0a (z0o rfl ?_)
  cases h1
  simp
def z0q (a0 : List CRow) (a1 : List Int) : Int × Int -> Option ((Int × Int) ⊕ (Int × Bool))
  | (w13, w14) =>
  if w13 < w14 then
    chk (¬ 1 < 0) <|
    (atI a0 (IntKind.i64.wrap (zjJ .u64 (IntKind.u64.wrap (IntKind.i64.wrap (w13 + w14))) 1))).bind fun v17 =>
    (z1f v17 a1).bind fun v18 =>
    if v18 < 0 then
      z0y (IntKind.i64.wrap ((IntKind.i64.wrap (zjJ .u64 (IntKind.u64.wrap (IntKind.i64.wrap (w13 + w14))) 1)) + 1), w14)
    else
      z0y (w13, IntKind.i64.wrap (zjJ .u64 (IntKind.u64.wrap (IntKind.i64.wrap (w13 + w14))) 1))
  else
    z0t <|
    if w13 < (a0.length : Int) then
      (atI a0 w13).bind fun v19 =>
      (z1f v19 a1).bind fun v20 =>
      some (w13, decide (v20 = 0))
    else
      some (w13, false)
def z0i (a0 : List CRow) (a1 : List Int) : Int × Int -> Fr
  | (w13, w14) => ⟨49, [(0, .one (.t none (.sl a0.length (a0.flatMap fun x0 => [.sl x0.pre.length (x0.pre.map fun x1 => .sc (.int .i64 x1)), .sl x0.maps.length (x0.maps.map fun x1 => .sl x1.length (x1.map fun x2 => .sc (.int .i64 x2)))])))), (1, .one (.t none (.sl a1.length (a1.map fun x0 => .sc (.int .i64 x0))))), (2, .one (.t none (.sc (.func (.func 57) #[] #[])))), (8, .one (.t none (.sc (.int .i64 (a0.length : Int))))), (9, .one (.t none (.sc (.int .i64 w13)))), (10, .one (.t none (.sc (.int .i64 w14))))], []⟩
def z0k (a0 : List CRow) (a1 : List Int) : Option (Int × Bool) :=
  z0E (z0q a0 a1) LFm (0, (a0.length : Int))
theorem z0J {a0 : List CRow} {a1 : List Int} {r : Int × Bool} (h0 : z0k a0 a1 = some r) : L 56 [.sl a0.length (a0.flatMap fun x0 => [.sl x0.pre.length (x0.pre.map fun x1 => .sc (.int .i64 x1)), .sl x0.maps.length (x0.maps.map fun x1 => .sl x1.length (x1.map fun x2 => .sc (.int .i64 x2)))]), .sl a1.length (a1.map fun x0 => .sc (.int .i64 x0)), .sc (.func (.func 57) #[] #[])] = some (.tup [.sc (.int .i64 r.1), .sc (.bool r.2)], [.dead, .dead, .dead]) := by
  simp only [z0k] at h0
  refine z1Q zn3 zoi (z0F zpP ⟨of_decide_eq_true rfl, of_decide_eq_true rfl⟩ ?_)
  simp only [z0K, z0H, z0G, z0L, z1S]
  refine zq rfl (zr rfl rfl rfl (by simp; rfl) ?_)
  refine z0a (zq rfl (zr rfl rfl rfl (by simp; rfl) ?_))
  refine z0a (zq rfl (zr rfl rfl rfl (by simp; rfl) ?_))
  refine z0a (zq rfl (zb rfl (z0C h0 (z0i a0 a1) rfl rfl (by simp [z0i]) fun s o1 h1 hr1 => ?_)))
  obtain ⟨w13, w14⟩ := s
  simp only [z0q] at h1
  simp only [z0i]
  refine zq rfl (zq rfl (zr rfl rfl rfl (by simp; rfl) ?_))
  refine z0a ?_
  by_cases c29 : w13 < w14
  ·rw [if_pos c29] at h1
   refine z0p rfl (by simp [c29]) (z0n rfl (z0a (zb rfl (zq rfl ?_))))
   obtain ⟨f30, h2⟩ := z1a h1
   refine zr rfl rfl rfl (by simp [f30]; rfl) ?_
   refine z0a (zq rfl ?_)
   obtain ⟨v17, f31, h3⟩ := z0b h2
   obtain ⟨f31a, f31b, f31c, f31d, f31e⟩ := z0W f31
   have f31g := z1e (g := fun x : CRow => ([.sl x.pre.length (x.pre.map fun x0 => .sc (.int .i64 x0)), .sl x.maps.length (x.maps.map fun x0 => .sl x0.length (x0.map fun x1 => .sc (.int .i64 x1)))] : List T)) (m := 2) (fun _ => rfl) f31d
   have f31h := z1k (g := fun x : CRow => ([.sl x.pre.length (x.pre.map fun x0 => .sc (.int .i64 x0)), .sl x.maps.length (x.maps.map fun x0 => .sl x0.length (x0.map fun x1 => .sc (.int .i64 x1)))] : List T)) (m := 2) (fun _ => rfl) a0
   have f31k0 := f31g.2.2.1 0 (by decide)
   have f31m0 := f31g.2.2.2 0 _ rfl
   have f31k1 := f31g.2.2.1 1 (by decide)
   have f31m1 := f31g.2.2.2 1 _ rfl
   obtain ⟨f31g, f31i, -⟩ := f31g
   try simp at f31i f31h f31k0 f31m0 f31k1 f31m1
   obtain ⟨v18, f32, h4⟩ := z0b h3
   have f32k := z3Y f32
   try simp at f32k
   refine zr rfl rfl rfl (by simp [f31a, f31b, f31c, f31d, f31e, f31g, f31i, f31h, f31k0, f31k1, f31m0, f31m1, f32k]; rfl) ?_
   refine z0a ?_
   by_cases c33 : v18 < 0
   ·rw [if_pos c33] at h4
    refine z0p rfl (by simp [c33]) (zr rfl rfl rfl (by simp; rfl) ?_)
    refine z0g ?_
    have ho := z0f h4
    refine z0j ho ?_
    simp [z0i]
   ·rw [if_neg c33] at h4
    refine z0s rfl (by simp [c33]) (zr rfl rfl rfl (by simp; rfl) ?_)
    refine z0g ?_
    have ho := z0f h4
    refine z0j ho ?_
    simp [z0i]
  ·rw [if_neg c29] at h1
   refine z0s rfl (by simp [c29]) (z0I rfl (z0B ?_))
   obtain ⟨rr1, h2, ho1⟩ := z0d h1
   have hs1 := hr1 _ ho1
   subst hs1
   refine z0v ho1 (z0l rfl (z0a (zq rfl ?_)))
   by_cases c34 : w13 < (a0.length : Int)
   ·rw [if_pos c34] at h2
    obtain ⟨v19, f35, h3⟩ := z0b h2
    obtain ⟨f35a, f35b, f35c, f35d, f35e⟩ := z0W f35
    have f35g := z1e (g := fun x : CRow => ([.sl x.pre.length (x.pre.map fun x0 => .sc (.int .i64 x0)), .sl x.maps.length (x.maps.map fun x0 => .sl x0.length (x0.map fun x1 => .sc (.int .i64 x1)))] : List T)) (m := 2) (fun _ => rfl) f35d
    have f35h := z1k (g := fun x : CRow => ([.sl x.pre.length (x.pre.map fun x0 => .sc (.int .i64 x0)), .sl x.maps.length (x.maps.map fun x0 => .sl x0.length (x0.map fun x1 => .sc (.int .i64 x1)))] : List T)) (m := 2) (fun _ => rfl) a0
    have f35k0 := f35g.2.2.1 0 (by decide)
    have f35m0 := f35g.2.2.2 0 _ rfl
    have f35k1 := f35g.2.2.1 1 (by decide)
    have f35m1 := f35g.2.2.2 1 _ rfl
    obtain ⟨f35g, f35i, -⟩ := f35g
    try simp at f35i f35h f35k0 f35m0 f35k1 f35m1
    obtain ⟨v20, f36, h4⟩ := z0b h3
    have f36k := z3Y f36
    try simp at f36k
    refine zr rfl rfl rfl (by simp [c34, f35a, f35b, f35c, f35d, f35e, f35g, f35i, f35h, f35k0, f35k1, f35m0, f35m1, f36k]; rfl) ?_
    refine z0a (z0o rfl ?_)
    cases h4
    simp
   ·rw [if_neg c34] at h2
    refine zr rfl rfl rfl (by simp [c34]; rfl) ?_
    refine z0a (z0o rfl ?_)
    cases h2
    simp
def z1P (a0 : Runner) (a1 : List Int) (a2 : Int) : Int × List Int -> Option ((Int × List Int) ⊕ (List Int × Int))
  | (w31, w32) =>
  if w31 < (a1.length : Int) then
    (atI a1 w31).bind fun v40 =>
    (z6i a1 0 w31).bind fun v41 =>
    (z0k a0.c.rows v41).bind fun v42 =>
    if v42.2 = true then
      (atI a0.c.rows v42.1).bind fun v43 =>
      (atI v43.maps a2).bind fun v44 =>
      (atI v44 v40).bind fun v45 =>
      (atI w32 w31).bind fun v46 =>
      z0y (IntKind.i64.wrap (w31 + 1), (w32.set w31.toNat v45))
    else
      z0t <|
      some ([], 23)
  else
    z0t <|
    some (w32, 0)
def z1O (a0 : Runner) (a1 : List Int) (a2 : Int) : Int × List Int -> Fr
  | (w31, w32) => ⟨70, [(1, .one (.t none (.sl a1.length (a1.map fun x0 => .sc (.int .i64 x0))))), (2, .one (.t none (.sc (.int .i64 a2)))), (3, .one (.a 3 [] (0))), (8, .one (.h 8 [])), (33, .one (.t none (.sl a1.length (a1.map fun x0 => .sc (.int .i64 x0))))), (34, .one (.t none (.sc (.int .i64 (a1.length : Int))))), (35, .one (.t none (.sc (.int .i64 w31))))], [(3, .vr [.sc (.int .i64 a0.c.letters), .sl a0.c.sizes.length (a0.c.sizes.map fun x0 => .sc (.int .i64 x0)), .sl a0.c.rows.length (a0.c.rows.flatMap fun x0 => [.sl x0.pre.length (x0.pre.map fun x1 => .sc (.int .i64 x1)), .sl x0.maps.length (x0.maps.map fun x1 => .sl x1.length (x1.map fun x2 => .sc (.int .i64 x2)))])]), (8, .os 1 w32.length (w32.map fun x0 => .sc (.int .i64 x0)))]⟩
def z0S (a0 : Runner) (a1 : List Int) (a2 : Int) : Option (List Int × Int) :=
  (z1w a0.c.sizes a1).bind fun v24 =>
  if v24 = true then
    if a2 < 0 then
      some ([], 1)
    else
      if a0.c.letters <= a2 then
        some ([], 1)
      else
        chk (z8w 8 (a1.length : Int)) <|
        z0E (z1P a0 a1 a2) LFm (0, List.replicate (a1.length : Int).toNat (0 : Int))
  else
    some ([], 1)
theorem z1N {a0 : Runner} {a1 : List Int} {a2 : Int} {r : List Int × Int} (h0 : z0S a0 a1 a2 = some r) : L 34 [.agg [.sc (.int .i64 a0.c.letters), .sl a0.c.sizes.length (a0.c.sizes.map fun x0 => .sc (.int .i64 x0)), .sl a0.c.rows.length (a0.c.rows.flatMap fun x0 => [.sl x0.pre.length (x0.pre.map fun x1 => .sc (.int .i64 x1)), .sl x0.maps.length (x0.maps.map fun x1 => .sl x1.length (x1.map fun x2 => .sc (.int .i64 x2)))])], .sl a1.length (a1.map fun x0 => .sc (.int .i64 x0)), .sc (.int .i64 a2)] = some (.tup [.os 1 r.1.length (r.1.map fun x0 => .sc (.int .i64 x0)), .sc (.int .i64 r.2)], [.dead, .dead, .dead]) := by
  simp only [z0S] at h0
  refine z1Q znf zou (z0F zq1 ⟨of_decide_eq_true rfl, of_decide_eq_true rfl⟩ ?_)
  simp only [z0K, z0H, z0G, z0L, z1S]
  refine zq rfl (zr rfl rfl rfl (by simp; rfl) ?_)
  refine z0a (zq rfl (zq rfl ?_))
  obtain ⟨v24, f33, h1⟩ := z0b h0
  have f33k := z2S f33
  try simp at f33k
  by_cases c34 : v24 = true
  ·rw [if_pos c34] at h1
   by_cases c35 : a2 < 0
   ·rw [if_pos c35] at h1
    refine zr rfl rfl rfl (by simp [f33k, c34, c35]; rfl) ?_
    refine z0a (z0p rfl (by simp) (zq rfl (zr rfl rfl rfl (by simp; rfl) ?_)))
    refine z0a (z0o rfl (z0c ?_))
    cases h1
    simp [c34]
   ·rw [if_neg c35] at h1
    refine zr rfl rfl rfl (by simp [f33k, c34, c35]; rfl) ?_
    refine z0a ?_
    by_cases c36 : a0.c.letters <= a2
    ·rw [if_pos c36] at h1
     refine z0p rfl (by simp [c36]) (zq rfl (zr rfl rfl rfl (by simp; rfl) ?_))
     refine z0a (z0o rfl (z0c ?_))
     cases h1
     simp [c34]
    ·rw [if_neg c36] at h1
     refine z0s rfl (by simp [c36]) (z0n rfl (z0a (zq rfl ?_)))
     obtain ⟨f37, h2⟩ := zlQ h1
     refine zr rfl rfl rfl (by simp [f37]; rfl) ?_
     refine z0a (zq rfl (zq rfl (zr rfl rfl rfl (by simp; rfl) ?_)))
     refine z0a (zb rfl (z0C h2 (z1O a0 a1 a2) rfl rfl (by simp [z1O]) fun s o1 h3 hr1 => ?_))
     obtain ⟨w31, w32⟩ := s
     simp only [z1P] at h3
     simp only [z1O]
     refine zq rfl (zr rfl rfl rfl (by simp; rfl) ?_)
     refine z0a (zq rfl ?_)
     by_cases c56 : w31 < (a1.length : Int)
     ·rw [if_pos c56] at h3
      refine z0p rfl (by simp [c56]) (z0n rfl (z0a (zq rfl (zb rfl (zq rfl ?_)))))
      obtain ⟨v40, f57, h4⟩ := z1x h3
      refine zr rfl rfl rfl (by simp [f57]; rfl) ?_
      refine z0a (zq rfl ?_)
      obtain ⟨v41, f58, h5⟩ := z0b h4
      obtain ⟨f58a, f58b, f58c, -⟩ := z3O f58
      obtain ⟨f58d, f58g⟩ := z6x f58a f58b
      have f58e := z6h (g := fun x : Int => (.sc (.int .i64 x) : T)) f58
      try simp at f58e
      have f58f := z6g f58
      try simp only [Int.reduceToNat, Int.toNat_natCast, Nat.sub_zero] at f58f
      obtain ⟨v42, f59, h6⟩ := z0b h5
      have f59k := z0J f59
      try simp at f59k
      refine z1o rfl rfl rfl rfl ?_; repeat' ((first | refine z0D rfl rfl fun Q' hQ => ?_ | refine z0A rfl fun Q' hQ => ?_); simp [f58a, f58b, f58c, f58d, f58g, f58e, f58f, f59k]; refine hQ.out _ ?_; clear hQ; clear Q')
      refine z0a (zq rfl (zq rfl (zr rfl rfl rfl (by simp; rfl) ?_)))
      refine z0a ?_
      by_cases c60 : v42.2 = true
      ·rw [if_pos c60] at h6
       refine z0s rfl (by simp [c60]) (z0n rfl (z0a ?_))
       obtain ⟨v43, f61, h7⟩ := z0b h6
       obtain ⟨f61a, f61b, f61c, f61d, f61e⟩ := z0W f61
       have f61g := z1e (g := fun x : CRow => ([.sl x.pre.length (x.pre.map fun x0 => .sc (.int .i64 x0)), .sl x.maps.length (x.maps.map fun x0 => .sl x0.length (x0.map fun x1 => .sc (.int .i64 x1)))] : List T)) (m := 2) (fun _ => rfl) f61d
       have f61h := z1k (g := fun x : CRow => ([.sl x.pre.length (x.pre.map fun x0 => .sc (.int .i64 x0)), .sl x.maps.length (x.maps.map fun x0 => .sl x0.length (x0.map fun x1 => .sc (.int .i64 x1)))] : List T)) (m := 2) (fun _ => rfl) a0.c.rows
       have f61k0 := f61g.2.2.1 0 (by decide)
       have f61m0 := f61g.2.2.2 0 _ rfl
       have f61k1 := f61g.2.2.1 1 (by decide)
       have f61m1 := f61g.2.2.2 1 _ rfl
       obtain ⟨f61g, f61i, -⟩ := f61g
       try simp at f61i f61h f61k0 f61m0 f61k1 f61m1
       obtain ⟨v44, f62, h8⟩ := z1x h7
       obtain ⟨v45, f63, h9⟩ := z1x h8
       obtain ⟨v46, f64, h10⟩ := z1x h9
       refine zr rfl rfl rfl (by simp [f61a, f61b, f61c, f61d, f61e, f61g, f61i, f61h, f61k0, f61k1, f61m0, f61m1, f62, f63, f64]; rfl) ?_
       refine z0g (z0a (zr rfl rfl rfl (by simp; rfl) ?_))
       have ho := z0f h10
       refine z0j ho ?_
       simp [z1O, c60]
      ·rw [if_neg c60] at h6
       refine z0p rfl (by simp [c60]) (zq rfl (zr rfl rfl rfl (by simp; rfl) ?_))
       refine z0a (z0o rfl (z0c (z0h (z0c ?_))))
       obtain ⟨rr1, h7, ho1⟩ := z0d h6
       have hs1 := hr1 _ ho1
       subst hs1
       refine z0w ho1 (z0h (z0c ?_))
       cases h7
       simp [c60]
     ·rw [if_neg c56] at h3
      refine z0s rfl (by simp [c56]) (z0I rfl (z0B ?_))
      obtain ⟨rr1, h4, ho1⟩ := z0d h3
      have hs1 := hr1 _ ho1
      subst hs1
      refine z0v ho1 (z0l rfl (z0a (zq rfl (zr rfl rfl rfl (by simp; rfl) ?_))))
      refine z0a (z0o rfl ?_)
      cases h4
      simp
  ·rw [if_neg c34] at h1
   refine zr rfl rfl rfl (by simp [f33k, c34]; rfl) ?_
   refine z0a (z0p rfl (by simp) (zq rfl (zr rfl rfl rfl (by simp; rfl) ?_)))
   refine z0a (z0o rfl (z0c ?_))
   cases h1
   simp [c34]
def z4Z (a0 : Casc) (a1 : List Int) (a2 : Int) : Int × List Int -> Option ((Int × List Int) ⊕ (List Int × Int))
  | (w27, w28) =>
  if w27 < (a1.length : Int) then
    (z6i a1 0 w27).bind fun v35 =>
    (z6Y a0 v35).bind fun v36 =>
    if v36 = (-1) then
      z0t <|
      some ([], 23)
    else
      (atI a0.rows v36).bind fun v37 =>
      (atI v37.maps a2).bind fun v38 =>
      (atI a1 w27).bind fun v39 =>
      (atI v38 v39).bind fun v40 =>
      chk (z1g 8 (w28.length + 1)) <|
      z0y (IntKind.i64.wrap (w27 + 1), w28 ++ [v40])
  else
    z0t <|
    some (w28, 0)
def z4Y (a0 : Casc) (a1 : List Int) (a2 : Int) : Int × List Int -> Fr
  | (w27, w28) => ⟨44, [(1, .one (.t none (.sl a1.length (a1.map fun x0 => .sc (.int .i64 x0))))), (2, .one (.t none (.sc (.int .i64 a2)))), (3, .one (.a 3 [] (0))), (8, .one (.h 8 [])), (13, .one (.t none (.sc (.int .i64 (a1.length : Int))))), (14, .one (.t none (.sc (.int .i64 w27))))], [(3, .vr [.sc (.int .i64 a0.letters), .sl a0.sizes.length (a0.sizes.map fun x0 => .sc (.int .i64 x0)), .sl a0.rows.length (a0.rows.flatMap fun x0 => [.sl x0.pre.length (x0.pre.map fun x1 => .sc (.int .i64 x1)), .sl x0.maps.length (x0.maps.map fun x1 => .sl x1.length (x1.map fun x2 => .sc (.int .i64 x2)))])]), (8, .os 1 w28.length (w28.map fun x0 => .sc (.int .i64 x0)))]⟩
def z5o (a0 : Casc) (a1 : List Int) (a2 : Int) : Option (List Int × Int) :=
  z0E (z4Z a0 a1 a2) LFm (0, [])
theorem z8q {a0 : Casc} {a1 : List Int} {a2 : Int} {r : List Int × Int} (h0 : z5o a0 a1 a2 = some r) : L 40 [.agg [.sc (.int .i64 a0.letters), .sl a0.sizes.length (a0.sizes.map fun x0 => .sc (.int .i64 x0)), .sl a0.rows.length (a0.rows.flatMap fun x0 => [.sl x0.pre.length (x0.pre.map fun x1 => .sc (.int .i64 x1)), .sl x0.maps.length (x0.maps.map fun x1 => .sl x1.length (x1.map fun x2 => .sc (.int .i64 x2)))])], .sl a1.length (a1.map fun x0 => .sc (.int .i64 x0)), .sc (.int .i64 a2)] = some (.tup [.os 1 r.1.length (r.1.map fun x0 => .sc (.int .i64 x0)), .sc (.int .i64 r.2)], [.dead, .dead, .dead]) := by
  simp only [z5o] at h0
  refine z1Q znb zoq (z0F zpX ⟨of_decide_eq_true rfl, of_decide_eq_true rfl⟩ ?_)
  simp only [z0K, z0H, z0G, z0L, z1S]
  refine zq rfl (zr rfl rfl rfl (by simp; rfl) ?_)
  refine z0a (zq rfl (zr rfl rfl rfl (by simp; rfl) ?_))
  refine z0a (zq rfl (zq rfl (zr rfl rfl rfl (by simp; rfl) ?_)))
  refine z0a (zb rfl (z0C h0 (z4Y a0 a1 a2) rfl rfl (by simp [z4Y]) fun s o1 h1 hr1 => ?_))
  obtain ⟨w27, w28⟩ := s
  simp only [z4Z] at h1
  simp only [z4Y]
  refine zq rfl (zr rfl rfl rfl (by simp; rfl) ?_)
  refine z0a (zq rfl ?_)
  by_cases c44 : w27 < (a1.length : Int)
  ·rw [if_pos c44] at h1
   refine z0p rfl (by simp [c44]) (z0n rfl (z0a (zq rfl (zb rfl (zq rfl (zr rfl rfl rfl (by simp; rfl) ?_))))))
   refine z0a (zq rfl ?_)
   obtain ⟨v35, f45, h2⟩ := z0b h1
   obtain ⟨f45a, f45b, f45c, -⟩ := z3O f45
   obtain ⟨f45d, f45g⟩ := z6x f45a f45b
   have f45e := z6h (g := fun x : Int => (.sc (.int .i64 x) : T)) f45
   try simp at f45e
   have f45f := z6g f45
   try simp only [Int.reduceToNat, Int.toNat_natCast, Nat.sub_zero] at f45f
   obtain ⟨v36, f46, h3⟩ := z0b h2
   have f46k := zcB f46
   try simp at f46k
   refine z1o rfl rfl rfl rfl ?_; repeat' ((first | refine z0D rfl rfl fun Q' hQ => ?_ | refine z0A rfl fun Q' hQ => ?_); simp [f45a, f45b, f45c, f45d, f45g, f45e, f45f, f46k]; refine hQ.out _ ?_; clear hQ; clear Q')
   refine z0a (zq rfl (zq rfl (zr rfl rfl rfl (by simp; rfl) ?_)))
   refine z0a ?_
   by_cases c47 : v36 = (-1)
   ·rw [if_pos c47] at h3
    have c47e := eq_true c47
    refine z0p rfl (by simp [c47e]) (zq rfl (zr rfl rfl rfl (by simp; rfl) ?_))
    refine z0a (z0o rfl (z0c (z0h (z0c ?_))))
    obtain ⟨rr1, h4, ho1⟩ := z0d h3
    have hs1 := hr1 _ ho1
    subst hs1
    refine z0w ho1 (z0h (z0c ?_))
    cases h4
    simp
   ·rw [if_neg c47] at h3
    have c47e := eq_false c47
    refine z0s rfl (by simp [c47e]) (z0n rfl (z0a ?_))
    obtain ⟨v37, f48, h4⟩ := z0b h3
    obtain ⟨f48a, f48b, f48c, f48d, f48e⟩ := z0W f48
    have f48g := z1e (g := fun x : CRow => ([.sl x.pre.length (x.pre.map fun x0 => .sc (.int .i64 x0)), .sl x.maps.length (x.maps.map fun x0 => .sl x0.length (x0.map fun x1 => .sc (.int .i64 x1)))] : List T)) (m := 2) (fun _ => rfl) f48d
    have f48h := z1k (g := fun x : CRow => ([.sl x.pre.length (x.pre.map fun x0 => .sc (.int .i64 x0)), .sl x.maps.length (x.maps.map fun x0 => .sl x0.length (x0.map fun x1 => .sc (.int .i64 x1)))] : List T)) (m := 2) (fun _ => rfl) a0.rows
    have f48k0 := f48g.2.2.1 0 (by decide)
    have f48m0 := f48g.2.2.2 0 _ rfl
    have f48k1 := f48g.2.2.1 1 (by decide)
    have f48m1 := f48g.2.2.2 1 _ rfl
    obtain ⟨f48g, f48i, -⟩ := f48g
    try simp at f48i f48h f48k0 f48m0 f48k1 f48m1
    obtain ⟨v38, f49, h5⟩ := z1x h4
    obtain ⟨v39, f50, h6⟩ := z1x h5
    obtain ⟨v40, f51, h7⟩ := z1x h6
    obtain ⟨f52, h8⟩ := z5l h7
    refine z1o rfl rfl rfl rfl ?_; repeat' ((first | refine z0D rfl rfl fun Q' hQ => ?_ | refine z0A rfl fun Q' hQ => ?_); simp [f48a, f48b, f48c, f48d, f48e, f48g, f48i, f48h, f48k0, f48k1, f48m0, f48m1, f49, f50, f51, f52]; refine hQ.out _ ?_; clear hQ; clear Q')
    refine z0g (z0a (zr rfl rfl rfl (by simp; rfl) ?_))
    have ho := z0f h8
    refine z0j ho ?_
    simp [z4Y]
  ·rw [if_neg c44] at h1
   refine z0s rfl (by simp [c44]) (z0I rfl (z0B ?_))
   obtain ⟨rr1, h2, ho1⟩ := z0d h1
   have hs1 := hr1 _ ho1
   subst hs1
   refine z0v ho1 (z0l rfl (z0a (zq rfl (zr rfl rfl rfl (by simp; rfl) ?_))))
   refine z0a (z0o rfl ?_)
   cases h2
   simp
def z5A (v600 : Int × Tape) (w638 : Int) (w642 : List CRow) (v680 : List Int) (v681 : Int × Tape) : Int × List (List Int) -> Option ((Int × List (List Int)) ⊕ ((Int × List Int × Int × List CRow × List (List Int)) ⊕ ((Int × List Int × Int × List Int × List CRow × List (List Int)) ⊕ (Casc × Tape))))
  | (w682, w683) =>
  if w682 < (IntKind.i64.wrap (1 + v600.1)) then
    chk (z1g 8 (v680.length)) <|
    chk (z1g 8 (v680.length + 1)) <|
    chk (z1g 24 (w683.length + 1)) <|
    z0y (IntKind.i64.wrap (w682 + 1), w683 ++ [v680 ++ [w682]])
  else
    z0t <|
    z0y (IntKind.i64.wrap (w638 + 1), v681.2.l, v681.2.at_, w642, w683)
def z4i (v359 : Int × Tape) (w477 : Int) (w480 : List Int) (w482 : List (List Int)) (v600 : Int × Tape) (w638 : Int) (w642 : List CRow) (v680 : List Int) (v681 : Int × Tape) : Int × List (List Int) -> Fr
  | (w682, w683) => ⟨117, [(0, .one (.a 0 [] (0))), (2, .one (.a 2 [] (0))), (3, .one (.a 3 [] (0))), (5, .one (.t none (.sc (.int .i64 w477)))), (6, .one (.t none (.sc (.int .i64 (IntKind.i64.wrap (1 + v600.1)))))), (7, .one (.h 7 [])), (9, .one (.t none (.sl v680.length (v680.map fun x0 => .sc (.int .i64 x0))))), (16, .one (.t none (.sc (.int .i64 w682)))), (38, .one (.t none (.sl w482.length (w482.map fun x0 => .sl x0.length (x0.map fun x1 => .sc (.int .i64 x1)))))), (39, .one (.t none (.sc (.int .i64 (w482.length : Int))))), (40, .one (.t none (.sc (.int .i64 w638)))), (1117, .one (.a 0 [] (0)))], [(0, .vr [.sl v681.2.l.length (v681.2.l.map fun x0 => .sc (.int .i64 x0)), .sc (.int .i64 v681.2.at_)]), (2, .vr [.sc (.int .i64 0), .os 1 0 [], .os 2 0 []]), (3, .vr [.sc (.int .i64 (IntKind.i64.wrap (1 + v359.1))), .os 1 (w480 ++ [IntKind.i64.wrap (1 + v600.1)]).length ((w480 ++ [IntKind.i64.wrap (1 + v600.1)]).map fun x0 => .sc (.int .i64 x0)), .os 2 w642.length (w642.flatMap fun x0 => [.sl x0.pre.length (x0.pre.map fun x1 => .sc (.int .i64 x1)), .os 1 x0.maps.length (x0.maps.map fun x1 => .os 1 x1.length (x1.map fun x2 => .sc (.int .i64 x2)))])]), (7, .os 1 w683.length (w683.map fun x0 => .os 1 x0.length (x0.map fun x1 => .sc (.int .i64 x1))))]⟩
def z3a (v600 : Int × Tape) (w693 : Int) (w696 : List (List Int)) (v706 : Int × Tape) (v707 : Int × Tape) : Int × List Int × Int × List Int -> Option ((Int × List Int × Int × List Int) ⊕ ((Int × List Int × Int × List (List Int)) ⊕ ((Int × List Int × Int × List CRow × List (List Int)) ⊕ ((Int × List Int × Int × List Int × List CRow × List (List Int)) ⊕ (Casc × Tape)))))
  | (w709, w711, w712, w710) =>
  if w709 < (IntKind.i64.wrap (1 + v600.1)) then
    if v706.1 = 0 then
      chk (¬ (IntKind.i64.wrap (1 + v600.1)) = 0) <|
      chk (z1g 8 (w710.length + 1)) <|
      z0y (IntKind.i64.wrap (w709 + 1), w711, w712, w710 ++ [Int.tmod (IntKind.i64.wrap (w709 + v707.1)) (IntKind.i64.wrap (1 + v600.1))])
    else
      if v706.1 = 1 then
        chk (z1g 8 (w710.length + 1)) <|
        z0y (IntKind.i64.wrap (w709 + 1), w711, w712, w710 ++ [v707.1])
      else
        (z0U (⟨w711, w712⟩ : Tape) (IntKind.i64.wrap (1 + v600.1))).bind fun v714 =>
        chk (z1g 8 (w710.length + 1)) <|
        z0y (IntKind.i64.wrap (w709 + 1), v714.2.l, v714.2.at_, w710 ++ [v714.1])
  else
    z0t <|
    chk (z1g 24 (w696.length + 1)) <|
    z0y (IntKind.i64.wrap (w693 + 1), w711, w712, w696 ++ [w710])
def z2k (v359 : Int × Tape) (w477 : Int) (w480 : List Int) (w482 : List (List Int)) (v600 : Int × Tape) (w638 : Int) (w641 : List (List Int)) (w642 : List CRow) (v680 : List Int) (w693 : Int) (w696 : List (List Int)) (v706 : Int × Tape) (v707 : Int × Tape) : Int × List Int × Int × List Int -> Fr
  | (w709, w711, w712, w710) => ⟨117, [(0, .one (.a 0 [] (0))), (2, .one (.a 2 [] (0))), (3, .one (.a 3 [] (0))), (5, .one (.t none (.sc (.int .i64 w477)))), (6, .one (.t none (.sc (.int .i64 (IntKind.i64.wrap (1 + v600.1)))))), (7, .one (.h 7 [])), (9, .one (.t none (.sl v680.length (v680.map fun x0 => .sc (.int .i64 x0))))), (10, .one (.a 10 [] (0))), (11, .one (.t none (.sc (.int .i64 w693)))), (12, .one (.h 12 [])), (13, .one (.t none (.sc (.int .i64 v706.1)))), (14, .one (.t none (.sc (.int .i64 v707.1)))), (15, .one (.t none (.sc (.int .i64 w709)))), (38, .one (.t none (.sl w482.length (w482.map fun x0 => .sl x0.length (x0.map fun x1 => .sc (.int .i64 x1)))))), (39, .one (.t none (.sc (.int .i64 (w482.length : Int))))), (40, .one (.t none (.sc (.int .i64 w638)))), (1117, .one (.a 0 [] (0)))], [(0, .vr [.sl w711.length (w711.map fun x0 => .sc (.int .i64 x0)), .sc (.int .i64 w712)]), (2, .vr [.sc (.int .i64 0), .os 1 0 [], .os 2 0 []]), (3, .vr [.sc (.int .i64 (IntKind.i64.wrap (1 + v359.1))), .os 1 (w480 ++ [IntKind.i64.wrap (1 + v600.1)]).length ((w480 ++ [IntKind.i64.wrap (1 + v600.1)]).map fun x0 => .sc (.int .i64 x0)), .os 2 w642.length (w642.flatMap fun x0 => [.sl x0.pre.length (x0.pre.map fun x1 => .sc (.int .i64 x1)), .os 1 x0.maps.length (x0.maps.map fun x1 => .os 1 x1.length (x1.map fun x2 => .sc (.int .i64 x2)))])]), (7, .os 1 w641.length (w641.map fun x0 => .os 1 x0.length (x0.map fun x1 => .sc (.int .i64 x1)))), (10, .vr [.sl v680.length (v680.map fun x0 => .sc (.int .i64 x0)), .os 1 w696.length (w696.map fun x0 => .os 1 x0.length (x0.map fun x1 => .sc (.int .i64 x1)))]), (12, .os 1 w710.length (w710.map fun x0 => .sc (.int .i64 x0)))]⟩
def z4R (v600 : Int × Tape) (w638 : Int) (w642 : List CRow) (v680 : List Int) (w694 : List Int) (w695 : Int) (w696 : List (List Int)) : Int × List (List Int) -> Option ((Int × List (List Int)) ⊕ ((Int × List Int × Int × List CRow × List (List Int)) ⊕ ((Int × List Int × Int × List Int × List CRow × List (List Int)) ⊕ (Casc × Tape))))
  | (w715, w716) =>
  if w715 < (IntKind.i64.wrap (1 + v600.1)) then
    chk (z1g 8 (v680.length)) <|
    chk (z1g 8 (v680.length + 1)) <|
    chk (z1g 24 (w716.length + 1)) <|
    z0y (IntKind.i64.wrap (w715 + 1), w716 ++ [v680 ++ [w715]])
  else
    z0t <|
    z0y (IntKind.i64.wrap (w638 + 1), w694, w695, w642 ++ [(⟨v680, w696⟩ : CRow)], w716)
def z3J (v359 : Int × Tape) (w477 : Int) (w480 : List Int) (w482 : List (List Int)) (v600 : Int × Tape) (w638 : Int) (w642 : List CRow) (v680 : List Int) (w694 : List Int) (w695 : Int) (w696 : List (List Int)) : Int × List (List Int) -> Fr
  | (w715, w716) => ⟨117, [(0, .one (.a 0 [] (0))), (2, .one (.a 2 [] (0))), (3, .one (.a 3 [] (0))), (5, .one (.t none (.sc (.int .i64 w477)))), (6, .one (.t none (.sc (.int .i64 (IntKind.i64.wrap (1 + v600.1)))))), (7, .one (.h 7 [])), (9, .one (.t none (.sl v680.length (v680.map fun x0 => .sc (.int .i64 x0))))), (16, .one (.t none (.sc (.int .i64 w715)))), (38, .one (.t none (.sl w482.length (w482.map fun x0 => .sl x0.length (x0.map fun x1 => .sc (.int .i64 x1)))))), (39, .one (.t none (.sc (.int .i64 (w482.length : Int))))), (40, .one (.t none (.sc (.int .i64 w638)))), (1117, .one (.a 0 [] (0)))], [(0, .vr [.sl w694.length (w694.map fun x0 => .sc (.int .i64 x0)), .sc (.int .i64 w695)]), (2, .vr [.sc (.int .i64 0), .os 1 0 [], .os 2 0 []]), (3, .vr [.sc (.int .i64 (IntKind.i64.wrap (1 + v359.1))), .os 1 (w480 ++ [IntKind.i64.wrap (1 + v600.1)]).length ((w480 ++ [IntKind.i64.wrap (1 + v600.1)]).map fun x0 => .sc (.int .i64 x0)), .os 2 (w642 ++ [(⟨v680, w696⟩ : CRow)]).length ((w642 ++ [(⟨v680, w696⟩ : CRow)]).flatMap fun x0 => [.sl x0.pre.length (x0.pre.map fun x1 => .sc (.int .i64 x1)), .os 1 x0.maps.length (x0.maps.map fun x1 => .os 1 x1.length (x1.map fun x2 => .sc (.int .i64 x2)))])]), (7, .os 1 w716.length (w716.map fun x0 => .os 1 x0.length (x0.map fun x1 => .sc (.int .i64 x1))))]⟩
def z3b (v359 : Int × Tape) (v600 : Int × Tape) (w638 : Int) (w641 : List (List Int)) (w642 : List CRow) (v680 : List Int) : Int × List Int × Int × List (List Int) -> Option ((Int × List Int × Int × List (List Int)) ⊕ ((Int × List Int × Int × List CRow × List (List Int)) ⊕ ((Int × List Int × Int × List Int × List CRow × List (List Int)) ⊕ (Casc × Tape))))
  | (w693, w694, w695, w696) =>
  if w693 < (IntKind.i64.wrap (1 + v359.1)) then
    (z0U (⟨w694, w695⟩ : Tape) 3).bind fun v706 =>
    (z0U v706.2 (IntKind.i64.wrap (1 + v600.1))).bind fun v707 =>
    z0E (z3a v600 w693 w696 v706 v707) LFm (0, v707.2.l, v707.2.at_, [])
  else
    z0t <|
    chk (z1g 48 (w642.length + 1)) <|
    z0E (z4R v600 w638 w642 v680 w694 w695 w696) LFm (0, w641)
def z4j (v359 : Int × Tape) (w477 : Int) (w480 : List Int) (w482 : List (List Int)) (v600 : Int × Tape) (w638 : Int) (w641 : List (List Int)) (w642 : List CRow) (v680 : List Int) : Int × List Int × Int × List (List Int) -> Fr
  | (w693, w694, w695, w696) => ⟨117, [(0, .one (.a 0 [] (0))), (2, .one (.a 2 [] (0))), (3, .one (.a 3 [] (0))), (5, .one (.t none (.sc (.int .i64 w477)))), (6, .one (.t none (.sc (.int .i64 (IntKind.i64.wrap (1 + v600.1)))))), (7, .one (.h 7 [])), (9, .one (.t none (.sl v680.length (v680.map fun x0 => .sc (.int .i64 x0))))), (10, .one (.a 10 [] (0))), (11, .one (.t none (.sc (.int .i64 w693)))), (38, .one (.t none (.sl w482.length (w482.map fun x0 => .sl x0.length (x0.map fun x1 => .sc (.int .i64 x1)))))), (39, .one (.t none (.sc (.int .i64 (w482.length : Int))))), (40, .one (.t none (.sc (.int .i64 w638)))), (1117, .one (.a 0 [] (0)))], [(0, .vr [.sl w694.length (w694.map fun x0 => .sc (.int .i64 x0)), .sc (.int .i64 w695)]), (2, .vr [.sc (.int .i64 0), .os 1 0 [], .os 2 0 []]), (3, .vr [.sc (.int .i64 (IntKind.i64.wrap (1 + v359.1))), .os 1 (w480 ++ [IntKind.i64.wrap (1 + v600.1)]).length ((w480 ++ [IntKind.i64.wrap (1 + v600.1)]).map fun x0 => .sc (.int .i64 x0)), .os 2 w642.length (w642.flatMap fun x0 => [.sl x0.pre.length (x0.pre.map fun x1 => .sc (.int .i64 x1)), .os 1 x0.maps.length (x0.maps.map fun x1 => .os 1 x1.length (x1.map fun x2 => .sc (.int .i64 x2)))])]), (7, .os 1 w641.length (w641.map fun x0 => .os 1 x0.length (x0.map fun x1 => .sc (.int .i64 x1)))), (10, .vr [.sl v680.length (v680.map fun x0 => .sc (.int .i64 x0)), .os 1 w696.length (w696.map fun x0 => .os 1 x0.length (x0.map fun x1 => .sc (.int .i64 x1)))])]⟩
def z3c (v359 : Int × Tape) (w477 : Int) (w480 : List Int) (w482 : List (List Int)) (v600 : Int × Tape) : Int × List Int × Int × List CRow × List (List Int) -> Option ((Int × List Int × Int × List CRow × List (List Int)) ⊕ ((Int × List Int × Int × List Int × List CRow × List (List Int)) ⊕ (Casc × Tape)))
  | (w638, w639, w640, w642, w641) =>
  if w638 < (w482.length : Int) then
    (atI w482 w638).bind fun v680 =>
    (z0U (⟨w639, w640⟩ : Tape) 12).bind fun v681 =>
    if v681.1 = 11 then
      z0E (z5A v600 w638 w642 v680 v681) LFm (0, w641)
    else
      z0E (z3b v359 v600 w638 w641 w642 v680) LFm (0, v681.2.l, v681.2.at_, [])
  else
    z0t <|
    z0y (IntKind.i64.wrap (w477 - 1), w639, w640, w480 ++ [IntKind.i64.wrap (1 + v600.1)], w642, w641)
def z2Z (v359 : Int × Tape) (w477 : Int) (w480 : List Int) (w482 : List (List Int)) (v600 : Int × Tape) : Int × List Int × Int × List CRow × List (List Int) -> Fr
  | (w638, w639, w640, w642, w641) => ⟨117, [(0, .one (.a 0 [] (0))), (2, .one (.a 2 [] (0))), (3, .one (.a 3 [] (0))), (5, .one (.t none (.sc (.int .i64 w477)))), (6, .one (.t none (.sc (.int .i64 (IntKind.i64.wrap (1 + v600.1)))))), (7, .one (.h 7 [])), (38, .one (.t none (.sl w482.length (w482.map fun x0 => .sl x0.length (x0.map fun x1 => .sc (.int .i64 x1)))))), (39, .one (.t none (.sc (.int .i64 (w482.length : Int))))), (40, .one (.t none (.sc (.int .i64 w638)))), (1117, .one (.a 0 [] (0)))], [(0, .vr [.sl w639.length (w639.map fun x0 => .sc (.int .i64 x0)), .sc (.int .i64 w640)]), (2, .vr [.sc (.int .i64 0), .os 1 0 [], .os 2 0 []]), (3, .vr [.sc (.int .i64 (IntKind.i64.wrap (1 + v359.1))), .os 1 (w480 ++ [IntKind.i64.wrap (1 + v600.1)]).length ((w480 ++ [IntKind.i64.wrap (1 + v600.1)]).map fun x0 => .sc (.int .i64 x0)), .os 2 w642.length (w642.flatMap fun x0 => [.sl x0.pre.length (x0.pre.map fun x1 => .sc (.int .i64 x1)), .os 1 x0.maps.length (x0.maps.map fun x1 => .os 1 x1.length (x1.map fun x2 => .sc (.int .i64 x2)))])]), (7, .os 1 w641.length (w641.map fun x0 => .os 1 x0.length (x0.map fun x1 => .sc (.int .i64 x1))))]⟩
def z4J (v359 : Int × Tape) : Int × List Int × Int × List Int × List CRow × List (List Int) -> Option ((Int × List Int × Int × List Int × List CRow × List (List Int)) ⊕ (Casc × Tape))
  | (w477, w478, w479, w480, w481, w482) =>
  if 0 < w477 then
    (z0U (⟨w478, w479⟩ : Tape) 3).bind fun v600 =>
    chk (z1g 8 (w480.length + 1)) <|
    z0E (z3c v359 w477 w480 w482 v600) LFm (0, v600.2.l, v600.2.at_, w481, [])
  else
    z0t <|
    some ((⟨IntKind.i64.wrap (1 + v359.1), w480, w481⟩ : Casc), (⟨w478, w479⟩ : Tape))
def z4I (v359 : Int × Tape) : Int × List Int × Int × List Int × List CRow × List (List Int) -> Fr
  | (w477, w478, w479, w480, w481, w482) => ⟨117, [(0, .one (.a 0 [] (0))), (2, .one (.a 2 [] (0))), (3, .one (.a 3 [] (0))), (4, .one (.h 4 [])), (5, .one (.t none (.sc (.int .i64 w477)))), (1117, .one (.a 0 [] (0)))], [(0, .vr [.sl w478.length (w478.map fun x0 => .sc (.int .i64 x0)), .sc (.int .i64 w479)]), (2, .vr [.sc (.int .i64 0), .os 1 0 [], .os 2 0 []]), (3, .vr [.sc (.int .i64 (IntKind.i64.wrap (1 + v359.1))), .os 1 w480.length (w480.map fun x0 => .sc (.int .i64 x0)), .os 2 w481.length (w481.flatMap fun x0 => [.sl x0.pre.length (x0.pre.map fun x1 => .sc (.int .i64 x1)), .os 1 x0.maps.length (x0.maps.map fun x1 => .os 1 x1.length (x1.map fun x2 => .sc (.int .i64 x2)))])]), (4, .os 1 w482.length (w482.map fun x0 => .os 1 x0.length (x0.map fun x1 => .sc (.int .i64 x1))))]⟩
def z5B (a0 : Tape) : Option (Casc × Tape) :=
  (z0U a0 2).bind fun v359 =>
  (z0U v359.2 4).bind fun v360 =>
  z0E (z4J v359) LFm (v360.1, v360.2.l, v360.2.at_, [], [], [[]])
theorem zaD {a0 : Tape} {r : Casc × Tape} (h0 : z5B a0 = some r) : L 12 [.vr [.sl a0.l.length (a0.l.map fun x0 => .sc (.int .i64 x0)), .sc (.int .i64 a0.at_)]] = some (.agg [.sc (.int .i64 r.1.letters), .os 1 r.1.sizes.length (r.1.sizes.map fun x0 => .sc (.int .i64 x0)), .os 2 r.1.rows.length (r.1.rows.flatMap fun x0 => [.sl x0.pre.length (x0.pre.map fun x1 => .sc (.int .i64 x1)), .os 1 x0.maps.length (x0.maps.map fun x1 => .os 1 x1.length (x1.map fun x2 => .sc (.int .i64 x2)))])], [.vr [.sl r.2.l.length (r.2.l.map fun x0 => .sc (.int .i64 x0)), .sc (.int .i64 r.2.at_)]]) := by
  simp only [z5B] at h0
  refine z1Q znq zoF (z0F zqd ⟨of_decide_eq_true rfl, of_decide_eq_true rfl⟩ ?_)
  simp only [z0K, z0H, z0G, z0L, z1S]
  refine zq rfl (zr rfl rfl rfl (by simp; rfl) ?_)
  refine z0a (zq rfl ?_)
  obtain ⟨v359, f918, h1⟩ := z0b h0
  have f918k := z1d f918
  try simp at f918k
  refine zr rfl rfl rfl (by simp [f918k]; rfl) ?_
  refine z0a (zq rfl (zr rfl rfl rfl (by simp; rfl) ?_))
  refine z0a (zq rfl (zq rfl ?_))
  obtain ⟨v360, f919, h2⟩ := z0b h1
  have f919k := z1d f919
  try simp at f919k
  refine zr rfl rfl rfl (by simp [f919k]; rfl) ?_
  refine z0a (zb rfl (z0C h2 (z4I v359) rfl rfl (by simp [z4I]) fun s o1 h3 hr1 => ?_))
  obtain ⟨w477, w478, w479, w480, w481, w482⟩ := s
  simp only [z4J] at h3
  simp only [z4I]
  refine zq rfl (zq rfl (zr rfl rfl rfl (by simp; rfl) ?_))
  refine z0a ?_
  by_cases c1525 : 0 < w477
  ·rw [if_pos c1525] at h3
   refine z0p rfl (by simp [c1525]) (z0n rfl (z0a (zq rfl (zb rfl (zq rfl ?_)))))
   obtain ⟨v600, f1526, h4⟩ := z0b h3
   have f1526k := z1d f1526
   try simp at f1526k
   refine zr rfl rfl rfl (by simp [f1526k]; rfl) ?_
   refine z0a (zq rfl ?_)
   obtain ⟨f1527, h5⟩ := z5l h4
   refine zr rfl rfl rfl (by simp [f1527]; rfl) ?_
   refine z0a (zq rfl (zr rfl rfl rfl (by simp; rfl) ?_))
   refine z0a (zq rfl (zq rfl (zhv rfl rfl (by simp; rfl) (zr rfl rfl rfl (by simp; rfl) ?_))))
   refine z0a (zb rfl (z0C h5 (z2Z v359 w477 w480 w482 v600) rfl rfl (by simp [z2Z]) fun s o2 h6 hr2 => ?_))
   obtain ⟨w638, w639, w640, w642, w641⟩ := s
   simp only [z3c] at h6
   simp only [z2Z]
   refine zq rfl (zr rfl rfl rfl (by simp; rfl) ?_)
   refine z0a (zq rfl ?_)
   by_cases c1732 : w638 < (w482.length : Int)
   ·rw [if_pos c1732] at h6
    refine z0p rfl (by simp [c1732]) (z0n rfl (z0a (zq rfl (zb rfl (zq rfl ?_)))))
    obtain ⟨v680, f1733, h7⟩ := z1x h6
    refine zr rfl rfl rfl (by simp [f1733]; rfl) ?_
    refine z0a (zq rfl (zq rfl ?_))
    obtain ⟨v681, f1734, h8⟩ := z0b h7
    have f1734k := z1d f1734
    try simp at f1734k
    refine zr rfl rfl rfl (by simp [f1734k]; rfl) ?_
    refine z0a ?_
    by_cases c1735 : v681.1 = 11
    ·rw [if_pos c1735] at h8
     have c1735e := eq_true c1735
     refine z0s rfl (by simp [c1735e]) (z0n rfl (z0a (zq rfl (zr rfl rfl rfl (by simp; rfl) ?_))))
     refine z0a (zb rfl (z0C h8 (z4i v359 w477 w480 w482 v600 w638 w642 v680 v681) rfl rfl (by simp [z4i]) fun s o3 h9 hr3 => ?_))
     obtain ⟨w682, w683⟩ := s
     simp only [z5A] at h9
     simp only [z4i]
     refine zq rfl (zq rfl (zr rfl rfl rfl (by simp; rfl) ?_))
     refine z0a ?_
     by_cases c1744 : w682 < (IntKind.i64.wrap (1 + v600.1))
     ·rw [if_pos c1744] at h9
      refine z0p rfl (by simp [c1744]) (z0n rfl (z0a (zq rfl (zb rfl ?_))))
      obtain ⟨f1745, h10⟩ := z5l h9
      obtain ⟨f1746, h11⟩ := z5l h10
      obtain ⟨f1747, h12⟩ := z5l h11
      refine zr rfl rfl rfl (by simp [f1745, f1746, f1747]; rfl) ?_
      refine z0g (z0a (zr rfl rfl rfl (by simp; rfl) ?_))
      have ho := z0f h12
      refine z0j ho ?_
      simp [z4i]
     ·rw [if_neg c1744] at h9
      refine z0s rfl (by simp [c1744]) (z0I rfl (z0B ?_))
      obtain ⟨rr3, h10, ho3⟩ := z0d h9
      have hs3 := hr3 _ ho3
      subst hs3
      refine z0v ho3 (z0l rfl (z0g (z0a (zr rfl rfl rfl (by simp; rfl) ?_))))
      have ho := z0f h10
      refine z0j ho ?_
      simp [z2Z]
    ·rw [if_neg c1735] at h8
     have c1735e := eq_false c1735
     refine z0p rfl (by simp [c1735e]) (zq rfl (zr rfl rfl rfl (by simp; rfl) ?_))
     refine z0a (zq rfl (zq rfl (zr rfl rfl rfl (by simp; rfl) ?_)))
     refine z0a (zb rfl (z0C h8 (z4j v359 w477 w480 w482 v600 w638 w641 w642 v680) rfl rfl (by simp [z4j]) fun s o4 h9 hr4 => ?_))
     obtain ⟨w693, w694, w695, w696⟩ := s
     simp only [z3b] at h9
     simp only [z4j]
     refine zq rfl (zq rfl (zr rfl rfl rfl (by simp; rfl) ?_))
     refine z0a ?_
     by_cases c1797 : w693 < (IntKind.i64.wrap (1 + v359.1))
     ·rw [if_pos c1797] at h9
      refine z0p rfl (by simp [c1797]) (z0n rfl (z0a (zq rfl (zb rfl (zq rfl (zr rfl rfl rfl (by simp; rfl) ?_))))))
      refine z0a (zq rfl ?_)
      obtain ⟨v706, f1798, h10⟩ := z0b h9
      have f1798k := z1d f1798
      try simp at f1798k
      obtain ⟨v707, f1799, h11⟩ := z0b h10
      have f1799k := z1d f1799
      try simp at f1799k
      refine zr rfl rfl rfl (by simp [f1798k, f1799k]; rfl) ?_
      refine z0a (zq rfl (zq rfl (zr rfl rfl rfl (by simp; rfl) ?_)))
      refine z0a (zb rfl (z0C h11 (z2k v359 w477 w480 w482 v600 w638 w641 w642 v680 w693 w696 v706 v707) rfl rfl (by simp [z2k]) fun s o5 h12 hr5 => ?_))
      obtain ⟨w709, w711, w712, w710⟩ := s
      simp only [z3a] at h12
      simp only [z2k]
      refine zq rfl (zq rfl (zr rfl rfl rfl (by simp; rfl) ?_))
      refine z0a ?_
      by_cases c1813 : w709 < (IntKind.i64.wrap (1 + v600.1))
      ·rw [if_pos c1813] at h12
       refine z0p rfl (by simp [c1813]) (z0n rfl (z0a (zq rfl (zb rfl (zq rfl (zr rfl rfl rfl (by simp; rfl) ?_))))))
       refine z0a (zb rfl (zq rfl (zr rfl rfl rfl (by simp; rfl) ?_)))
       refine z0a ?_
       by_cases c1814 : v706.1 = 0
       ·rw [if_pos c1814] at h12
        have c1814e := eq_true c1814
        refine z0p rfl (by simp [c1814e]) ?_
        obtain ⟨f1815, h13⟩ := z1a h12
        obtain ⟨f1816, h14⟩ := z5l h13
        refine zr rfl rfl rfl (by simp [f1815, f1816]; rfl) ?_
        refine z0g (z0g (z0a (zr rfl rfl rfl (by simp; rfl) ?_)))
        have ho := z0f h14
        refine z0j ho ?_
        simp [z2k]
       ·rw [if_neg c1814] at h12
        have c1814e := eq_false c1814
        refine z0s rfl (by simp [c1814e]) (zq rfl (zr rfl rfl rfl (by simp; rfl) ?_))
        refine z0a ?_
        by_cases c1817 : v706.1 = 1
        ·rw [if_pos c1817] at h12
         have c1817e := eq_true c1817
         refine z0p rfl (by simp [c1817e]) ?_
         obtain ⟨f1818, h13⟩ := z5l h12
         refine zr rfl rfl rfl (by simp [f1818]; rfl) ?_
         refine z0g (z0g (z0a (zr rfl rfl rfl (by simp; rfl) ?_)))
         have ho := z0f h13
         refine z0j ho ?_
         simp [z2k]
        ·rw [if_neg c1817] at h12
         have c1817e := eq_false c1817
         refine z0s rfl (by simp [c1817e]) ?_
         obtain ⟨v714, f1819, h13⟩ := z0b h12
         have f1819k := z1d f1819
         try simp at f1819k
         obtain ⟨f1820, h14⟩ := z5l h13
         refine zr rfl rfl rfl (by simp [f1819k, f1820]; rfl) ?_
         refine z0g (z0g (z0a (zr rfl rfl rfl (by simp; rfl) ?_)))
         have ho := z0f h14
         refine z0j ho ?_
         simp [z2k]
      ·rw [if_neg c1813] at h12
       refine z0s rfl (by simp [c1813]) (z0I rfl (z0B ?_))
       obtain ⟨rr5, h13, ho5⟩ := z0d h12
       have hs5 := hr5 _ ho5
       subst hs5
       refine z0v ho5 (z0l rfl (z0a ?_))
       obtain ⟨f1821, h14⟩ := z5l h13
       refine zr rfl rfl rfl (by simp [f1821]; rfl) ?_
       refine z0g (z0a (zr rfl rfl rfl (by simp; rfl) ?_))
       have ho := z0f h14
       refine z0j ho ?_
       simp [z4j]
     ·rw [if_neg c1797] at h9
      refine z0s rfl (by simp [c1797]) (z0I rfl (z0B ?_))
      obtain ⟨rr4, h10, ho4⟩ := z0d h9
      have hs4 := hr4 _ ho4
      subst hs4
      refine z0v ho4 (z0l rfl (z0a ?_))
      obtain ⟨f1822, h11⟩ := z5l h10
      refine zr rfl rfl rfl (by simp [f1822]; rfl) ?_
      refine z0a (zq rfl (zr rfl rfl rfl (by simp; rfl) ?_))
      refine z0a (zb rfl (z0C h11 (z3J v359 w477 w480 w482 v600 w638 w642 v680 w694 w695 w696) rfl rfl (by simp [z3J]) fun s o6 h12 hr6 => ?_))
      obtain ⟨w715, w716⟩ := s
      simp only [z4R] at h12
      simp only [z3J]
      refine zq rfl (zq rfl (zr rfl rfl rfl (by simp; rfl) ?_))
      refine z0a ?_
      by_cases c1831 : w715 < (IntKind.i64.wrap (1 + v600.1))
      ·rw [if_pos c1831] at h12
       refine z0p rfl (by simp [c1831]) (z0n rfl (z0a (zq rfl (zb rfl ?_))))
       obtain ⟨f1832, h13⟩ := z5l h12
       obtain ⟨f1833, h14⟩ := z5l h13
       obtain ⟨f1834, h15⟩ := z5l h14
       refine zr rfl rfl rfl (by simp [f1832, f1833, f1834]; rfl) ?_
       refine z0g (z0a (zr rfl rfl rfl (by simp; rfl) ?_))
       have ho := z0f h15
       refine z0j ho ?_
       simp [z3J]
      ·rw [if_neg c1831] at h12
       refine z0s rfl (by simp [c1831]) (z0I rfl (z0B ?_))
       obtain ⟨rr6, h13, ho6⟩ := z0d h12
       have hs6 := hr6 _ ho6
       subst hs6
       refine z0v ho6 (z0l rfl (z0g (z0a (zr rfl rfl rfl (by simp; rfl) ?_))))
       have ho := z0f h13
       refine z0j ho ?_
       simp [z2Z]
   ·rw [if_neg c1732] at h6
    refine z0s rfl (by simp [c1732]) (z0I rfl (z0B ?_))
    obtain ⟨rr2, h7, ho2⟩ := z0d h6
    have hs2 := hr2 _ ho2
    subst hs2
    refine z0v ho2 (z0l rfl (z0a (zr rfl rfl rfl (by simp; rfl) ?_)))
    refine z0g (z0a (zr rfl rfl rfl (by simp; rfl) ?_))
    have ho := z0f h7
    refine z0j ho ?_
    simp [z4I]
  ·rw [if_neg c1525] at h3
   refine z0s rfl (by simp [c1525]) (z0I rfl (z0B ?_))
   obtain ⟨rr1, h4, ho1⟩ := z0d h3
   have hs1 := hr1 _ ho1
   subst hs1
   refine z0v ho1 (z0l rfl (z0a (zq rfl (zr rfl rfl rfl (by simp; rfl) ?_))))
   refine z0a (z0o rfl ?_)
   cases h4
   simp
end
end
section
open Go
noncomputable section
set_option maxRecDepth 100000
set_option maxHeartbeats 1000000
def z3d (a0 : Int) : Option (ByteArray) :=
  if a0 < 10 then
    (zb2 ⟨#[48, 49, 50, 51, 52, 53, 54, 55, 56, 57, 97, 98, 99, 100, 101, 102, 103, 104, 105, 106, 107, 108, 109, 110, 111, 112, 113, 114, 115, 116, 117, 118, 119, 120, 121, 122]⟩ a0 (IntKind.i64.wrap (a0 + 1))).bind fun v3 =>
    some v3
  else
    (zb2 ⟨#[48, 48, 48, 49, 48, 50, 48, 51, 48, 52, 48, 53, 48, 54, 48, 55, 48, 56, 48, 57, 49, 48, 49, 49, 49, 50, 49, 51, 49, 52, 49, 53, 49, 54, 49, 55, 49, 56, 49, 57, 50, 48, 50, 49, 50, 50, 50, 51, 50, 52, 50, 53, 50, 54, 50, 55, 50, 56, 50, 57, 51, 48, 51, 49, 51, 50, 51, 51, 51, 52, 51, 53, 51, 54, 51, 55, 51, 56, 51, 57, 52, 48, 52, 49, 52, 50, 52, 51, 52, 52, 52, 53, 52, 54, 52, 55, 52, 56, 52, 57, 53, 48, 53, 49, 53, 50, 53, 51, 53, 52, 53, 53, 53, 54, 53, 55, 53, 56, 53, 57, 54, 48, 54, 49, 54, 50, 54, 51, 54, 52, 54, 53, 54, 54, 54, 55, 54, 56, 54, 57, 55, 48, 55, 49, 55, 50, 55, 51, 55, 52, 55, 53, 55, 54, 55, 55, 55, 56, 55, 57, 56, 48, 56, 49, 56, 50, 56, 51, 56, 52, 56, 53, 56, 54, 56, 55, 56, 56, 56, 57, 57, 48, 57, 49, 57, 50, 57, 51, 57, 52, 57, 53, 57, 54, 57, 55, 57, 56, 57, 57]⟩ (IntKind.i64.wrap (a0 * 2)) (IntKind.i64.wrap ((IntKind.i64.wrap (a0 * 2)) + 2))).bind fun v4 =>
    some v4
theorem z8G {a0 : Int} {r : ByteArray} (h0 : z3d a0 = some r) : L 93 [.sc (.int .i64 a0)] = some (.sc (.string r), [.dead]) := by
  simp only [z3d] at h0
  refine z1Q zmJ znY (z0F zpv ⟨of_decide_eq_true rfl, of_decide_eq_true rfl⟩ ?_)
  simp only [z0K, z0H, z0G, z0L, z1S]
  refine zq rfl (zr rfl rfl rfl (by simp; rfl) ?_)
  refine z0a (zq rfl (zq rfl (zr rfl rfl rfl (by simp; rfl) ?_)))
  refine z0a ?_
  by_cases c4 : a0 < 10
  ·rw [if_pos c4] at h0
   refine z0p rfl (by simp [c4]) (zq rfl ?_)
   obtain ⟨v3, f5, h1⟩ := z0b h0
   obtain ⟨f5a, f5b, f5c, f5d⟩ := za3 f5
   obtain ⟨f5e, f5f⟩ := z6x f5a f5b
   have f5d := f5d.symm
   simp only [znB] at f5c
   try simp at f5c
   have f5g : a0 <= max (IntKind.i64.wrap (a0 + 1)) 0 := by omega
   refine zr rfl rfl rfl (by simp [f5a, f5b, f5c, f5d, f5e, f5f, f5g]; rfl) ?_
   refine z0a (z0o rfl (z0c ?_))
   cases h1
   simp
  ·rw [if_neg c4] at h0
   refine z0s rfl (by simp [c4]) (z0n rfl (z0a (zq rfl ?_)))
   obtain ⟨v4, f6, h1⟩ := z0b h0
   obtain ⟨f6a, f6b, f6c, f6d⟩ := za3 f6
   obtain ⟨f6e, f6f⟩ := z6x f6a f6b
   have f6d := f6d.symm
   simp only [znB] at f6c
   try simp at f6c
   have f6g : (IntKind.i64.wrap (a0 * 2)) <= max (IntKind.i64.wrap ((IntKind.i64.wrap (a0 * 2)) + 2)) 0 := by omega
   refine zr rfl rfl rfl (by simp [f6a, f6b, f6c, f6d, f6e, f6f, f6g]; rfl) ?_
   refine z0a (z0o rfl ?_)
   cases h1
   simp
def z1F (a0 : List Int) (a1 : Int) (a2 : Int) : Option (List Int) :=
  if a2 = 10 then
    if a1 < 100 then
      (z3d (IntKind.i64.wrap a1)).bind fun v2 =>
      chk (z1g 1 (a0.length + v2.size)) <|
      some (a0 ++ (z8F v2))
    else
      none
  else
    none
theorem z4k {a0 : List Int} {a1 : Int} {a2 : Int} {r : List Int} (h0 : z1F a0 a1 a2 = some r) : L 89 [.os 1 a0.length (a0.map fun x0 => .sc (.int .u8 x0)), .sc (.int .u64 a1), .sc (.int .i64 a2)] = some (.os 1 r.length (r.map fun x0 => .sc (.int .u8 x0)), [.dead, .dead, .dead]) := by
  simp only [z1F] at h0
  refine z1Q zmK znZ (z0F zpw ⟨of_decide_eq_true rfl, of_decide_eq_true rfl⟩ ?_)
  simp only [z0K, z0H, z0G, z0L, z1S]
  refine zq rfl (zr rfl rfl rfl (by simp; rfl) ?_)
  refine z0a (zq rfl (zq rfl (zr rfl rfl rfl (by simp; rfl) ?_)))
  refine z0a ?_
  by_cases c5 : a2 = 10
  ·rw [if_pos c5] at h0
   have c5e := eq_true c5
   refine z0p rfl (by simp [c5e]) (zq rfl (zq rfl (zr rfl rfl rfl (by simp; rfl) ?_)))
   refine z0a ?_
   by_cases c6 : a1 < 100
   ·rw [if_pos c6] at h0
    refine z0p rfl (by simp [c6]) (zq rfl ?_)
    obtain ⟨v2, f7, h1⟩ := z0b h0
    have f7k := z8G f7
    try simp at f7k
    obtain ⟨f8, h2⟩ := zeh h1
    refine zr rfl rfl rfl (by simp [f7k, f8]; rfl) ?_
    refine z0a (z0o rfl (z0c (z0c ?_)))
    cases h2
    simp
   ·rw [if_neg c6] at h0
    refine z0s rfl (by simp [c6]) (z0n rfl (z0a (zq rfl (zr rfl rfl rfl (by simp; rfl) ?_))))
    refine z0a (zq rfl ?_)
    cases h0
  ·rw [if_neg c5] at h0
   have c5e := eq_false c5
   refine z0s rfl (by simp [c5e]) (z0n rfl (z0a (zq rfl ?_)))
   cases h0
def z2u (a0 : List Int) (a1 : Int) (a2 : Int) : Option (List Int) :=
  if a1 < 0 then
    chk (z1g 1 (a0.length + 1)) <|
    (z1F (a0 ++ [45]) (IntKind.u64.wrap (0 - (IntKind.u64.wrap a1))) a2).bind fun v3 =>
    some v3
  else
    (z1F a0 (IntKind.u64.wrap a1) a2).bind fun v4 =>
    some v4
theorem z6O {a0 : List Int} {a1 : Int} {a2 : Int} {r : List Int} (h0 : z2u a0 a1 a2 = some r) : L 80 [.os 1 a0.length (a0.map fun x0 => .sc (.int .u8 x0)), .sc (.int .i64 a1), .sc (.int .i64 a2)] = some (.os 1 r.length (r.map fun x0 => .sc (.int .u8 x0)), [.dead, .dead, .dead]) := by
  simp only [z2u] at h0
  refine z1Q zmM zo1 (z0F zpy ⟨of_decide_eq_true rfl, of_decide_eq_true rfl⟩ ?_)
  simp only [z0K, z0H, z0G, z0L, z1S]
  refine zq rfl (zr rfl rfl rfl (by simp; rfl) ?_)
  refine z0a (zq rfl (zr rfl rfl rfl (by simp; rfl) ?_))
  refine z0a (zq rfl (zq rfl (zr rfl rfl rfl (by simp; rfl) ?_)))
  refine z0a ?_
  by_cases c5 : a1 < 0
  ·rw [if_pos c5] at h0
   refine z0p rfl (by simp [c5]) (zq rfl ?_)
   obtain ⟨f6, h1⟩ := zeh h0
   refine zr rfl rfl rfl (by simp [f6]; rfl) ?_
   refine z0a (zr rfl rfl rfl (by simp; rfl) ?_)
   refine z0a (zq rfl ?_)
   obtain ⟨v3, f7, h2⟩ := z0b h1
   have f7k := z4k f7
   try simp at f7k
   refine zr rfl rfl rfl (by simp [f7k]; rfl) ?_
   refine z0a (z0o rfl ?_)
   cases h2
   simp
  ·rw [if_neg c5] at h0
   refine z0s rfl (by simp [c5]) (z0n rfl (z0a (zq rfl ?_)))
   obtain ⟨v4, f8, h1⟩ := z0b h0
   have f8k := z4k f8
   try simp at f8k
   refine zr rfl rfl rfl (by simp [f8k]; rfl) ?_
   refine z0a (z0o rfl ?_)
   cases h1
   simp
def z2f (a0 : List Int) (a1 : Int) (a2 : Int) : Option (List Int) :=
  (z2u a0 a1 a2).bind fun v2 =>
  some v2
theorem z7E {a0 : List Int} {a1 : Int} {a2 : Int} {r : List Int} (h0 : z2f a0 a1 a2 = some r) : L 70 [.os 1 a0.length (a0.map fun x0 => .sc (.int .u8 x0)), .sc (.int .i64 a1), .sc (.int .i64 a2)] = some (.os 1 r.length (r.map fun x0 => .sc (.int .u8 x0)), [.dead, .dead, .dead]) := by
  simp only [z2f] at h0
  refine z1Q zmS zo7 (z0F zpE ⟨of_decide_eq_true rfl, of_decide_eq_true rfl⟩ ?_)
  simp only [z0K, z0H, z0G, z0L, z1S]
  refine zq rfl (zr rfl rfl rfl (by simp; rfl) ?_)
  refine z0a (zq rfl ?_)
  obtain ⟨v2, f2, h1⟩ := z0b h0
  have f2k := z6O f2
  try simp at f2k
  refine zr rfl rfl rfl (by simp [f2k]; rfl) ?_
  refine z0a (z0o rfl ?_)
  cases h1
  simp
def z1D (a1 : List Int) : Int × List Int -> Option ((Int × List Int) ⊕ List Int)
  | (w11, w12) =>
  if w11 < (a1.length : Int) then
    (atI a1 w11).bind fun v15 =>
    chk (z1g 1 (w12.length + 1)) <|
    (z2f (w12 ++ [32]) v15 10).bind fun v16 =>
    z0y (IntKind.i64.wrap (w11 + 1), v16)
  else
    z0t <|
    some w12
def z1C (a1 : List Int) : Int × List Int -> Fr
  | (w11, w12) => ⟨21, [(0, .one (.h 0 [])), (7, .one (.t none (.sl a1.length (a1.map fun x0 => .sc (.int .i64 x0))))), (8, .one (.t none (.sc (.int .i64 (a1.length : Int))))), (9, .one (.t none (.sc (.int .i64 w11)))), (999999, .one (.dead))], [(0, .os 1 w12.length (w12.map fun x0 => .sc (.int .u8 x0)))]⟩
def z0M (a0 : List Int) (a1 : List Int) : Option (List Int) :=
  z0E (z1D a1) LFm (0, a0)
theorem z1B {a0 : List Int} {a1 : List Int} {r : List Int} (h0 : z0M a0 a1 = some r) : L 55 [.os 1 a0.length (a0.map fun x0 => .sc (.int .u8 x0)), .sl a1.length (a1.map fun x0 => .sc (.int .i64 x0))] = some (.os 1 r.length (r.map fun x0 => .sc (.int .u8 x0)), [.dead, .dead]) := by
  simp only [z0M] at h0
  refine z1Q zn4 zoj (z0F zpQ ⟨of_decide_eq_true rfl, of_decide_eq_true rfl⟩ ?_)
  simp only [z0K, z0H, z0G, z0L, z1S]
  refine zq rfl (zr rfl rfl rfl (by simp; rfl) ?_)
  refine z0a (zq rfl (zq rfl (zr rfl rfl rfl (by simp; rfl) ?_)))
  refine z0a (zb rfl (z0C h0 (z1C a1) rfl rfl (by simp [z1C]) fun s o1 h1 hr1 => ?_))
  obtain ⟨w11, w12⟩ := s
  simp only [z1D] at h1
  simp only [z1C]
  refine zq rfl (zr rfl rfl rfl (by simp; rfl) ?_)
  refine z0a (zq rfl ?_)
  by_cases c21 : w11 < (a1.length : Int)
  ·rw [if_pos c21] at h1
   refine z0p rfl (by simp [c21]) (z0n rfl (z0a (zq rfl (zb rfl (zq rfl ?_)))))
   obtain ⟨v15, f22, h2⟩ := z1x h1
   refine zr rfl rfl rfl (by simp [f22]; rfl) ?_
   refine z0a (zq rfl ?_)
   obtain ⟨f23, h3⟩ := zeh h2
   refine zr rfl rfl rfl (by simp [f23]; rfl) ?_
   refine z0a ?_
   obtain ⟨v16, f24, h4⟩ := z0b h3
   have f24k := z7E f24
   try simp at f24k
   refine zr rfl rfl rfl (by simp [f24k]; rfl) ?_
   refine z0g (z0a (zr rfl rfl rfl (by simp; rfl) ?_))
   have ho := z0f h4
   refine z0j ho ?_
   simp [z1C]
  ·rw [if_neg c21] at h1
   refine z0s rfl (by simp [c21]) (z0I rfl (z0B ?_))
   obtain ⟨rr1, h2, ho1⟩ := z0d h1
   have hs1 := hr1 _ ho1
   subst hs1
   refine z0v ho1 (z0l rfl (z0a (zq rfl (zr rfl rfl rfl (by simp; rfl) ?_))))
   refine z0a (z0o rfl ?_)
   cases h2
   simp
end
end
section
open Go
noncomputable section
set_option maxRecDepth 100000
set_option maxHeartbeats 1000000
def z2K (rf : Int -> Option (ByteArray)) (a0 : Int) : Option (ByteArray) :=
  if a0 < 10 then
    some ⟨#[UInt8.ofNat (IntKind.u8.wrap (IntKind.i64.wrap (48 + a0))).toNat]⟩
  else
    (rf (zlu .i64 a0 10)).bind fun v2 =>
    chk (z5E v2 ⟨#[UInt8.ofNat (IntKind.u8.wrap (IntKind.i64.wrap (48 + (Int.tmod a0 10)))).toNat]⟩) <|
    some (v2 ++ ⟨#[UInt8.ofNat (IntKind.u8.wrap (IntKind.i64.wrap (48 + (Int.tmod a0 10)))).toNat]⟩)
theorem z9s {rf : Int -> Option (ByteArray)} (ih : ∀ {a0 : Int} {r : ByteArray}, rf a0 = some r -> L 54 [.sc (.int .i64 a0)] = some (.sc (.string r), [.dead])) {a0 : Int} {r : ByteArray} (h0 : z2K rf a0 = some r) : L 54 [.sc (.int .i64 a0)] = some (.sc (.string r), [.dead]) := by
  simp only [z2K] at h0
  refine z1Q zn5 zok (z0F zpR ⟨of_decide_eq_true rfl, of_decide_eq_true rfl⟩ ?_)
  simp only [z0K, z0H, z0G, z0L, z1S]
  refine zq rfl (zr rfl rfl rfl (by simp; rfl) ?_)
  refine z0a (zq rfl (zq rfl (zr rfl rfl rfl (by simp; rfl) ?_)))
  refine z0a ?_
  by_cases c4 : a0 < 10
  ·rw [if_pos c4] at h0
   refine z0p rfl (by simp [c4]) (zq rfl (zr rfl rfl rfl (by simp; rfl) ?_))
   refine z0a (z0o rfl (z0c ?_))
   cases h0
   simp
  ·rw [if_neg c4] at h0
   refine z0s rfl (by simp [c4]) (z0n rfl (z0a (zq rfl ?_)))
   obtain ⟨v2, f5, h1⟩ := z0b h0
   have f5k := ih f5
   try simp at f5k
   obtain ⟨f6, h2⟩ := z1a h1
   refine zjv rfl rfl rfl rfl ?_
   refine z7D rfl rfl (by simp [z1i, z1h, f5k, f6]; rfl) ?_
   refine z7D rfl rfl (by simp [z1i, z1h, f5k, f6]; rfl) ?_
   refine z7D rfl rfl (by simp [z1i, z1h, f5k, f6]; rfl) ?_
   refine z7D rfl rfl (by simp [z1i, z1h, f5k, f6]; rfl) ?_
   refine z7D rfl rfl (by simp [z1i, z1h, f5k, f6]; rfl) ?_
   refine z7D rfl rfl (by simp [z1i, z1h, f5k, f6]; rfl) ?_
   refine zjG ?_
   refine z7D rfl rfl (by simp [z1i, z1h, f5k, f6]; rfl) ?_
   refine z7D rfl rfl (by simp [z1i, z1h, f5k, f6]; rfl) ?_
   refine z7D rfl rfl (by simp [z1i, z1h, f5k, f6]; rfl) ?_
   refine z7D rfl rfl (by simp [z1i, z1h, f5k, f6]; rfl) ?_
   refine z7D rfl rfl (by simp [z1i, z1h, f5k, f6]; rfl) ?_
   refine zjq ?_
   refine ⟨?_, ?_⟩
   ·refine z7D rfl rfl (by simp [z1i, z1h, f5k, f6]; rfl) ?_
    refine z7D rfl rfl (by simp [z1i, z1h, f5k, f6]; rfl) ?_
    refine z7D rfl rfl (by simp [z1i, z1h, f5k, f6]; rfl) ?_
    refine z7D rfl rfl (by simp [z1i, z1h, f5k, f6]; rfl) ?_
    refine z7D rfl rfl (by simp [z1i, z1h, f5k, f6]; rfl) ?_
    refine zjq ?_
    simp [zbo, f5k, f6]
   refine zjr rfl (by simp [f5k, f6]; rfl) ?_
   refine z0a (z0o rfl ?_)
   cases h2
   simp
def z1l : Nat -> Int -> Option (ByteArray)
  | 0 => fun _ => none
  | k + 1 => z2K (z1l k)
theorem z4e : ∀ {k : Nat} {a0 : Int} {r : ByteArray}, z1l k a0 = some r -> L 54 [.sc (.int .i64 a0)] = some (.sc (.string r), [.dead]) := by
  intro k
  induction k with
  | zero => intro a0 r h; cases h
  | succ k ih => intro a0 r h; exact z9s ih h
end
end
section
open Go
noncomputable section
set_option maxRecDepth 100000
set_option maxHeartbeats 1000000
def z1W (w49 : Int) (v61 : CRow) : Int × List Int -> Option ((Int × List Int) ⊕ ((Int × List Int) ⊕ (ByteArray × Int)))
  | (w65, w66) =>
  if w65 < (v61.maps.length : Int) then
    (atI v61.maps w65).bind fun v69 =>
    chk (z1g 1 (w66.length + 2)) <|
    (z0M (w66 ++ (z8F ⟨#[32, 59]⟩)) v69).bind fun v70 =>
    z0y (IntKind.i64.wrap (w65 + 1), v70)
  else
    z0t <|
    chk (z1g 1 (w66.length + 1)) <|
    if 1048576 < ((w66.length : Int) + 1) then
      z0t <|
      some (ByteArray.empty, 3)
    else
      z0y (IntKind.i64.wrap (w49 + 1), w66 ++ [10])
def z2V (a0 : Casc) (w49 : Int) (v61 : CRow) : Int × List Int -> Fr
  | (w65, w66) => ⟨60, [(5, .one (.h 5 [])), (28, .one (.t none (.sl a0.rows.length (a0.rows.flatMap fun x0 => [.sl x0.pre.length (x0.pre.map fun x1 => .sc (.int .i64 x1)), .sl x0.maps.length (x0.maps.map fun x1 => .sl x1.length (x1.map fun x2 => .sc (.int .i64 x2)))])))), (29, .one (.t none (.sc (.int .i64 (a0.rows.length : Int))))), (30, .one (.t none (.sc (.int .i64 w49)))), (40, .one (.t none (.sl v61.maps.length (v61.maps.map fun x0 => .sl x0.length (x0.map fun x1 => .sc (.int .i64 x1)))))), (41, .one (.t none (.sc (.int .i64 (v61.maps.length : Int))))), (42, .one (.t none (.sc (.int .i64 w65))))], [(5, .os 1 w66.length (w66.map fun x0 => .sc (.int .u8 x0)))]⟩
def z3s (a0 : Casc) : Int × List Int -> Option ((Int × List Int) ⊕ (ByteArray × Int))
  | (w49, w50) =>
  if w49 < (a0.rows.length : Int) then
    (atI a0.rows w49).bind fun v61 =>
    chk (z1g 1 (w50.length + 3)) <|
    (z0M (w50 ++ (z8F ⟨#[114, 111, 119]⟩)) v61.pre).bind fun v62 =>
    z0E (z1W w49 v61) LFm (0, v62)
  else
    z0t <|
    some (z0P w50, 0)
def z3r (a0 : Casc) : Int × List Int -> Fr
  | (w49, w50) => ⟨60, [(5, .one (.h 5 [])), (28, .one (.t none (.sl a0.rows.length (a0.rows.flatMap fun x0 => [.sl x0.pre.length (x0.pre.map fun x1 => .sc (.int .i64 x1)), .sl x0.maps.length (x0.maps.map fun x1 => .sl x1.length (x1.map fun x2 => .sc (.int .i64 x2)))])))), (29, .one (.t none (.sc (.int .i64 (a0.rows.length : Int))))), (30, .one (.t none (.sc (.int .i64 w49))))], [(5, .os 1 w50.length (w50.map fun x0 => .sc (.int .u8 x0)))]⟩
def z3C (a0 : Casc) : Option (ByteArray × Int) :=
  (z1n a0).bind fun v36 =>
  if v36 = 0 then
    (z0M [99, 97, 115, 99, 97, 100, 101] [a0.letters]).bind fun v37 =>
    (z0M v37 a0.sizes).bind fun v38 =>
    chk (z1g 1 (v38.length + 1)) <|
    z0E (z3s a0) LFm (0, v38 ++ [10])
  else
    some (ByteArray.empty, v36)
theorem z9e {a0 : Casc} {r : ByteArray × Int} (h0 : z3C a0 = some r) : L 29 [.agg [.sc (.int .i64 a0.letters), .sl a0.sizes.length (a0.sizes.map fun x0 => .sc (.int .i64 x0)), .sl a0.rows.length (a0.rows.flatMap fun x0 => [.sl x0.pre.length (x0.pre.map fun x1 => .sc (.int .i64 x1)), .sl x0.maps.length (x0.maps.map fun x1 => .sl x1.length (x1.map fun x2 => .sc (.int .i64 x2)))])]] = some (.tup [.sc (.string r.1), .sc (.int .i64 r.2)], [.dead]) := by
  simp only [z3C] at h0
  refine z1Q znj zoy (z0F zq5 ⟨of_decide_eq_true rfl, of_decide_eq_true rfl⟩ ?_)
  simp only [z0K, z0H, z0G, z0L, z1S]
  refine zq rfl (zr rfl rfl rfl (by simp; rfl) ?_)
  refine z0a (zq rfl (zq rfl ?_))
  obtain ⟨v36, f60, h1⟩ := z0b h0
  have f60k := z2y f60
  try simp at f60k
  refine zr rfl rfl rfl (by simp [f60k]; rfl) ?_
  refine z0a (zq rfl (zr rfl rfl rfl (by simp; rfl) ?_))
  refine z0a ?_
  by_cases c61 : v36 = 0
  ·rw [if_pos c61] at h1
   have c61e := eq_true c61
   refine z0s rfl (by simp [c61e]) (z0n rfl (z0a (zq rfl ?_)))
   obtain ⟨v37, f62, h2⟩ := z0b h1
   have f62k := z1B f62
   try simp at f62k
   refine zr rfl rfl rfl (by simp [f62k]; rfl) ?_
   refine z0a (zq rfl ?_)
   obtain ⟨v38, f63, h3⟩ := z0b h2
   have f63k := z1B f63
   try simp at f63k
   obtain ⟨f64, h4⟩ := zeh h3
   refine zr rfl rfl rfl (by simp [f63k, f64]; rfl) ?_
   refine z0a (zq rfl (zq rfl (zr rfl rfl rfl (by simp; rfl) ?_)))
   refine z0a (zb rfl (z0C h4 (z3r a0) rfl rfl (by simp [z3r]) fun s o1 h5 hr1 => ?_))
   obtain ⟨w49, w50⟩ := s
   simp only [z3s] at h5
   simp only [z3r]
   refine zq rfl (zr rfl rfl rfl (by simp; rfl) ?_)
   refine z0a (zq rfl ?_)
   by_cases c101 : w49 < (a0.rows.length : Int)
   ·rw [if_pos c101] at h5
    refine z0p rfl (by simp [c101]) (z0n rfl (z0a (zq rfl (zb rfl (zq rfl ?_)))))
    obtain ⟨v61, f102, h6⟩ := z0b h5
    obtain ⟨f102a, f102b, f102c, f102d, f102e⟩ := z0W f102
    have f102g := z1e (g := fun x : CRow => ([.sl x.pre.length (x.pre.map fun x0 => .sc (.int .i64 x0)), .sl x.maps.length (x.maps.map fun x0 => .sl x0.length (x0.map fun x1 => .sc (.int .i64 x1)))] : List T)) (m := 2) (fun _ => rfl) f102d
    have f102h := z1k (g := fun x : CRow => ([.sl x.pre.length (x.pre.map fun x0 => .sc (.int .i64 x0)), .sl x.maps.length (x.maps.map fun x0 => .sl x0.length (x0.map fun x1 => .sc (.int .i64 x1)))] : List T)) (m := 2) (fun _ => rfl) a0.rows
    have f102k0 := f102g.2.2.1 0 (by decide)
    have f102m0 := f102g.2.2.2 0 _ rfl
    have f102k1 := f102g.2.2.1 1 (by decide)
    have f102m1 := f102g.2.2.2 1 _ rfl
    obtain ⟨f102g, f102i, -⟩ := f102g
    try simp at f102i f102h f102k0 f102m0 f102k1 f102m1
    refine zr rfl rfl rfl (by simp [f102a, f102b, f102c, f102d, f102e, f102g, f102i, f102h, f102k0, f102k1, f102m0, f102m1]; rfl) ?_
    refine z0a (zq rfl (zhv rfl rfl (by simp; rfl) ?_))
    obtain ⟨f103, h7⟩ := zeh h6
    obtain ⟨v62, f104, h8⟩ := z0b h7
    have f104k := z1B f104
    try simp at f104k
    refine z1o rfl rfl rfl rfl ?_; repeat' ((first | refine z0D rfl rfl fun Q' hQ => ?_ | refine z0A rfl fun Q' hQ => ?_); simp [f103, f104k]; refine hQ.out _ ?_; clear hQ; clear Q')
    refine z0a (zq rfl (zq rfl (zr rfl rfl rfl (by simp; rfl) ?_)))
    refine z0a (zb rfl (z0C h8 (z2V a0 w49 v61) rfl rfl (by simp [z2V]) fun s o2 h9 hr2 => ?_))
    obtain ⟨w65, w66⟩ := s
    simp only [z1W] at h9
    simp only [z2V]
    refine zq rfl (zr rfl rfl rfl (by simp; rfl) ?_)
    refine z0a (zq rfl ?_)
    by_cases c113 : w65 < (v61.maps.length : Int)
    ·rw [if_pos c113] at h9
     refine z0p rfl (by simp [c113]) (z0n rfl (z0a (zq rfl (zb rfl (zq rfl ?_)))))
     obtain ⟨v69, f114, h10⟩ := z1x h9
     refine zr rfl rfl rfl (by simp [f114]; rfl) ?_
     refine z0a ?_
     obtain ⟨f115, h11⟩ := zeh h10
     obtain ⟨v70, f116, h12⟩ := z0b h11
     have f116k := z1B f116
     try simp at f116k
     refine zr rfl rfl rfl (by simp [f115, f116k]; rfl) ?_
     refine z0g (z0a (zr rfl rfl rfl (by simp; rfl) ?_))
     have ho := z0f h12
     refine z0j ho ?_
     simp [z2V]
    ·rw [if_neg c113] at h9
     refine z0s rfl (by simp [c113]) (z0I rfl (z0B ?_))
     obtain ⟨rr2, h10, ho2⟩ := z0d h9
     have hs2 := hr2 _ ho2
     subst hs2
     refine z0v ho2 (z0l rfl (z0a (zq rfl ?_)))
     obtain ⟨f117, h11⟩ := zeh h10
     refine zr rfl rfl rfl (by simp [f117]; rfl) ?_
     refine z0a (zq rfl (zr rfl rfl rfl (by simp; rfl) ?_))
     refine z0a ?_
     by_cases c118 : 1048576 < ((w66.length : Int) + 1)
     ·rw [if_pos c118] at h11
      refine z0p rfl (by simp [c118]) (zq rfl (zr rfl rfl rfl (by simp; rfl) ?_))
      refine z0a (z0o rfl (z0h (z0c ?_)))
      obtain ⟨rr1, h12, ho1⟩ := z0d h11
      have hs1 := hr1 _ ho1
      subst hs1
      refine z0w ho1 (z0h (z0c ?_))
      cases h12
      simp
     ·rw [if_neg c118] at h11
      refine z0s rfl (by simp [c118]) (z0n rfl (z0g (z0a (zr rfl rfl rfl (by simp; rfl) ?_))))
      have ho := z0f h11
      refine z0j ho ?_
      simp [z3r]
   ·rw [if_neg c101] at h5
    refine z0s rfl (by simp [c101]) (z0I rfl (z0B ?_))
    obtain ⟨rr1, h6, ho1⟩ := z0d h5
    have hs1 := hr1 _ ho1
    subst hs1
    refine z0v ho1 (z0l rfl (z0a (zq rfl (zr rfl rfl rfl (by simp; rfl) ?_))))
    refine z0a (z0o rfl ?_)
    cases h6
    simp
  ·rw [if_neg c61] at h1
   have c61e := eq_false c61
   refine z0p rfl (by simp [c61e]) (zq rfl (zr rfl rfl rfl (by simp; rfl) ?_))
   refine z0a (z0o rfl (z0c ?_))
   cases h1
   simp
def z2B (w234 : Int) (v244 : List Int) : ByteArray × Int -> Option ((ByteArray × Int) ⊕ ((ByteArray × Int) ⊕ ((ByteArray × Int) ⊕ (ByteArray × Int))))
  | (w247, w248) =>
  if w248 < (v244.length : Int) then
    (atI v244 w248).bind fun v251 =>
    (z1l 12 v251).bind fun v252 =>
    chk (z5E ⟨#[32]⟩ v252) <|
    chk (z5E w247 (⟨#[32]⟩ ++ v252)) <|
    z0y (w247 ++ (⟨#[32]⟩ ++ v252), IntKind.i64.wrap (w248 + 1))
  else
    z0t <|
    z0y (w247, IntKind.i64.wrap (w234 + 1))
def z3D (a0 : Casc) (w176 : Int) (v215 : CRow) (w234 : Int) (v244 : List Int) : ByteArray × Int -> Fr
  | (w247, w248) => ⟨91, [(5, .one (.t none (.sc (.string w247)))), (41, .one (.t none (.sl a0.rows.length (a0.rows.flatMap fun x0 => [.sl x0.pre.length (x0.pre.map fun x1 => .sc (.int .i64 x1)), .sl x0.maps.length (x0.maps.map fun x1 => .sl x1.length (x1.map fun x2 => .sc (.int .i64 x2)))])))), (42, .one (.t none (.sc (.int .i64 (a0.rows.length : Int))))), (43, .one (.t none (.sc (.int .i64 w176)))), (63, .one (.t none (.sl v215.maps.length (v215.maps.map fun x0 => .sl x0.length (x0.map fun x1 => .sc (.int .i64 x1)))))), (64, .one (.t none (.sc (.int .i64 (v215.maps.length : Int))))), (65, .one (.t none (.sc (.int .i64 w234)))), (71, .one (.t none (.sl v244.length (v244.map fun x0 => .sc (.int .i64 x0))))), (72, .one (.t none (.sc (.int .i64 (v244.length : Int))))), (73, .one (.t none (.sc (.int .i64 w248))))], []⟩
def z1m (w176 : Int) (v215 : CRow) : ByteArray × Int -> Option ((ByteArray × Int) ⊕ ((ByteArray × Int) ⊕ (ByteArray × Int)))
  | (w233, w234) =>
  if w234 < (v215.maps.length : Int) then
    (atI v215.maps w234).bind fun v244 =>
    chk (z5E w233 ⟨#[32, 59]⟩) <|
    z0E (z2B w234 v244) LFm (w233 ++ ⟨#[32, 59]⟩, 0)
  else
    z0t <|
    chk (z5E w233 ⟨#[10]⟩) <|
    if 1048576 < ((w233.size : Int) + 1) then
      z0t <|
      some (ByteArray.empty, 3)
    else
      z0y (w233 ++ ⟨#[10]⟩, IntKind.i64.wrap (w176 + 1))
def z3E (a0 : Casc) (w176 : Int) (v215 : CRow) : ByteArray × Int -> Fr
  | (w233, w234) => ⟨91, [(5, .one (.t none (.sc (.string w233)))), (41, .one (.t none (.sl a0.rows.length (a0.rows.flatMap fun x0 => [.sl x0.pre.length (x0.pre.map fun x1 => .sc (.int .i64 x1)), .sl x0.maps.length (x0.maps.map fun x1 => .sl x1.length (x1.map fun x2 => .sc (.int .i64 x2)))])))), (42, .one (.t none (.sc (.int .i64 (a0.rows.length : Int))))), (43, .one (.t none (.sc (.int .i64 w176)))), (63, .one (.t none (.sl v215.maps.length (v215.maps.map fun x0 => .sl x0.length (x0.map fun x1 => .sc (.int .i64 x1)))))), (64, .one (.t none (.sc (.int .i64 (v215.maps.length : Int))))), (65, .one (.t none (.sc (.int .i64 w234))))], []⟩
def z2C (w176 : Int) (v215 : CRow) : ByteArray × Int -> Option ((ByteArray × Int) ⊕ ((ByteArray × Int) ⊕ (ByteArray × Int)))
  | (w218, w219) =>
  if w219 < (v215.pre.length : Int) then
    (atI v215.pre w219).bind fun v222 =>
    (z1l 12 v222).bind fun v223 =>
    chk (z5E ⟨#[32]⟩ v223) <|
    chk (z5E w218 (⟨#[32]⟩ ++ v223)) <|
    z0y (w218 ++ (⟨#[32]⟩ ++ v223), IntKind.i64.wrap (w219 + 1))
  else
    z0t <|
    z0E (z1m w176 v215) LFm (w218, 0)
def z3F (a0 : Casc) (w176 : Int) (v215 : CRow) : ByteArray × Int -> Fr
  | (w218, w219) => ⟨91, [(5, .one (.t none (.sc (.string w218)))), (9, .one (.a 9 [] (0))), (41, .one (.t none (.sl a0.rows.length (a0.rows.flatMap fun x0 => [.sl x0.pre.length (x0.pre.map fun x1 => .sc (.int .i64 x1)), .sl x0.maps.length (x0.maps.map fun x1 => .sl x1.length (x1.map fun x2 => .sc (.int .i64 x2)))])))), (42, .one (.t none (.sc (.int .i64 (a0.rows.length : Int))))), (43, .one (.t none (.sc (.int .i64 w176)))), (50, .one (.t none (.sl v215.pre.length (v215.pre.map fun x0 => .sc (.int .i64 x0))))), (51, .one (.t none (.sc (.int .i64 (v215.pre.length : Int))))), (52, .one (.t none (.sc (.int .i64 w219))))], [(9, .vr [.sl v215.pre.length (v215.pre.map fun x0 => .sc (.int .i64 x0)), .sl v215.maps.length (v215.maps.map fun x0 => .sl x0.length (x0.map fun x1 => .sc (.int .i64 x1)))])]⟩
def z3H (a0 : Casc) : ByteArray × Int -> Option ((ByteArray × Int) ⊕ (ByteArray × Int))
  | (w175, w176) =>
  if w176 < (a0.rows.length : Int) then
    (atI a0.rows w176).bind fun v215 =>
    chk (z5E w175 ⟨#[114, 111, 119]⟩) <|
    z0E (z2C w176 v215) LFm (w175 ++ ⟨#[114, 111, 119]⟩, 0)
  else
    z0t <|
    some (w175, 0)
def z3G (a0 : Casc) : ByteArray × Int -> Fr
  | (w175, w176) => ⟨91, [(5, .one (.t none (.sc (.string w175)))), (41, .one (.t none (.sl a0.rows.length (a0.rows.flatMap fun x0 => [.sl x0.pre.length (x0.pre.map fun x1 => .sc (.int .i64 x1)), .sl x0.maps.length (x0.maps.map fun x1 => .sl x1.length (x1.map fun x2 => .sc (.int .i64 x2)))])))), (42, .one (.t none (.sc (.int .i64 (a0.rows.length : Int))))), (43, .one (.t none (.sc (.int .i64 w176))))], []⟩
def z4h (a0 : Casc) : ByteArray × Int -> Option ((ByteArray × Int) ⊕ (ByteArray × Int))
  | (w131, w132) =>
  if w132 < (a0.sizes.length : Int) then
    (atI a0.sizes w132).bind fun v135 =>
    (z1l 12 v135).bind fun v136 =>
    chk (z5E ⟨#[32]⟩ v136) <|
    chk (z5E w131 (⟨#[32]⟩ ++ v136)) <|
    z0y (w131 ++ (⟨#[32]⟩ ++ v136), IntKind.i64.wrap (w132 + 1))
  else
    z0t <|
    chk (z5E w131 ⟨#[10]⟩) <|
    z0E (z3H a0) LFm (w131 ++ ⟨#[10]⟩, 0)
def z4g (a0 : Casc) : ByteArray × Int -> Fr
  | (w131, w132) => ⟨91, [(1, .one (.a 1 [] (0))), (5, .one (.t none (.sc (.string w131)))), (26, .one (.t none (.sl a0.sizes.length (a0.sizes.map fun x0 => .sc (.int .i64 x0))))), (27, .one (.t none (.sc (.int .i64 (a0.sizes.length : Int))))), (28, .one (.t none (.sc (.int .i64 w132))))], [(1, .vr [.sc (.int .i64 a0.letters), .sl a0.sizes.length (a0.sizes.map fun x0 => .sc (.int .i64 x0)), .sl a0.rows.length (a0.rows.flatMap fun x0 => [.sl x0.pre.length (x0.pre.map fun x1 => .sc (.int .i64 x1)), .sl x0.maps.length (x0.maps.map fun x1 => .sl x1.length (x1.map fun x2 => .sc (.int .i64 x2)))])])]⟩
def z4N (a0 : Casc) : Option (ByteArray × Int) :=
  (z1t a0).bind fun v127 =>
  if v127 = 0 then
    (z1l 12 a0.letters).bind fun v128 =>
    chk (z5E ⟨#[99, 97, 115, 99, 97, 100, 101, 32]⟩ v128) <|
    z0E (z4h a0) LFm (⟨#[99, 97, 115, 99, 97, 100, 101, 32]⟩ ++ v128, 0)
  else
    some (ByteArray.empty, v127)
theorem za1 {a0 : Casc} {r : ByteArray × Int} (h0 : z4N a0 = some r) : L 28 [.agg [.sc (.int .i64 a0.letters), .sl a0.sizes.length (a0.sizes.map fun x0 => .sc (.int .i64 x0)), .sl a0.rows.length (a0.rows.flatMap fun x0 => [.sl x0.pre.length (x0.pre.map fun x1 => .sc (.int .i64 x1)), .sl x0.maps.length (x0.maps.map fun x1 => .sl x1.length (x1.map fun x2 => .sc (.int .i64 x2)))])]] = some (.tup [.sc (.string r.1), .sc (.int .i64 r.2)], [.dead]) := by
  simp only [z4N] at h0
  refine z1Q znk zoz (z0F zq6 ⟨of_decide_eq_true rfl, of_decide_eq_true rfl⟩ ?_)
  simp only [z0K, z0H, z0G, z0L, z1S]
  refine zq rfl (zr rfl rfl rfl (by simp; rfl) ?_)
  refine z0a (zq rfl (zq rfl ?_))
  obtain ⟨v127, f243, h1⟩ := z0b h0
  have f243k := z2g f243
  try simp at f243k
  refine zr rfl rfl rfl (by simp [f243k]; rfl) ?_
  refine z0a (zq rfl (zr rfl rfl rfl (by simp; rfl) ?_))
  refine z0a ?_
  by_cases c244 : v127 = 0
  ·rw [if_pos c244] at h1
   have c244e := eq_true c244
   refine z0s rfl (by simp [c244e]) (z0n rfl (z0a (zq rfl ?_)))
   obtain ⟨v128, f245, h2⟩ := z0b h1
   have f245k := z4e f245
   try simp at f245k
   obtain ⟨f246, h3⟩ := z1a h2
   refine zr rfl rfl rfl (by simp [f245k, f246]; rfl) ?_
   refine z0a (zq rfl (zq rfl (zr rfl rfl rfl (by simp; rfl) ?_)))
   refine z0a (zb rfl (z0C h3 (z4g a0) rfl rfl (by simp [z4g]) fun s o1 h4 hr1 => ?_))
   obtain ⟨w131, w132⟩ := s
   simp only [z4h] at h4
   simp only [z4g]
   refine zq rfl (zr rfl rfl rfl (by simp; rfl) ?_)
   refine z0a (zq rfl ?_)
   by_cases c257 : w132 < (a0.sizes.length : Int)
   ·rw [if_pos c257] at h4
    refine z0p rfl (by simp [c257]) (z0n rfl (z0a (zq rfl (zb rfl (zq rfl ?_)))))
    obtain ⟨v135, f258, h5⟩ := z1x h4
    refine zr rfl rfl rfl (by simp [f258]; rfl) ?_
    refine z0a ?_
    obtain ⟨v136, f259, h6⟩ := z0b h5
    have f259k := z4e f259
    try simp at f259k
    obtain ⟨f260, h7⟩ := z1a h6
    obtain ⟨f261, h8⟩ := z1a h7
    refine zr rfl rfl rfl (by simp [f259k, f260, f261]; rfl) ?_
    refine z0g (z0a (zr rfl rfl rfl (by simp; rfl) ?_))
    have ho := z0f h8
    refine z0j ho ?_
    simp [z4g]
   ·rw [if_neg c257] at h4
    refine z0s rfl (by simp [c257]) (z0I rfl (z0B ?_))
    obtain ⟨rr1, h5, ho1⟩ := z0d h4
    have hs1 := hr1 _ ho1
    subst hs1
    refine z0v ho1 (z0l rfl (z0a (zq rfl ?_)))
    obtain ⟨f262, h6⟩ := z1a h5
    refine zr rfl rfl rfl (by simp [f262]; rfl) ?_
    refine z0a (zq rfl (zq rfl (zr rfl rfl rfl (by simp; rfl) ?_)))
    refine z0a (zb rfl (z0C h6 (z3G a0) rfl rfl (by simp [z3G]) fun s o2 h7 hr2 => ?_))
    obtain ⟨w175, w176⟩ := s
    simp only [z3H] at h7
    simp only [z3G]
    refine zq rfl (zr rfl rfl rfl (by simp; rfl) ?_)
    refine z0a (zq rfl ?_)
    by_cases c411 : w176 < (a0.rows.length : Int)
    ·rw [if_pos c411] at h7
     refine z0p rfl (by simp [c411]) (z0n rfl (z0a (zq rfl (zb rfl (zq rfl ?_)))))
     obtain ⟨v215, f412, h8⟩ := z0b h7
     obtain ⟨f412a, f412b, f412c, f412d, f412e⟩ := z0W f412
     have f412g := z1e (g := fun x : CRow => ([.sl x.pre.length (x.pre.map fun x0 => .sc (.int .i64 x0)), .sl x.maps.length (x.maps.map fun x0 => .sl x0.length (x0.map fun x1 => .sc (.int .i64 x1)))] : List T)) (m := 2) (fun _ => rfl) f412d
     have f412h := z1k (g := fun x : CRow => ([.sl x.pre.length (x.pre.map fun x0 => .sc (.int .i64 x0)), .sl x.maps.length (x.maps.map fun x0 => .sl x0.length (x0.map fun x1 => .sc (.int .i64 x1)))] : List T)) (m := 2) (fun _ => rfl) a0.rows
     have f412k0 := f412g.2.2.1 0 (by decide)
     have f412m0 := f412g.2.2.2 0 _ rfl
     have f412k1 := f412g.2.2.1 1 (by decide)
     have f412m1 := f412g.2.2.2 1 _ rfl
     obtain ⟨f412g, f412i, -⟩ := f412g
     try simp at f412i f412h f412k0 f412m0 f412k1 f412m1
     refine zr rfl rfl rfl (by simp [f412a, f412b, f412c, f412d, f412e, f412g, f412i, f412h, f412k0, f412k1, f412m0, f412m1]; rfl) ?_
     refine z0a (zq rfl ?_)
     obtain ⟨f413, h9⟩ := z1a h8
     refine zr rfl rfl rfl (by simp [f413]; rfl) ?_
     refine z0a (zq rfl (zq rfl (zr rfl rfl rfl (by simp; rfl) ?_)))
     refine z0a (zb rfl (z0C h9 (z3F a0 w176 v215) rfl rfl (by simp [z3F]) fun s o3 h10 hr3 => ?_))
     obtain ⟨w218, w219⟩ := s
     simp only [z2C] at h10
     simp only [z3F]
     refine zq rfl (zr rfl rfl rfl (by simp; rfl) ?_)
     refine z0a (zq rfl ?_)
     by_cases c424 : w219 < (v215.pre.length : Int)
     ·rw [if_pos c424] at h10
      refine z0p rfl (by simp [c424]) (z0n rfl (z0a (zq rfl (zb rfl (zq rfl ?_)))))
      obtain ⟨v222, f425, h11⟩ := z1x h10
      refine zr rfl rfl rfl (by simp [f425]; rfl) ?_
      refine z0a ?_
      obtain ⟨v223, f426, h12⟩ := z0b h11
      have f426k := z4e f426
      try simp at f426k
      obtain ⟨f427, h13⟩ := z1a h12
      obtain ⟨f428, h14⟩ := z1a h13
      refine zr rfl rfl rfl (by simp [f426k, f427, f428]; rfl) ?_
      refine z0g (z0a (zr rfl rfl rfl (by simp; rfl) ?_))
      have ho := z0f h14
      refine z0j ho ?_
      simp [z3F]
     ·rw [if_neg c424] at h10
      refine z0s rfl (by simp [c424]) (z0I rfl (z0B ?_))
      obtain ⟨rr3, h11, ho3⟩ := z0d h10
      have hs3 := hr3 _ ho3
      subst hs3
      refine z0v ho3 (z0l rfl (z0a (zq rfl (zq rfl (zr rfl rfl rfl (by simp; rfl) ?_)))))
      refine z0a (zb rfl (z0C h11 (z3E a0 w176 v215) rfl rfl (by simp [z3E]) fun s o4 h12 hr4 => ?_))
      obtain ⟨w233, w234⟩ := s
      simp only [z1m] at h12
      simp only [z3E]
      refine zq rfl (zr rfl rfl rfl (by simp; rfl) ?_)
      refine z0a (zq rfl ?_)
      by_cases c465 : w234 < (v215.maps.length : Int)
      ·rw [if_pos c465] at h12
       refine z0p rfl (by simp [c465]) (z0n rfl (z0a (zq rfl (zb rfl (zq rfl ?_)))))
       obtain ⟨v244, f466, h13⟩ := z1x h12
       refine zr rfl rfl rfl (by simp [f466]; rfl) ?_
       refine z0a (zq rfl ?_)
       obtain ⟨f467, h14⟩ := z1a h13
       refine zr rfl rfl rfl (by simp [f467]; rfl) ?_
       refine z0a (zq rfl (zr rfl rfl rfl (by simp; rfl) ?_))
       refine z0a (zb rfl (z0C h14 (z3D a0 w176 v215 w234 v244) rfl rfl (by simp [z3D]) fun s o5 h15 hr5 => ?_))
       obtain ⟨w247, w248⟩ := s
       simp only [z2B] at h15
       simp only [z3D]
       refine zq rfl (zr rfl rfl rfl (by simp; rfl) ?_)
       refine z0a (zq rfl ?_)
       by_cases c478 : w248 < (v244.length : Int)
       ·rw [if_pos c478] at h15
        refine z0p rfl (by simp [c478]) (z0n rfl (z0a (zq rfl (zb rfl (zq rfl ?_)))))
        obtain ⟨v251, f479, h16⟩ := z1x h15
        refine zr rfl rfl rfl (by simp [f479]; rfl) ?_
        refine z0a ?_
        obtain ⟨v252, f480, h17⟩ := z0b h16
        have f480k := z4e f480
        try simp at f480k
        obtain ⟨f481, h18⟩ := z1a h17
        obtain ⟨f482, h19⟩ := z1a h18
        refine zr rfl rfl rfl (by simp [f480k, f481, f482]; rfl) ?_
        refine z0g (z0a (zr rfl rfl rfl (by simp; rfl) ?_))
        have ho := z0f h19
        refine z0j ho ?_
        simp [z3D]
       ·rw [if_neg c478] at h15
        refine z0s rfl (by simp [c478]) (z0I rfl (z0B ?_))
        obtain ⟨rr5, h16, ho5⟩ := z0d h15
        have hs5 := hr5 _ ho5
        subst hs5
        refine z0v ho5 (z0l rfl (z0g (z0a (zr rfl rfl rfl (by simp; rfl) ?_))))
        have ho := z0f h16
        refine z0j ho ?_
        simp [z3E]
      ·rw [if_neg c465] at h12
       refine z0s rfl (by simp [c465]) (z0I rfl (z0B ?_))
       obtain ⟨rr4, h13, ho4⟩ := z0d h12
       have hs4 := hr4 _ ho4
       subst hs4
       refine z0v ho4 (z0l rfl (z0a (zq rfl ?_)))
       obtain ⟨f483, h14⟩ := z1a h13
       refine zr rfl rfl rfl (by simp [f483]; rfl) ?_
       refine z0a (zq rfl (zr rfl rfl rfl (by simp; rfl) ?_))
       refine z0a ?_
       by_cases c484 : 1048576 < ((w233.size : Int) + 1)
       ·rw [if_pos c484] at h14
        refine z0p rfl (by simp [c484]) (zq rfl (zr rfl rfl rfl (by simp; rfl) ?_))
        refine z0a (z0o rfl (z0h (z0c ?_)))
        obtain ⟨rr2, h15, ho2⟩ := z0d h14
        have hs2 := hr2 _ ho2
        subst hs2
        refine z0w ho2 (z0h (z0c ?_))
        cases h15
        simp
       ·rw [if_neg c484] at h14
        refine z0s rfl (by simp [c484]) (z0n rfl (z0g (z0a (zr rfl rfl rfl (by simp; rfl) ?_))))
        have ho := z0f h14
        refine z0j ho ?_
        simp [z3G]
    ·rw [if_neg c411] at h7
     refine z0s rfl (by simp [c411]) (z0I rfl (z0B ?_))
     obtain ⟨rr2, h8, ho2⟩ := z0d h7
     have hs2 := hr2 _ ho2
     subst hs2
     refine z0v ho2 (z0l rfl (z0a (zq rfl (zr rfl rfl rfl (by simp; rfl) ?_))))
     refine z0a (z0o rfl ?_)
     cases h8
     simp
  ·rw [if_neg c244] at h1
   have c244e := eq_false c244
   refine z0p rfl (by simp [c244e]) (zq rfl (zr rfl rfl rfl (by simp; rfl) ?_))
   refine z0a (z0o rfl (z0c ?_))
   cases h1
   simp
def z3I (a0 : Int) : Option (Bool) :=
  if 1 <= a0 then
    some (decide (a0 <= 6))
  else
    some false
theorem z7V {a0 : Int} {r : Bool} (h0 : z3I a0 = some r) : L 75 [.sc (.int .i64 a0)] = some (.sc (.bool r), [.dead]) := by
  simp only [z3I] at h0
  refine z1Q zmN zo2 (z0F zpz ⟨of_decide_eq_true rfl, of_decide_eq_true rfl⟩ ?_)
  simp only [z0K, z0H, z0G, z0L, z1S]
  refine zq rfl (zr rfl rfl rfl (by simp; rfl) ?_)
  refine z0a (zq rfl ?_)
  by_cases c2 : 1 <= a0
  ·rw [if_pos c2] at h0
   refine zr rfl rfl rfl (by simp [c2]; rfl) ?_
   refine z0a (z0o rfl ?_)
   cases h0
   simp
  ·rw [if_neg c2] at h0
   refine zr rfl rfl rfl (by simp [c2]; rfl) ?_
   refine z0a (z0o rfl ?_)
   cases h0
   simp
def z3A (a0 : ByteArray) (a1 : Int) : Int -> Option (Int ⊕ Bool)
  | w12 =>
  if w12 < (a0.size : Int) then
    (zbY a0 w12).bind fun v15 =>
    if v15 < 97 then
      z0t <|
      some false
    else
      if a1 <= (IntKind.i64.wrap (IntKind.u8.wrap (v15 - 97))) then
        z0t <|
        some false
      else
        z0y (IntKind.i64.wrap (w12 + 1))
  else
    z0t <|
    some true
def z4F (a0 : ByteArray) (a1 : Int) : Int -> Fr
  | w12 => ⟨33, [(0, .one (.t none (.sc (.string a0)))), (1, .one (.t none (.sc (.int .i64 a1)))), (5, .one (.t none (.sc (.int .i64 w12))))], []⟩
def z5x (a0 : ByteArray) (a1 : Int) : Option (Bool) :=
  (z3I a1).bind fun v9 =>
  if v9 = true then
    if 2048 < (a0.size : Int) then
      some false
    else
      z0E (z3A a0 a1) LFm 0
  else
    some false
theorem zaB {a0 : ByteArray} {a1 : Int} {r : Bool} (h0 : z5x a0 a1 = some r) : L 66 [.sc (.string a0), .sc (.int .i64 a1)] = some (.sc (.bool r), [.dead, .dead]) := by
  simp only [z5x] at h0
  refine z1Q zmT zo8 (z0F zpF ⟨of_decide_eq_true rfl, of_decide_eq_true rfl⟩ ?_)
  simp only [z0K, z0H, z0G, z0L, z1S]
  refine zq rfl (zr rfl rfl rfl (by simp; rfl) ?_)
  refine z0a (zq rfl (zq rfl ?_))
  obtain ⟨v9, f16, h1⟩ := z0b h0
  have f16k := z7V f16
  try simp at f16k
  by_cases c17 : v9 = true
  ·rw [if_pos c17] at h1
   refine zr rfl rfl rfl (by simp [f16k, c17]; rfl) ?_
   refine z0a ?_
   by_cases c18 : 2048 < (a0.size : Int)
   ·rw [if_pos c18] at h1
    refine z0p rfl (by simp [c18]) (zq rfl (zr rfl rfl rfl (by simp; rfl) ?_))
    refine z0a (z0o rfl (z0c ?_))
    cases h1
    simp [c17]
   ·rw [if_neg c18] at h1
    refine z0s rfl (by simp [c18]) (z0n rfl (z0a (zq rfl (zq rfl (zr rfl rfl rfl (by simp; rfl) ?_)))))
    refine z0a (zb rfl (z0C h1 (z4F a0 a1) rfl rfl (by simp [z4F]) fun s o1 h2 hr1 => ?_))
    obtain ⟨w12, hs1⟩ : ∃ y, y = s := ⟨_, rfl⟩
    subst hs1
    simp only [z3A] at h2
    simp only [z4F]
    refine zq rfl (zq rfl (zr rfl rfl rfl (by simp; rfl) ?_))
    refine z0a ?_
    by_cases c27 : w12 < (a0.size : Int)
    ·rw [if_pos c27] at h2
     refine z0p rfl (by simp [c27]) (z0n rfl (z0a (zq rfl (zb rfl (zq rfl ?_)))))
     obtain ⟨v15, f28, h3⟩ := z0b h2
     obtain ⟨f28a, f28b, f28w, f28c, f28d, f28g⟩ := z6q f28
     have f28d := f28d.symm
     by_cases c29 : v15 < 97
     ·rw [if_pos c29] at h3
      refine zr rfl rfl rfl (by simp [f28a, f28b, f28c, f28d, f28g, c29]; rfl) ?_
      refine z0a (z0p rfl (by simp) (zq rfl (zr rfl rfl rfl (by simp; rfl) ?_)))
      refine z0a (z0o rfl (z0h (z0c ?_)))
      obtain ⟨rr1, h4, ho1⟩ := z0d h3
      have hs1 := hr1 _ ho1
      subst hs1
      refine z0w ho1 (z0h (z0c ?_))
      cases h4
      simp
     ·rw [if_neg c29] at h3
      refine zr rfl rfl rfl (by simp [f28a, f28b, f28c, f28d, f28g, c29]; rfl) ?_
      refine z0a ?_
      by_cases c30 : a1 <= (IntKind.i64.wrap (IntKind.u8.wrap (v15 - 97)))
      ·rw [if_pos c30] at h3
       refine z0p rfl (by simp [c30]) (zq rfl (zr rfl rfl rfl (by simp; rfl) ?_))
       refine z0a (z0o rfl (z0h (z0c ?_)))
       obtain ⟨rr1, h4, ho1⟩ := z0d h3
       have hs1 := hr1 _ ho1
       subst hs1
       refine z0w ho1 (z0h (z0c ?_))
       cases h4
       simp
      ·rw [if_neg c30] at h3
       refine z0s rfl (by simp [c30]) (z0n rfl (z0g (z0a (zr rfl rfl rfl (by simp; rfl) ?_))))
       have ho := z0f h3
       refine z0j ho ?_
       simp [z4F]
    ·rw [if_neg c27] at h2
     refine z0s rfl (by simp [c27]) (z0I rfl (z0B ?_))
     obtain ⟨rr1, h3, ho1⟩ := z0d h2
     have hs1 := hr1 _ ho1
     subst hs1
     refine z0v ho1 (z0l rfl (z0a (zq rfl (zr rfl rfl rfl (by simp; rfl) ?_))))
     refine z0a (z0o rfl ?_)
     cases h3
     simp
  ·rw [if_neg c17] at h1
   refine zr rfl rfl rfl (by simp [f16k, c17]; rfl) ?_
   refine z0a (z0p rfl (by simp) (zq rfl (zr rfl rfl rfl (by simp; rfl) ?_)))
   refine z0a (z0o rfl (z0c ?_))
   cases h1
   simp [c17]
end
end
section
open Go
noncomputable section
set_option maxRecDepth 100000
set_option maxHeartbeats 1000000
end
end
section
open Go
noncomputable section
set_option maxRecDepth 100000
set_option maxHeartbeats 1000000
def z6u (a0 : List Int) (w66 : Int) (v89 : Int) (v90 : Int) : Bool × Int -> Option ((Bool × Int) ⊕ ((Bool × Bool × Bool × Int) ⊕ (Bool × Bool × Bool)))
  | (w92, w93) =>
  if w93 < w66 then
    if w92 = true then
      (atI a0 w93).bind fun v95 =>
      z0y (!decide (v95 = v89), IntKind.i64.wrap (w93 + 1))
    else
      z0y (false, IntKind.i64.wrap (w93 + 1))
  else
    z0t <|
    z0y (w92, decide (v89 = v90), decide (v89 = w66), IntKind.i64.wrap (w66 + 1))
def z4d (a0 : List Int) (w66 : Int) (v89 : Int) (v90 : Int) : Bool × Int -> Fr
  | (w92, w93) => ⟨47, [(0, .one (.t none (.sl a0.length (a0.map fun x0 => .sc (.int .i64 x0))))), (2, .one (.t none (.sc (.bool w92)))), (3, .one (.t none (.sc (.bool (decide (v89 = v90)))))), (4, .one (.t none (.sc (.bool (decide (v89 = w66)))))), (5, .one (.t none (.sc (.int .i64 w66)))), (6, .one (.t none (.sc (.int .i64 v89)))), (7, .one (.t none (.sc (.int .i64 w93)))), (8, .one (.t none (.sl a0.length (a0.map fun x0 => .sc (.int .i64 x0))))), (9, .one (.t none (.sc (.int .i64 (a0.length : Int))))), (10, .one (.t none (.sc (.int .i64 w66))))], []⟩
def z5T (a0 : List Int) (w66 : Int) (v89 : Int) (v90 : Int) : Bool × Int -> Option ((Bool × Int) ⊕ ((Bool × Bool × Bool × Int) ⊕ (Bool × Bool × Bool)))
  | (w97, w98) =>
  if w98 < w66 then
    if w97 = true then
      (atI a0 w98).bind fun v100 =>
      z0y (!decide (v100 = v89), IntKind.i64.wrap (w98 + 1))
    else
      z0y (false, IntKind.i64.wrap (w98 + 1))
  else
    z0t <|
    z0y (w97, decide (v89 = v90), false, IntKind.i64.wrap (w66 + 1))
def z3z (a0 : List Int) (w66 : Int) (v89 : Int) (v90 : Int) : Bool × Int -> Fr
  | (w97, w98) => ⟨47, [(0, .one (.t none (.sl a0.length (a0.map fun x0 => .sc (.int .i64 x0))))), (2, .one (.t none (.sc (.bool w97)))), (3, .one (.t none (.sc (.bool (decide (v89 = v90)))))), (4, .one (.t none (.sc (.bool false)))), (5, .one (.t none (.sc (.int .i64 w66)))), (6, .one (.t none (.sc (.int .i64 v89)))), (7, .one (.t none (.sc (.int .i64 w98)))), (8, .one (.t none (.sl a0.length (a0.map fun x0 => .sc (.int .i64 x0))))), (9, .one (.t none (.sc (.int .i64 (a0.length : Int))))), (10, .one (.t none (.sc (.int .i64 w66))))], []⟩
def z5S (a0 : List Int) (w66 : Int) (v89 : Int) : Bool × Int -> Option ((Bool × Int) ⊕ ((Bool × Bool × Bool × Int) ⊕ (Bool × Bool × Bool)))
  | (w102, w103) =>
  if w103 < w66 then
    if w102 = true then
      (atI a0 w103).bind fun v105 =>
      z0y (!decide (v105 = v89), IntKind.i64.wrap (w103 + 1))
    else
      z0y (false, IntKind.i64.wrap (w103 + 1))
  else
    z0t <|
    z0y (w102, false, decide (v89 = w66), IntKind.i64.wrap (w66 + 1))
def z3y (a0 : List Int) (w66 : Int) (v89 : Int) : Bool × Int -> Fr
  | (w102, w103) => ⟨47, [(0, .one (.t none (.sl a0.length (a0.map fun x0 => .sc (.int .i64 x0))))), (2, .one (.t none (.sc (.bool w102)))), (3, .one (.t none (.sc (.bool false)))), (4, .one (.t none (.sc (.bool (decide (v89 = w66)))))), (5, .one (.t none (.sc (.int .i64 w66)))), (6, .one (.t none (.sc (.int .i64 v89)))), (7, .one (.t none (.sc (.int .i64 w103)))), (8, .one (.t none (.sl a0.length (a0.map fun x0 => .sc (.int .i64 x0))))), (9, .one (.t none (.sc (.int .i64 (a0.length : Int))))), (10, .one (.t none (.sc (.int .i64 w66))))], []⟩
def z5R (a0 : List Int) (w66 : Int) (v89 : Int) : Bool × Int -> Option ((Bool × Int) ⊕ ((Bool × Bool × Bool × Int) ⊕ (Bool × Bool × Bool)))
  | (w107, w108) =>
  if w108 < w66 then
    if w107 = true then
      (atI a0 w108).bind fun v110 =>
      z0y (!decide (v110 = v89), IntKind.i64.wrap (w108 + 1))
    else
      z0y (false, IntKind.i64.wrap (w108 + 1))
  else
    z0t <|
    z0y (w107, false, false, IntKind.i64.wrap (w66 + 1))
def z3x (a0 : List Int) (w66 : Int) (v89 : Int) : Bool × Int -> Fr
  | (w107, w108) => ⟨47, [(0, .one (.t none (.sl a0.length (a0.map fun x0 => .sc (.int .i64 x0))))), (2, .one (.t none (.sc (.bool w107)))), (3, .one (.t none (.sc (.bool false)))), (4, .one (.t none (.sc (.bool false)))), (5, .one (.t none (.sc (.int .i64 w66)))), (6, .one (.t none (.sc (.int .i64 v89)))), (7, .one (.t none (.sc (.int .i64 w108)))), (8, .one (.t none (.sl a0.length (a0.map fun x0 => .sc (.int .i64 x0))))), (9, .one (.t none (.sc (.int .i64 (a0.length : Int))))), (10, .one (.t none (.sc (.int .i64 w66))))], []⟩
def z5a (a0 : List Int) : Bool × Bool × Bool × Int -> Option ((Bool × Bool × Bool × Int) ⊕ (Bool × Bool × Bool))
  | (w63, w64, w65, w66) =>
  if w66 < (a0.length : Int) then
    (atI a0 w66).bind fun v89 =>
    if w64 = true then
      (atI a0 0).bind fun v90 =>
      if w65 = true then
        z0E (z6u a0 w66 v89 v90) LFm (w63, 0)
      else
        z0E (z5T a0 w66 v89 v90) LFm (w63, 0)
    else
      if w65 = true then
        z0E (z5S a0 w66 v89) LFm (w63, 0)
      else
        z0E (z5R a0 w66 v89) LFm (w63, 0)
  else
    z0t <|
    some (w63, w64, w65)
def z2p (a0 : List Int) : Bool × Bool × Bool × Int -> Fr
  | (w63, w64, w65, w66) => ⟨47, [(0, .one (.t none (.sl a0.length (a0.map fun x0 => .sc (.int .i64 x0))))), (2, .one (.t none (.sc (.bool w63)))), (3, .one (.t none (.sc (.bool w64)))), (4, .one (.t none (.sc (.bool w65)))), (8, .one (.t none (.sl a0.length (a0.map fun x0 => .sc (.int .i64 x0))))), (9, .one (.t none (.sc (.int .i64 (a0.length : Int))))), (10, .one (.t none (.sc (.int .i64 w66))))], []⟩
def z6c (a0 : List Int) : Option (Bool × Bool × Bool) :=
  z0E (z5a a0) LFm (true, true, true, 0)
theorem zbq {a0 : List Int} {r : Bool × Bool × Bool} (h0 : z6c a0 = some r) : L 65 [.sl a0.length (a0.map fun x0 => .sc (.int .i64 x0))] = some (.tup [.sc (.bool r.1), .sc (.bool r.2.1), .sc (.bool r.2.2)], [.dead]) := by
  simp only [z6c] at h0
  refine z1Q zmU zo9 (z0F zpG ⟨of_decide_eq_true rfl, of_decide_eq_true rfl⟩ ?_)
  simp only [z0K, z0H, z0G, z0L, z1S]
  refine zq rfl (zr rfl rfl rfl (by simp; rfl) ?_)
  refine z0a (zq rfl (zr rfl rfl rfl (by simp; rfl) ?_))
  refine z0a (zq rfl (zq rfl (zr rfl rfl rfl (by simp; rfl) ?_)))
  refine z0a (zb rfl (z0C h0 (z2p a0) rfl rfl (by simp [z2p]) fun s o1 h1 hr1 => ?_))
  obtain ⟨w63, w64, w65, w66⟩ := s
  simp only [z5a] at h1
  simp only [z2p]
  refine zq rfl (zr rfl rfl rfl (by simp; rfl) ?_)
  refine z0a (zq rfl ?_)
  by_cases c147 : w66 < (a0.length : Int)
  ·rw [if_pos c147] at h1
   refine z0p rfl (by simp [c147]) (z0n rfl (z0a (zq rfl (zb rfl (zq rfl ?_)))))
   obtain ⟨v89, f148, h2⟩ := z1x h1
   refine zr rfl rfl rfl (by simp [f148]; rfl) ?_
   refine z0a (zq rfl ?_)
   by_cases c149 : w64 = true
   ·rw [if_pos c149] at h2
    obtain ⟨v90, f150, h3⟩ := z0b h2
    obtain ⟨f150a, f150b, f150c, f150d, f150e⟩ := z0W f150
    simp only [Int.reduceToNat, Int.toNat_natCast] at f150c f150d f150e
    have f150j : a0 ≠ [] := by intro hh; rw [hh] at f150c; simp at f150c
    have f150l : 0 < a0.length := by omega
    refine zr rfl rfl rfl (by simp [c149, f150a, f150b, f150c, f150d, f150e, f150j, f150l]; rfl) ?_
    refine z0a (zq rfl ?_)
    by_cases c151 : w65 = true
    ·rw [if_pos c151] at h3
     refine zr rfl rfl rfl (by simp [c151]; rfl) ?_
     refine z0a (zq rfl (zr rfl rfl rfl (by simp; rfl) ?_))
     refine z0a (zb rfl (z0C h3 (z4d a0 w66 v89 v90) rfl rfl (by simp [z4d]) fun s o2 h4 hr2 => ?_))
     obtain ⟨w92, w93⟩ := s
     simp only [z6u] at h4
     simp only [z4d]
     refine zq rfl (zq rfl (zr rfl rfl rfl (by simp; rfl) ?_))
     refine z0a ?_
     by_cases c158 : w93 < w66
     ·rw [if_pos c158] at h4
      refine z0p rfl (by simp [c158]) (z0n rfl (z0a (zq rfl (zb rfl ?_))))
      by_cases c159 : w92 = true
      ·rw [if_pos c159] at h4
       obtain ⟨v95, f160, h5⟩ := z1x h4
       refine zr rfl rfl rfl (by simp [c159, f160]; rfl) ?_
       refine z0g (z0a (zr rfl rfl rfl (by simp; rfl) ?_))
       have ho := z0f h5
       refine z0j ho ?_
       simp [z4d, c159]
      ·rw [if_neg c159] at h4
       refine zr rfl rfl rfl (by simp [c159]; rfl) ?_
       refine z0g (z0a (zr rfl rfl rfl (by simp; rfl) ?_))
       have ho := z0f h4
       refine z0j ho ?_
       simp [z4d, c159]
     ·rw [if_neg c158] at h4
      refine z0s rfl (by simp [c158]) (z0I rfl (z0B ?_))
      obtain ⟨rr2, h5, ho2⟩ := z0d h4
      have hs2 := hr2 _ ho2
      subst hs2
      refine z0v ho2 (z0l rfl (z0g (z0a (zr rfl rfl rfl (by simp; rfl) ?_))))
      have ho := z0f h5
      refine z0j ho ?_
      simp [z2p]
    ·rw [if_neg c151] at h3
     refine zr rfl rfl rfl (by simp [c151]; rfl) ?_
     refine z0a (zq rfl (zr rfl rfl rfl (by simp; rfl) ?_))
     refine z0a (zb rfl (z0C h3 (z3z a0 w66 v89 v90) rfl rfl (by simp [z3z]) fun s o3 h4 hr3 => ?_))
     obtain ⟨w97, w98⟩ := s
     simp only [z5T] at h4
     simp only [z3z]
     refine zq rfl (zq rfl (zr rfl rfl rfl (by simp; rfl) ?_))
     refine z0a ?_
     by_cases c167 : w98 < w66
     ·rw [if_pos c167] at h4
      refine z0p rfl (by simp [c167]) (z0n rfl (z0a (zq rfl (zb rfl ?_))))
      by_cases c168 : w97 = true
      ·rw [if_pos c168] at h4
       obtain ⟨v100, f169, h5⟩ := z1x h4
       refine zr rfl rfl rfl (by simp [c168, f169]; rfl) ?_
       refine z0g (z0a (zr rfl rfl rfl (by simp; rfl) ?_))
       have ho := z0f h5
       refine z0j ho ?_
       simp [z3z, c168]
      ·rw [if_neg c168] at h4
       refine zr rfl rfl rfl (by simp [c168]; rfl) ?_
       refine z0g (z0a (zr rfl rfl rfl (by simp; rfl) ?_))
       have ho := z0f h4
       refine z0j ho ?_
       simp [z3z, c168]
     ·rw [if_neg c167] at h4
      refine z0s rfl (by simp [c167]) (z0I rfl (z0B ?_))
      obtain ⟨rr3, h5, ho3⟩ := z0d h4
      have hs3 := hr3 _ ho3
      subst hs3
      refine z0v ho3 (z0l rfl (z0g (z0a (zr rfl rfl rfl (by simp; rfl) ?_))))
      have ho := z0f h5
      refine z0j ho ?_
      simp [z2p]
   ·rw [if_neg c149] at h2
    refine zr rfl rfl rfl (by simp [c149]; rfl) ?_
    refine z0a (zq rfl ?_)
    by_cases c170 : w65 = true
    ·rw [if_pos c170] at h2
     refine zr rfl rfl rfl (by simp [c170]; rfl) ?_
     refine z0a (zq rfl (zr rfl rfl rfl (by simp; rfl) ?_))
     refine z0a (zb rfl (z0C h2 (z3y a0 w66 v89) rfl rfl (by simp [z3y]) fun s o4 h3 hr4 => ?_))
     obtain ⟨w102, w103⟩ := s
     simp only [z5S] at h3
     simp only [z3y]
     refine zq rfl (zq rfl (zr rfl rfl rfl (by simp; rfl) ?_))
     refine z0a ?_
     by_cases c177 : w103 < w66
     ·rw [if_pos c177] at h3
      refine z0p rfl (by simp [c177]) (z0n rfl (z0a (zq rfl (zb rfl ?_))))
      by_cases c178 : w102 = true
      ·rw [if_pos c178] at h3
       obtain ⟨v105, f179, h4⟩ := z1x h3
       refine zr rfl rfl rfl (by simp [c178, f179]; rfl) ?_
       refine z0g (z0a (zr rfl rfl rfl (by simp; rfl) ?_))
       have ho := z0f h4
       refine z0j ho ?_
       simp [z3y, c178]
      ·rw [if_neg c178] at h3
       refine zr rfl rfl rfl (by simp [c178]; rfl) ?_
       refine z0g (z0a (zr rfl rfl rfl (by simp; rfl) ?_))
       have ho := z0f h3
       refine z0j ho ?_
       simp [z3y, c178]
     ·rw [if_neg c177] at h3
      refine z0s rfl (by simp [c177]) (z0I rfl (z0B ?_))
      obtain ⟨rr4, h4, ho4⟩ := z0d h3
      have hs4 := hr4 _ ho4
      subst hs4
      refine z0v ho4 (z0l rfl (z0g (z0a (zr rfl rfl rfl (by simp; rfl) ?_))))
      have ho := z0f h4
      refine z0j ho ?_
      simp [z2p]
    ·rw [if_neg c170] at h2
     refine zr rfl rfl rfl (by simp [c170]; rfl) ?_
     refine z0a (zq rfl (zr rfl rfl rfl (by simp; rfl) ?_))
     refine z0a (zb rfl (z0C h2 (z3x a0 w66 v89) rfl rfl (by simp [z3x]) fun s o5 h3 hr5 => ?_))
     obtain ⟨w107, w108⟩ := s
     simp only [z5R] at h3
     simp only [z3x]
     refine zq rfl (zq rfl (zr rfl rfl rfl (by simp; rfl) ?_))
     refine z0a ?_
     by_cases c186 : w108 < w66
     ·rw [if_pos c186] at h3
      refine z0p rfl (by simp [c186]) (z0n rfl (z0a (zq rfl (zb rfl ?_))))
      by_cases c187 : w107 = true
      ·rw [if_pos c187] at h3
       obtain ⟨v110, f188, h4⟩ := z1x h3
       refine zr rfl rfl rfl (by simp [c187, f188]; rfl) ?_
       refine z0g (z0a (zr rfl rfl rfl (by simp; rfl) ?_))
       have ho := z0f h4
       refine z0j ho ?_
       simp [z3x, c187]
      ·rw [if_neg c187] at h3
       refine zr rfl rfl rfl (by simp [c187]; rfl) ?_
       refine z0g (z0a (zr rfl rfl rfl (by simp; rfl) ?_))
       have ho := z0f h3
       refine z0j ho ?_
       simp [z3x, c187]
     ·rw [if_neg c186] at h3
      refine z0s rfl (by simp [c186]) (z0I rfl (z0B ?_))
      obtain ⟨rr5, h4, ho5⟩ := z0d h3
      have hs5 := hr5 _ ho5
      subst hs5
      refine z0v ho5 (z0l rfl (z0g (z0a (zr rfl rfl rfl (by simp; rfl) ?_))))
      have ho := z0f h4
      refine z0j ho ?_
      simp [z2p]
  ·rw [if_neg c147] at h1
   refine z0s rfl (by simp [c147]) (z0I rfl (z0B ?_))
   obtain ⟨rr1, h2, ho1⟩ := z0d h1
   have hs1 := hr1 _ ho1
   subst hs1
   refine z0v ho1 (z0l rfl (z0a (zq rfl (zr rfl rfl rfl (by simp; rfl) ?_))))
   refine z0a (z0o rfl ?_)
   cases h2
   simp
def z2h (w169 : Int) (w228 : Int) (v241 : CRow) : Bool × Bool × Bool × Bool × Int -> Option ((Bool × Bool × Bool × Bool × Int) ⊕ ((Bool × Bool × Bool × Bool × Int) ⊕ ((Int × List Int) ⊕ List Int)))
  | (w244, w245, w246, w247, w248) =>
  if w248 < (v241.maps.length : Int) then
    (atI v241.maps w248).bind fun v251 =>
    if (v241.pre.length : Int) = w169 then
      (z6c v251).bind fun v252 =>
      if w245 = true then
        if w246 = true then
          if v252.2.1 = true then
            if w247 = true then
              if v252.1 = true then
                z0y (true, v252.1, true, true, IntKind.i64.wrap (w248 + 1))
              else
                z0y (true, v252.1, true, v252.2.1, IntKind.i64.wrap (w248 + 1))
            else
              z0y (true, v252.1, true, false, IntKind.i64.wrap (w248 + 1))
          else
            if w247 = true then
              if v252.1 = true then
                z0y (true, v252.1, v252.2.2, true, IntKind.i64.wrap (w248 + 1))
              else
                z0y (true, v252.1, v252.2.2, v252.2.1, IntKind.i64.wrap (w248 + 1))
            else
              z0y (true, v252.1, v252.2.2, false, IntKind.i64.wrap (w248 + 1))
        else
          if w247 = true then
            if v252.1 = true then
              z0y (true, v252.1, false, true, IntKind.i64.wrap (w248 + 1))
            else
              z0y (true, v252.1, false, v252.2.1, IntKind.i64.wrap (w248 + 1))
          else
            z0y (true, v252.1, false, false, IntKind.i64.wrap (w248 + 1))
      else
        if w246 = true then
          if v252.2.1 = true then
            if w247 = true then
              if v252.1 = true then
                z0y (true, false, true, true, IntKind.i64.wrap (w248 + 1))
              else
                z0y (true, false, true, v252.2.1, IntKind.i64.wrap (w248 + 1))
            else
              z0y (true, false, true, false, IntKind.i64.wrap (w248 + 1))
          else
            if w247 = true then
              if v252.1 = true then
                z0y (true, false, v252.2.2, true, IntKind.i64.wrap (w248 + 1))
              else
                z0y (true, false, v252.2.2, v252.2.1, IntKind.i64.wrap (w248 + 1))
            else
              z0y (true, false, v252.2.2, false, IntKind.i64.wrap (w248 + 1))
        else
          if w247 = true then
            if v252.1 = true then
              z0y (true, false, false, true, IntKind.i64.wrap (w248 + 1))
            else
              z0y (true, false, false, v252.2.1, IntKind.i64.wrap (w248 + 1))
          else
            z0y (true, false, false, false, IntKind.i64.wrap (w248 + 1))
    else
      z0y (w244, w245, w246, w247, IntKind.i64.wrap (w248 + 1))
  else
    z0t <|
    z0y (w244, w245, w246, w247, IntKind.i64.wrap (w228 + 1))
def z0u (a0 : Casc) (w169 : Int) (w170 : List Int) (w228 : Int) (v241 : CRow) : Bool × Bool × Bool × Bool × Int -> Fr
  | (w244, w245, w246, w247, w248) => ⟨96, [(1, .one (.a 1 [] (0))), (3, .one (.h 3 [])), (4, .one (.t none (.sc (.int .i64 w169)))), (5, .one (.t none (.sc (.bool w244)))), (6, .one (.t none (.sc (.bool w245)))), (7, .one (.t none (.sc (.bool w246)))), (8, .one (.t none (.sc (.bool w247)))), (10, .one (.a 10 [] (0))), (21, .one (.t none (.sc (.int .i64 (a0.sizes.length : Int))))), (22, .one (.t none (.sc (.int .i64 w169)))), (26, .one (.t none (.sl a0.rows.length (a0.rows.flatMap fun x0 => [.sl x0.pre.length (x0.pre.map fun x1 => .sc (.int .i64 x1)), .sl x0.maps.length (x0.maps.map fun x1 => .sl x1.length (x1.map fun x2 => .sc (.int .i64 x2)))])))), (27, .one (.t none (.sc (.int .i64 (a0.rows.length : Int))))), (28, .one (.t none (.sc (.int .i64 w228)))), (33, .one (.t none (.sl v241.maps.length (v241.maps.map fun x0 => .sl x0.length (x0.map fun x1 => .sc (.int .i64 x1)))))), (34, .one (.t none (.sc (.int .i64 (v241.maps.length : Int))))), (35, .one (.t none (.sc (.int .i64 w248))))], [(1, .vr [.sc (.int .i64 a0.letters), .sl a0.sizes.length (a0.sizes.map fun x0 => .sc (.int .i64 x0)), .sl a0.rows.length (a0.rows.flatMap fun x0 => [.sl x0.pre.length (x0.pre.map fun x1 => .sc (.int .i64 x1)), .sl x0.maps.length (x0.maps.map fun x1 => .sl x1.length (x1.map fun x2 => .sc (.int .i64 x2)))])]), (3, .os 1 w170.length (w170.map fun x0 => .sc (.int .i64 x0))), (10, .vr [.sl v241.pre.length (v241.pre.map fun x0 => .sc (.int .i64 x0)), .sl v241.maps.length (v241.maps.map fun x0 => .sl x0.length (x0.map fun x1 => .sc (.int .i64 x1)))])]⟩
def z4D (a0 : Casc) (w169 : Int) (w170 : List Int) : Bool × Bool × Bool × Bool × Int -> Option ((Bool × Bool × Bool × Bool × Int) ⊕ ((Int × List Int) ⊕ List Int))
  | (w224, w225, w226, w227, w228) =>
  if w228 < (a0.rows.length : Int) then
    (atI a0.rows w228).bind fun v241 =>
    z0E (z2h w169 w228 v241) LFm (w224, w225, w226, w227, 0)
  else
    z0t <|
    if w224 = true then
      if w225 = true then
        chk (z1g 8 (w170.length + 1)) <|
        z0y (IntKind.i64.wrap (w169 + 1), w170 ++ [1])
      else
        if w226 = true then
          chk (z1g 8 (w170.length + 1)) <|
          z0y (IntKind.i64.wrap (w169 + 1), w170 ++ [2])
        else
          if w227 = true then
            chk (z1g 8 (w170.length + 1)) <|
            z0y (IntKind.i64.wrap (w169 + 1), w170 ++ [3])
          else
            chk (z1g 8 (w170.length + 1)) <|
            z0y (IntKind.i64.wrap (w169 + 1), w170 ++ [4])
    else
      chk (z1g 8 (w170.length + 1)) <|
      z0y (IntKind.i64.wrap (w169 + 1), w170 ++ [0])
def z4C (a0 : Casc) (w169 : Int) (w170 : List Int) : Bool × Bool × Bool × Bool × Int -> Fr
  | (w224, w225, w226, w227, w228) => ⟨96, [(1, .one (.a 1 [] (0))), (3, .one (.h 3 [])), (4, .one (.t none (.sc (.int .i64 w169)))), (5, .one (.t none (.sc (.bool w224)))), (6, .one (.t none (.sc (.bool w225)))), (7, .one (.t none (.sc (.bool w226)))), (8, .one (.t none (.sc (.bool w227)))), (21, .one (.t none (.sc (.int .i64 (a0.sizes.length : Int))))), (22, .one (.t none (.sc (.int .i64 w169)))), (26, .one (.t none (.sl a0.rows.length (a0.rows.flatMap fun x0 => [.sl x0.pre.length (x0.pre.map fun x1 => .sc (.int .i64 x1)), .sl x0.maps.length (x0.maps.map fun x1 => .sl x1.length (x1.map fun x2 => .sc (.int .i64 x2)))])))), (27, .one (.t none (.sc (.int .i64 (a0.rows.length : Int))))), (28, .one (.t none (.sc (.int .i64 w228))))], [(1, .vr [.sc (.int .i64 a0.letters), .sl a0.sizes.length (a0.sizes.map fun x0 => .sc (.int .i64 x0)), .sl a0.rows.length (a0.rows.flatMap fun x0 => [.sl x0.pre.length (x0.pre.map fun x1 => .sc (.int .i64 x1)), .sl x0.maps.length (x0.maps.map fun x1 => .sl x1.length (x1.map fun x2 => .sc (.int .i64 x2)))])]), (3, .os 1 w170.length (w170.map fun x0 => .sc (.int .i64 x0)))]⟩
def z4E (a0 : Casc) : Int × List Int -> Option ((Int × List Int) ⊕ List Int)
  | (w169, w170) =>
  if w169 < (a0.sizes.length : Int) then
    z0E (z4D a0 w169 w170) LFm (false, true, true, true, 0)
  else
    z0t <|
    some w170
def z1J (a0 : Casc) : Int × List Int -> Fr
  | (w169, w170) => ⟨96, [(1, .one (.a 1 [] (0))), (3, .one (.h 3 [])), (21, .one (.t none (.sc (.int .i64 (a0.sizes.length : Int))))), (22, .one (.t none (.sc (.int .i64 w169))))], [(1, .vr [.sc (.int .i64 a0.letters), .sl a0.sizes.length (a0.sizes.map fun x0 => .sc (.int .i64 x0)), .sl a0.rows.length (a0.rows.flatMap fun x0 => [.sl x0.pre.length (x0.pre.map fun x1 => .sc (.int .i64 x1)), .sl x0.maps.length (x0.maps.map fun x1 => .sl x1.length (x1.map fun x2 => .sc (.int .i64 x2)))])]), (3, .os 1 w170.length (w170.map fun x0 => .sc (.int .i64 x0)))]⟩
def z5w (a0 : Casc) : Option (List Int) :=
  (z1t a0).bind fun v127 =>
  if v127 = 0 then
    z0E (z4E a0) LFm (0, [])
  else
    some []
theorem zaA {a0 : Casc} {r : List Int} (h0 : z5w a0 = some r) : L 45 [.agg [.sc (.int .i64 a0.letters), .sl a0.sizes.length (a0.sizes.map fun x0 => .sc (.int .i64 x0)), .sl a0.rows.length (a0.rows.flatMap fun x0 => [.sl x0.pre.length (x0.pre.map fun x1 => .sc (.int .i64 x1)), .sl x0.maps.length (x0.maps.map fun x1 => .sl x1.length (x1.map fun x2 => .sc (.int .i64 x2)))])]] = some (.os 1 r.length (r.map fun x0 => .sc (.int .i64 x0)), [.dead]) := by
  simp only [z5w] at h0
  refine z1Q zn8 zon (z0F zpU ⟨of_decide_eq_true rfl, of_decide_eq_true rfl⟩ ?_)
  simp only [z0K, z0H, z0G, z0L, z1S]
  refine zq rfl (zr rfl rfl rfl (by simp; rfl) ?_)
  refine z0a (zq rfl (zq rfl ?_))
  obtain ⟨v127, f571, h1⟩ := z0b h0
  have f571k := z2g f571
  try simp at f571k
  refine zr rfl rfl rfl (by simp [f571k]; rfl) ?_
  refine z0a ?_
  by_cases c572 : v127 = 0
  ·rw [if_pos c572] at h1
   have c572e := eq_true c572
   refine z0s rfl (by simp [c572e]) (z0n rfl (z0a (zq rfl (zr rfl rfl rfl (by simp; rfl) ?_))))
   refine z0a (zq rfl (zq rfl (zr rfl rfl rfl (by simp; rfl) ?_)))
   refine z0a (zb rfl (z0C h1 (z1J a0) rfl rfl (by simp [z1J]) fun s o1 h2 hr1 => ?_))
   obtain ⟨w169, w170⟩ := s
   simp only [z4E] at h2
   simp only [z1J]
   refine zq rfl (zr rfl rfl rfl (by simp; rfl) ?_)
   refine z0a (zq rfl ?_)
   by_cases c950 : w169 < (a0.sizes.length : Int)
   ·rw [if_pos c950] at h2
    refine z0p rfl (by simp [c950]) (z0n rfl (z0a (zq rfl (zb rfl (zq rfl (zr rfl rfl rfl (by simp; rfl) ?_))))))
    refine z0a (zq rfl (zr rfl rfl rfl (by simp; rfl) ?_))
    refine z0a (zq rfl (zq rfl (zr rfl rfl rfl (by simp; rfl) ?_)))
    refine z0a (zb rfl (z0C h2 (z4C a0 w169 w170) rfl rfl (by simp [z4C]) fun s o2 h3 hr2 => ?_))
    obtain ⟨w224, w225, w226, w227, w228⟩ := s
    simp only [z4D] at h3
    simp only [z4C]
    refine zq rfl (zr rfl rfl rfl (by simp; rfl) ?_)
    refine z0a (zq rfl ?_)
    by_cases c1067 : w228 < (a0.rows.length : Int)
    ·rw [if_pos c1067] at h3
     refine z0p rfl (by simp [c1067]) (z0n rfl (z0a (zq rfl (zb rfl (zq rfl ?_)))))
     obtain ⟨v241, f1068, h4⟩ := z0b h3
     obtain ⟨f1068a, f1068b, f1068c, f1068d, f1068e⟩ := z0W f1068
     have f1068g := z1e (g := fun x : CRow => ([.sl x.pre.length (x.pre.map fun x0 => .sc (.int .i64 x0)), .sl x.maps.length (x.maps.map fun x0 => .sl x0.length (x0.map fun x1 => .sc (.int .i64 x1)))] : List T)) (m := 2) (fun _ => rfl) f1068d
     have f1068h := z1k (g := fun x : CRow => ([.sl x.pre.length (x.pre.map fun x0 => .sc (.int .i64 x0)), .sl x.maps.length (x.maps.map fun x0 => .sl x0.length (x0.map fun x1 => .sc (.int .i64 x1)))] : List T)) (m := 2) (fun _ => rfl) a0.rows
     have f1068k0 := f1068g.2.2.1 0 (by decide)
     have f1068m0 := f1068g.2.2.2 0 _ rfl
     have f1068k1 := f1068g.2.2.1 1 (by decide)
     have f1068m1 := f1068g.2.2.2 1 _ rfl
     obtain ⟨f1068g, f1068i, -⟩ := f1068g
     try simp at f1068i f1068h f1068k0 f1068m0 f1068k1 f1068m1
     refine zr rfl rfl rfl (by simp [f1068a, f1068b, f1068c, f1068d, f1068e, f1068g, f1068i, f1068h, f1068k0, f1068k1, f1068m0, f1068m1]; rfl) ?_
     refine z0a (zq rfl (zr rfl rfl rfl (by simp; rfl) ?_))
     refine z0a (zb rfl (z0C h4 (z0u a0 w169 w170 w228 v241) rfl rfl (by simp [z0u]) fun s o3 h5 hr3 => ?_))
     obtain ⟨w244, w245, w246, w247, w248⟩ := s
     simp only [z2h] at h5
     simp only [z0u]
     refine zq rfl (zr rfl rfl rfl (by simp; rfl) ?_)
     refine z0a (zq rfl ?_)
     by_cases c1111 : w248 < (v241.maps.length : Int)
     ·rw [if_pos c1111] at h5
      refine z0p rfl (by simp [c1111]) (z0n rfl (z0a (zq rfl (zb rfl (zq rfl ?_)))))
      obtain ⟨v251, f1112, h6⟩ := z1x h5
      refine zr rfl rfl rfl (by simp [f1112]; rfl) ?_
      refine z0a (zq rfl (zq rfl (zr rfl rfl rfl (by simp; rfl) ?_)))
      refine z0a ?_
      by_cases c1113 : (v241.pre.length : Int) = w169
      ·rw [if_pos c1113] at h6
       have c1113e := eq_true c1113
       refine z0s rfl (by simp [c1113e]) (z0n rfl (z0a (zq rfl ?_)))
       obtain ⟨v252, f1114, h7⟩ := z0b h6
       have f1114k := zbq f1114
       try simp at f1114k
       refine zr rfl rfl rfl (by simp [f1114k]; rfl) ?_
       refine z0a ?_
       by_cases c1115 : w245 = true
       ·rw [if_pos c1115] at h7
        by_cases c1116 : w246 = true
        ·rw [if_pos c1116] at h7
         by_cases c1117 : v252.2.1 = true
         ·rw [if_pos c1117] at h7
          by_cases c1118 : w247 = true
          ·rw [if_pos c1118] at h7
           by_cases c1119 : v252.1 = true
           ·rw [if_pos c1119] at h7
            refine zr rfl rfl rfl (by simp [c1115, c1116, c1117, c1118, c1119]; rfl) ?_
            refine z0g (z0a (zr rfl rfl rfl (by simp; rfl) ?_))
            have ho := z0f h7
            refine z0j ho ?_
            simp [z0u, c1115, c1116, c1117, c1118, c1119]
           ·rw [if_neg c1119] at h7
            refine zr rfl rfl rfl (by simp [c1115, c1116, c1117, c1118, c1119]; rfl) ?_
            refine z0g (z0a (zr rfl rfl rfl (by simp; rfl) ?_))
            have ho := z0f h7
            refine z0j ho ?_
            simp [z0u, c1115, c1116, c1117, c1118, c1119]
          ·rw [if_neg c1118] at h7
           refine zr rfl rfl rfl (by simp [c1115, c1116, c1117, c1118]; rfl) ?_
           refine z0g (z0a (zr rfl rfl rfl (by simp; rfl) ?_))
           have ho := z0f h7
           refine z0j ho ?_
           simp [z0u, c1115, c1116, c1117, c1118]
         ·rw [if_neg c1117] at h7
          by_cases c1120 : w247 = true
          ·rw [if_pos c1120] at h7
           by_cases c1121 : v252.1 = true
           ·rw [if_pos c1121] at h7
            refine zr rfl rfl rfl (by simp [c1115, c1116, c1117, c1120, c1121]; rfl) ?_
            refine z0g (z0a (zr rfl rfl rfl (by simp; rfl) ?_))
            have ho := z0f h7
            refine z0j ho ?_
            simp [z0u, c1115, c1116, c1117, c1120, c1121]
           ·rw [if_neg c1121] at h7
            refine zr rfl rfl rfl (by simp [c1115, c1116, c1117, c1120, c1121]; rfl) ?_
            refine z0g (z0a (zr rfl rfl rfl (by simp; rfl) ?_))
            have ho := z0f h7
            refine z0j ho ?_
            simp [z0u, c1115, c1116, c1117, c1120, c1121]
          ·rw [if_neg c1120] at h7
           refine zr rfl rfl rfl (by simp [c1115, c1116, c1117, c1120]; rfl) ?_
           refine z0g (z0a (zr rfl rfl rfl (by simp; rfl) ?_))
           have ho := z0f h7
           refine z0j ho ?_
           simp [z0u, c1115, c1116, c1117, c1120]
        ·rw [if_neg c1116] at h7
         by_cases c1122 : w247 = true
         ·rw [if_pos c1122] at h7
          by_cases c1123 : v252.1 = true
          ·rw [if_pos c1123] at h7
           refine zr rfl rfl rfl (by simp [c1115, c1116, c1122, c1123]; rfl) ?_
           refine z0g (z0a (zr rfl rfl rfl (by simp; rfl) ?_))
           have ho := z0f h7
           refine z0j ho ?_
           simp [z0u, c1115, c1116, c1122, c1123]
          ·rw [if_neg c1123] at h7
           refine zr rfl rfl rfl (by simp [c1115, c1116, c1122, c1123]; rfl) ?_
           refine z0g (z0a (zr rfl rfl rfl (by simp; rfl) ?_))
           have ho := z0f h7
           refine z0j ho ?_
           simp [z0u, c1115, c1116, c1122, c1123]
         ·rw [if_neg c1122] at h7
          refine zr rfl rfl rfl (by simp [c1115, c1116, c1122]; rfl) ?_
          refine z0g (z0a (zr rfl rfl rfl (by simp; rfl) ?_))
          have ho := z0f h7
          refine z0j ho ?_
          simp [z0u, c1115, c1116, c1122]
       ·rw [if_neg c1115] at h7
        by_cases c1124 : w246 = true
        ·rw [if_pos c1124] at h7
         by_cases c1125 : v252.2.1 = true
         ·rw [if_pos c1125] at h7
          by_cases c1126 : w247 = true
          ·rw [if_pos c1126] at h7
           by_cases c1127 : v252.1 = true
           ·rw [if_pos c1127] at h7
            refine zr rfl rfl rfl (by simp [c1115, c1124, c1125, c1126, c1127]; rfl) ?_
            refine z0g (z0a (zr rfl rfl rfl (by simp; rfl) ?_))
            have ho := z0f h7
            refine z0j ho ?_
            simp [z0u, c1115, c1124, c1125, c1126, c1127]
           ·rw [if_neg c1127] at h7
            refine zr rfl rfl rfl (by simp [c1115, c1124, c1125, c1126, c1127]; rfl) ?_
            refine z0g (z0a (zr rfl rfl rfl (by simp; rfl) ?_))
            have ho := z0f h7
            refine z0j ho ?_
            simp [z0u, c1115, c1124, c1125, c1126, c1127]
          ·rw [if_neg c1126] at h7
           refine zr rfl rfl rfl (by simp [c1115, c1124, c1125, c1126]; rfl) ?_
           refine z0g (z0a (zr rfl rfl rfl (by simp; rfl) ?_))
           have ho := z0f h7
           refine z0j ho ?_
           simp [z0u, c1115, c1124, c1125, c1126]
         ·rw [if_neg c1125] at h7
          by_cases c1128 : w247 = true
          ·rw [if_pos c1128] at h7
           by_cases c1129 : v252.1 = true
           ·rw [if_pos c1129] at h7
            refine zr rfl rfl rfl (by simp [c1115, c1124, c1125, c1128, c1129]; rfl) ?_
            refine z0g (z0a (zr rfl rfl rfl (by simp; rfl) ?_))
            have ho := z0f h7
            refine z0j ho ?_
            simp [z0u, c1115, c1124, c1125, c1128, c1129]
           ·rw [if_neg c1129] at h7
            refine zr rfl rfl rfl (by simp [c1115, c1124, c1125, c1128, c1129]; rfl) ?_
            refine z0g (z0a (zr rfl rfl rfl (by simp; rfl) ?_))
            have ho := z0f h7
            refine z0j ho ?_
            simp [z0u, c1115, c1124, c1125, c1128, c1129]
          ·rw [if_neg c1128] at h7
           refine zr rfl rfl rfl (by simp [c1115, c1124, c1125, c1128]; rfl) ?_
           refine z0g (z0a (zr rfl rfl rfl (by simp; rfl) ?_))
           have ho := z0f h7
           refine z0j ho ?_
           simp [z0u, c1115, c1124, c1125, c1128]
        ·rw [if_neg c1124] at h7
         by_cases c1130 : w247 = true
         ·rw [if_pos c1130] at h7
          by_cases c1131 : v252.1 = true
          ·rw [if_pos c1131] at h7
           refine zr rfl rfl rfl (by simp [c1115, c1124, c1130, c1131]; rfl) ?_
           refine z0g (z0a (zr rfl rfl rfl (by simp; rfl) ?_))
           have ho := z0f h7
           refine z0j ho ?_
           simp [z0u, c1115, c1124, c1130, c1131]
          ·rw [if_neg c1131] at h7
           refine zr rfl rfl rfl (by simp [c1115, c1124, c1130, c1131]; rfl) ?_
           refine z0g (z0a (zr rfl rfl rfl (by simp; rfl) ?_))
           have ho := z0f h7
           refine z0j ho ?_
           simp [z0u, c1115, c1124, c1130, c1131]
         ·rw [if_neg c1130] at h7
          refine zr rfl rfl rfl (by simp [c1115, c1124, c1130]; rfl) ?_
          refine z0g (z0a (zr rfl rfl rfl (by simp; rfl) ?_))
          have ho := z0f h7
          refine z0j ho ?_
          simp [z0u, c1115, c1124, c1130]
      ·rw [if_neg c1113] at h6
       have c1113e := eq_false c1113
       refine z0p rfl (by simp [c1113e]) (z0I rfl (z0B (z0l rfl (z0a (zr rfl rfl rfl (by simp; rfl) ?_)))))
       have ho := z0f h6
       refine z0j ho ?_
       simp [z0u]
     ·rw [if_neg c1111] at h5
      refine z0s rfl (by simp [c1111]) (z0I rfl (z0B ?_))
      obtain ⟨rr3, h6, ho3⟩ := z0d h5
      have hs3 := hr3 _ ho3
      subst hs3
      refine z0v ho3 (z0l rfl (z0g (z0a (zr rfl rfl rfl (by simp; rfl) ?_))))
      have ho := z0f h6
      refine z0j ho ?_
      simp [z4C]
    ·rw [if_neg c1067] at h3
     refine z0s rfl (by simp [c1067]) (z0I rfl (z0B ?_))
     obtain ⟨rr2, h4, ho2⟩ := z0d h3
     have hs2 := hr2 _ ho2
     subst hs2
     refine z0v ho2 (z0l rfl (z0a (zb rfl (zq rfl (zr rfl rfl rfl (by simp; rfl) ?_)))))
     refine z0a ?_
     by_cases c1132 : w224 = true
     ·rw [if_pos c1132] at h4
      refine z0s rfl (by simp [c1132]) (zq rfl (zr rfl rfl rfl (by simp; rfl) ?_))
      refine z0a ?_
      by_cases c1133 : w225 = true
      ·rw [if_pos c1133] at h4
       refine z0p rfl (by simp [c1133]) ?_
       obtain ⟨f1134, h5⟩ := z5l h4
       refine zr rfl rfl rfl (by simp [f1134]; rfl) ?_
       refine z0g (z0g (z0a (zr rfl rfl rfl (by simp; rfl) ?_)))
       have ho := z0f h5
       refine z0j ho ?_
       simp [z1J, c1132, c1133]
      ·rw [if_neg c1133] at h4
       refine z0s rfl (by simp [c1133]) (zq rfl (zr rfl rfl rfl (by simp; rfl) ?_))
       refine z0a ?_
       by_cases c1135 : w226 = true
       ·rw [if_pos c1135] at h4
        refine z0p rfl (by simp [c1135]) ?_
        obtain ⟨f1136, h5⟩ := z5l h4
        refine zr rfl rfl rfl (by simp [f1136]; rfl) ?_
        refine z0g (z0g (z0a (zr rfl rfl rfl (by simp; rfl) ?_)))
        have ho := z0f h5
        refine z0j ho ?_
        simp [z1J, c1132, c1133, c1135]
       ·rw [if_neg c1135] at h4
        refine z0s rfl (by simp [c1135]) (zq rfl (zr rfl rfl rfl (by simp; rfl) ?_))
        refine z0a ?_
        by_cases c1137 : w227 = true
        ·rw [if_pos c1137] at h4
         refine z0p rfl (by simp [c1137]) ?_
         obtain ⟨f1138, h5⟩ := z5l h4
         refine zr rfl rfl rfl (by simp [f1138]; rfl) ?_
         refine z0g (z0g (z0a (zr rfl rfl rfl (by simp; rfl) ?_)))
         have ho := z0f h5
         refine z0j ho ?_
         simp [z1J, c1132, c1133, c1135, c1137]
        ·rw [if_neg c1137] at h4
         refine z0s rfl (by simp [c1137]) ?_
         obtain ⟨f1139, h5⟩ := z5l h4
         refine zr rfl rfl rfl (by simp [f1139]; rfl) ?_
         refine z0g (z0g (z0a (zr rfl rfl rfl (by simp; rfl) ?_)))
         have ho := z0f h5
         refine z0j ho ?_
         simp [z1J, c1132, c1133, c1135, c1137]
     ·rw [if_neg c1132] at h4
      refine z0p rfl (by simp [c1132]) ?_
      obtain ⟨f1140, h5⟩ := z5l h4
      refine zr rfl rfl rfl (by simp [f1140]; rfl) ?_
      refine z0g (z0g (z0a (zr rfl rfl rfl (by simp; rfl) ?_)))
      have ho := z0f h5
      refine z0j ho ?_
      simp [z1J, c1132]
   ·rw [if_neg c950] at h2
    refine z0s rfl (by simp [c950]) (z0I rfl (z0B ?_))
    obtain ⟨rr1, h3, ho1⟩ := z0d h2
    have hs1 := hr1 _ ho1
    subst hs1
    refine z0v ho1 (z0l rfl (z0a (zq rfl (zr rfl rfl rfl (by simp; rfl) ?_))))
    refine z0a (z0o rfl ?_)
    cases h3
    simp
  ·rw [if_neg c572] at h1
   have c572e := eq_false c572
   refine z0p rfl (by simp [c572e]) (zq rfl (zr rfl rfl rfl (by simp; rfl) ?_))
   refine z0a (z0o rfl (z0c ?_))
   cases h1
   simp
end
end
section
open Go
theorem zc9 {a0 : List Int} {r : List Int} (h : zaO a0 = some r) : L 33 [.sl a0.length (a0.map fun x0 => .sc (.int .i64 x0))] = some (.os 1 r.length (r.map fun x0 => .sc (.int .i64 x0)), [.dead]) := by
  unfold zaO at h
  split at h
  · rename_i hl
    cases h
    exact zk1 rfl fun _ => zdz a0 hl
  · cases h
end
section
open Go
noncomputable section
set_option maxRecDepth 100000
set_option maxHeartbeats 1000000
structure Traits where
  some_ : Bool
  perms : Bool
  resets : Bool
  mixed : Bool
deriving Inhabited
def z1u (a0 : Traits) (a1 : List Int) : Bool × Bool × Bool × Int × List Bool -> Option ((Bool × Bool × Bool × Int × List Bool) ⊕ Traits)
  | (w44, w45, w46, w47, w48) =>
  if w47 < (a1.length : Int) then
    (atI a1 w47).bind fun v64 =>
    if w44 = true then
      if w45 = true then
        (atI a1 0).bind fun v65 =>
        if w46 = true then
          chk (0 <= v64 /\ v64 < 32) <|
          (atI w48 v64).bind fun v66 =>
          z0y (decide (w47 = v64), decide (v64 = v65), !v66, IntKind.i64.wrap (w47 + 1), (w48.set v64.toNat true))
        else
          chk (0 <= v64 /\ v64 < 32) <|
          (atI w48 v64).bind fun v68 =>
          z0y (decide (w47 = v64), decide (v64 = v65), false, IntKind.i64.wrap (w47 + 1), (w48.set v64.toNat true))
      else
        if w46 = true then
          chk (0 <= v64 /\ v64 < 32) <|
          (atI w48 v64).bind fun v69 =>
          z0y (decide (w47 = v64), false, !v69, IntKind.i64.wrap (w47 + 1), (w48.set v64.toNat true))
        else
          chk (0 <= v64 /\ v64 < 32) <|
          (atI w48 v64).bind fun v71 =>
          z0y (decide (w47 = v64), false, false, IntKind.i64.wrap (w47 + 1), (w48.set v64.toNat true))
    else
      if w45 = true then
        (atI a1 0).bind fun v72 =>
        if w46 = true then
          chk (0 <= v64 /\ v64 < 32) <|
          (atI w48 v64).bind fun v73 =>
          z0y (false, decide (v64 = v72), !v73, IntKind.i64.wrap (w47 + 1), (w48.set v64.toNat true))
        else
          chk (0 <= v64 /\ v64 < 32) <|
          (atI w48 v64).bind fun v75 =>
          z0y (false, decide (v64 = v72), false, IntKind.i64.wrap (w47 + 1), (w48.set v64.toNat true))
      else
        if w46 = true then
          chk (0 <= v64 /\ v64 < 32) <|
          (atI w48 v64).bind fun v76 =>
          z0y (false, false, !v76, IntKind.i64.wrap (w47 + 1), (w48.set v64.toNat true))
        else
          chk (0 <= v64 /\ v64 < 32) <|
          (atI w48 v64).bind fun v78 =>
          z0y (false, false, false, IntKind.i64.wrap (w47 + 1), (w48.set v64.toNat true))
  else
    z0t <|
    if a0.perms = true then
      if a0.resets = true then
        if w45 = true then
          if a0.mixed = true then
            if w46 = true then
              some (⟨true, w46, true, true⟩ : Traits)
            else
              some (⟨true, w46, true, w45⟩ : Traits)
          else
            some (⟨true, w46, true, false⟩ : Traits)
        else
          if a0.mixed = true then
            if w46 = true then
              some (⟨true, w46, w44, true⟩ : Traits)
            else
              some (⟨true, w46, w44, w45⟩ : Traits)
          else
            some (⟨true, w46, w44, false⟩ : Traits)
      else
        if a0.mixed = true then
          if w46 = true then
            some (⟨true, w46, false, true⟩ : Traits)
          else
            some (⟨true, w46, false, w45⟩ : Traits)
        else
          some (⟨true, w46, false, false⟩ : Traits)
    else
      if a0.resets = true then
        if w45 = true then
          if a0.mixed = true then
            if w46 = true then
              some (⟨true, false, true, true⟩ : Traits)
            else
              some (⟨true, false, true, w45⟩ : Traits)
          else
            some (⟨true, false, true, false⟩ : Traits)
        else
          if a0.mixed = true then
            if w46 = true then
              some (⟨true, false, w44, true⟩ : Traits)
            else
              some (⟨true, false, w44, w45⟩ : Traits)
          else
            some (⟨true, false, w44, false⟩ : Traits)
      else
        if a0.mixed = true then
          if w46 = true then
            some (⟨true, false, false, true⟩ : Traits)
          else
            some (⟨true, false, false, w45⟩ : Traits)
        else
          some (⟨true, false, false, false⟩ : Traits)
def z0z (a0 : Traits) (a1 : List Int) (p0 : List T) (q0 : List T) : Bool × Bool × Bool × Int × List Bool -> Fr
  | (w44, w45, w46, w47, w48) => ⟨80, [(0, .one (.a 0 [] (p0.length))), (1, .one (.t none (.sl a1.length (a1.map fun x0 => .sc (.int .i64 x0))))), (4, .one (.t none (.sc (.bool w44)))), (5, .one (.t none (.sc (.bool w45)))), (6, .one (.t none (.sc (.bool w46)))), (7, .one (.a 7 [] (0))), (10, .one (.t none (.sl a1.length (a1.map fun x0 => .sc (.int .i64 x0))))), (11, .one (.t none (.sc (.int .i64 (a1.length : Int))))), (12, .one (.t none (.sc (.int .i64 w47)))), (1080, .one (.a 0 [] (p0.length)))], [(0, .vr (p0 ++ (.sc (.bool a0.some_)) :: (.sc (.bool a0.perms)) :: (.sc (.bool a0.resets)) :: (.sc (.bool a0.mixed)) :: q0)), (7, .vr (w48.map fun x0 => .sc (.bool x0)))]⟩
def z1r (a0 : Traits) (a1 : List Int) : Option (Traits) :=
  z0E (z1u a0 a1) LFm (true, true, true, 0, (List.replicate 32 false))
theorem z5Z {a0 : Traits} {a1 : List Int} {p0 q0 : List T} {r : Traits} (h0 : z1r a0 a1 = some r) : L 63 [.vo p0.length (p0 ++ (.sc (.bool a0.some_)) :: (.sc (.bool a0.perms)) :: (.sc (.bool a0.resets)) :: (.sc (.bool a0.mixed)) :: q0), .sl a1.length (a1.map fun x0 => .sc (.int .i64 x0))] = some (.tup [], [.vo p0.length (p0 ++ (.sc (.bool r.some_)) :: (.sc (.bool r.perms)) :: (.sc (.bool r.resets)) :: (.sc (.bool r.mixed)) :: q0), .dead]) := by
  simp only [z1r] at h0
  refine z1Q zmW zob (z0F zpI ⟨of_decide_eq_true rfl, of_decide_eq_true rfl⟩ ?_)
  simp only [z0K, z0H, z0G, z0L, z1S]
  refine zq rfl (zr rfl rfl rfl (by simp; rfl) ?_)
  refine z0a (zq rfl (zr rfl rfl rfl (by simp; rfl) ?_))
  refine z0a (zq rfl (zq rfl (zr rfl rfl rfl (by simp; rfl) ?_)))
  refine z0a (zb rfl (z0C h0 (z0z a0 a1 p0 q0) rfl rfl (by simp [z0z]) fun s o1 h1 hr1 => ?_))
  obtain ⟨w44, w45, w46, w47, w48⟩ := s
  simp only [z1u] at h1
  simp only [z0z]
  refine zq rfl (zr rfl rfl rfl (by simp; rfl) ?_)
  refine z0a (zq rfl ?_)
  by_cases c107 : w47 < (a1.length : Int)
  ·rw [if_pos c107] at h1
   refine z0p rfl (by simp [c107]) (z0n rfl (z0a (zq rfl (zb rfl (zq rfl ?_)))))
   obtain ⟨v64, f108, h2⟩ := z1x h1
   refine zr rfl rfl rfl (by simp [f108]; rfl) ?_
   refine z0a (zq rfl ?_)
   by_cases c109 : w44 = true
   ·rw [if_pos c109] at h2
    refine zr rfl rfl rfl (by simp [c109]; rfl) ?_
    refine z0a (zq rfl ?_)
    by_cases c110 : w45 = true
    ·rw [if_pos c110] at h2
     obtain ⟨v65, f111, h3⟩ := z0b h2
     obtain ⟨f111a, f111b, f111c, f111d, f111e⟩ := z0W f111
     simp only [Int.reduceToNat, Int.toNat_natCast] at f111c f111d f111e
     have f111j : a1 ≠ [] := by intro hh; rw [hh] at f111c; simp at f111c
     have f111l : 0 < a1.length := by omega
     refine zr rfl rfl rfl (by simp [c110, f111a, f111b, f111c, f111d, f111e, f111j, f111l]; rfl) ?_
     refine z0a (zq rfl ?_)
     by_cases c112 : w46 = true
     ·rw [if_pos c112] at h3
      obtain ⟨f113, h4⟩ := z1a h3
      obtain ⟨f113a, f113b⟩ := f113
      have f113c : v64.toNat < 32 := by omega
      have f113d : v64.toNat + 1 <= 32 := by omega
      obtain ⟨v66, f114, h5⟩ := z1x h4
      refine zr rfl rfl rfl (by simp [c112, f113a, f113b, f113c, f113d, f114]; rfl) ?_
      refine z0a (zr rfl rfl rfl (by simp [f113a, f113b, f113c, f113d, f114]; rfl) ?_)
      refine z0g (z0a (zr rfl rfl rfl (by simp; rfl) ?_))
      have ho := z0f h5
      refine z0j ho ?_
      simp [z0z, c109, c110, c112]
     ·rw [if_neg c112] at h3
      refine zr rfl rfl rfl (by simp [c112]; rfl) ?_
      refine z0a ?_
      obtain ⟨f115, h4⟩ := z1a h3
      obtain ⟨f115a, f115b⟩ := f115
      have f115c : v64.toNat < 32 := by omega
      have f115d : v64.toNat + 1 <= 32 := by omega
      obtain ⟨v68, f116, h5⟩ := z1x h4
      refine zr rfl rfl rfl (by simp [f115a, f115b, f115c, f115d, f116]; rfl) ?_
      refine z0g (z0a (zr rfl rfl rfl (by simp; rfl) ?_))
      have ho := z0f h5
      refine z0j ho ?_
      simp [z0z, c109, c110, c112]
    ·rw [if_neg c110] at h2
     refine zr rfl rfl rfl (by simp [c110]; rfl) ?_
     refine z0a (zq rfl ?_)
     by_cases c117 : w46 = true
     ·rw [if_pos c117] at h2
      obtain ⟨f118, h3⟩ := z1a h2
      obtain ⟨f118a, f118b⟩ := f118
      have f118c : v64.toNat < 32 := by omega
      have f118d : v64.toNat + 1 <= 32 := by omega
      obtain ⟨v69, f119, h4⟩ := z1x h3
      refine zr rfl rfl rfl (by simp [c117, f118a, f118b, f118c, f118d, f119]; rfl) ?_
      refine z0a (zr rfl rfl rfl (by simp [f118a, f118b, f118c, f118d, f119]; rfl) ?_)
      refine z0g (z0a (zr rfl rfl rfl (by simp; rfl) ?_))
      have ho := z0f h4
      refine z0j ho ?_
      simp [z0z, c109, c110, c117]
     ·rw [if_neg c117] at h2
      refine zr rfl rfl rfl (by simp [c117]; rfl) ?_
      refine z0a ?_
      obtain ⟨f120, h3⟩ := z1a h2
      obtain ⟨f120a, f120b⟩ := f120
      have f120c : v64.toNat < 32 := by omega
      have f120d : v64.toNat + 1 <= 32 := by omega
      obtain ⟨v71, f121, h4⟩ := z1x h3
      refine zr rfl rfl rfl (by simp [f120a, f120b, f120c, f120d, f121]; rfl) ?_
      refine z0g (z0a (zr rfl rfl rfl (by simp; rfl) ?_))
      have ho := z0f h4
      refine z0j ho ?_
      simp [z0z, c109, c110, c117]
   ·rw [if_neg c109] at h2
    refine zr rfl rfl rfl (by simp [c109]; rfl) ?_
    refine z0a (zq rfl ?_)
    by_cases c122 : w45 = true
    ·rw [if_pos c122] at h2
     obtain ⟨v72, f123, h3⟩ := z0b h2
     obtain ⟨f123a, f123b, f123c, f123d, f123e⟩ := z0W f123
     simp only [Int.reduceToNat, Int.toNat_natCast] at f123c f123d f123e
     have f123j : a1 ≠ [] := by intro hh; rw [hh] at f123c; simp at f123c
     have f123l : 0 < a1.length := by omega
     refine zr rfl rfl rfl (by simp [c122, f123a, f123b, f123c, f123d, f123e, f123j, f123l]; rfl) ?_
     refine z0a (zq rfl ?_)
     by_cases c124 : w46 = true
     ·rw [if_pos c124] at h3
      obtain ⟨f125, h4⟩ := z1a h3
      obtain ⟨f125a, f125b⟩ := f125
      have f125c : v64.toNat < 32 := by omega
      have f125d : v64.toNat + 1 <= 32 := by omega
      obtain ⟨v73, f126, h5⟩ := z1x h4
      refine zr rfl rfl rfl (by simp [c124, f125a, f125b, f125c, f125d, f126]; rfl) ?_
      refine z0a (zr rfl rfl rfl (by simp [f125a, f125b, f125c, f125d, f126]; rfl) ?_)
      refine z0g (z0a (zr rfl rfl rfl (by simp; rfl) ?_))
      have ho := z0f h5
      refine z0j ho ?_
      simp [z0z, c109, c122, c124]
     ·rw [if_neg c124] at h3
      refine zr rfl rfl rfl (by simp [c124]; rfl) ?_
      refine z0a ?_
      obtain ⟨f127, h4⟩ := z1a h3
      obtain ⟨f127a, f127b⟩ := f127
      have f127c : v64.toNat < 32 := by omega
      have f127d : v64.toNat + 1 <= 32 := by omega
      obtain ⟨v75, f128, h5⟩ := z1x h4
      refine zr rfl rfl rfl (by simp [f127a, f127b, f127c, f127d, f128]; rfl) ?_
      refine z0g (z0a (zr rfl rfl rfl (by simp; rfl) ?_))
      have ho := z0f h5
      refine z0j ho ?_
      simp [z0z, c109, c122, c124]
    ·rw [if_neg c122] at h2
     refine zr rfl rfl rfl (by simp [c122]; rfl) ?_
     refine z0a (zq rfl ?_)
     by_cases c129 : w46 = true
     ·rw [if_pos c129] at h2
      obtain ⟨f130, h3⟩ := z1a h2
      obtain ⟨f130a, f130b⟩ := f130
      have f130c : v64.toNat < 32 := by omega
      have f130d : v64.toNat + 1 <= 32 := by omega
      obtain ⟨v76, f131, h4⟩ := z1x h3
      refine zr rfl rfl rfl (by simp [c129, f130a, f130b, f130c, f130d, f131]; rfl) ?_
      refine z0a (zr rfl rfl rfl (by simp [f130a, f130b, f130c, f130d, f131]; rfl) ?_)
      refine z0g (z0a (zr rfl rfl rfl (by simp; rfl) ?_))
      have ho := z0f h4
      refine z0j ho ?_
      simp [z0z, c109, c122, c129]
     ·rw [if_neg c129] at h2
      refine zr rfl rfl rfl (by simp [c129]; rfl) ?_
      refine z0a ?_
      obtain ⟨f132, h3⟩ := z1a h2
      obtain ⟨f132a, f132b⟩ := f132
      have f132c : v64.toNat < 32 := by omega
      have f132d : v64.toNat + 1 <= 32 := by omega
      obtain ⟨v78, f133, h4⟩ := z1x h3
      refine zr rfl rfl rfl (by simp [f132a, f132b, f132c, f132d, f133]; rfl) ?_
      refine z0g (z0a (zr rfl rfl rfl (by simp; rfl) ?_))
      have ho := z0f h4
      refine z0j ho ?_
      simp [z0z, c109, c122, c129]
  ·rw [if_neg c107] at h1
   refine z0s rfl (by simp [c107]) (z0I rfl (z0B ?_))
   obtain ⟨rr1, h2, ho1⟩ := z0d h1
   have hs1 := hr1 _ ho1
   subst hs1
   refine z0v ho1 (z0l rfl (z0a (zq rfl (zr rfl rfl rfl (by simp; rfl) ?_))))
   refine z0a (zq rfl ?_)
   by_cases c134 : a0.perms = true
   ·rw [if_pos c134] at h2
    refine zr rfl rfl rfl (by simp [c134]; rfl) ?_
    refine z0a (zq rfl ?_)
    by_cases c135 : a0.resets = true
    ·rw [if_pos c135] at h2
     by_cases c136 : w45 = true
     ·rw [if_pos c136] at h2
      refine zr rfl rfl rfl (by simp [c135, c136]; rfl) ?_
      refine z0a ?_
      by_cases c137 : a0.mixed = true
      ·rw [if_pos c137] at h2
       by_cases c138 : w46 = true
       ·rw [if_pos c138] at h2
        refine zr rfl rfl rfl (by simp [c137, c138]; rfl) ?_
        cases h2
        simp [c134, c135, c136, c137, c138]
       ·rw [if_neg c138] at h2
        refine zr rfl rfl rfl (by simp [c137, c138]; rfl) ?_
        cases h2
        simp [c134, c135, c136, c137, c138]
      ·rw [if_neg c137] at h2
       refine zr rfl rfl rfl (by simp [c137]; rfl) ?_
       cases h2
       simp [c134, c135, c136, c137]
     ·rw [if_neg c136] at h2
      refine zr rfl rfl rfl (by simp [c135, c136]; rfl) ?_
      refine z0a ?_
      by_cases c139 : a0.mixed = true
      ·rw [if_pos c139] at h2
       by_cases c140 : w46 = true
       ·rw [if_pos c140] at h2
        refine zr rfl rfl rfl (by simp [c139, c140]; rfl) ?_
        cases h2
        simp [c134, c135, c136, c139, c140]
       ·rw [if_neg c140] at h2
        refine zr rfl rfl rfl (by simp [c139, c140]; rfl) ?_
        cases h2
        simp [c134, c135, c136, c139, c140]
      ·rw [if_neg c139] at h2
       refine zr rfl rfl rfl (by simp [c139]; rfl) ?_
       cases h2
       simp [c134, c135, c136, c139]
    ·rw [if_neg c135] at h2
     refine zr rfl rfl rfl (by simp [c135]; rfl) ?_
     refine z0a ?_
     by_cases c141 : a0.mixed = true
     ·rw [if_pos c141] at h2
      by_cases c142 : w46 = true
      ·rw [if_pos c142] at h2
       refine zr rfl rfl rfl (by simp [c141, c142]; rfl) ?_
       cases h2
       simp [c134, c135, c141, c142]
      ·rw [if_neg c142] at h2
       refine zr rfl rfl rfl (by simp [c141, c142]; rfl) ?_
       cases h2
       simp [c134, c135, c141, c142]
     ·rw [if_neg c141] at h2
      refine zr rfl rfl rfl (by simp [c141]; rfl) ?_
      cases h2
      simp [c134, c135, c141]
   ·rw [if_neg c134] at h2
    refine zr rfl rfl rfl (by simp [c134]; rfl) ?_
    refine z0a (zq rfl ?_)
    by_cases c143 : a0.resets = true
    ·rw [if_pos c143] at h2
     by_cases c144 : w45 = true
     ·rw [if_pos c144] at h2
      refine zr rfl rfl rfl (by simp [c143, c144]; rfl) ?_
      refine z0a ?_
      by_cases c145 : a0.mixed = true
      ·rw [if_pos c145] at h2
       by_cases c146 : w46 = true
       ·rw [if_pos c146] at h2
        refine zr rfl rfl rfl (by simp [c145, c146]; rfl) ?_
        cases h2
        simp [c134, c143, c144, c145, c146]
       ·rw [if_neg c146] at h2
        refine zr rfl rfl rfl (by simp [c145, c146]; rfl) ?_
        cases h2
        simp [c134, c143, c144, c145, c146]
      ·rw [if_neg c145] at h2
       refine zr rfl rfl rfl (by simp [c145]; rfl) ?_
       cases h2
       simp [c134, c143, c144, c145]
     ·rw [if_neg c144] at h2
      refine zr rfl rfl rfl (by simp [c143, c144]; rfl) ?_
      refine z0a ?_
      by_cases c147 : a0.mixed = true
      ·rw [if_pos c147] at h2
       by_cases c148 : w46 = true
       ·rw [if_pos c148] at h2
        refine zr rfl rfl rfl (by simp [c147, c148]; rfl) ?_
        cases h2
        simp [c134, c143, c144, c147, c148]
       ·rw [if_neg c148] at h2
        refine zr rfl rfl rfl (by simp [c147, c148]; rfl) ?_
        cases h2
        simp [c134, c143, c144, c147, c148]
      ·rw [if_neg c147] at h2
       refine zr rfl rfl rfl (by simp [c147]; rfl) ?_
       cases h2
       simp [c134, c143, c144, c147]
    ·rw [if_neg c143] at h2
     refine zr rfl rfl rfl (by simp [c143]; rfl) ?_
     refine z0a ?_
     by_cases c149 : a0.mixed = true
     ·rw [if_pos c149] at h2
      by_cases c150 : w46 = true
      ·rw [if_pos c150] at h2
       refine zr rfl rfl rfl (by simp [c149, c150]; rfl) ?_
       cases h2
       simp [c134, c143, c149, c150]
      ·rw [if_neg c150] at h2
       refine zr rfl rfl rfl (by simp [c149, c150]; rfl) ?_
       cases h2
       simp [c134, c143, c149, c150]
     ·rw [if_neg c149] at h2
      refine zr rfl rfl rfl (by simp [c149]; rfl) ?_
      cases h2
      simp [c134, c143, c149]
def z2x (a0 : Traits) : Option (Int) :=
  if a0.some_ = true then
    if a0.perms = true then
      some 1
    else
      if a0.resets = true then
        some 2
      else
        if a0.mixed = true then
          some 3
        else
          some 4
  else
    some 0
theorem z6R {a0 : Traits} {r : Int} (h0 : z2x a0 = some r) : L 64 [.agg [.sc (.bool a0.some_), .sc (.bool a0.perms), .sc (.bool a0.resets), .sc (.bool a0.mixed)]] = some (.sc (.int .i64 r), [.dead]) := by
  simp only [z2x] at h0
  refine z1Q zmV zoa (z0F zpH ⟨of_decide_eq_true rfl, of_decide_eq_true rfl⟩ ?_)
  simp only [z0K, z0H, z0G, z0L, z1S]
  refine zq rfl (zr rfl rfl rfl (by simp; rfl) ?_)
  refine z0a (zq rfl (zb rfl (zq rfl (zr rfl rfl rfl (by simp; rfl) ?_))))
  refine z0a ?_
  by_cases c5 : a0.some_ = true
  ·rw [if_pos c5] at h0
   refine z0s rfl (by simp [c5]) (zq rfl (zr rfl rfl rfl (by simp; rfl) ?_))
   refine z0a ?_
   by_cases c6 : a0.perms = true
   ·rw [if_pos c6] at h0
    refine z0p rfl (by simp [c6]) (zq rfl (zr rfl rfl rfl (by simp; rfl) ?_))
    refine z0a (z0o rfl (z0h (z0c ?_)))
    cases h0
    simp [c5, c6]
   ·rw [if_neg c6] at h0
    refine z0s rfl (by simp [c6]) (zq rfl (zr rfl rfl rfl (by simp; rfl) ?_))
    refine z0a ?_
    by_cases c7 : a0.resets = true
    ·rw [if_pos c7] at h0
     refine z0p rfl (by simp [c7]) (zq rfl (zr rfl rfl rfl (by simp; rfl) ?_))
     refine z0a (z0o rfl (z0h (z0c ?_)))
     cases h0
     simp [c5, c6, c7]
    ·rw [if_neg c7] at h0
     refine z0s rfl (by simp [c7]) (zq rfl (zr rfl rfl rfl (by simp; rfl) ?_))
     refine z0a ?_
     by_cases c8 : a0.mixed = true
     ·rw [if_pos c8] at h0
      refine z0p rfl (by simp [c8]) (zq rfl (zr rfl rfl rfl (by simp; rfl) ?_))
      refine z0a (z0o rfl (z0h (z0c ?_)))
      cases h0
      simp [c5, c6, c7, c8]
     ·rw [if_neg c8] at h0
      refine z0s rfl (by simp [c8]) (z0n rfl (z0g (z0a (zq rfl (zr rfl rfl rfl (by simp; rfl) ?_)))))
      refine z0a (z0o rfl ?_)
      cases h0
      simp [c5, c6, c7, c8]
  ·rw [if_neg c5] at h0
   refine z0p rfl (by simp [c5]) (zq rfl (zr rfl rfl rfl (by simp; rfl) ?_))
   refine z0a (z0o rfl (z0h (z0c ?_)))
   cases h0
   simp [c5]
def z3p (w73 : Int) (v87 : CRow) : Int × List Traits -> Option ((Int × List Traits) ⊕ ((Int × List Traits) ⊕ List Int))
  | (w91, w92) =>
  if w91 < (v87.maps.length : Int) then
    (atI v87.maps w91).bind fun v96 =>
    (atI w92 (v87.pre.length : Int)).bind fun v97 =>
    (z1r v97 v96).bind fun v98 =>
    z0y (IntKind.i64.wrap (w91 + 1), (w92.set (v87.pre.length : Int).toNat v98))
  else
    z0t <|
    z0y (IntKind.i64.wrap (w73 + 1), w92)
def z3m (a0 : Casc) (w73 : Int) (v87 : CRow) : Int × List Traits -> Fr
  | (w91, w92) => ⟨69, [(3, .one (.h 3 [])), (6, .one (.a 6 [] (0))), (30, .one (.t none (.sl a0.rows.length (a0.rows.flatMap fun x0 => [.sl x0.pre.length (x0.pre.map fun x1 => .sc (.int .i64 x1)), .sl x0.maps.length (x0.maps.map fun x1 => .sl x1.length (x1.map fun x2 => .sc (.int .i64 x2)))])))), (31, .one (.t none (.sc (.int .i64 (a0.rows.length : Int))))), (32, .one (.t none (.sc (.int .i64 w73)))), (37, .one (.t none (.sl v87.maps.length (v87.maps.map fun x0 => .sl x0.length (x0.map fun x1 => .sc (.int .i64 x1)))))), (38, .one (.t none (.sc (.int .i64 (v87.maps.length : Int))))), (39, .one (.t none (.sc (.int .i64 w91))))], [(3, .os 4 w92.length (w92.flatMap fun x0 => [.sc (.bool x0.some_), .sc (.bool x0.perms), .sc (.bool x0.resets), .sc (.bool x0.mixed)])), (6, .vr [.sl v87.pre.length (v87.pre.map fun x0 => .sc (.int .i64 x0)), .sl v87.maps.length (v87.maps.map fun x0 => .sl x0.length (x0.map fun x1 => .sc (.int .i64 x1)))])]⟩
def z3o (w74 : List Traits) : Int × List Int -> Option ((Int × List Int) ⊕ List Int)
  | (w101, w102) =>
  if w101 < (w74.length : Int) then
    (atI w74 w101).bind fun v106 =>
    (z2x v106).bind fun v107 =>
    (atI w102 w101).bind fun v108 =>
    z0y (IntKind.i64.wrap (w101 + 1), (w102.set w101.toNat v107))
  else
    z0t <|
    some w102
def z3l (w74 : List Traits) : Int × List Int -> Fr
  | (w101, w102) => ⟨69, [(9, .one (.h 9 [])), (55, .one (.h 3 [])), (56, .one (.t none (.sc (.int .i64 (w74.length : Int))))), (57, .one (.t none (.sc (.int .i64 w101))))], [(9, .os 1 w102.length (w102.map fun x0 => .sc (.int .i64 x0))), (3, .os 4 w74.length (w74.flatMap fun x0 => [.sc (.bool x0.some_), .sc (.bool x0.perms), .sc (.bool x0.resets), .sc (.bool x0.mixed)]))]⟩
def z3q (a0 : Casc) : Int × List Traits -> Option ((Int × List Traits) ⊕ List Int)
  | (w73, w74) =>
  if w73 < (a0.rows.length : Int) then
    (atI a0.rows w73).bind fun v87 =>
    z0E (z3p w73 v87) LFm (0, w74)
  else
    z0t <|
    chk (z8w 8 (w74.length : Int)) <|
    z0E (z3o w74) LFm (0, List.replicate (w74.length : Int).toNat (0 : Int))
def z3n (a0 : Casc) : Int × List Traits -> Fr
  | (w73, w74) => ⟨69, [(3, .one (.h 3 [])), (30, .one (.t none (.sl a0.rows.length (a0.rows.flatMap fun x0 => [.sl x0.pre.length (x0.pre.map fun x1 => .sc (.int .i64 x1)), .sl x0.maps.length (x0.maps.map fun x1 => .sl x1.length (x1.map fun x2 => .sc (.int .i64 x2)))])))), (31, .one (.t none (.sc (.int .i64 (a0.rows.length : Int))))), (32, .one (.t none (.sc (.int .i64 w73))))], [(3, .os 4 w74.length (w74.flatMap fun x0 => [.sc (.bool x0.some_), .sc (.bool x0.perms), .sc (.bool x0.resets), .sc (.bool x0.mixed)]))]⟩
def z3L (a0 : Casc) : Int × List Traits -> Option ((Int × List Traits) ⊕ List Int)
  | (w57, w58) =>
  if w57 < (a0.sizes.length : Int) then
    (atI w58 w57).bind fun v60 =>
    z0y (IntKind.i64.wrap (w57 + 1), (w58.set w57.toNat (⟨false, true, true, true⟩ : Traits)))
  else
    z0t <|
    z0E (z3q a0) LFm (0, w58)
def z3K (a0 : Casc) : Int × List Traits -> Fr
  | (w57, w58) => ⟨69, [(1, .one (.a 1 [] (0))), (3, .one (.h 3 [])), (20, .one (.t none (.sc (.int .i64 (a0.sizes.length : Int))))), (21, .one (.t none (.sc (.int .i64 w57))))], [(1, .vr [.sc (.int .i64 a0.letters), .sl a0.sizes.length (a0.sizes.map fun x0 => .sc (.int .i64 x0)), .sl a0.rows.length (a0.rows.flatMap fun x0 => [.sl x0.pre.length (x0.pre.map fun x1 => .sc (.int .i64 x1)), .sl x0.maps.length (x0.maps.map fun x1 => .sl x1.length (x1.map fun x2 => .sc (.int .i64 x2)))])]), (3, .os 4 w58.length (w58.flatMap fun x0 => [.sc (.bool x0.some_), .sc (.bool x0.perms), .sc (.bool x0.resets), .sc (.bool x0.mixed)]))]⟩
def z4m (a0 : Casc) : Option (List Int) :=
  (z1n a0).bind fun v55 =>
  if v55 = 0 then
    chk (z8w 4 (a0.sizes.length : Int)) <|
    z0E (z3L a0) LFm (0, List.replicate (a0.sizes.length : Int).toNat ((⟨false, false, false, false⟩ : Traits) : Traits))
  else
    some []
theorem z9v {a0 : Casc} {r : List Int} (h0 : z4m a0 = some r) : L 44 [.agg [.sc (.int .i64 a0.letters), .sl a0.sizes.length (a0.sizes.map fun x0 => .sc (.int .i64 x0)), .sl a0.rows.length (a0.rows.flatMap fun x0 => [.sl x0.pre.length (x0.pre.map fun x1 => .sc (.int .i64 x1)), .sl x0.maps.length (x0.maps.map fun x1 => .sl x1.length (x1.map fun x2 => .sc (.int .i64 x2)))])]] = some (.os 1 r.length (r.map fun x0 => .sc (.int .i64 x0)), [.dead]) := by
  simp only [z4m] at h0
  refine z1Q zn9 zoo (z0F zpV ⟨of_decide_eq_true rfl, of_decide_eq_true rfl⟩ ?_)
  simp only [z0K, z0H, z0G, z0L, z1S]
  refine zq rfl (zr rfl rfl rfl (by simp; rfl) ?_)
  refine z0a (zq rfl (zq rfl ?_))
  obtain ⟨v55, f66, h1⟩ := z0b h0
  have f66k := z2y f66
  try simp at f66k
  refine zr rfl rfl rfl (by simp [f66k]; rfl) ?_
  refine z0a ?_
  by_cases c67 : v55 = 0
  ·rw [if_pos c67] at h1
   have c67e := eq_true c67
   refine z0s rfl (by simp [c67e]) (z0n rfl (z0a (zq rfl ?_)))
   obtain ⟨f68, h2⟩ := zlQ h1
   have f69 := zaK (g := fun x : Traits => ([.sc (.bool x.some_), .sc (.bool x.perms), .sc (.bool x.resets), .sc (.bool x.mixed)] : List T)) (⟨false, false, false, false⟩ : Traits) (a0.sizes.length : Int).toNat
   try simp at f69
   refine zr rfl rfl rfl (by simp [f68, f69]; rfl) ?_
   refine z0a (zq rfl (zq rfl (zr rfl rfl rfl (by simp; rfl) ?_)))
   refine z0a (zb rfl (z0C h2 (z3K a0) rfl rfl (by simp [z3K]) fun s o1 h3 hr1 => ?_))
   obtain ⟨w57, w58⟩ := s
   simp only [z3L] at h3
   simp only [z3K]
   refine zq rfl (zr rfl rfl rfl (by simp; rfl) ?_)
   refine z0a (zq rfl ?_)
   by_cases c74 : w57 < (a0.sizes.length : Int)
   ·rw [if_pos c74] at h3
    refine z0p rfl (by simp [c74]) (z0n rfl (z0a (zq rfl (zb rfl (zq rfl (zr rfl rfl rfl (by simp; rfl) ?_))))))
    refine z0a ?_
    obtain ⟨v60, f75, h4⟩ := z0b h3
    obtain ⟨f75a, f75b, f75c, f75d, f75e⟩ := z0W f75
    have f75g := z1e (g := fun x : Traits => ([.sc (.bool x.some_), .sc (.bool x.perms), .sc (.bool x.resets), .sc (.bool x.mixed)] : List T)) (m := 4) (fun _ => rfl) f75d
    have f75h := z1k (g := fun x : Traits => ([.sc (.bool x.some_), .sc (.bool x.perms), .sc (.bool x.resets), .sc (.bool x.mixed)] : List T)) (m := 4) (fun _ => rfl) w58
    have f75k0 := f75g.2.2.1 0 (by decide)
    have f75m0 := f75g.2.2.2 0 _ rfl
    have f75k1 := f75g.2.2.1 1 (by decide)
    have f75m1 := f75g.2.2.2 1 _ rfl
    have f75k2 := f75g.2.2.1 2 (by decide)
    have f75m2 := f75g.2.2.2 2 _ rfl
    have f75k3 := f75g.2.2.1 3 (by decide)
    have f75m3 := f75g.2.2.2 3 _ rfl
    obtain ⟨f75g, f75i, -⟩ := f75g
    try simp at f75i f75h f75k0 f75m0 f75k1 f75m1 f75k2 f75m2 f75k3 f75m3
    have f76 := zf6 (g := fun x0 : Traits => ([.sc (.bool x0.some_), .sc (.bool x0.perms), .sc (.bool x0.resets), .sc (.bool x0.mixed)] : List T)) (m := 4) (fun _ => rfl) ((⟨false, true, true, true⟩ : Traits)) w57.toNat w58
    try simp at f76
    refine zr rfl rfl rfl (by simp [f75a, f75b, f75c, f75d, f75e, f75g, f75i, f75h, f75k0, f75k1, f75k2, f75k3, f75m0, f75m1, f75m2, f75m3, f76]; rfl) ?_
    refine z0g (z0a (zr rfl rfl rfl (by simp; rfl) ?_))
    have ho := z0f h4
    refine z0j ho ?_
    simp [z3K]
   ·rw [if_neg c74] at h3
    refine z0s rfl (by simp [c74]) (z0I rfl (z0B ?_))
    obtain ⟨rr1, h4, ho1⟩ := z0d h3
    have hs1 := hr1 _ ho1
    subst hs1
    refine z0v ho1 (z0l rfl (z0a (zq rfl (zq rfl (zr rfl rfl rfl (by simp; rfl) ?_)))))
    refine z0a (zb rfl (z0C h4 (z3n a0) rfl rfl (by simp [z3n]) fun s o2 h5 hr2 => ?_))
    obtain ⟨w73, w74⟩ := s
    simp only [z3q] at h5
    simp only [z3n]
    refine zq rfl (zr rfl rfl rfl (by simp; rfl) ?_)
    refine z0a (zq rfl ?_)
    by_cases c105 : w73 < (a0.rows.length : Int)
    ·rw [if_pos c105] at h5
     refine z0p rfl (by simp [c105]) (z0n rfl (z0a (zq rfl (zb rfl (zq rfl ?_)))))
     obtain ⟨v87, f106, h6⟩ := z0b h5
     obtain ⟨f106a, f106b, f106c, f106d, f106e⟩ := z0W f106
     have f106g := z1e (g := fun x : CRow => ([.sl x.pre.length (x.pre.map fun x0 => .sc (.int .i64 x0)), .sl x.maps.length (x.maps.map fun x0 => .sl x0.length (x0.map fun x1 => .sc (.int .i64 x1)))] : List T)) (m := 2) (fun _ => rfl) f106d
     have f106h := z1k (g := fun x : CRow => ([.sl x.pre.length (x.pre.map fun x0 => .sc (.int .i64 x0)), .sl x.maps.length (x.maps.map fun x0 => .sl x0.length (x0.map fun x1 => .sc (.int .i64 x1)))] : List T)) (m := 2) (fun _ => rfl) a0.rows
     have f106k0 := f106g.2.2.1 0 (by decide)
     have f106m0 := f106g.2.2.2 0 _ rfl
     have f106k1 := f106g.2.2.1 1 (by decide)
     have f106m1 := f106g.2.2.2 1 _ rfl
     obtain ⟨f106g, f106i, -⟩ := f106g
     try simp at f106i f106h f106k0 f106m0 f106k1 f106m1
     refine zr rfl rfl rfl (by simp [f106a, f106b, f106c, f106d, f106e, f106g, f106i, f106h, f106k0, f106k1, f106m0, f106m1]; rfl) ?_
     refine z0a (zq rfl (zr rfl rfl rfl (by simp; rfl) ?_))
     refine z0a (zb rfl (z0C h6 (z3m a0 w73 v87) rfl rfl (by simp [z3m]) fun s o3 h7 hr3 => ?_))
     obtain ⟨w91, w92⟩ := s
     simp only [z3p] at h7
     simp only [z3m]
     refine zq rfl (zr rfl rfl rfl (by simp; rfl) ?_)
     refine z0a (zq rfl ?_)
     by_cases c115 : w91 < (v87.maps.length : Int)
     ·rw [if_pos c115] at h7
      refine z0p rfl (by simp [c115]) (z0n rfl (z0a (zq rfl (zb rfl (zq rfl ?_)))))
      obtain ⟨v96, f116, h8⟩ := z1x h7
      refine zr rfl rfl rfl (by simp [f116]; rfl) ?_
      refine z0a ?_
      obtain ⟨v97, f117, h9⟩ := z0b h8
      obtain ⟨f117a, f117b, f117c, f117d, f117e⟩ := z0W f117
      simp only [Int.toNat_natCast] at f117c f117d f117e
      have f117l : v87.pre.length < w92.length := by omega
      have f117g := z1e (g := fun x : Traits => ([.sc (.bool x.some_), .sc (.bool x.perms), .sc (.bool x.resets), .sc (.bool x.mixed)] : List T)) (m := 4) (fun _ => rfl) f117d
      have f117h := z1k (g := fun x : Traits => ([.sc (.bool x.some_), .sc (.bool x.perms), .sc (.bool x.resets), .sc (.bool x.mixed)] : List T)) (m := 4) (fun _ => rfl) w92
      have f117k0 := f117g.2.2.1 0 (by decide)
      have f117m0 := f117g.2.2.2 0 _ rfl
      have f117k1 := f117g.2.2.1 1 (by decide)
      have f117m1 := f117g.2.2.2 1 _ rfl
      have f117k2 := f117g.2.2.1 2 (by decide)
      have f117m2 := f117g.2.2.2 2 _ rfl
      have f117k3 := f117g.2.2.1 3 (by decide)
      have f117m3 := f117g.2.2.2 3 _ rfl
      obtain ⟨f117g, f117i, -⟩ := f117g
      try simp at f117i f117h f117k0 f117m0 f117k1 f117m1 f117k2 f117m2 f117k3 f117m3
      obtain ⟨v98, f118, h10⟩ := z0b h9
      have f118k : L 63 [.vo ((v87.pre.length : Int).toNat * 4) (w92.flatMap (fun x0 : Traits => ([.sc (.bool x0.some_), .sc (.bool x0.perms), .sc (.bool x0.resets), .sc (.bool x0.mixed)] : List T))), .sl v96.length (v96.map fun x0 => .sc (.int .i64 x0))] = some (.tup [], [.vo ((v87.pre.length : Int).toNat * 4) ((w92.set (v87.pre.length : Int).toNat v98).flatMap (fun x0 : Traits => ([.sc (.bool x0.some_), .sc (.bool x0.perms), .sc (.bool x0.resets), .sc (.bool x0.mixed)] : List T))), .dead]) := by obtain ⟨q1, q2, q3⟩ := zlJ (g := (fun x0 : Traits => ([.sc (.bool x0.some_), .sc (.bool x0.perms), .sc (.bool x0.resets), .sc (.bool x0.mixed)] : List T))) (m := 4) (fun _ => rfl) (v98) (k := (v87.pre.length : Int).toNat) (by simpa using f117d); rw [q1, q2, ← q3]; exact z5Z f118
      try simp at f118k
      have f118kl := z1k (g := (fun x0 : Traits => ([.sc (.bool x0.some_), .sc (.bool x0.perms), .sc (.bool x0.resets), .sc (.bool x0.mixed)] : List T))) (m := 4) (fun _ => rfl) (w92.set (v87.pre.length : Int).toNat v98)
      try simp at f118kl
      refine zr rfl rfl rfl (by simp [f117a, f117b, f117c, f117d, f117e, f117l, f117g, f117i, f117h, f117k0, f117k1, f117k2, f117k3, f117m0, f117m1, f117m2, f117m3, f118k, f118kl]; rfl) ?_
      refine z0g (z0a (zr rfl rfl rfl (by simp; rfl) ?_))
      have ho := z0f h10
      refine z0j ho ?_
      simp [z3m]
     ·rw [if_neg c115] at h7
      refine z0s rfl (by simp [c115]) (z0I rfl (z0B ?_))
      obtain ⟨rr3, h8, ho3⟩ := z0d h7
      have hs3 := hr3 _ ho3
      subst hs3
      refine z0v ho3 (z0l rfl (z0g (z0a (zr rfl rfl rfl (by simp; rfl) ?_))))
      have ho := z0f h8
      refine z0j ho ?_
      simp [z3n]
    ·rw [if_neg c105] at h5
     refine z0s rfl (by simp [c105]) (z0I rfl (z0B ?_))
     obtain ⟨rr2, h6, ho2⟩ := z0d h5
     have hs2 := hr2 _ ho2
     subst hs2
     refine z0v ho2 (z0l rfl (z0a (zq rfl ?_)))
     obtain ⟨f119, h7⟩ := zlQ h6
     refine zr rfl rfl rfl (by simp [f119]; rfl) ?_
     refine z0a (zq rfl (zq rfl (zr rfl rfl rfl (by simp; rfl) ?_)))
     refine z0a (zb rfl (z0C h7 (z3l w74) rfl rfl (by simp [z3l]) fun s o4 h8 hr4 => ?_))
     obtain ⟨w101, w102⟩ := s
     simp only [z3o] at h8
     simp only [z3l]
     refine zq rfl (zr rfl rfl rfl (by simp; rfl) ?_)
     refine z0a (zq rfl ?_)
     by_cases c128 : w101 < (w74.length : Int)
     ·rw [if_pos c128] at h8
      refine z0p rfl (by simp [c128]) (z0n rfl (z0a (zq rfl (zb rfl (zq rfl ?_)))))
      obtain ⟨v106, f129, h9⟩ := z0b h8
      obtain ⟨f129a, f129b, f129c, f129d, f129e⟩ := z0W f129
      have f129g := z1e (g := fun x : Traits => ([.sc (.bool x.some_), .sc (.bool x.perms), .sc (.bool x.resets), .sc (.bool x.mixed)] : List T)) (m := 4) (fun _ => rfl) f129d
      have f129h := z1k (g := fun x : Traits => ([.sc (.bool x.some_), .sc (.bool x.perms), .sc (.bool x.resets), .sc (.bool x.mixed)] : List T)) (m := 4) (fun _ => rfl) w74
      have f129k0 := f129g.2.2.1 0 (by decide)
      have f129m0 := f129g.2.2.2 0 _ rfl
      have f129k1 := f129g.2.2.1 1 (by decide)
      have f129m1 := f129g.2.2.2 1 _ rfl
      have f129k2 := f129g.2.2.1 2 (by decide)
      have f129m2 := f129g.2.2.2 2 _ rfl
      have f129k3 := f129g.2.2.1 3 (by decide)
      have f129m3 := f129g.2.2.2 3 _ rfl
      obtain ⟨f129g, f129i, -⟩ := f129g
      try simp at f129i f129h f129k0 f129m0 f129k1 f129m1 f129k2 f129m2 f129k3 f129m3
      refine zr rfl rfl rfl (by simp [f129a, f129b, f129c, f129d, f129e, f129g, f129i, f129h, f129k0, f129k1, f129k2, f129k3, f129m0, f129m1, f129m2, f129m3]; rfl) ?_
      refine z0a ?_
      obtain ⟨v107, f130, h10⟩ := z0b h9
      have f130k := z6R f130
      try simp at f130k
      obtain ⟨v108, f131, h11⟩ := z1x h10
      refine zr rfl rfl rfl (by simp [f130k, f131]; rfl) ?_
      refine z0g (z0a (zr rfl rfl rfl (by simp; rfl) ?_))
      have ho := z0f h11
      refine z0j ho ?_
      simp [z3l]
     ·rw [if_neg c128] at h8
      refine z0s rfl (by simp [c128]) (z0I rfl (z0B ?_))
      obtain ⟨rr4, h9, ho4⟩ := z0d h8
      have hs4 := hr4 _ ho4
      subst hs4
      refine z0v ho4 (z0l rfl (z0a (zq rfl (zr rfl rfl rfl (by simp; rfl) ?_))))
      refine z0a (z0o rfl ?_)
      cases h9
      simp
  ·rw [if_neg c67] at h1
   have c67e := eq_false c67
   refine z0p rfl (by simp [c67e]) (zq rfl (zr rfl rfl rfl (by simp; rfl) ?_))
   refine z0a (z0o rfl (z0c ?_))
   cases h1
   simp
def z4Q (a0 : Casc) (a1 : List Int) (a2 : Int) : Option (List Int × Int) :=
  (z1L a0).bind fun v6 =>
  match v6 with
  | (.inl v7) =>
    if v7.2 = 0 then
      (z0S v7.1 a1 a2).bind fun v8 =>
      some (v8.1, v8.2)
    else
      some ([], v7.2)
  | (.inr v9) =>
    if v9.2 = 0 then
      (z0S (⟨⟨v9.1.c.letters, [], []⟩⟩ : Runner) a1 a2).bind fun v10 =>
      some (v10.1, v10.2)
    else
      some ([], v9.2)
theorem zan {a0 : Casc} {a1 : List Int} {a2 : Int} {r : List Int × Int} (h0 : z4Q a0 a1 a2 = some r) : L 35 [.agg [.sc (.int .i64 a0.letters), .sl a0.sizes.length (a0.sizes.map fun x0 => .sc (.int .i64 x0)), .sl a0.rows.length (a0.rows.flatMap fun x0 => [.sl x0.pre.length (x0.pre.map fun x1 => .sc (.int .i64 x1)), .sl x0.maps.length (x0.maps.map fun x1 => .sl x1.length (x1.map fun x2 => .sc (.int .i64 x2)))])], .sl a1.length (a1.map fun x0 => .sc (.int .i64 x0)), .sc (.int .i64 a2)] = some (.tup [.os 1 r.1.length (r.1.map fun x0 => .sc (.int .i64 x0)), .sc (.int .i64 r.2)], [.dead, .dead, .dead]) := by
  simp only [z4Q] at h0
  refine z1Q zne zot (z0F zq0 ⟨of_decide_eq_true rfl, of_decide_eq_true rfl⟩ ?_)
  simp only [z0K, z0H, z0G, z0L, z1S]
  refine zq rfl (zr rfl rfl rfl (by simp; rfl) ?_)
  refine z0a (zq rfl ?_)
  obtain ⟨v6, f6, h1⟩ := z0b h0
  rcases v6 with v7 | v9
  ·dsimp only at h1
   have f6k := z2c f6
   try simp at f6k
   refine zr rfl rfl rfl (by simp [f6k]; rfl) ?_
   refine z0a (zq rfl (zq rfl (zr rfl rfl rfl (by simp; rfl) ?_)))
   refine z0a ?_
   by_cases c7 : v7.2 = 0
   ·rw [if_pos c7] at h1
    have c7e := eq_true c7
    refine z0s rfl (by simp [c7e]) (z0n rfl (z0a (zq rfl ?_)))
    obtain ⟨v8, f8, h2⟩ := z0b h1
    have f8k := z1N f8
    try simp at f8k
    refine zr rfl rfl rfl (by simp [f8k]; rfl) ?_
    refine z0a (z0o rfl ?_)
    cases h2
    simp
   ·rw [if_neg c7] at h1
    have c7e := eq_false c7
    refine z0p rfl (by simp [c7e]) (zq rfl (zr rfl rfl rfl (by simp; rfl) ?_))
    refine z0a (z0o rfl (z0c ?_))
    cases h1
    simp
  ·dsimp only at h1
   have f6k := z2c f6
   try simp at f6k
   refine zr rfl rfl rfl (by simp [f6k]; rfl) ?_
   refine z0a (zq rfl (zq rfl (zr rfl rfl rfl (by simp; rfl) ?_)))
   refine z0a ?_
   by_cases c9 : v9.2 = 0
   ·rw [if_pos c9] at h1
    have c9e := eq_true c9
    refine z0s rfl (by simp [c9e]) (z0n rfl (z0a (zq rfl ?_)))
    obtain ⟨v10, f10, h2⟩ := z0b h1
    have f10k := z1N f10
    try simp at f10k
    refine zr rfl rfl rfl (by simp [f10k]; rfl) ?_
    refine z0a (z0o rfl ?_)
    cases h2
    simp
   ·rw [if_neg c9] at h1
    have c9e := eq_false c9
    refine z0p rfl (by simp [c9e]) (zq rfl (zr rfl rfl rfl (by simp; rfl) ?_))
    refine z0a (z0o rfl (z0c ?_))
    cases h1
    simp
def z6t (a0 : ByteArray) (a1 : Int) : Int -> Option (Int ⊕ Bool)
  | w10 =>
  if w10 < (a0.size : Int) then
    (zbY a0 w10).bind fun v13 =>
    if v13 < 97 then
      z0t <|
      some false
    else
      if a1 <= (IntKind.i64.wrap (IntKind.u8.wrap (v13 - 97))) then
        z0t <|
        some false
      else
        z0y (IntKind.i64.wrap (w10 + 1))
  else
    z0t <|
    some true
def z4W (a0 : ByteArray) (a1 : Int) : Int -> Fr
  | w10 => ⟨36, [(0, .one (.t none (.sc (.string a0)))), (1, .one (.t none (.sc (.int .i64 a1)))), (18, .one (.t none (.sc (.int .i64 (a0.size : Int))))), (19, .one (.t none (.sc (.int .i64 w10))))], []⟩
def z5n (a0 : ByteArray) (a1 : Int) : Option (Bool) :=
  if a1 < 1 then
    some false
  else
    if 6 < a1 then
      some false
    else
      if 2048 < (a0.size : Int) then
        some false
      else
        z0E (z6t a0 a1) LFm 0
theorem z8j {a0 : ByteArray} {a1 : Int} {r : Bool} (h0 : z5n a0 a1 = some r) : L 32 [.sc (.string a0), .sc (.int .i64 a1)] = some (.sc (.bool r), [.dead, .dead]) := by
  simp only [z5n] at h0
  refine z1Q zng zov (z0F zq2 ⟨of_decide_eq_true rfl, of_decide_eq_true rfl⟩ ?_)
  simp only [z0K, z0H, z0G, z0L, z1S]
  refine zq rfl (zr rfl rfl rfl (by simp; rfl) ?_)
  refine z0a (zq rfl (zq rfl ?_))
  by_cases c16 : a1 < 1
  ·rw [if_pos c16] at h0
   refine zr rfl rfl rfl (by simp [c16]; rfl) ?_
   refine z0a (z0p rfl (by simp) (zq rfl (zr rfl rfl rfl (by simp; rfl) ?_)))
   refine z0a (z0o rfl (z0c ?_))
   cases h0
   simp
  ·rw [if_neg c16] at h0
   by_cases c17 : 6 < a1
   ·rw [if_pos c17] at h0
    refine zr rfl rfl rfl (by simp [c16, c17]; rfl) ?_
    refine z0a (z0p rfl (by simp) (zq rfl (zr rfl rfl rfl (by simp; rfl) ?_)))
    refine z0a (z0o rfl (z0c ?_))
    cases h0
    simp
   ·rw [if_neg c17] at h0
    refine zr rfl rfl rfl (by simp [c16, c17]; rfl) ?_
    refine z0a ?_
    by_cases c18 : 2048 < (a0.size : Int)
    ·rw [if_pos c18] at h0
     refine z0p rfl (by simp [c18]) (zq rfl (zr rfl rfl rfl (by simp; rfl) ?_))
     refine z0a (z0o rfl (z0c ?_))
     cases h0
     simp
    ·rw [if_neg c18] at h0
     refine z0s rfl (by simp [c18]) (z0n rfl (z0a (zq rfl (zq rfl (zr rfl rfl rfl (by simp; rfl) ?_)))))
     refine z0a (zb rfl (z0C h0 (z4W a0 a1) rfl rfl (by simp [z4W]) fun s o1 h1 hr1 => ?_))
     obtain ⟨w10, hs1⟩ : ∃ y, y = s := ⟨_, rfl⟩
     subst hs1
     simp only [z6t] at h1
     simp only [z4W]
     refine zq rfl (zr rfl rfl rfl (by simp; rfl) ?_)
     refine z0a (zq rfl ?_)
     by_cases c27 : w10 < (a0.size : Int)
     ·rw [if_pos c27] at h1
      refine z0p rfl (by simp [c27]) (z0n rfl (z0a (zq rfl (zb rfl (zq rfl (zr rfl rfl rfl (by simp; rfl) ?_))))))
      refine z0a (zq rfl ?_)
      obtain ⟨v13, f28, h2⟩ := z0b h1
      obtain ⟨f28a, f28b, f28w, f28c, f28d, f28g⟩ := z6q f28
      have f28d := f28d.symm
      by_cases c29 : v13 < 97
      ·rw [if_pos c29] at h2
       refine zr rfl rfl rfl (by simp [f28a, f28b, f28c, f28d, f28g, c29]; rfl) ?_
       refine z0a (z0p rfl (by simp) (zq rfl (zr rfl rfl rfl (by simp; rfl) ?_)))
       refine z0a (z0o rfl (z0h (z0c ?_)))
       obtain ⟨rr1, h3, ho1⟩ := z0d h2
       have hs1 := hr1 _ ho1
       subst hs1
       refine z0w ho1 (z0h (z0c ?_))
       cases h3
       simp
      ·rw [if_neg c29] at h2
       refine zr rfl rfl rfl (by simp [f28a, f28b, f28c, f28d, f28g, c29]; rfl) ?_
       refine z0a ?_
       by_cases c30 : a1 <= (IntKind.i64.wrap (IntKind.u8.wrap (v13 - 97)))
       ·rw [if_pos c30] at h2
        refine z0p rfl (by simp [c30]) (zq rfl (zr rfl rfl rfl (by simp; rfl) ?_))
        refine z0a (z0o rfl (z0h (z0c ?_)))
        obtain ⟨rr1, h3, ho1⟩ := z0d h2
        have hs1 := hr1 _ ho1
        subst hs1
        refine z0w ho1 (z0h (z0c ?_))
        cases h3
        simp
       ·rw [if_neg c30] at h2
        refine z0s rfl (by simp [c30]) (z0n rfl (z0g (z0a (zr rfl rfl rfl (by simp; rfl) ?_))))
        have ho := z0f h2
        refine z0j ho ?_
        simp [z4W]
     ·rw [if_neg c27] at h1
      refine z0s rfl (by simp [c27]) (z0I rfl (z0B ?_))
      obtain ⟨rr1, h2, ho1⟩ := z0d h1
      have hs1 := hr1 _ ho1
      subst hs1
      refine z0v ho1 (z0l rfl (z0a (zq rfl (zr rfl rfl rfl (by simp; rfl) ?_))))
      refine z0a (z0o rfl ?_)
      cases h2
      simp
def z4L (a2 : ByteArray) (v27 : Runner × Int) : Int × List Int -> Option ((Int × List Int) ⊕ (List Int × Int))
  | (w33, w34) =>
  if w33 < (a2.size : Int) then
    (zbY a2 w33).bind fun v37 =>
    (z0S v27.1 w34 (IntKind.i64.wrap (IntKind.u8.wrap (v37 - 97)))).bind fun v38 =>
    if v38.2 = 0 then
      z0y (IntKind.i64.wrap (w33 + 1), v38.1)
    else
      z0t <|
      some ([], v38.2)
  else
    z0t <|
    some (w34, 0)
def z4K (a2 : ByteArray) (v27 : Runner × Int) : Int × List Int -> Fr
  | (w33, w34) => ⟨55, [(2, .one (.t none (.sc (.string a2)))), (8, .one (.a 8 [] (0))), (10, .one (.h 10 [])), (35, .one (.t none (.sc (.int .i64 (a2.size : Int))))), (36, .one (.t none (.sc (.int .i64 w33))))], [(8, .vr [.sc (.int .i64 v27.1.c.letters), .sl v27.1.c.sizes.length (v27.1.c.sizes.map fun x0 => .sc (.int .i64 x0)), .sl v27.1.c.rows.length (v27.1.c.rows.flatMap fun x0 => [.sl x0.pre.length (x0.pre.map fun x1 => .sc (.int .i64 x1)), .sl x0.maps.length (x0.maps.map fun x1 => .sl x1.length (x1.map fun x2 => .sc (.int .i64 x2)))])]), (10, .os 1 w34.length (w34.map fun x0 => .sc (.int .i64 x0)))]⟩
def z7k (a2 : ByteArray) (v39 : Runner × Int) : Int × List Int -> Option ((Int × List Int) ⊕ (List Int × Int))
  | (w45, w46) =>
  if w45 < (a2.size : Int) then
    (zbY a2 w45).bind fun v49 =>
    (z0S (⟨⟨v39.1.c.letters, [], []⟩⟩ : Runner) w46 (IntKind.i64.wrap (IntKind.u8.wrap (v49 - 97)))).bind fun v50 =>
    if v50.2 = 0 then
      z0y (IntKind.i64.wrap (w45 + 1), v50.1)
    else
      z0t <|
      some ([], v50.2)
  else
    z0t <|
    some (w46, 0)
def z4l (a2 : ByteArray) (v39 : Runner × Int) : Int × List Int -> Fr
  | (w45, w46) => ⟨55, [(2, .one (.t none (.sc (.string a2)))), (8, .one (.a 8 [] (0))), (10, .one (.h 10 [])), (35, .one (.t none (.sc (.int .i64 (a2.size : Int))))), (36, .one (.t none (.sc (.int .i64 w45))))], [(8, .vr [.sc (.int .i64 v39.1.c.letters), .os 1 0 [], .os 2 0 []]), (10, .os 1 w46.length (w46.map fun x0 => .sc (.int .i64 x0)))]⟩
def z5F (a0 : Casc) (a1 : List Int) (a2 : ByteArray) : Option (List Int × Int) :=
  (z1L a0).bind fun v26 =>
  match v26 with
  | (.inl v27) =>
    if v27.2 = 0 then
      (z1w a0.sizes a1).bind fun v28 =>
      if v28 = true then
        (z5n a2 a0.letters).bind fun v29 =>
        if v29 = true then
          (zaO a1).bind fun v30 =>
          z0E (z4L a2 v27) LFm (0, v30)
        else
          some ([], 1)
      else
        some ([], 1)
    else
      some ([], v27.2)
  | (.inr v39) =>
    if v39.2 = 0 then
      (z1w a0.sizes a1).bind fun v40 =>
      if v40 = true then
        (z5n a2 a0.letters).bind fun v41 =>
        if v41 = true then
          (zaO a1).bind fun v42 =>
          z0E (z7k a2 v39) LFm (0, v42)
        else
          some ([], 1)
      else
        some ([], 1)
    else
      some ([], v39.2)
theorem zaH {a0 : Casc} {a1 : List Int} {a2 : ByteArray} {r : List Int × Int} (h0 : z5F a0 a1 a2 = some r) : L 17 [.agg [.sc (.int .i64 a0.letters), .sl a0.sizes.length (a0.sizes.map fun x0 => .sc (.int .i64 x0)), .sl a0.rows.length (a0.rows.flatMap fun x0 => [.sl x0.pre.length (x0.pre.map fun x1 => .sc (.int .i64 x1)), .sl x0.maps.length (x0.maps.map fun x1 => .sl x1.length (x1.map fun x2 => .sc (.int .i64 x2)))])], .sl a1.length (a1.map fun x0 => .sc (.int .i64 x0)), .sc (.string a2)] = some (.tup [.os 1 r.1.length (r.1.map fun x0 => .sc (.int .i64 x0)), .sc (.int .i64 r.2)], [.dead, .dead, .dead]) := by
  simp only [z5F] at h0
  refine z1Q znn zoC (z0F zq9 ⟨of_decide_eq_true rfl, of_decide_eq_true rfl⟩ ?_)
  simp only [z0K, z0H, z0G, z0L, z1S]
  refine zq rfl (zr rfl rfl rfl (by simp; rfl) ?_)
  refine z0a (zq rfl ?_)
  obtain ⟨v26, f38, h1⟩ := z0b h0
  rcases v26 with v27 | v39
  ·dsimp only at h1
   have f38k := z2c f38
   try simp at f38k
   refine zr rfl rfl rfl (by simp [f38k]; rfl) ?_
   refine z0a (zq rfl (zq rfl (zr rfl rfl rfl (by simp; rfl) ?_)))
   refine z0a ?_
   by_cases c39 : v27.2 = 0
   ·rw [if_pos c39] at h1
    have c39e := eq_true c39
    refine z0s rfl (by simp [c39e]) (z0n rfl (z0a (zq rfl (zq rfl ?_))))
    obtain ⟨v28, f40, h2⟩ := z0b h1
    have f40k := z2S f40
    try simp at f40k
    by_cases c41 : v28 = true
    ·rw [if_pos c41] at h2
     obtain ⟨v29, f42, h3⟩ := z0b h2
     have f42k := z8j f42
     try simp at f42k
     refine zr rfl rfl rfl (by simp [f40k, c41, f42k]; rfl) ?_
     refine z0a ?_
     by_cases c43 : v29 = true
     ·rw [if_pos c43] at h3
      refine z0s rfl (by simp [c43]) (z0n rfl (z0a (zq rfl ?_)))
      obtain ⟨v30, f44, h4⟩ := z0b h3
      have f44k := zc9 f44
      try simp at f44k
      refine zr rfl rfl rfl (by simp [f44k]; rfl) ?_
      refine z0a (zq rfl (zq rfl (zr rfl rfl rfl (by simp; rfl) ?_)))
      refine z0a (zb rfl (z0C h4 (z4K a2 v27) rfl rfl (by simp [z4K]) fun s o1 h5 hr1 => ?_))
      obtain ⟨w33, w34⟩ := s
      simp only [z4L] at h5
      simp only [z4K]
      refine zq rfl (zr rfl rfl rfl (by simp; rfl) ?_)
      refine z0a (zq rfl ?_)
      by_cases c53 : w33 < (a2.size : Int)
      ·rw [if_pos c53] at h5
       refine z0p rfl (by simp [c53]) (z0n rfl (z0a (zq rfl (zb rfl (zq rfl (zr rfl rfl rfl (by simp; rfl) ?_))))))
       refine z0a (zq rfl ?_)
       obtain ⟨v37, f54, h6⟩ := z0b h5
       obtain ⟨f54a, f54b, f54w, f54c, f54d, f54g⟩ := z6q f54
       have f54d := f54d.symm
       obtain ⟨v38, f55, h7⟩ := z0b h6
       have f55k := z1N f55
       try simp at f55k
       refine z1o rfl rfl rfl rfl ?_; repeat' ((first | refine z0D rfl rfl fun Q' hQ => ?_ | refine z0A rfl fun Q' hQ => ?_); simp [f54a, f54b, f54c, f54d, f54g, f55k]; refine hQ.out _ ?_; clear hQ; clear Q')
       refine z0a (zq rfl (zr rfl rfl rfl (by simp; rfl) ?_))
       refine z0a ?_
       by_cases c56 : v38.2 = 0
       ·rw [if_pos c56] at h7
        have c56e := eq_true c56
        refine z0s rfl (by simp [c56e]) (z0n rfl (z0g (z0a (zr rfl rfl rfl (by simp; rfl) ?_))))
        have ho := z0f h7
        refine z0j ho ?_
        simp [z4K]
       ·rw [if_neg c56] at h7
        have c56e := eq_false c56
        refine z0p rfl (by simp [c56e]) (zq rfl (zr rfl rfl rfl (by simp; rfl) ?_))
        refine z0a (z0o rfl (z0h (z0c ?_)))
        obtain ⟨rr1, h8, ho1⟩ := z0d h7
        have hs1 := hr1 _ ho1
        subst hs1
        refine z0w ho1 (z0h (z0c ?_))
        cases h8
        simp
      ·rw [if_neg c53] at h5
       refine z0s rfl (by simp [c53]) (z0I rfl (z0B ?_))
       obtain ⟨rr1, h6, ho1⟩ := z0d h5
       have hs1 := hr1 _ ho1
       subst hs1
       refine z0v ho1 (z0l rfl (z0a (zq rfl (zr rfl rfl rfl (by simp; rfl) ?_))))
       refine z0a (z0o rfl ?_)
       cases h6
       simp
     ·rw [if_neg c43] at h3
      refine z0p rfl (by simp [c43]) (zq rfl (zr rfl rfl rfl (by simp; rfl) ?_))
      refine z0a (z0o rfl (z0c ?_))
      cases h3
      simp [c41, c43]
    ·rw [if_neg c41] at h2
     refine zr rfl rfl rfl (by simp [f40k, c41]; rfl) ?_
     refine z0a (z0p rfl (by simp) (zq rfl (zr rfl rfl rfl (by simp; rfl) ?_)))
     refine z0a (z0o rfl (z0c ?_))
     cases h2
     simp [c41]
   ·rw [if_neg c39] at h1
    have c39e := eq_false c39
    refine z0p rfl (by simp [c39e]) (zq rfl (zr rfl rfl rfl (by simp; rfl) ?_))
    refine z0a (z0o rfl (z0c ?_))
    cases h1
    simp
  ·dsimp only at h1
   have f38k := z2c f38
   try simp at f38k
   refine zr rfl rfl rfl (by simp [f38k]; rfl) ?_
   refine z0a (zq rfl (zq rfl (zr rfl rfl rfl (by simp; rfl) ?_)))
   refine z0a ?_
   by_cases c57 : v39.2 = 0
   ·rw [if_pos c57] at h1
    have c57e := eq_true c57
    refine z0s rfl (by simp [c57e]) (z0n rfl (z0a (zq rfl (zq rfl ?_))))
    obtain ⟨v40, f58, h2⟩ := z0b h1
    have f58k := z2S f58
    try simp at f58k
    by_cases c59 : v40 = true
    ·rw [if_pos c59] at h2
     obtain ⟨v41, f60, h3⟩ := z0b h2
     have f60k := z8j f60
     try simp at f60k
     refine zr rfl rfl rfl (by simp [f58k, c59, f60k]; rfl) ?_
     refine z0a ?_
     by_cases c61 : v41 = true
     ·rw [if_pos c61] at h3
      refine z0s rfl (by simp [c61]) (z0n rfl (z0a (zq rfl ?_)))
      obtain ⟨v42, f62, h4⟩ := z0b h3
      have f62k := zc9 f62
      try simp at f62k
      refine zr rfl rfl rfl (by simp [f62k]; rfl) ?_
      refine z0a (zq rfl (zq rfl (zr rfl rfl rfl (by simp; rfl) ?_)))
      refine z0a (zb rfl (z0C h4 (z4l a2 v39) rfl rfl (by simp [z4l]) fun s o2 h5 hr2 => ?_))
      obtain ⟨w45, w46⟩ := s
      simp only [z7k] at h5
      simp only [z4l]
      refine zq rfl (zr rfl rfl rfl (by simp; rfl) ?_)
      refine z0a (zq rfl ?_)
      by_cases c71 : w45 < (a2.size : Int)
      ·rw [if_pos c71] at h5
       refine z0p rfl (by simp [c71]) (z0n rfl (z0a (zq rfl (zb rfl (zq rfl (zr rfl rfl rfl (by simp; rfl) ?_))))))
       refine z0a (zq rfl ?_)
       obtain ⟨v49, f72, h6⟩ := z0b h5
       obtain ⟨f72a, f72b, f72w, f72c, f72d, f72g⟩ := z6q f72
       have f72d := f72d.symm
       obtain ⟨v50, f73, h7⟩ := z0b h6
       have f73k := z1N f73
       try simp at f73k
       refine z1o rfl rfl rfl rfl ?_; repeat' ((first | refine z0D rfl rfl fun Q' hQ => ?_ | refine z0A rfl fun Q' hQ => ?_); simp [f72a, f72b, f72c, f72d, f72g, f73k]; refine hQ.out _ ?_; clear hQ; clear Q')
       refine z0a (zq rfl (zr rfl rfl rfl (by simp; rfl) ?_))
       refine z0a ?_
       by_cases c74 : v50.2 = 0
       ·rw [if_pos c74] at h7
        have c74e := eq_true c74
        refine z0s rfl (by simp [c74e]) (z0n rfl (z0g (z0a (zr rfl rfl rfl (by simp; rfl) ?_))))
        have ho := z0f h7
        refine z0j ho ?_
        simp [z4l]
       ·rw [if_neg c74] at h7
        have c74e := eq_false c74
        refine z0p rfl (by simp [c74e]) (zq rfl (zr rfl rfl rfl (by simp; rfl) ?_))
        refine z0a (z0o rfl (z0h (z0c ?_)))
        obtain ⟨rr2, h8, ho2⟩ := z0d h7
        have hs2 := hr2 _ ho2
        subst hs2
        refine z0w ho2 (z0h (z0c ?_))
        cases h8
        simp
      ·rw [if_neg c71] at h5
       refine z0s rfl (by simp [c71]) (z0I rfl (z0B ?_))
       obtain ⟨rr2, h6, ho2⟩ := z0d h5
       have hs2 := hr2 _ ho2
       subst hs2
       refine z0v ho2 (z0l rfl (z0a (zq rfl (zr rfl rfl rfl (by simp; rfl) ?_))))
       refine z0a (z0o rfl ?_)
       cases h6
       simp
     ·rw [if_neg c61] at h3
      refine z0p rfl (by simp [c61]) (zq rfl (zr rfl rfl rfl (by simp; rfl) ?_))
      refine z0a (z0o rfl (z0c ?_))
      cases h3
      simp [c59, c61]
    ·rw [if_neg c59] at h2
     refine zr rfl rfl rfl (by simp [f58k, c59]; rfl) ?_
     refine z0a (z0p rfl (by simp) (zq rfl (zr rfl rfl rfl (by simp; rfl) ?_)))
     refine z0a (z0o rfl (z0c ?_))
     cases h2
     simp [c59]
   ·rw [if_neg c57] at h1
    have c57e := eq_false c57
    refine z0p rfl (by simp [c57e]) (zq rfl (zr rfl rfl rfl (by simp; rfl) ?_))
    refine z0a (z0o rfl (z0c ?_))
    cases h1
    simp
def z5L (a0 : Casc) (a2 : ByteArray) : Int × List Int -> Option ((Int × List Int) ⊕ (List Int × Int))
  | (w17, w18) =>
  if w17 < (a2.size : Int) then
    (zbY a2 w17).bind fun v21 =>
    (z5o a0 w18 (IntKind.i64.wrap (IntKind.u8.wrap (v21 - 97)))).bind fun v22 =>
    if v22.2 = 0 then
      z0y (IntKind.i64.wrap (w17 + 1), v22.1)
    else
      z0t <|
      some ([], v22.2)
  else
    z0t <|
    some (w18, 0)
def z5K (a0 : Casc) (a2 : ByteArray) : Int × List Int -> Fr
  | (w17, w18) => ⟨54, [(2, .one (.t none (.sc (.string a2)))), (3, .one (.a 3 [] (0))), (9, .one (.h 9 [])), (10, .one (.t none (.sc (.int .i64 w17))))], [(3, .vr [.sc (.int .i64 a0.letters), .sl a0.sizes.length (a0.sizes.map fun x0 => .sc (.int .i64 x0)), .sl a0.rows.length (a0.rows.flatMap fun x0 => [.sl x0.pre.length (x0.pre.map fun x1 => .sc (.int .i64 x1)), .sl x0.maps.length (x0.maps.map fun x1 => .sl x1.length (x1.map fun x2 => .sc (.int .i64 x2)))])]), (9, .os 1 w18.length (w18.map fun x0 => .sc (.int .i64 x0)))]⟩
def z6X (a0 : Casc) (a1 : List Int) (a2 : ByteArray) : Option (List Int × Int) :=
  (z1t a0).bind fun v12 =>
  if v12 = 0 then
    (z3h a0 a1).bind fun v13 =>
    if v13 = true then
      (z5x a2 a0.letters).bind fun v14 =>
      if v14 = true then
        chk (z1g 8 (a1.length)) <|
        z0E (z5L a0 a2) LFm (0, a1)
      else
        some ([], 1)
    else
      some ([], 1)
  else
    some ([], v12)
theorem zcA {a0 : Casc} {a1 : List Int} {a2 : ByteArray} {r : List Int × Int} (h0 : z6X a0 a1 a2 = some r) : L 47 [.agg [.sc (.int .i64 a0.letters), .sl a0.sizes.length (a0.sizes.map fun x0 => .sc (.int .i64 x0)), .sl a0.rows.length (a0.rows.flatMap fun x0 => [.sl x0.pre.length (x0.pre.map fun x1 => .sc (.int .i64 x1)), .sl x0.maps.length (x0.maps.map fun x1 => .sl x1.length (x1.map fun x2 => .sc (.int .i64 x2)))])], .sl a1.length (a1.map fun x0 => .sc (.int .i64 x0)), .sc (.string a2)] = some (.tup [.os 1 r.1.length (r.1.map fun x0 => .sc (.int .i64 x0)), .sc (.int .i64 r.2)], [.dead, .dead, .dead]) := by
  simp only [z6X] at h0
  refine z1Q zn6 zol (z0F zpS ⟨of_decide_eq_true rfl, of_decide_eq_true rfl⟩ ?_)
  simp only [z0K, z0H, z0G, z0L, z1S]
  refine zq rfl (zr rfl rfl rfl (by simp; rfl) ?_)
  refine z0a (zq rfl (zq rfl ?_))
  obtain ⟨v12, f20, h1⟩ := z0b h0
  have f20k := z2g f20
  try simp at f20k
  refine zr rfl rfl rfl (by simp [f20k]; rfl) ?_
  refine z0a (zq rfl (zr rfl rfl rfl (by simp; rfl) ?_))
  refine z0a ?_
  by_cases c21 : v12 = 0
  ·rw [if_pos c21] at h1
   have c21e := eq_true c21
   refine z0s rfl (by simp [c21e]) (z0n rfl (z0a (zq rfl (zq rfl ?_))))
   obtain ⟨v13, f22, h2⟩ := z0b h1
   have f22k := z6H f22
   try simp at f22k
   by_cases c23 : v13 = true
   ·rw [if_pos c23] at h2
    obtain ⟨v14, f24, h3⟩ := z0b h2
    have f24k := zaB f24
    try simp at f24k
    refine zr rfl rfl rfl (by simp [f22k, c23, f24k]; rfl) ?_
    refine z0a ?_
    by_cases c25 : v14 = true
    ·rw [if_pos c25] at h3
     refine z0s rfl (by simp [c25]) (z0n rfl (z0a (zq rfl ?_)))
     obtain ⟨f26, h4⟩ := z5l h3
     refine zr rfl rfl rfl (by simp [f26]; rfl) ?_
     refine z0a (zq rfl (zq rfl (zr rfl rfl rfl (by simp; rfl) ?_)))
     refine z0a (zb rfl (z0C h4 (z5K a0 a2) rfl rfl (by simp [z5K]) fun s o1 h5 hr1 => ?_))
     obtain ⟨w17, w18⟩ := s
     simp only [z5L] at h5
     simp only [z5K]
     refine zq rfl (zq rfl (zr rfl rfl rfl (by simp; rfl) ?_))
     refine z0a ?_
     by_cases c35 : w17 < (a2.size : Int)
     ·rw [if_pos c35] at h5
      refine z0p rfl (by simp [c35]) (z0n rfl (z0a (zq rfl (zb rfl (zq rfl ?_)))))
      obtain ⟨v21, f36, h6⟩ := z0b h5
      obtain ⟨f36a, f36b, f36w, f36c, f36d, f36g⟩ := z6q f36
      have f36d := f36d.symm
      obtain ⟨v22, f37, h7⟩ := z0b h6
      have f37k := z8q f37
      try simp at f37k
      refine z1o rfl rfl rfl rfl ?_; repeat' ((first | refine z0D rfl rfl fun Q' hQ => ?_ | refine z0A rfl fun Q' hQ => ?_); simp [f36a, f36b, f36c, f36d, f36g, f37k]; refine hQ.out _ ?_; clear hQ; clear Q')
      refine z0a (zq rfl (zq rfl (zr rfl rfl rfl (by simp; rfl) ?_)))
      refine z0a ?_
      by_cases c38 : v22.2 = 0
      ·rw [if_pos c38] at h7
       have c38e := eq_true c38
       refine z0s rfl (by simp [c38e]) (z0n rfl (z0a (zr rfl rfl rfl (by simp; rfl) ?_)))
       refine z0g (z0a (zr rfl rfl rfl (by simp; rfl) ?_))
       have ho := z0f h7
       refine z0j ho ?_
       simp [z5K]
      ·rw [if_neg c38] at h7
       have c38e := eq_false c38
       refine z0p rfl (by simp [c38e]) (zq rfl (zr rfl rfl rfl (by simp; rfl) ?_))
       refine z0a (z0o rfl (z0c (z0h (z0c ?_))))
       obtain ⟨rr1, h8, ho1⟩ := z0d h7
       have hs1 := hr1 _ ho1
       subst hs1
       refine z0w ho1 (z0h (z0c ?_))
       cases h8
       simp
     ·rw [if_neg c35] at h5
      refine z0s rfl (by simp [c35]) (z0I rfl (z0B ?_))
      obtain ⟨rr1, h6, ho1⟩ := z0d h5
      have hs1 := hr1 _ ho1
      subst hs1
      refine z0v ho1 (z0l rfl (z0a (zq rfl (zr rfl rfl rfl (by simp; rfl) ?_))))
      refine z0a (z0o rfl ?_)
      cases h6
      simp
    ·rw [if_neg c25] at h3
     refine z0p rfl (by simp [c25]) (zq rfl (zr rfl rfl rfl (by simp; rfl) ?_))
     refine z0a (z0o rfl (z0c ?_))
     cases h3
     simp [c23, c25]
   ·rw [if_neg c23] at h2
    refine zr rfl rfl rfl (by simp [f22k, c23]; rfl) ?_
    refine z0a (z0p rfl (by simp) (zq rfl (zr rfl rfl rfl (by simp; rfl) ?_)))
    refine z0a (z0o rfl (z0c ?_))
    cases h2
    simp [c23]
  ·rw [if_neg c21] at h1
   have c21e := eq_false c21
   refine z0p rfl (by simp [c21e]) (zq rfl (zr rfl rfl rfl (by simp; rfl) ?_))
   refine z0a (z0o rfl (z0c ?_))
   cases h1
   simp
def z6d (a0 : Casc) (a1 : List Int) (a2 : Int) : Option (List Int × Int) :=
  (z1t a0).bind fun v4 =>
  if v4 = 0 then
    (z3h a0 a1).bind fun v5 =>
    if v5 = true then
      if a2 < 0 then
        some ([], 1)
      else
        if a0.letters <= a2 then
          some ([], 1)
        else
          (z5o a0 a1 a2).bind fun v6 =>
          some (v6.1, v6.2)
    else
      some ([], 1)
  else
    some ([], v4)
theorem zbr {a0 : Casc} {a1 : List Int} {a2 : Int} {r : List Int × Int} (h0 : z6d a0 a1 a2 = some r) : L 46 [.agg [.sc (.int .i64 a0.letters), .sl a0.sizes.length (a0.sizes.map fun x0 => .sc (.int .i64 x0)), .sl a0.rows.length (a0.rows.flatMap fun x0 => [.sl x0.pre.length (x0.pre.map fun x1 => .sc (.int .i64 x1)), .sl x0.maps.length (x0.maps.map fun x1 => .sl x1.length (x1.map fun x2 => .sc (.int .i64 x2)))])], .sl a1.length (a1.map fun x0 => .sc (.int .i64 x0)), .sc (.int .i64 a2)] = some (.tup [.os 1 r.1.length (r.1.map fun x0 => .sc (.int .i64 x0)), .sc (.int .i64 r.2)], [.dead, .dead, .dead]) := by
  simp only [z6d] at h0
  refine z1Q zn7 zom (z0F zpT ⟨of_decide_eq_true rfl, of_decide_eq_true rfl⟩ ?_)
  simp only [z0K, z0H, z0G, z0L, z1S]
  refine zq rfl (zr rfl rfl rfl (by simp; rfl) ?_)
  refine z0a (zq rfl (zq rfl ?_))
  obtain ⟨v4, f8, h1⟩ := z0b h0
  have f8k := z2g f8
  try simp at f8k
  refine zr rfl rfl rfl (by simp [f8k]; rfl) ?_
  refine z0a (zq rfl (zr rfl rfl rfl (by simp; rfl) ?_))
  refine z0a ?_
  by_cases c9 : v4 = 0
  ·rw [if_pos c9] at h1
   have c9e := eq_true c9
   refine z0s rfl (by simp [c9e]) (z0n rfl (z0a (zq rfl (zq rfl ?_))))
   obtain ⟨v5, f10, h2⟩ := z0b h1
   have f10k := z6H f10
   try simp at f10k
   by_cases c11 : v5 = true
   ·rw [if_pos c11] at h2
    by_cases c12 : a2 < 0
    ·rw [if_pos c12] at h2
     refine zr rfl rfl rfl (by simp [f10k, c11, c12]; rfl) ?_
     refine z0a (z0p rfl (by simp) (zq rfl (zr rfl rfl rfl (by simp; rfl) ?_)))
     refine z0a (z0o rfl (z0c ?_))
     cases h2
     simp [c11]
    ·rw [if_neg c12] at h2
     refine zr rfl rfl rfl (by simp [f10k, c11, c12]; rfl) ?_
     refine z0a ?_
     by_cases c13 : a0.letters <= a2
     ·rw [if_pos c13] at h2
      refine z0p rfl (by simp [c13]) (zq rfl (zr rfl rfl rfl (by simp; rfl) ?_))
      refine z0a (z0o rfl (z0c ?_))
      cases h2
      simp [c11]
     ·rw [if_neg c13] at h2
      refine z0s rfl (by simp [c13]) (z0n rfl (z0a (zq rfl ?_)))
      obtain ⟨v6, f14, h3⟩ := z0b h2
      have f14k := z8q f14
      try simp at f14k
      refine zr rfl rfl rfl (by simp [f14k]; rfl) ?_
      refine z0a (z0o rfl ?_)
      cases h3
      simp [c11]
   ·rw [if_neg c11] at h2
    refine zr rfl rfl rfl (by simp [f10k, c11]; rfl) ?_
    refine z0a (z0p rfl (by simp) (zq rfl (zr rfl rfl rfl (by simp; rfl) ?_)))
    refine z0a (z0o rfl (z0c ?_))
    cases h2
    simp [c11]
  ·rw [if_neg c9] at h1
   have c9e := eq_false c9
   refine z0p rfl (by simp [c9e]) (zq rfl (zr rfl rfl rfl (by simp; rfl) ?_))
   refine z0a (z0o rfl (z0c ?_))
   cases h1
   simp
def z2l (a0 : Casc) (a1 : List Int) (a2 : Int) (a3 : ByteArray) : Option (Bool) :=
  (z1n a0).bind fun v14 =>
  (z1t a0).bind fun v15 =>
  if v14 = v15 then
    (z4m a0).bind fun v16 =>
    (z5w a0).bind fun v17 =>
    (z3V v16 v17).bind fun v18 =>
    if v18 = true then
      (z4Q a0 a1 a2).bind fun v19 =>
      (z6d a0 a1 a2).bind fun v20 =>
      (z5F a0 a1 a3).bind fun v21 =>
      (z6X a0 a1 a3).bind fun v22 =>
      (z3C a0).bind fun v23 =>
      (z4N a0).bind fun v24 =>
      if v19.2 = v20.2 then
        (z3V v19.1 v20.1).bind fun v25 =>
        if v25 = true then
          if v21.2 = v22.2 then
            (z3V v21.1 v22.1).bind fun v26 =>
            if v26 = true then
              if v23.2 = v24.2 then
                some (decide (v23.1 = v24.1))
              else
                some false
            else
              some false
          else
            some false
        else
          some false
      else
        some false
    else
      some false
  else
    some false
theorem z2n {a0 : Casc} {a1 : List Int} {a2 : Int} {a3 : ByteArray} {r : Bool} (h0 : z2l a0 a1 a2 a3 = some r) : L 24 [.agg [.sc (.int .i64 a0.letters), .sl a0.sizes.length (a0.sizes.map fun x0 => .sc (.int .i64 x0)), .sl a0.rows.length (a0.rows.flatMap fun x0 => [.sl x0.pre.length (x0.pre.map fun x1 => .sc (.int .i64 x1)), .sl x0.maps.length (x0.maps.map fun x1 => .sl x1.length (x1.map fun x2 => .sc (.int .i64 x2)))])], .sl a1.length (a1.map fun x0 => .sc (.int .i64 x0)), .sc (.int .i64 a2), .sc (.string a3)] = some (.sc (.bool r), [.dead, .dead, .dead, .dead]) := by
  simp only [z2l] at h0
  refine z1Q znl zoA (z0F zq7 ⟨of_decide_eq_true rfl, of_decide_eq_true rfl⟩ ?_)
  simp only [z0K, z0H, z0G, z0L, z1S]
  refine zq rfl (zr rfl rfl rfl (by simp; rfl) ?_)
  refine z0a (zq rfl (zq rfl ?_))
  obtain ⟨v14, f21, h1⟩ := z0b h0
  have f21k := z2y f21
  try simp at f21k
  obtain ⟨v15, f22, h2⟩ := z0b h1
  have f22k := z2g f22
  try simp at f22k
  by_cases c23 : v14 = v15
  ·rw [if_pos c23] at h2
   have c23e := eq_true c23
   obtain ⟨v16, f24, h3⟩ := z0b h2
   have f24k := z9v f24
   try simp at f24k
   obtain ⟨v17, f25, h4⟩ := z0b h3
   have f25k := zaA f25
   try simp at f25k
   obtain ⟨v18, f26, h5⟩ := z0b h4
   have f26k := z5b f26
   try simp at f26k
   refine z1o rfl rfl rfl rfl ?_; repeat' (first | (refine z0D rfl rfl fun Q' hQ => ?_; simp [f21k, f22k, c23e, f24k, f25k, f26k]; refine hQ.out _ ?_; clear hQ; clear Q') | (refine z0V rfl rfl fun Q1 Q2 h1 h2 => ?_; simp [f21k, f22k, c23e, f24k, f25k, f26k, z2e]; (first | refine h1.out ?_ | refine h2.out ?_); clear h1 h2; clear Q1 Q2; intro Q' hQ; simp [f21k, f22k, c23e, f24k, f25k, f26k]; refine hQ.out _ ?_; clear hQ; clear Q') | (refine z0A rfl fun Q' hQ => ?_; simp [f21k, f22k, c23e, f24k, f25k, f26k]; refine hQ.out _ ?_; clear hQ; clear Q'))
   refine z0a ?_
   by_cases c27 : v18 = true
   ·rw [if_pos c27] at h5
    refine z0s rfl (by simp [c27]) (z0n rfl (z0a (zq rfl ?_)))
    obtain ⟨v19, f28, h6⟩ := z0b h5
    have f28k := zan f28
    try simp at f28k
    refine zr rfl rfl rfl (by simp [f28k]; rfl) ?_
    refine z0a (zq rfl ?_)
    obtain ⟨v20, f29, h7⟩ := z0b h6
    have f29k := zbr f29
    try simp at f29k
    refine zr rfl rfl rfl (by simp [f29k]; rfl) ?_
    refine z0a (zq rfl ?_)
    obtain ⟨v21, f30, h8⟩ := z0b h7
    have f30k := zaH f30
    try simp at f30k
    refine zr rfl rfl rfl (by simp [f30k]; rfl) ?_
    refine z0a (zq rfl ?_)
    obtain ⟨v22, f31, h9⟩ := z0b h8
    have f31k := zcA f31
    try simp at f31k
    refine zr rfl rfl rfl (by simp [f31k]; rfl) ?_
    refine z0a (zq rfl ?_)
    obtain ⟨v23, f32, h10⟩ := z0b h9
    have f32k := z9e f32
    try simp at f32k
    refine zr rfl rfl rfl (by simp [f32k]; rfl) ?_
    refine z0a (zq rfl ?_)
    obtain ⟨v24, f33, h11⟩ := z0b h10
    have f33k := za1 f33
    try simp at f33k
    refine zr rfl rfl rfl (by simp [f33k]; rfl) ?_
    refine z0a (zq rfl ?_)
    by_cases c34 : v19.2 = v20.2
    ·rw [if_pos c34] at h11
     have c34e := eq_true c34
     obtain ⟨v25, f35, h12⟩ := z0b h11
     have f35k := z5b f35
     try simp at f35k
     by_cases c36 : v25 = true
     ·rw [if_pos c36] at h12
      by_cases c37 : v21.2 = v22.2
      ·rw [if_pos c37] at h12
       have c37e := eq_true c37
       obtain ⟨v26, f38, h13⟩ := z0b h12
       have f38k := z5b f38
       try simp at f38k
       by_cases c39 : v26 = true
       ·rw [if_pos c39] at h13
        by_cases c40 : v23.2 = v24.2
        ·rw [if_pos c40] at h13
         have c40e := eq_true c40
         refine zr rfl rfl rfl (by simp [c34e, f35k, c36, c37e, f38k, c39, c40e]; rfl) ?_
         refine z0a (z0o rfl ?_)
         cases h13
         simp [c27, c36, c39]
        ·rw [if_neg c40] at h13
         have c40e := eq_false c40
         refine zr rfl rfl rfl (by simp [c34e, f35k, c36, c37e, f38k, c39, c40e]; rfl) ?_
         refine z0a (z0o rfl ?_)
         cases h13
         simp [c27, c36, c39]
       ·rw [if_neg c39] at h13
        refine zr rfl rfl rfl (by simp [c34e, f35k, c36, c37e, f38k, c39]; rfl) ?_
        refine z0a (z0o rfl ?_)
        cases h13
        simp [c27, c36, c39]
      ·rw [if_neg c37] at h12
       have c37e := eq_false c37
       refine zr rfl rfl rfl (by simp [c34e, f35k, c36, c37e]; rfl) ?_
       refine z0a (z0o rfl ?_)
       cases h12
       simp [c27, c36]
     ·rw [if_neg c36] at h12
      refine zr rfl rfl rfl (by simp [c34e, f35k, c36]; rfl) ?_
      refine z0a (z0o rfl ?_)
      cases h12
      simp [c27, c36]
    ·rw [if_neg c34] at h11
     have c34e := eq_false c34
     refine zr rfl rfl rfl (by simp [c34e]; rfl) ?_
     refine z0a (z0o rfl ?_)
     cases h11
     simp [c27]
   ·rw [if_neg c27] at h5
    refine z0p rfl (by simp [c27]) (zq rfl (zr rfl rfl rfl (by simp; rfl) ?_))
    refine z0a (z0o rfl (z0c ?_))
    cases h5
    simp [c27]
  ·rw [if_neg c23] at h2
   have c23e := eq_false c23
   refine z1o rfl rfl rfl rfl ?_; repeat' (first | (refine z0D rfl rfl fun Q' hQ => ?_; simp [f21k, f22k, c23e]; refine hQ.out _ ?_; clear hQ; clear Q') | (refine z0V rfl rfl fun Q1 Q2 h1 h2 => ?_; simp [f21k, f22k, c23e, z2e]; (first | refine h1.out ?_ | refine h2.out ?_); clear h1 h2; clear Q1 Q2; intro Q' hQ; simp [f21k, f22k, c23e]; refine hQ.out _ ?_; clear hQ; clear Q') | (refine z0A rfl fun Q' hQ => ?_; simp [f21k, f22k, c23e]; refine hQ.out _ ?_; clear hQ; clear Q'))
   refine z0a (z0p rfl (by simp) (zq rfl (zr rfl rfl rfl (by simp; rfl) ?_)))
   refine z0a (z0o rfl (z0c ?_))
   cases h2
   simp
end
end
section
open Go
def zgx (n : Int) : List Int := if n < 10 then [48 + n] else [48 + n / 10, 48 + n % 10]
theorem zkO : ∀ k : Nat, k < 10 -> z8F (ByteArray.extract ⟨#[48,49,50,51,52,53,54,55,56,57,97,98,99,100,101,102,103,104,105,106,107,108,109,110,111,112,113,114,115,116,117,118,119,120,121,122]⟩ k (k + 1)) = zgx (k : Int) := by decide +kernel
theorem zkN : ∀ k : Nat, k < 100 -> ¬ k < 10 -> z8F (ByteArray.extract ⟨#[48,48,48,49,48,50,48,51,48,52,48,53,48,54,48,55,48,56,48,57,49,48,49,49,49,50,49,51,49,52,49,53,49,54,49,55,49,56,49,57,50,48,50,49,50,50,50,51,50,52,50,53,50,54,50,55,50,56,50,57,51,48,51,49,51,50,51,51,51,52,51,53,51,54,51,55,51,56,51,57,52,48,52,49,52,50,52,51,52,52,52,53,52,54,52,55,52,56,52,57,53,48,53,49,53,50,53,51,53,52,53,53,53,54,53,55,53,56,53,57,54,48,54,49,54,50,54,51,54,52,54,53,54,54,54,55,54,56,54,57,55,48,55,49,55,50,55,51,55,52,55,53,55,54,55,55,55,56,55,57,56,48,56,49,56,50,56,51,56,52,56,53,56,54,56,55,56,56,56,57,57,48,57,49,57,50,57,51,57,52,57,53,57,54,57,55,57,56,57,57]⟩ (k * 2) (k * 2 + 2)) = zgx (k : Int) := by decide +kernel
theorem zbT (n : Int) : 1 <= (zgx n).length /\ (zgx n).length <= 2 := by unfold zgx; split <;> simp
theorem ziE (x : Int) (h0 : 0 <= x) (h1 : x < 100) : ∃ s, z3d x = some s /\ z8F s = zgx x /\ s.size <= 2 := by
  obtain ⟨k, rfl⟩ := Int.eq_ofNat_of_zero_le h0
  unfold z3d
  split
  · rename_i h
    rw [z1E (by omega)]
    unfold zb2
    rw [if_pos (by refine ⟨by omega, by omega, ?_⟩; show ((k + 1 : Nat) : Int) <= 36; omega)]
    refine ⟨_, rfl, ?_, ?_⟩
    · rw [Int.toNat_natCast, Int.toNat_natCast]; exact zkO k (by omega)
    · simp only [Int.toNat_natCast, ByteArray.size_extract]; omega
  · rename_i h
    rw [z5Q (x := (k : Int) * 2) (by omega) (by omega), z5Q (by omega) (by omega)]
    unfold zb2
    rw [if_pos (by refine ⟨by omega, by omega, ?_⟩; show (k : Int) * 2 + 2 <= 200; omega)]
    have e1 : ((k : Int) * 2).toNat = k * 2 := by omega
    have e2 : ((k : Int) * 2 + 2).toNat = k * 2 + 2 := by omega
    refine ⟨_, rfl, ?_, ?_⟩
    · rw [e1, e2]; exact zkN k (by omega) (by omega)
    · simp only [e1, e2, ByteArray.size_extract]; omega
theorem zdv (a : List Int) (x : Int) (h0 : 0 <= x) (h1 : x < 100) (ha : a.length < 100000000) : z2f a x 10 = some (a ++ zgx x) := by
  obtain ⟨s, e, e2, e3⟩ := ziE x h0 h1
  have w1 : IntKind.u64.wrap x = x := by rw [IntKind.wrap_u64]; omega
  unfold z2f z2u
  rw [if_neg (by omega), w1]
  unfold z1F
  rw [if_pos rfl, if_pos (by omega), z5Q (by omega) (by omega), e]
  simp only [Option.bind_some]
  rw [z0R _ (by unfold z1g; omega), e2]
  rfl
def z2D (xs : List Int) : List Int := xs.flatMap fun x => 32 :: zgx x
theorem z7r (xs : List Int) (k : Nat) (h : k < xs.length) : z2D (xs.take (k + 1)) = z2D (xs.take k) ++ (32 :: zgx (xs.getD k 0)) := by
  have e : xs.getD k 0 = xs[k] := by simp [List.getD, List.getElem?_eq_getElem h]
  rw [List.take_succ_eq_append_getElem h, e]
  unfold z2D
  rw [List.flatMap_append]
  simp
theorem z2i : ∀ xs : List Int, (z2D xs).length <= 3 * xs.length
  | [] => by simp [z2D]
  | x :: xs => by
    have := z2i xs
    have h2 := (zbT x).2
    simp only [z2D, List.flatMap_cons, List.length_append, List.length_cons] at this ⊢
    omega
theorem zdq {α : Type} {xs : List α} {k : Nat} (d : α) (h : k < xs.length) : atI xs (k : Int) = some (xs.getD k d) := by
  rw [z0T h]; simp [List.getD, List.getElem?_eq_getElem h]
theorem z7x {α : Type} {xs : List α} {k : Nat} (d : α) (h : k < xs.length) : xs.getD k d ∈ xs := by
  rw [show xs.getD k d = xs[k] by simp [List.getD, List.getElem?_eq_getElem h]]; exact List.getElem_mem h
theorem z3M (a xs : List Int) (hx : ∀ x ∈ xs, 0 <= x /\ x < 100) (ha : a.length + 3 * xs.length < 100000000) : z0M a xs = some (a ++ z2D xs) := by
  unfold z0M
  refine (z2L (x := some (a ++ z2D xs)) xs.length (fun k => ((k : Int), a ++ z2D (xs.take k))) (by simp [z2D]) (by simp only [LFm]; omega) (fun k hk => ?_) ?_)
  · have hm := hx _ (z7x 0 hk)
    have hl := z2i (xs.take k)
    rw [List.length_take] at hl
    simp only [z1D]
    rw [if_pos (by omega), zdq 0 hk]
    simp only [Option.bind_some]
    rw [z0R _ (by unfold z1g; simp only [List.length_append]; omega), zdv _ _ hm.1 hm.2 (by simp only [List.length_append, List.length_singleton]; omega)]
    simp only [Option.bind_some]
    rw [z1E (by omega), z7r xs k hk]
    simp
  · simp only [z1D]
    rw [if_neg (by omega), List.take_length]
theorem zdb (n : Int) (h0 : 0 <= n) (h1 : n < 100) : z1l 12 n = some (z0P (zgx n)) := by
  have d9 : ∀ (k : Nat) (m : Int), 0 <= m -> m < 10 -> z1l (k + 1) m = some (z0P [48 + m]) := by
    intro k m a b
    simp only [z1l, z2K]
    rw [if_pos b, z5Q (by omega) (by omega), zgP (by omega) (by omega)]
    rfl
  unfold zgx
  by_cases h : n < 10
  · rw [if_pos h]; exact d9 11 n h0 h
  · rw [if_neg h]
    have e1 : zlu .i64 n 10 = n / 10 := by
      unfold zlu
      rw [Int.tdiv_eq_ediv_of_nonneg h0]
      exact z5Q (by omega) (by omega)
    have e2 : n.tmod 10 = n % 10 := Int.tmod_eq_emod_of_nonneg h0
    rw [show z1l 12 n = z2K (z1l 11) n from rfl]
    unfold z2K
    rw [if_neg h, e1, d9 10 _ (by omega) (by omega), e2, z5Q (x := 48 + n % 10) (by omega) (by omega), zgP (by omega) (by omega)]
    simp only [Option.bind_some]
    rw [z0R _ (by unfold z5E; show ((1 : Nat) : Int) + ((1 : Nat) : Int) <= _; omega)]
    rfl
end
section
def z7Y : List Int -> List Int -> Bool
  | _, [] => false
  | [], _ :: _ => true
  | a :: x, b :: y => decide (a < b) || (decide (a = b) && z7Y x y)
def z6p : List Int -> List Int -> Int
  | [], [] => 0
  | [], _ :: _ => -1
  | _ :: _, [] => 1
  | a :: x, b :: y => if a < b then -1 else if b < a then 1 else z6p x y
def z8e (a b : List Int) : Int := if a.length < b.length then -1 else if b.length < a.length then 1 else z6p a b
def inB (sizes xs : List Int) : Bool := (xs.zip sizes).all fun p => decide (0 <= p.1) && decide (p.1 < p.2)
def z7R (sizes xs : List Int) : Bool := decide (xs.length = sizes.length) && inB sizes xs
theorem z0r {α : Type} {l : List α} {i : Nat} (d : α) (h : i < l.length) : l.getD i d = l[i] := by simp [List.getD, List.getElem?_eq_getElem h]
theorem zbD {xs ys : List Int} (hl : xs.length = ys.length) (h : ∀ i, i < xs.length -> xs.getD i 0 = ys.getD i 0) : xs = ys := by
  apply List.ext_getElem hl
  intro i h1 h2
  have := h i h1
  rwa [z0r 0 h1, z0r 0 h2] at this
theorem z4S (sizes xs : List Int) (hl : xs.length <= sizes.length) : inB sizes xs = true ↔ ∀ i, i < xs.length -> 0 <= xs.getD i 0 /\ xs.getD i 0 < sizes.getD i 0 := by
  unfold inB
  rw [List.all_eq_true]
  constructor
  · intro h i hi
    have hz : i < (xs.zip sizes).length := by simp; omega
    have := h (xs.zip sizes)[i] (List.getElem_mem _)
    simp only [List.getElem_zip, Bool.and_eq_true, decide_eq_true_eq] at this
    rw [z0r 0 hi, z0r 0 (by omega)]
    exact this
  · intro h p hp
    obtain ⟨i, hi, rfl⟩ := List.getElem_of_mem hp
    have hz : i < xs.length := by simp at hi; omega
    have := h i hz
    rw [z0r 0 hz, z0r 0 (by omega)] at this
    simp only [List.getElem_zip, Bool.and_eq_true, decide_eq_true_eq]
    exact this
theorem zb7 : ∀ (xs ys : List Int) (k : Nat), k < xs.length -> k < ys.length -> (∀ i, i < k -> xs.getD i 0 = ys.getD i 0) -> xs.getD k 0 ≠ ys.getD k 0 -> z7Y xs ys = decide (xs.getD k 0 < ys.getD k 0)
  | [], _, k, h, _, _, _ => by simp at h
  | _ :: _, [], k, _, h, _, _ => by simp at h
  | a :: x, b :: y, 0, _, _, _, hne => by
    simp at hne
    simp [z7Y, hne]
  | a :: x, b :: y, k + 1, h1, h2, he, hne => by
    have h0 := he 0 (by omega)
    simp at h0
    subst h0
    have ih := zb7 x y k (by simpa using h1) (by simpa using h2) (fun i hi => by have := he (i + 1) (by omega); simpa using this) (by simpa using hne)
    simp [z7Y] at ih ⊢
    exact ih
theorem zaa : ∀ (xs ys : List Int), (∀ i, i < xs.length -> i < ys.length -> xs.getD i 0 = ys.getD i 0) -> z7Y xs ys = decide (xs.length < ys.length)
  | [], [], _ => by simp [z7Y]
  | [], _ :: _, _ => by simp [z7Y]
  | _ :: _, [], _ => by simp [z7Y]
  | a :: x, b :: y, he => by
    have h0 := he 0 (by simp) (by simp)
    simp at h0
    subst h0
    have ih := zaa x y (fun i h1 h2 => by have := he (i + 1) (by simpa using h1) (by simpa using h2); simpa using this)
    simp [z7Y, ih]
theorem zdh : ∀ (xs ys : List Int) (k : Nat), k < xs.length -> k < ys.length -> (∀ i, i < k -> xs.getD i 0 = ys.getD i 0) -> xs.getD k 0 ≠ ys.getD k 0 -> z6p xs ys = if xs.getD k 0 < ys.getD k 0 then -1 else 1
  | [], _, k, h, _, _, _ => by simp at h
  | _ :: _, [], k, _, h, _, _ => by simp at h
  | a :: x, b :: y, 0, _, _, _, hne => by
    simp at hne
    simp only [z6p, List.getD_cons_zero]
    by_cases h : a < b
    · simp [h]
    · have : b < a := by omega
      simp [h, this]
  | a :: x, b :: y, k + 1, h1, h2, he, hne => by
    have h0 := he 0 (by omega)
    simp at h0
    subst h0
    have ih := zdh x y k (by simpa using h1) (by simpa using h2) (fun i hi => by have := he (i + 1) (by omega); simpa using this) (by simpa using hne)
    simp [z6p] at ih ⊢
    exact ih
theorem zbX : ∀ (xs ys : List Int), (∀ i, i < xs.length -> i < ys.length -> xs.getD i 0 = ys.getD i 0) -> z6p xs ys = if xs.length < ys.length then -1 else if ys.length < xs.length then 1 else 0
  | [], [], _ => by simp [z6p]
  | [], _ :: _, _ => by simp [z6p]
  | _ :: _, [], _ => by simp [z6p]
  | a :: x, b :: y, he => by
    have h0 := he 0 (by simp) (by simp)
    simp at h0
    subst h0
    have ih := zbX x y (fun i h1 h2 => by have := he (i + 1) (by simpa using h1) (by simpa using h2); simpa using this)
    simp [z6p, ih]
theorem zi7 : ∀ (xs ys : List Int), z7Y xs ys = decide (z6p xs ys < 0)
  | [], [] => by simp [z6p, z7Y]
  | [], _ :: _ => by simp [z6p, z7Y]
  | _ :: _, [] => by simp [z6p, z7Y]
  | a :: x, b :: y => by
    have ih := zi7 x y
    simp only [z6p, z7Y, ih]
    by_cases h : a < b
    · simp [h]
    · by_cases h2 : b < a
      · have : a ≠ b := by omega
        simp [h, h2, this]
      · have : a = b := by omega
        simp [this]
theorem zdg : ∀ (xs ys : List Int), z6p xs ys = 0 ↔ xs = ys
  | [], [] => by simp [z6p]
  | [], _ :: _ => by simp [z6p]
  | _ :: _, [] => by simp [z6p]
  | a :: x, b :: y => by
    have ih := zdg x y
    simp only [z6p]
    by_cases h : a < b
    · have : a ≠ b := by omega
      simp [h, this]
    · by_cases h2 : b < a
      · have : a ≠ b := by omega
        simp [h, h2, this]
      · have : a = b := by omega
        simp [this, ih]
theorem z5D (a b : List Int) : z8e a b = 0 ↔ a = b := by
  have := zdg a b
  unfold z8e
  by_cases h : a.length < b.length
  · simp only [if_pos h]
    constructor
    · omega
    · intro e; subst e; omega
  · by_cases h2 : b.length < a.length
    · simp only [if_neg h, if_pos h2]
      constructor
      · omega
      · intro e; subst e; omega
    · simp only [if_neg h, if_neg h2]; exact this
def z9C (n : Int) (m : List Int) : Bool := decide ((m.length : Int) = n) && m.all fun s => decide (0 <= s) && decide (s < n)
def z9r (c : Casc) (r : CRow) : Bool := decide (r.pre.length < c.sizes.length) && inB c.sizes r.pre && decide ((r.maps.length : Int) = c.letters) && r.maps.all (z9C (c.sizes.getD r.pre.length 0))
theorem zgV (sizes xs : List Int) (h : xs.length < sizes.length) : z7R (sizes.take xs.length) xs = inB sizes xs := by
  have hl : (sizes.take xs.length).length = xs.length := by rw [List.length_take]; omega
  have e : ∀ i, i < xs.length -> (sizes.take xs.length).getD i 0 = sizes.getD i 0 := fun i hi => by
    simp only [List.getD, List.getElem?_take_of_lt hi]
  have : z7R (sizes.take xs.length) xs = inB (sizes.take xs.length) xs := by simp [z7R, hl]
  rw [this, Bool.eq_iff_iff, z4S _ _ (by omega), z4S _ _ (by omega)]
  constructor
  · intro h i hi; have := h i hi; rwa [e i hi] at this
  · intro h i hi; rw [e i hi]; exact h i hi
theorem zc4 {α : Type} (p : α -> Bool) (l : List α) (d : α) : l.all p = true ↔ ∀ i, i < l.length -> p (l.getD i d) = true := by
  rw [List.all_eq_true]
  constructor
  · intro h i hi; rw [z0r d hi]; exact h _ (List.getElem_mem _)
  · intro h x hx
    obtain ⟨i, hi, rfl⟩ := List.getElem_of_mem hx
    have := h i hi
    rwa [z0r d hi] at this
theorem ziQ (n : Int) (m : List Int) (hl : (m.length : Int) = n) : z9C n m = true ↔ ∀ i, i < m.length -> 0 <= m.getD i 0 /\ m.getD i 0 < n := by
  unfold z9C
  rw [decide_eq_true hl, Bool.true_and, zc4 _ _ 0]
  simp
theorem zfV (c : Casc) (r : CRow) (h : ¬ r.pre.length < c.sizes.length) : z9r c r = false := by simp [z9r, h]
theorem zjM (c : Casc) (r : CRow) (h : inB c.sizes r.pre = false) : z9r c r = false := by simp [z9r, h]
theorem zcw (c : Casc) (r : CRow) (h : ¬ (r.maps.length : Int) = c.letters) : z9r c r = false := by simp [z9r, h]
theorem zhp (c : Casc) (r : CRow) (h1 : r.pre.length < c.sizes.length) (h2 : inB c.sizes r.pre = true) (h3 : (r.maps.length : Int) = c.letters) : z9r c r = r.maps.all (z9C (c.sizes.getD r.pre.length 0)) := by
  simp [z9r, h1, h2, h3]
def z6W (c : Casc) (k : Nat) : Bool := (List.range k).all fun i => z9r c (c.rows.getD i ⟨[], []⟩) && (decide (i = 0) || decide (z8e (c.rows.getD (i - 1) ⟨[], []⟩).pre (c.rows.getD i ⟨[], []⟩).pre < 0))
def z2M (c : Casc) : Int :=
  if c.letters < 1 ∨ 6 < c.letters then 1
  else if 24 < c.sizes.length ∨ 48000 < c.rows.length then 3
  else if (c.sizes.all fun n => decide (1 <= n) && decide (n <= 32)) && z6W c c.rows.length then 0 else 23
end
section
theorem zbf : ∀ (a b c : List Int), z6p a b < 0 -> z6p b c < 0 -> z6p a c < 0
  | [], _, [] => by intro h1 h2; cases ‹List Int› <;> simp [z6p] at *
  | [], _, _ :: _ => by simp [z6p]
  | _ :: _, [], _ => by simp [z6p]
  | _ :: _, _ :: _, [] => by simp [z6p]
  | a :: us, b :: bs, c :: cs => by
    have h := zbf us bs cs
    simp only [z6p]
    intro h1 h2
    by_cases ab : a < b
    · by_cases bc : b < c
      · rw [if_pos (by omega)]; omega
      · by_cases cb : c < b
        · rw [if_neg bc, if_pos cb] at h2; omega
        · rw [if_pos (by omega)]; omega
    · by_cases ba : b < a
      · rw [if_neg ab, if_pos ba] at h1; omega
      · have : a = b := by omega
        subst this
        rw [if_neg ab, if_neg ba] at h1
        by_cases bc : a < c
        · rw [if_pos bc]; omega
        · by_cases cb : c < a
          · rw [if_neg bc, if_pos cb] at h2; omega
          · rw [if_neg bc, if_neg cb] at h2 ⊢
            exact h h1 h2
theorem z7B (a b c : List Int) (h1 : z8e a b < 0) (h2 : z8e b c < 0) : z8e a c < 0 := by
  have := zbf a b c
  unfold z8e at *
  by_cases ab : a.length < b.length
  · by_cases cb : c.length < b.length
    · rw [if_neg (by omega), if_pos cb] at h2; omega
    · rw [if_pos (by omega)]; omega
  · by_cases ba : b.length < a.length
    · rw [if_neg ab, if_pos ba] at h1; omega
    · rw [if_neg ab, if_neg ba] at h1
      by_cases bc : b.length < c.length
      · rw [if_pos (by omega)]; omega
      · by_cases cb : c.length < b.length
        · rw [if_neg bc, if_pos cb] at h2; omega
        · rw [if_neg bc, if_neg cb] at h2
          rw [if_neg (by omega), if_neg (by omega)]
          exact this h1 h2
def UpR (rows : List CRow) : Prop := ∀ i j (hi : i < rows.length) (hj : j < rows.length), i < j -> z8e rows[i].pre rows[j].pre < 0
theorem zkE (c : Casc) (h : z6W c c.rows.length = true) : UpR c.rows := by
  have adj : ∀ i (h1 : i + 1 < c.rows.length), z8e c.rows[i].pre c.rows[i + 1].pre < 0 := fun i h1 => by
    simp only [z6W, List.all_eq_true, List.mem_range] at h
    have := h (i + 1) h1
    simp only [Nat.add_sub_cancel, z0r _ h1, z0r _ (show i < c.rows.length by omega)] at this
    rw [Bool.and_eq_true] at this
    simpa using this.2
  intro i j hi hj hij
  induction j with
  | zero => omega
  | succ j ih =>
    by_cases e : i = j
    · subst e; exact adj i hj
    · exact z7B _ _ _ (ih (by omega) (by omega)) (adj j hj)
structure Valid (c : Casc) : Prop where
  l1 : 1 <= c.letters
  l2 : c.letters <= 6
  s1 : c.sizes.length <= 24
  r1 : c.rows.length <= 48000
  sz : ∀ i, i < c.sizes.length -> 1 <= c.sizes.getD i 0 /\ c.sizes.getD i 0 <= 32
  up : UpR c.rows
  row : ∀ i (h : i < c.rows.length), z9r c c.rows[i] = true
theorem z4z (c : Casc) (h : z2M c = 0) : Valid c := by
  unfold z2M at h
  split at h
  · cases h
  · rename_i a1
    split at h
    · cases h
    · rename_i a2
      split at h
      · rename_i a3
        rw [Bool.and_eq_true] at a3
        obtain ⟨b1, b2⟩ := a3
        refine ⟨by omega, by omega, by omega, by omega, fun i hi => ?_, zkE c b2, fun i hi => ?_⟩
        · have := (zc4 _ _ 0).1 b1 i hi
          rw [Bool.and_eq_true, decide_eq_true_iff, decide_eq_true_iff] at this
          exact this
        · simp only [z6W, List.all_eq_true, List.mem_range] at b2
          have := b2 i hi
          rw [Bool.and_eq_true, z0r _ hi] at this
          exact this.1
      · cases h
theorem z6b {c : Casc} {r : CRow} (h : z9r c r = true) : r.pre.length < c.sizes.length /\ inB c.sizes r.pre = true /\ (r.maps.length : Int) = c.letters /\
    ∀ i, i < r.maps.length -> ((r.maps.getD i []).length : Int) = c.sizes.getD r.pre.length 0 /\ ∀ j, j < (r.maps.getD i []).length -> 0 <= (r.maps.getD i []).getD j 0 /\ (r.maps.getD i []).getD j 0 < c.sizes.getD r.pre.length 0 := by
  unfold z9r at h
  simp only [Bool.and_eq_true, decide_eq_true_eq] at h
  obtain ⟨⟨⟨h1, h2⟩, h3⟩, h4⟩ := h
  refine ⟨h1, h2, h3, fun i hi => ?_⟩
  have := (zc4 _ _ []).1 h4 i hi
  have hl : ((r.maps.getD i []).length : Int) = c.sizes.getD r.pre.length 0 := by
    unfold z9C at this
    rw [Bool.and_eq_true, decide_eq_true_iff] at this
    exact this.1
  exact ⟨hl, (ziQ _ _ hl).1 this⟩
end
section
open Go
theorem z1b {α : Type} {xs : List α} {k : Nat} (d : α) (h : k < xs.length) : atI xs (k : Int) = some (xs.getD k d) := by
  rw [z0T h, z0r d h]
def zkj (a b : Int) : Int := if a < b then -1 else if b < a then 1 else 0
theorem zi8 (a b : Int) : zkj a b = 0 ↔ a = b := by unfold zkj; split <;> (try split) <;> omega
theorem zbk (a b : Int) : cmp_Compare_int a b = some (zkj a b) := by
  simp [cmp_Compare_int, cmp_isNaN_int, zkj]
  split <;> (try split) <;> simp_all
theorem zns (a b : Int) : z6o [a, b] = some (if a ≠ 0 then a else b) := by
  unfold z6o
  rw [z2Y (s := (0 : Int)) 2 (fun k => (k : Int)) (fun k => decide (([a, b].getD k 0) ≠ 0)) (fun k => some ([a, b].getD k 0)) (x := some 0) rfl (by simp only [LFm]; omega)]
  · by_cases ha : a = 0 <;> by_cases hb : b = 0 <;> simp [List.range, List.range.loop, ha, hb]
  · intro k hk
    simp only [z5k]
    rw [if_pos (by simp; omega), z1b 0 (by simpa using hk), z1E (by omega)]
    simp only [Option.bind_some]
    by_cases h : [a, b].getD k 0 = 0 <;> simp [h]
  · simp [z5k]
theorem zc5 (xs ys : List Int) (h : xs.length < 4611686018427387904) : z3V xs ys = some (decide (xs = ys)) := by
  unfold z3V
  split
  · rename_i hl
    have hl : xs.length = ys.length := by omega
    rw [z2Y (s := (0 : Int)) xs.length (fun k => (k : Int)) (fun k => !decide (xs.getD k 0 = ys.getD k 0)) (fun _ => some false) (x := some true) rfl (by simp only [LFm]; omega)]
    · rw [z6D]
      simp only [Bool.not_not]
      by_cases he : xs = ys
      · subst he; simp
      · rw [if_neg, decide_eq_false he]
        intro hh
        simp only [List.all_eq_true, List.mem_range, decide_eq_true_eq] at hh
        exact he (zbD hl hh)
    · intro k hk
      simp only [z5d]
      rw [if_pos (by omega), z1b 0 hk, z1b 0 (by omega), z1E (by omega)]
      simp only [Option.bind_some]
      by_cases h : xs.getD k 0 = ys.getD k 0 <;> simp [h]
    · simp [z5d]
  · rename_i hl
    rw [decide_eq_false]
    intro e; subst e; exact hl rfl
theorem zdu (xs ys : List Int) (h : xs.length < 4611686018427387904) : z1j xs ys = some (z6p xs ys) := by
  unfold z1j
  rw [z2Y (s := (0 : Int)) xs.length (fun k => (k : Int)) (fun k => decide (ys.length <= k) || !decide (xs.getD k 0 = ys.getD k 0)) (fun k => some (if ys.length <= k then 1 else zkj (xs.getD k 0) (ys.getD k 0))) (x := some (if xs.length < ys.length then -1 else 0)) rfl (by simp only [LFm]; omega)]
  · split
    · rename_i k hk
      rw [z8I] at hk
      obtain ⟨k1, k2, k3⟩ := hk
      have k3' : ∀ j, j < k -> xs.getD j 0 = ys.getD j 0 /\ j < ys.length := fun j hj => by have := k3 j hj; simp only [Bool.or_eq_false_iff, decide_eq_false_iff_not, Bool.not_eq_false', decide_eq_true_eq] at this; omega
      split
      · rename_i hy
        have hyk : k = ys.length := by
          rcases Nat.eq_or_lt_of_le hy with h | h
          · exact h.symm
          · exact absurd (k3' _ h).2 (by omega)
        rw [zbX xs ys (fun i h1 h2 => (k3' i (by omega)).1), if_neg (by omega), if_pos (by omega)]
      · rename_i hy
        have hne : xs.getD k 0 ≠ ys.getD k 0 := by simp [hy] at k2; exact k2
        rw [zdh xs ys k k1 (by omega) (fun i hi => (k3' i hi).1) hne]
        unfold zkj
        split <;> (try split) <;> first | rfl | omega
    · rename_i hk
      rw [z8J] at hk
      have hk' : ∀ j, j < xs.length -> xs.getD j 0 = ys.getD j 0 /\ j < ys.length := fun j hj => by have := hk j hj; simp only [Bool.or_eq_false_iff, decide_eq_false_iff_not, Bool.not_eq_false', decide_eq_true_eq] at this; omega
      rw [zbX xs ys (fun i h1 h2 => (hk' i h1).1)]
      split
      · rfl
      · rw [if_neg]
        intro hh
        have := (hk' ys.length hh).2
        omega
  · intro k hk
    simp only [z1q]
    rw [if_pos (by omega), z1b 0 hk]
    simp only [Option.bind_some]
    by_cases hy : ys.length <= k
    · rw [if_pos (by omega)]
      simp [hy]
    · rw [if_neg (by omega), z1b 0 (by omega), z1E (by omega)]
      simp only [Option.bind_some, zbk, zi8]
      by_cases h : xs.getD k 0 = ys.getD k 0 <;> simp [h, hy]
  · simp only [z1q]
    rw [if_neg (by omega)]
    split <;> rfl
theorem zkq (xs ys : List Int) (h : xs.length < 4611686018427387904) : z6f xs ys = some (z7Y xs ys) := by
  unfold z6f
  rw [z2Y (s := (0 : Int)) xs.length (fun k => (k : Int)) (fun k => decide (ys.length <= k) || !decide (xs.getD k 0 = ys.getD k 0)) (fun k => some (if ys.length <= k then decide (xs.length < ys.length) else decide (xs.getD k 0 < ys.getD k 0))) (x := some (decide (xs.length < ys.length))) rfl (by simp only [LFm]; omega)]
  · split
    · rename_i k hk
      rw [z8I] at hk
      obtain ⟨k1, k2, k3⟩ := hk
      have k3' : ∀ j, j < k -> xs.getD j 0 = ys.getD j 0 /\ j < ys.length := fun j hj => by have := k3 j hj; simp only [Bool.or_eq_false_iff, decide_eq_false_iff_not, Bool.not_eq_false', decide_eq_true_eq] at this; omega
      split
      · rename_i hy
        have hyk : k = ys.length := by
          rcases Nat.eq_or_lt_of_le hy with h | h
          · exact h.symm
          · exact absurd (k3' _ h).2 (by omega)
        rw [zaa xs ys (fun i h1 h2 => (k3' i (by omega)).1)]
      · rename_i hy
        have hne : xs.getD k 0 ≠ ys.getD k 0 := by simp [hy] at k2; exact k2
        rw [zb7 xs ys k k1 (by omega) (fun i hi => (k3' i hi).1) hne]
    · rename_i hk
      rw [z8J] at hk
      have hk' : ∀ j, j < xs.length -> xs.getD j 0 = ys.getD j 0 /\ j < ys.length := fun j hj => by have := hk j hj; simp only [Bool.or_eq_false_iff, decide_eq_false_iff_not, Bool.not_eq_false', decide_eq_true_eq] at this; omega
      rw [zaa xs ys (fun i h1 h2 => (hk' i h1).1)]
  · intro k hk
    simp only [z5f]
    rw [if_pos (by omega)]
    by_cases hy : ys.length <= k
    · rw [if_neg (by omega)]
      simp [hy]
    · rw [if_pos (by omega), z1b 0 (by omega), z1b 0 (by omega), z1E (by omega)]
      simp only [Option.bind_some]
      by_cases h : xs.getD k 0 = ys.getD k 0 <;> simp [h, hy]
  · simp [z5f]
end
end Go.Proofs.YthalofddjlhcjaaDoor
