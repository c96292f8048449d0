/- Proved here: a part of the proof of the law at hand, in one text: no condition. -/
import Derived.Test.YtbnnipkanechoaaMImagesChecks3
set_option linter.unusedVariables false
set_option linter.unusedSimpArgs false
section
namespace Go.Proofs.Ytbnnipkanechoaa
open Go Go.IntKind
noncomputable section
set_option maxRecDepth 100000
set_option maxHeartbeats 1000000
structure Dgm where
  sets : List Int
  next : List (List Int)
  below : List (List Bool)
deriving Inhabited
def cmp_isNaN_int (a0 : Int) : Option (Bool) :=
 some (!decide (a0 = a0))
theorem z9z {a0 : Int} {r : Bool} (h0 : cmp_isNaN_int a0 = some r) : L 77 [.sc (.int .i64 a0)] = some (.sc (.bool r), [.dead]) := by
  simp only [cmp_isNaN_int] at h0
  refine z2F zzW zBp (z1w zDb ⟨of_decide_eq_true rfl, of_decide_eq_true rfl⟩ ?_)
  simp only [z1E, z1C, z1B, z1F, z3u]
  refine zp (zs ?_)
  refine z0a (zp (zs ?_))
  refine z0a (z1f rfl ?_)
  cases h0
  simp
def cmp_Compare_int (a0 : Int) (a1 : Int) : Option (Int) :=
 (cmp_isNaN_int a0).bind fun v3 =>
 (cmp_isNaN_int a1).bind fun v4 =>
 if v3 = true then
 if v4 = true then
 some 0
 else
 some (-1)
 else
 if v4 = true then
 some 1
 else
 if a0 < a1 then
 some (-1)
 else
 if a1 < a0 then
 some 1
 else
 some 0
theorem zdj {a0 : Int} {a1 : Int} {r : Int} (h0 : cmp_Compare_int a0 a1 = some r) : L 67 [.sc (.int .i64 a0), .sc (.int .i64 a1)] = some (.sc (.int .i64 r), [.dead, .dead]) := by
  simp only [cmp_Compare_int] at h0
  refine z2F zA4 zBx (z1w zDj ⟨of_decide_eq_true rfl, of_decide_eq_true rfl⟩ ?_)
  simp only [z1E, z1C, z1B, z1F, z3u]
  refine zp (zs ?_)
  refine z0a (zp ?_)
  obtain ⟨v3, f8, h1⟩ := z0d h0
  have f8k := z9z f8
  try simp at f8k
  refine zr rfl rfl rfl (by simp [f8k]; rfl) ?_
  refine z0a (zp ?_)
  obtain ⟨v4, f9, h2⟩ := z0d h1
  have f9k := z9z f9
  try simp at f9k
  refine zr rfl rfl rfl (by simp [f9k]; rfl) ?_
  refine z0a (zp (zp (zs ?_)))
  refine z0a ?_
  by_cases c10 : v3 = true
  ·rw [if_pos c10] at h2
   refine z0t rfl (by simp [c10]) (zp (zp (zs ?_)))
   refine z0a ?_
   by_cases c11 : v4 = true
   ·rw [if_pos c11] at h2
    refine z0t rfl (by simp [c11]) (zp (zs ?_))
    refine z0a (z1f rfl (z0Q (z0Q ?_)))
    cases h2
    simp [c10, c11]
   ·rw [if_neg c11] at h2
    refine z0r rfl (by simp [c11]) (z0j rfl (z0a (zp (zs ?_))))
    refine z0a (z1f rfl (z0Q ?_))
    cases h2
    simp [c10, c11]
  ·rw [if_neg c10] at h2
   refine z0r rfl (by simp [c10]) (z0j rfl (z0a (zp (zp (zs ?_)))))
   refine z0a ?_
   by_cases c12 : v4 = true
   ·rw [if_pos c12] at h2
    refine z0t rfl (by simp [c12]) (zp (zs ?_))
    refine z0a (z1f rfl (z0Q ?_))
    cases h2
    simp [c10, c12]
   ·rw [if_neg c12] at h2
    refine z0r rfl (by simp [c12]) (z0j rfl (z0a (zp (zp (zs ?_)))))
    refine z0a ?_
    by_cases c13 : a0 < a1
    ·rw [if_pos c13] at h2
     refine z0t rfl (by simp [c13]) (zp (zs ?_))
     refine z0a (z1f rfl (z0Q ?_))
     cases h2
     simp [c10, c12]
    ·rw [if_neg c13] at h2
     refine z0r rfl (by simp [c13]) (z0j rfl (z0a (zp (zp (zs ?_)))))
     refine z0a ?_
     by_cases c14 : a1 < a0
     ·rw [if_pos c14] at h2
      refine z0t rfl (by simp [c14]) (zp (zs ?_))
      refine z0a (z1f rfl (z0Q ?_))
      cases h2
      simp [c10, c12]
     ·rw [if_neg c14] at h2
      refine z0r rfl (by simp [c14]) (z0j rfl (z0a (zp (zs ?_))))
      refine z0a (z1f rfl ?_)
      cases h2
      simp [c10, c12]
def z1z (a0 : Int) (a1 : Int) (a2_0 : List Int) : Option (Int) :=
 (atI a2_0 a0).bind fun v4 =>
 (atI a2_0 a1).bind fun v5 =>
 (cmp_Compare_int v4 v5).bind fun v6 =>
 some v6
theorem z2b {a0 : Int} {a1 : Int} {a2_0 : List Int} {r : Int} (h0 : z1z a0 a1 a2_0 = some r) : L 70 [.sc (.int .i64 a0), .sc (.int .i64 a1), .pr [.sl a2_0.length (a2_0.map fun x0 => .sc (.int .i64 x0))]] = some (.sc (.int .i64 r), [.dead, .dead, .dead]) := by
  simp only [z1z] at h0
  refine z2F zA1 zBu (z1w zDg ⟨of_decide_eq_true rfl, of_decide_eq_true rfl⟩ ?_)
  simp only [z1E, z1C, z1B, z1F, z3u]
  refine zp (zs ?_)
  refine z0a (zp ?_)
  obtain ⟨v4, f4, h1⟩ := z0I h0
  obtain ⟨v5, f5, h2⟩ := z0I h1
  obtain ⟨v6, f6, h3⟩ := z0d h2
  have f6k := zdj f6
  try simp at f6k
  refine z1c rfl rfl rfl rfl ?_; repeat' ((first | refine z0q rfl rfl fun Q' hQ => ?_ | refine z0m rfl fun Q' hQ => ?_); simp [f4, f5, f6k]; refine hQ.out _ ?_; clear hQ; clear Q')
  refine z0a (z1f rfl ?_)
  cases h3
  simp
def z0E (a1 : Int) (a3_0_0 : List Int) (w95 : Int) : Int × List Int -> Option ((Int × List Int) ⊕ ((Int × List Int) ⊕ List Int))
 | (w127, w128) =>
 if a1 < w127 then
 (atI w128 w127).bind fun v136 =>
 (atI w128 (i64.wrap (w127 - 1))).bind fun v137 =>
 (z1z v136 v137 a3_0_0).bind fun v138 =>
 if v138 < 0 then
 (atI (w128.set w127.toNat v137) (i64.wrap (w127 - 1))).bind fun v142 =>
 z0B (i64.wrap (w127 - 1), ((w128.set w127.toNat v137).set (i64.wrap (w127 - 1)).toNat v136))
 else
 z1m <|
 z0B (i64.wrap (w95 + 1), w128)
 else
 z1m <|
 z0B (i64.wrap (w95 + 1), w128)
def z1d (a1 : Int) (a2 : Int) (a3_0_0 : List Int) (w95 : Int) : Int × List Int -> Fr
 | (w127, w128) => ⟨53, [(0, .one (.h 0 [])), (1, .one (.t none (.sc (.int .i64 a1)))), (2, .one (.t none (.sc (.int .i64 a2)))), (3, .one (.t none (.cl 70 [.pr [.sl a3_0_0.length (a3_0_0.map fun x0 => .sc (.int .i64 x0))]]))), (8, .one (.t none (.sc (.int .i64 w95)))), (9, .one (.t none (.sc (.int .i64 w127)))), (1053, .one (.h 0 []))], [(0, .os 1 w128.length (w128.map fun x0 => .sc (.int .i64 x0)))]⟩
def z0F (a1 : Int) (a2 : Int) (a3_0_0 : List Int) : Int × List Int -> Option ((Int × List Int) ⊕ List Int)
 | (w95, w96) =>
 if w95 < a2 then
 z1b (z0E a1 a3_0_0 w95) LFm (w95, w96)
 else
 z1m <|
 some w96
def z0D (a1 : Int) (a2 : Int) (a3_0_0 : List Int) : Int × List Int -> Fr
 | (w95, w96) => ⟨53, [(0, .one (.h 0 [])), (1, .one (.t none (.sc (.int .i64 a1)))), (2, .one (.t none (.sc (.int .i64 a2)))), (3, .one (.t none (.cl 70 [.pr [.sl a3_0_0.length (a3_0_0.map fun x0 => .sc (.int .i64 x0))]]))), (8, .one (.t none (.sc (.int .i64 w95)))), (1053, .one (.h 0 []))], [(0, .os 1 w96.length (w96.map fun x0 => .sc (.int .i64 x0)))]⟩
def z0z (a0 : List Int) (a1 : Int) (a2 : Int) (a3_0_0 : List Int) : Option (List Int) :=
 z1b (z0F a1 a2 a3_0_0) LFm (i64.wrap (a1 + 1), a0)
theorem z1O {a0 : List Int} {a1 : Int} {a2 : Int} {a3_0_0 : List Int} {r : List Int} (h0 : z0z a0 a1 a2 a3_0_0 = some r) : L 80 [.os 1 a0.length (a0.map fun x0 => .sc (.int .i64 x0)), .sc (.int .i64 a1), .sc (.int .i64 a2), .cl 70 [.pr [.sl a3_0_0.length (a3_0_0.map fun x0 => .sc (.int .i64 x0))]]] = some (.tup [], [.os 1 r.length (r.map fun x0 => .sc (.int .i64 x0)), .dead, .dead, .dead]) := by
  simp only [z0z] at h0
  refine z2F zzT zBm (z1w zD8 ⟨of_decide_eq_true rfl, of_decide_eq_true rfl⟩ ?_)
  simp only [z1E, z1C, z1B, z1F, z3u]
  refine zp (zs ?_)
  refine z0a (zb rfl (z0C h0 (z0D a1 a2 a3_0_0) rfl rfl (by simp [z0D]) fun s o1 h1 hr1 => ?_))
  obtain ⟨w95, w96⟩ := s
  simp only [z0F] at h1
  simp only [z0D]
  refine zp (zp (zs ?_))
  refine z0a ?_
  by_cases c96 : w95 < a2
  ·rw [if_pos c96] at h1
   refine z0t rfl (by simp [c96]) (z0j rfl (z0a (zp (zb rfl (zp (zs ?_))))))
   refine z0a (zb rfl (z0C h1 (z1d a1 a2 a3_0_0 w95) rfl rfl (by simp [z1d]) fun s o2 h2 hr2 => ?_))
   obtain ⟨w127, w128⟩ := s
   simp only [z0E] at h2
   simp only [z1d]
   refine zp (zp ?_)
   by_cases c109 : a1 < w127
   ·rw [if_pos c109] at h2
    obtain ⟨v136, f110, h3⟩ := z0I h2
    obtain ⟨v137, f111, h4⟩ := z0I h3
    obtain ⟨v138, f112, h5⟩ := z0d h4
    have f112k := z2b f112
    try simp at f112k
    refine z1c rfl rfl rfl rfl ?_; repeat' (first | (refine z0q rfl rfl fun Q' hQ => ?_; simp [c109, f110, f111, f112k]; refine hQ.out _ ?_; clear hQ; clear Q') | (refine z1g rfl rfl fun Q1 Q2 h1 h2 => ?_; simp [c109, f110, f111, f112k, z1Q]; (first | refine h1.out ?_ | refine h2.out ?_); clear h1 h2; clear Q1 Q2; intro Q' hQ; simp [c109, f110, f111, f112k]; refine hQ.out _ ?_; clear hQ; clear Q') | (refine z0m rfl fun Q' hQ => ?_; simp [c109, f110, f111, f112k]; refine hQ.out _ ?_; clear hQ; clear Q'))
    refine z0a ?_
    by_cases c113 : v138 < 0
    ·rw [if_pos c113] at h5
     refine z0t rfl (by simp [c113]) (z0j rfl (z0a (zp (zb rfl ?_))))
     obtain ⟨v142, f114, h6⟩ := z0d h5
     obtain ⟨f114a, f114b, f114c, f114d, f114e⟩ := z8e f114
     try simp only [List.length_set] at f114b f114c
     have f114s : ∀ hh, ((w128.set w127.toNat v137).map (fun x0 : Int => (.sc (.int .i64 x0) : T)))[(i64.wrap (w127 - 1)).toNat]'hh = (fun x0 : Int => (.sc (.int .i64 x0) : T)) v142 := fun hh => by rw [List.getElem_map]; exact congrArg (fun x0 : Int => (.sc (.int .i64 x0) : T)) (f114e _)
     try simp only [List.map_set] at f114s
     refine z1c rfl rfl rfl rfl ?_; repeat' ((first | refine z0q rfl rfl fun Q' hQ => ?_ | refine z0m rfl fun Q' hQ => ?_); simp [f111, f110, f114a, f114b, f114c, f114d, f114e, f114s]; refine hQ.out _ ?_; clear hQ; clear Q')
     refine z0h (z0a (zs ?_))
     have ho := z0c h6
     refine z0i ho ?_
     simp [z1d]
    ·rw [if_neg c113] at h5
     refine z0r rfl (by simp [c113]) (z0X rfl (z0w ?_))
     obtain ⟨rr2, h6, ho2⟩ := z0k h5
     have hs2 := hr2 _ ho2
     subst hs2
     refine z0s ho2 (z0g rfl (z0h (z0a (zs ?_))))
     have ho := z0c h6
     refine z0i ho ?_
     simp [z0D]
   ·rw [if_neg c109] at h2
    refine z1c rfl rfl rfl rfl ?_; repeat' (first | (refine z0q rfl rfl fun Q' hQ => ?_; simp [c109]; refine hQ.out _ ?_; clear hQ; clear Q') | (refine z1g rfl rfl fun Q1 Q2 h1 h2 => ?_; simp [c109, z1Q]; (first | refine h1.out ?_ | refine h2.out ?_); clear h1 h2; clear Q1 Q2; intro Q' hQ; simp [c109]; refine hQ.out _ ?_; clear hQ; clear Q') | (refine z0m rfl fun Q' hQ => ?_; simp [c109]; refine hQ.out _ ?_; clear hQ; clear Q'))
    refine z0a (z0r rfl (by simp) (z0X rfl (z0w ?_)))
    obtain ⟨rr2, h3, ho2⟩ := z0k h2
    have hs2 := hr2 _ ho2
    subst hs2
    refine z0s ho2 (z0g rfl (z0h (z0a (zs ?_))))
    have ho := z0c h3
    refine z0i ho ?_
    simp [z0D]
  ·rw [if_neg c96] at h1
   refine z0r rfl (by simp [c96]) (z0X rfl (z0w ?_))
   obtain ⟨rr1, h2, ho1⟩ := z0k h1
   have hs1 := hr1 _ ho1
   subst hs1
   refine z0s ho1 (z0g rfl ?_)
   cases h2
   simp
def z1j (a1 : Int) (a2 : Int) (a3 : Int) : Int × List Int -> Option ((Int × List Int) ⊕ List Int)
 | (w19, w20) =>
 if w19 < a3 then
 (atI w20 (i64.wrap (a2 + w19))).bind fun v25 =>
 (atI w20 (i64.wrap (a1 + w19))).bind fun v26 =>
 (atI (w20.set (i64.wrap (a1 + w19)).toNat v25) (i64.wrap (a2 + w19))).bind fun v28 =>
 z0B (i64.wrap (w19 + 1), ((w20.set (i64.wrap (a1 + w19)).toNat v25).set (i64.wrap (a2 + w19)).toNat v26))
 else
 z1m <|
 some w20
def z1i (a1 : Int) (a2 : Int) (a3 : Int) : Int × List Int -> Fr
 | (w19, w20) => ⟨38, [(0, .one (.h 0 [])), (1, .one (.t none (.sc (.int .i64 a1)))), (2, .one (.t none (.sc (.int .i64 a2)))), (3, .one (.t none (.sc (.int .i64 a3)))), (10, .one (.t none (.sc (.int .i64 w19)))), (1038, .one (.h 0 []))], [(0, .os 1 w20.length (w20.map fun x0 => .sc (.int .i64 x0)))]⟩
def z0x (a0 : List Int) (a1 : Int) (a2 : Int) (a3 : Int) (a4_0_0 : List Int) : Option (List Int) :=
 z1b (z1j a1 a2 a3) LFm (0, a0)
theorem z1A {a0 : List Int} {a1 : Int} {a2 : Int} {a3 : Int} {a4_0_0 : List Int} {r : List Int} (h0 : z0x a0 a1 a2 a3 a4_0_0 = some r) : L 100 [.os 1 a0.length (a0.map fun x0 => .sc (.int .i64 x0)), .sc (.int .i64 a1), .sc (.int .i64 a2), .sc (.int .i64 a3), .cl 70 [.pr [.sl a4_0_0.length (a4_0_0.map fun x0 => .sc (.int .i64 x0))]]] = some (.tup [], [.os 1 r.length (r.map fun x0 => .sc (.int .i64 x0)), .dead, .dead, .dead, .dead]) := by
  simp only [z0x] at h0
  refine z2F zxK zys (z1w zAL ⟨of_decide_eq_true rfl, of_decide_eq_true rfl⟩ ?_)
  simp only [z1E, z1C, z1B, z1F, z3u]
  refine zp (zs ?_)
  refine z0a (zb rfl (z0C h0 (z1i a1 a2 a3) rfl rfl (by simp [z1i]) fun s o1 h1 hr1 => ?_))
  obtain ⟨w19, w20⟩ := s
  simp only [z1j] at h1
  simp only [z1i]
  refine zp (zp (zs ?_))
  refine z0a ?_
  by_cases c21 : w19 < a3
  ·rw [if_pos c21] at h1
   refine z0t rfl (by simp [c21]) (z0j rfl (z0a (zp (zb rfl ?_))))
   obtain ⟨v25, f22, h2⟩ := z0I h1
   obtain ⟨v26, f23, h3⟩ := z0I h2
   obtain ⟨v28, f24, h4⟩ := z0d h3
   obtain ⟨f24a, f24b, f24c, f24d, f24e⟩ := z8e f24
   try simp only [List.length_set] at f24b f24c
   have f24s : ∀ hh, ((w20.set (i64.wrap (a1 + w19)).toNat v25).map (fun x0 : Int => (.sc (.int .i64 x0) : T)))[(i64.wrap (a2 + w19)).toNat]'hh = (fun x0 : Int => (.sc (.int .i64 x0) : T)) v28 := fun hh => by rw [List.getElem_map]; exact congrArg (fun x0 : Int => (.sc (.int .i64 x0) : T)) (f24e _)
   try simp only [List.map_set] at f24s
   refine z1c rfl rfl rfl rfl ?_; repeat' ((first | refine z0q rfl rfl fun Q' hQ => ?_ | refine z0m rfl fun Q' hQ => ?_); simp [f22, f23, f24a, f24b, f24c, f24d, f24e, f24s]; refine hQ.out _ ?_; clear hQ; clear Q')
   refine z0h (z0a (zs ?_))
   have ho := z0c h4
   refine z0i ho ?_
   simp [z1i]
  ·rw [if_neg c21] at h1
   refine z0r rfl (by simp [c21]) (z0X rfl (z0w ?_))
   obtain ⟨rr1, h2, ho1⟩ := z0k h1
   have hs1 := hr1 _ ho1
   subst hs1
   refine z0s ho1 (z0g rfl ?_)
   cases h2
   simp
def z1D (a2 : Int) (a4_0_0 : List Int) : Int × Int × List Int -> Option ((Int × Int × List Int) ⊕ List Int)
 | (w13, w15, w14) =>
 if w13 = w15 then
 z1m <|
 (z0x w14 (i64.wrap (a2 - w13)) a2 w13 a4_0_0).bind fun v18 =>
 some v18
 else
 if w15 < w13 then
 (z0x w14 (i64.wrap (a2 - w13)) a2 w15 a4_0_0).bind fun v19 =>
 z0B (i64.wrap (w13 - w15), w15, v19)
 else
 (z0x w14 (i64.wrap (a2 - w13)) (i64.wrap ((i64.wrap (a2 + w15)) - w13)) w13 a4_0_0).bind fun v20 =>
 z0B (w13, i64.wrap (w15 - w13), v20)
def z1a (a2 : Int) (a4_0_0 : List Int) : Int × Int × List Int -> Fr
 | (w13, w15, w14) => ⟨58, [(0, .one (.h 0 [])), (2, .one (.t none (.sc (.int .i64 a2)))), (4, .one (.t none (.cl 70 [.pr [.sl a4_0_0.length (a4_0_0.map fun x0 => .sc (.int .i64 x0))]]))), (10, .one (.t none (.sc (.int .i64 w13)))), (11, .one (.t none (.sc (.int .i64 w15)))), (1058, .one (.h 0 []))], [(0, .os 1 w14.length (w14.map fun x0 => .sc (.int .i64 x0)))]⟩
def z0A (a0 : List Int) (a1 : Int) (a2 : Int) (a3 : Int) (a4_0_0 : List Int) : Option (List Int) :=
 z1b (z1D a2 a4_0_0) LFm (i64.wrap (a2 - a1), i64.wrap (a3 - a2), a0)
theorem z1Z {a0 : List Int} {a1 : Int} {a2 : Int} {a3 : Int} {a4_0_0 : List Int} {r : List Int} (h0 : z0A a0 a1 a2 a3 a4_0_0 = some r) : L 98 [.os 1 a0.length (a0.map fun x0 => .sc (.int .i64 x0)), .sc (.int .i64 a1), .sc (.int .i64 a2), .sc (.int .i64 a3), .cl 70 [.pr [.sl a4_0_0.length (a4_0_0.map fun x0 => .sc (.int .i64 x0))]]] = some (.tup [], [.os 1 r.length (r.map fun x0 => .sc (.int .i64 x0)), .dead, .dead, .dead, .dead]) := by
  simp only [z0A] at h0
  refine z2F zzQ zBj (z1w zD5 ⟨of_decide_eq_true rfl, of_decide_eq_true rfl⟩ ?_)
  simp only [z1E, z1C, z1B, z1F, z3u]
  refine zp (zs ?_)
  refine z0a (zp (zs ?_))
  refine z0a (zp (zb rfl (z0C h0 (z1a a2 a4_0_0) rfl rfl (by simp [z1a]) fun s o1 h1 hr1 => ?_)))
  obtain ⟨w13, w15, w14⟩ := s
  simp only [z1D] at h1
  simp only [z1a]
  refine zp (zp (zs ?_))
  refine z0a ?_
  by_cases c22 : w13 = w15
  ·rw [if_pos c22] at h1
   have c22e := eq_true c22
   refine z0r rfl (by simp [c22e]) (z0X rfl (z0w ?_))
   obtain ⟨rr1, h2, ho1⟩ := z0k h1
   have hs1 := hr1 _ ho1
   subst hs1
   refine z0s ho1 (z0g rfl (z0a ?_))
   obtain ⟨v18, f23, h3⟩ := z0d h2
   have f23k := z1A f23
   try simp at f23k
   refine zr rfl rfl rfl (by simp [f23k]; rfl) ?_
   cases h3
   simp
  ·rw [if_neg c22] at h1
   have c22e := eq_false c22
   refine z0t rfl (by simp [c22e]) (z0j rfl (z0a (zb rfl (zp (zs ?_)))))
   refine z0a ?_
   by_cases c24 : w15 < w13
   ·rw [if_pos c24] at h1
    refine z0t rfl (by simp [c24]) (zp ?_)
    obtain ⟨v19, f25, h2⟩ := z0d h1
    have f25k := z1A f25
    try simp at f25k
    refine zr rfl rfl rfl (by simp [f25k]; rfl) ?_
    refine z0a (zs ?_)
    refine z0h ?_
    have ho := z0c h2
    refine z0i ho ?_
    simp [z1a]
   ·rw [if_neg c24] at h1
    refine z0r rfl (by simp [c24]) (zp ?_)
    obtain ⟨v20, f26, h2⟩ := z0d h1
    have f26k := z1A f26
    try simp at f26k
    refine zr rfl rfl rfl (by simp [f26k]; rfl) ?_
    refine z0a (zs ?_)
    refine z0h ?_
    have ho := z0c h2
    refine z0i ho ?_
    simp [z1a]
def z0T (w102 : Int) : Int × List Int -> Option ((Int × List Int) ⊕ List Int)
 | (w114, w115) =>
 if w114 < (i64.wrap (w102 - 1)) then
 (atI w115 (i64.wrap (w114 + 1))).bind fun v120 =>
 (atI w115 w114).bind fun v121 =>
 (atI (w115.set w114.toNat v120) (i64.wrap (w114 + 1))).bind fun v123 =>
 z0B (i64.wrap (w114 + 1), ((w115.set w114.toNat v120).set (i64.wrap (w114 + 1)).toNat v121))
 else
 z1m <|
 some w115
def z1l (w102 : Int) : Int × List Int -> Fr
 | (w114, w115) => ⟨220, [(0, .one (.h 0 [])), (10, .one (.t none (.sc (.int .i64 w102)))), (13, .one (.t none (.sc (.int .i64 w114)))), (1220, .one (.h 0 []))], [(0, .os 1 w115.length (w115.map fun x0 => .sc (.int .i64 x0)))]⟩
def z0U (a0 : List Int) (a1 : Int) (a4_0_0 : List Int) : Int × Int -> Option ((Int × Int) ⊕ List Int)
 | (w102, w103) =>
 if w102 < w103 then
 chk (¬ 1 < 0) <|
 (atI a0 (i64.wrap (z1e .u64 (u64.wrap (i64.wrap (w102 + w103))) 1))).bind fun v107 =>
 (atI a0 a1).bind fun v108 =>
 (z1z v107 v108 a4_0_0).bind fun v109 =>
 if v109 < 0 then
 z0B (i64.wrap ((i64.wrap (z1e .u64 (u64.wrap (i64.wrap (w102 + w103))) 1)) + 1), w103)
 else
 z0B (w102, i64.wrap (z1e .u64 (u64.wrap (i64.wrap (w102 + w103))) 1))
 else
 z1m <|
 z1b (z0T w102) LFm (a1, a0)
def z0S (a0 : List Int) (a1 : Int) (a4_0_0 : List Int) : Int × Int -> Fr
 | (w102, w103) => ⟨220, [(0, .one (.h 0 [])), (1, .one (.t none (.sc (.int .i64 a1)))), (4, .one (.t none (.cl 70 [.pr [.sl a4_0_0.length (a4_0_0.map fun x0 => .sc (.int .i64 x0))]]))), (10, .one (.t none (.sc (.int .i64 w102)))), (11, .one (.t none (.sc (.int .i64 w103)))), (1220, .one (.h 0 []))], [(0, .os 1 a0.length (a0.map fun x0 => .sc (.int .i64 x0)))]⟩
def z0N (w128 : Int) : Int × List Int -> Option ((Int × List Int) ⊕ List Int)
 | (w139, w140) =>
 if w128 < w139 then
 (atI w140 (i64.wrap (w139 - 1))).bind fun v145 =>
 (atI w140 w139).bind fun v146 =>
 (atI (w140.set w139.toNat v145) (i64.wrap (w139 - 1))).bind fun v148 =>
 z0B (i64.wrap (w139 - 1), ((w140.set w139.toNat v145).set (i64.wrap (w139 - 1)).toNat v146))
 else
 z1m <|
 some w140
def z1h (w128 : Int) : Int × List Int -> Fr
 | (w139, w140) => ⟨220, [(0, .one (.h 0 [])), (14, .one (.t none (.sc (.int .i64 w128)))), (17, .one (.t none (.sc (.int .i64 w139)))), (1220, .one (.h 0 []))], [(0, .os 1 w140.length (w140.map fun x0 => .sc (.int .i64 x0)))]⟩
def z0O (a0 : List Int) (a2 : Int) (a4_0_0 : List Int) : Int × Int -> Option ((Int × Int) ⊕ List Int)
 | (w128, w127) =>
 if w128 < w127 then
 chk (¬ 1 < 0) <|
 (atI a0 a2).bind fun v132 =>
 (atI a0 (i64.wrap (z1e .u64 (u64.wrap (i64.wrap (w128 + w127))) 1))).bind fun v133 =>
 (z1z v132 v133 a4_0_0).bind fun v134 =>
 if v134 < 0 then
 z0B (w128, i64.wrap (z1e .u64 (u64.wrap (i64.wrap (w128 + w127))) 1))
 else
 z0B (i64.wrap ((i64.wrap (z1e .u64 (u64.wrap (i64.wrap (w128 + w127))) 1)) + 1), w127)
 else
 z1m <|
 z1b (z0N w128) LFm (a2, a0)
def z0M (a0 : List Int) (a2 : Int) (a4_0_0 : List Int) : Int × Int -> Fr
 | (w128, w127) => ⟨220, [(0, .one (.h 0 [])), (2, .one (.t none (.sc (.int .i64 a2)))), (4, .one (.t none (.cl 70 [.pr [.sl a4_0_0.length (a4_0_0.map fun x0 => .sc (.int .i64 x0))]]))), (14, .one (.t none (.sc (.int .i64 w128)))), (15, .one (.t none (.sc (.int .i64 w127)))), (1220, .one (.h 0 []))], [(0, .os 1 a0.length (a0.map fun x0 => .sc (.int .i64 x0)))]⟩
def z0u (a0 : List Int) (a1 : Int) (a2 : Int) (a3 : Int) (a4_0_0 : List Int) (rf : List Int -> Int -> Int -> Int -> List Int -> Option (List Int)) : Int × Int -> Option ((Int × Int) ⊕ List Int)
 | (w153, w152) =>
 if w153 < w152 then
 chk (¬ 1 < 0) <|
 (atI a0 (i64.wrap ((i64.wrap ((i64.wrap ((i64.wrap (z1e .u64 (u64.wrap (i64.wrap (a1 + a3))) 1)) + a2)) - 1)) - (i64.wrap (z1e .u64 (u64.wrap (i64.wrap (w153 + w152))) 1))))).bind fun v157 =>
 (atI a0 (i64.wrap (z1e .u64 (u64.wrap (i64.wrap (w153 + w152))) 1))).bind fun v158 =>
 (z1z v157 v158 a4_0_0).bind fun v159 =>
 if v159 < 0 then
 z0B (w153, i64.wrap (z1e .u64 (u64.wrap (i64.wrap (w153 + w152))) 1))
 else
 z0B (i64.wrap ((i64.wrap (z1e .u64 (u64.wrap (i64.wrap (w153 + w152))) 1)) + 1), w152)
 else
 z1m <|
 if w153 < a2 then
 if a2 < (i64.wrap ((i64.wrap ((i64.wrap (z1e .u64 (u64.wrap (i64.wrap (a1 + a3))) 1)) + a2)) - w153)) then
 (z0A a0 w153 a2 (i64.wrap ((i64.wrap ((i64.wrap (z1e .u64 (u64.wrap (i64.wrap (a1 + a3))) 1)) + a2)) - w153)) a4_0_0).bind fun v160 =>
 if a1 < w153 then
 if w153 < (i64.wrap (z1e .u64 (u64.wrap (i64.wrap (a1 + a3))) 1)) then
 (rf v160 a1 w153 (i64.wrap (z1e .u64 (u64.wrap (i64.wrap (a1 + a3))) 1)) a4_0_0).bind fun v161 =>
 if (i64.wrap (z1e .u64 (u64.wrap (i64.wrap (a1 + a3))) 1)) < (i64.wrap ((i64.wrap ((i64.wrap (z1e .u64 (u64.wrap (i64.wrap (a1 + a3))) 1)) + a2)) - w153)) then
 if (i64.wrap ((i64.wrap ((i64.wrap (z1e .u64 (u64.wrap (i64.wrap (a1 + a3))) 1)) + a2)) - w153)) < a3 then
 (rf v161 (i64.wrap (z1e .u64 (u64.wrap (i64.wrap (a1 + a3))) 1)) (i64.wrap ((i64.wrap ((i64.wrap (z1e .u64 (u64.wrap (i64.wrap (a1 + a3))) 1)) + a2)) - w153)) a3 a4_0_0).bind fun v162 =>
 some v162
 else
 some v161
 else
 some v161
 else
 if (i64.wrap (z1e .u64 (u64.wrap (i64.wrap (a1 + a3))) 1)) < (i64.wrap ((i64.wrap ((i64.wrap (z1e .u64 (u64.wrap (i64.wrap (a1 + a3))) 1)) + a2)) - w153)) then
 if (i64.wrap ((i64.wrap ((i64.wrap (z1e .u64 (u64.wrap (i64.wrap (a1 + a3))) 1)) + a2)) - w153)) < a3 then
 (rf v160 (i64.wrap (z1e .u64 (u64.wrap (i64.wrap (a1 + a3))) 1)) (i64.wrap ((i64.wrap ((i64.wrap (z1e .u64 (u64.wrap (i64.wrap (a1 + a3))) 1)) + a2)) - w153)) a3 a4_0_0).bind fun v163 =>
 some v163
 else
 some v160
 else
 some v160
 else
 if (i64.wrap (z1e .u64 (u64.wrap (i64.wrap (a1 + a3))) 1)) < (i64.wrap ((i64.wrap ((i64.wrap (z1e .u64 (u64.wrap (i64.wrap (a1 + a3))) 1)) + a2)) - w153)) then
 if (i64.wrap ((i64.wrap ((i64.wrap (z1e .u64 (u64.wrap (i64.wrap (a1 + a3))) 1)) + a2)) - w153)) < a3 then
 (rf v160 (i64.wrap (z1e .u64 (u64.wrap (i64.wrap (a1 + a3))) 1)) (i64.wrap ((i64.wrap ((i64.wrap (z1e .u64 (u64.wrap (i64.wrap (a1 + a3))) 1)) + a2)) - w153)) a3 a4_0_0).bind fun v164 =>
 some v164
 else
 some v160
 else
 some v160
 else
 if a1 < w153 then
 if w153 < (i64.wrap (z1e .u64 (u64.wrap (i64.wrap (a1 + a3))) 1)) then
 (rf a0 a1 w153 (i64.wrap (z1e .u64 (u64.wrap (i64.wrap (a1 + a3))) 1)) a4_0_0).bind fun v165 =>
 if (i64.wrap (z1e .u64 (u64.wrap (i64.wrap (a1 + a3))) 1)) < (i64.wrap ((i64.wrap ((i64.wrap (z1e .u64 (u64.wrap (i64.wrap (a1 + a3))) 1)) + a2)) - w153)) then
 if (i64.wrap ((i64.wrap ((i64.wrap (z1e .u64 (u64.wrap (i64.wrap (a1 + a3))) 1)) + a2)) - w153)) < a3 then
 (rf v165 (i64.wrap (z1e .u64 (u64.wrap (i64.wrap (a1 + a3))) 1)) (i64.wrap ((i64.wrap ((i64.wrap (z1e .u64 (u64.wrap (i64.wrap (a1 + a3))) 1)) + a2)) - w153)) a3 a4_0_0).bind fun v166 =>
 some v166
 else
 some v165
 else
 some v165
 else
 if (i64.wrap (z1e .u64 (u64.wrap (i64.wrap (a1 + a3))) 1)) < (i64.wrap ((i64.wrap ((i64.wrap (z1e .u64 (u64.wrap (i64.wrap (a1 + a3))) 1)) + a2)) - w153)) then
 if (i64.wrap ((i64.wrap ((i64.wrap (z1e .u64 (u64.wrap (i64.wrap (a1 + a3))) 1)) + a2)) - w153)) < a3 then
 (rf a0 (i64.wrap (z1e .u64 (u64.wrap (i64.wrap (a1 + a3))) 1)) (i64.wrap ((i64.wrap ((i64.wrap (z1e .u64 (u64.wrap (i64.wrap (a1 + a3))) 1)) + a2)) - w153)) a3 a4_0_0).bind fun v167 =>
 some v167
 else
 some a0
 else
 some a0
 else
 if (i64.wrap (z1e .u64 (u64.wrap (i64.wrap (a1 + a3))) 1)) < (i64.wrap ((i64.wrap ((i64.wrap (z1e .u64 (u64.wrap (i64.wrap (a1 + a3))) 1)) + a2)) - w153)) then
 if (i64.wrap ((i64.wrap ((i64.wrap (z1e .u64 (u64.wrap (i64.wrap (a1 + a3))) 1)) + a2)) - w153)) < a3 then
 (rf a0 (i64.wrap (z1e .u64 (u64.wrap (i64.wrap (a1 + a3))) 1)) (i64.wrap ((i64.wrap ((i64.wrap (z1e .u64 (u64.wrap (i64.wrap (a1 + a3))) 1)) + a2)) - w153)) a3 a4_0_0).bind fun v168 =>
 some v168
 else
 some a0
 else
 some a0
 else
 if a1 < w153 then
 if w153 < (i64.wrap (z1e .u64 (u64.wrap (i64.wrap (a1 + a3))) 1)) then
 (rf a0 a1 w153 (i64.wrap (z1e .u64 (u64.wrap (i64.wrap (a1 + a3))) 1)) a4_0_0).bind fun v169 =>
 if (i64.wrap (z1e .u64 (u64.wrap (i64.wrap (a1 + a3))) 1)) < (i64.wrap ((i64.wrap ((i64.wrap (z1e .u64 (u64.wrap (i64.wrap (a1 + a3))) 1)) + a2)) - w153)) then
 if (i64.wrap ((i64.wrap ((i64.wrap (z1e .u64 (u64.wrap (i64.wrap (a1 + a3))) 1)) + a2)) - w153)) < a3 then
 (rf v169 (i64.wrap (z1e .u64 (u64.wrap (i64.wrap (a1 + a3))) 1)) (i64.wrap ((i64.wrap ((i64.wrap (z1e .u64 (u64.wrap (i64.wrap (a1 + a3))) 1)) + a2)) - w153)) a3 a4_0_0).bind fun v170 =>
 some v170
 else
 some v169
 else
 some v169
 else
 if (i64.wrap (z1e .u64 (u64.wrap (i64.wrap (a1 + a3))) 1)) < (i64.wrap ((i64.wrap ((i64.wrap (z1e .u64 (u64.wrap (i64.wrap (a1 + a3))) 1)) + a2)) - w153)) then
 if (i64.wrap ((i64.wrap ((i64.wrap (z1e .u64 (u64.wrap (i64.wrap (a1 + a3))) 1)) + a2)) - w153)) < a3 then
 (rf a0 (i64.wrap (z1e .u64 (u64.wrap (i64.wrap (a1 + a3))) 1)) (i64.wrap ((i64.wrap ((i64.wrap (z1e .u64 (u64.wrap (i64.wrap (a1 + a3))) 1)) + a2)) - w153)) a3 a4_0_0).bind fun v171 =>
 some v171
 else
 some a0
 else
 some a0
 else
 if (i64.wrap (z1e .u64 (u64.wrap (i64.wrap (a1 + a3))) 1)) < (i64.wrap ((i64.wrap ((i64.wrap (z1e .u64 (u64.wrap (i64.wrap (a1 + a3))) 1)) + a2)) - w153)) then
 if (i64.wrap ((i64.wrap ((i64.wrap (z1e .u64 (u64.wrap (i64.wrap (a1 + a3))) 1)) + a2)) - w153)) < a3 then
 (rf a0 (i64.wrap (z1e .u64 (u64.wrap (i64.wrap (a1 + a3))) 1)) (i64.wrap ((i64.wrap ((i64.wrap (z1e .u64 (u64.wrap (i64.wrap (a1 + a3))) 1)) + a2)) - w153)) a3 a4_0_0).bind fun v172 =>
 some v172
 else
 some a0
 else
 some a0
def z0L (a0 : List Int) (a1 : Int) (a2 : Int) (a3 : Int) (a4_0_0 : List Int) : Int × Int -> Fr
 | (w153, w152) => ⟨220, [(0, .one (.h 0 [])), (1, .one (.t none (.sc (.int .i64 a1)))), (2, .one (.t none (.sc (.int .i64 a2)))), (3, .one (.t none (.sc (.int .i64 a3)))), (4, .one (.t none (.cl 70 [.pr [.sl a4_0_0.length (a4_0_0.map fun x0 => .sc (.int .i64 x0))]]))), (18, .one (.t none (.sc (.int .i64 (i64.wrap (z1e .u64 (u64.wrap (i64.wrap (a1 + a3))) 1)))))), (19, .one (.t none (.sc (.int .i64 (i64.wrap ((i64.wrap (z1e .u64 (u64.wrap (i64.wrap (a1 + a3))) 1)) + a2)))))), (20, .one (.t none (.sc (.int .i64 w153)))), (21, .one (.t none (.sc (.int .i64 w152)))), (22, .one (.t none (.sc (.int .i64 (i64.wrap ((i64.wrap ((i64.wrap (z1e .u64 (u64.wrap (i64.wrap (a1 + a3))) 1)) + a2)) - 1)))))), (1220, .one (.h 0 []))], [(0, .os 1 a0.length (a0.map fun x0 => .sc (.int .i64 x0)))]⟩
def z1y (a0 : List Int) (a1 : Int) (a2 : Int) (a3 : Int) (a4_0_0 : List Int) (rf : List Int -> Int -> Int -> Int -> List Int -> Option (List Int)) : Int × Int -> Option ((Int × Int) ⊕ List Int)
 | (w177, w176) =>
 if w177 < w176 then
 chk (¬ 1 < 0) <|
 (atI a0 (i64.wrap ((i64.wrap ((i64.wrap ((i64.wrap (z1e .u64 (u64.wrap (i64.wrap (a1 + a3))) 1)) + a2)) - 1)) - (i64.wrap (z1e .u64 (u64.wrap (i64.wrap (w177 + w176))) 1))))).bind fun v181 =>
 (atI a0 (i64.wrap (z1e .u64 (u64.wrap (i64.wrap (w177 + w176))) 1))).bind fun v182 =>
 (z1z v181 v182 a4_0_0).bind fun v183 =>
 if v183 < 0 then
 z0B (w177, i64.wrap (z1e .u64 (u64.wrap (i64.wrap (w177 + w176))) 1))
 else
 z0B (i64.wrap ((i64.wrap (z1e .u64 (u64.wrap (i64.wrap (w177 + w176))) 1)) + 1), w176)
 else
 z1m <|
 if w177 < a2 then
 if a2 < (i64.wrap ((i64.wrap ((i64.wrap (z1e .u64 (u64.wrap (i64.wrap (a1 + a3))) 1)) + a2)) - w177)) then
 (z0A a0 w177 a2 (i64.wrap ((i64.wrap ((i64.wrap (z1e .u64 (u64.wrap (i64.wrap (a1 + a3))) 1)) + a2)) - w177)) a4_0_0).bind fun v184 =>
 if a1 < w177 then
 if w177 < (i64.wrap (z1e .u64 (u64.wrap (i64.wrap (a1 + a3))) 1)) then
 (rf v184 a1 w177 (i64.wrap (z1e .u64 (u64.wrap (i64.wrap (a1 + a3))) 1)) a4_0_0).bind fun v185 =>
 if (i64.wrap (z1e .u64 (u64.wrap (i64.wrap (a1 + a3))) 1)) < (i64.wrap ((i64.wrap ((i64.wrap (z1e .u64 (u64.wrap (i64.wrap (a1 + a3))) 1)) + a2)) - w177)) then
 if (i64.wrap ((i64.wrap ((i64.wrap (z1e .u64 (u64.wrap (i64.wrap (a1 + a3))) 1)) + a2)) - w177)) < a3 then
 (rf v185 (i64.wrap (z1e .u64 (u64.wrap (i64.wrap (a1 + a3))) 1)) (i64.wrap ((i64.wrap ((i64.wrap (z1e .u64 (u64.wrap (i64.wrap (a1 + a3))) 1)) + a2)) - w177)) a3 a4_0_0).bind fun v186 =>
 some v186
 else
 some v185
 else
 some v185
 else
 if (i64.wrap (z1e .u64 (u64.wrap (i64.wrap (a1 + a3))) 1)) < (i64.wrap ((i64.wrap ((i64.wrap (z1e .u64 (u64.wrap (i64.wrap (a1 + a3))) 1)) + a2)) - w177)) then
 if (i64.wrap ((i64.wrap ((i64.wrap (z1e .u64 (u64.wrap (i64.wrap (a1 + a3))) 1)) + a2)) - w177)) < a3 then
 (rf v184 (i64.wrap (z1e .u64 (u64.wrap (i64.wrap (a1 + a3))) 1)) (i64.wrap ((i64.wrap ((i64.wrap (z1e .u64 (u64.wrap (i64.wrap (a1 + a3))) 1)) + a2)) - w177)) a3 a4_0_0).bind fun v187 =>
 some v187
 else
 some v184
 else
 some v184
 else
 if (i64.wrap (z1e .u64 (u64.wrap (i64.wrap (a1 + a3))) 1)) < (i64.wrap ((i64.wrap ((i64.wrap (z1e .u64 (u64.wrap (i64.wrap (a1 + a3))) 1)) + a2)) - w177)) then
 if (i64.wrap ((i64.wrap ((i64.wrap (z1e .u64 (u64.wrap (i64.wrap (a1 + a3))) 1)) + a2)) - w177)) < a3 then
 (rf v184 (i64.wrap (z1e .u64 (u64.wrap (i64.wrap (a1 + a3))) 1)) (i64.wrap ((i64.wrap ((i64.wrap (z1e .u64 (u64.wrap (i64.wrap (a1 + a3))) 1)) + a2)) - w177)) a3 a4_0_0).bind fun v188 =>
 some v188
 else
 some v184
 else
 some v184
 else
 if a1 < w177 then
 if w177 < (i64.wrap (z1e .u64 (u64.wrap (i64.wrap (a1 + a3))) 1)) then
 (rf a0 a1 w177 (i64.wrap (z1e .u64 (u64.wrap (i64.wrap (a1 + a3))) 1)) a4_0_0).bind fun v189 =>
 if (i64.wrap (z1e .u64 (u64.wrap (i64.wrap (a1 + a3))) 1)) < (i64.wrap ((i64.wrap ((i64.wrap (z1e .u64 (u64.wrap (i64.wrap (a1 + a3))) 1)) + a2)) - w177)) then
 if (i64.wrap ((i64.wrap ((i64.wrap (z1e .u64 (u64.wrap (i64.wrap (a1 + a3))) 1)) + a2)) - w177)) < a3 then
 (rf v189 (i64.wrap (z1e .u64 (u64.wrap (i64.wrap (a1 + a3))) 1)) (i64.wrap ((i64.wrap ((i64.wrap (z1e .u64 (u64.wrap (i64.wrap (a1 + a3))) 1)) + a2)) - w177)) a3 a4_0_0).bind fun v190 =>
 some v190
 else
 some v189
 else
 some v189
 else
 if (i64.wrap (z1e .u64 (u64.wrap (i64.wrap (a1 + a3))) 1)) < (i64.wrap ((i64.wrap ((i64.wrap (z1e .u64 (u64.wrap (i64.wrap (a1 + a3))) 1)) + a2)) - w177)) then
 if (i64.wrap ((i64.wrap ((i64.wrap (z1e .u64 (u64.wrap (i64.wrap (a1 + a3))) 1)) + a2)) - w177)) < a3 then
 (rf a0 (i64.wrap (z1e .u64 (u64.wrap (i64.wrap (a1 + a3))) 1)) (i64.wrap ((i64.wrap ((i64.wrap (z1e .u64 (u64.wrap (i64.wrap (a1 + a3))) 1)) + a2)) - w177)) a3 a4_0_0).bind fun v191 =>
 some v191
 else
 some a0
 else
 some a0
 else
 if (i64.wrap (z1e .u64 (u64.wrap (i64.wrap (a1 + a3))) 1)) < (i64.wrap ((i64.wrap ((i64.wrap (z1e .u64 (u64.wrap (i64.wrap (a1 + a3))) 1)) + a2)) - w177)) then
 if (i64.wrap ((i64.wrap ((i64.wrap (z1e .u64 (u64.wrap (i64.wrap (a1 + a3))) 1)) + a2)) - w177)) < a3 then
 (rf a0 (i64.wrap (z1e .u64 (u64.wrap (i64.wrap (a1 + a3))) 1)) (i64.wrap ((i64.wrap ((i64.wrap (z1e .u64 (u64.wrap (i64.wrap (a1 + a3))) 1)) + a2)) - w177)) a3 a4_0_0).bind fun v192 =>
 some v192
 else
 some a0
 else
 some a0
 else
 if a1 < w177 then
 if w177 < (i64.wrap (z1e .u64 (u64.wrap (i64.wrap (a1 + a3))) 1)) then
 (rf a0 a1 w177 (i64.wrap (z1e .u64 (u64.wrap (i64.wrap (a1 + a3))) 1)) a4_0_0).bind fun v193 =>
 if (i64.wrap (z1e .u64 (u64.wrap (i64.wrap (a1 + a3))) 1)) < (i64.wrap ((i64.wrap ((i64.wrap (z1e .u64 (u64.wrap (i64.wrap (a1 + a3))) 1)) + a2)) - w177)) then
 if (i64.wrap ((i64.wrap ((i64.wrap (z1e .u64 (u64.wrap (i64.wrap (a1 + a3))) 1)) + a2)) - w177)) < a3 then
 (rf v193 (i64.wrap (z1e .u64 (u64.wrap (i64.wrap (a1 + a3))) 1)) (i64.wrap ((i64.wrap ((i64.wrap (z1e .u64 (u64.wrap (i64.wrap (a1 + a3))) 1)) + a2)) - w177)) a3 a4_0_0).bind fun v194 =>
 some v194
 else
 some v193
 else
 some v193
 else
 if (i64.wrap (z1e .u64 (u64.wrap (i64.wrap (a1 + a3))) 1)) < (i64.wrap ((i64.wrap ((i64.wrap (z1e .u64 (u64.wrap (i64.wrap (a1 + a3))) 1)) + a2)) - w177)) then
 if (i64.wrap ((i64.wrap ((i64.wrap (z1e .u64 (u64.wrap (i64.wrap (a1 + a3))) 1)) + a2)) - w177)) < a3 then
 (rf a0 (i64.wrap (z1e .u64 (u64.wrap (i64.wrap (a1 + a3))) 1)) (i64.wrap ((i64.wrap ((i64.wrap (z1e .u64 (u64.wrap (i64.wrap (a1 + a3))) 1)) + a2)) - w177)) a3 a4_0_0).bind fun v195 =>
 some v195
 else
 some a0
 else
 some a0
 else
 if (i64.wrap (z1e .u64 (u64.wrap (i64.wrap (a1 + a3))) 1)) < (i64.wrap ((i64.wrap ((i64.wrap (z1e .u64 (u64.wrap (i64.wrap (a1 + a3))) 1)) + a2)) - w177)) then
 if (i64.wrap ((i64.wrap ((i64.wrap (z1e .u64 (u64.wrap (i64.wrap (a1 + a3))) 1)) + a2)) - w177)) < a3 then
 (rf a0 (i64.wrap (z1e .u64 (u64.wrap (i64.wrap (a1 + a3))) 1)) (i64.wrap ((i64.wrap ((i64.wrap (z1e .u64 (u64.wrap (i64.wrap (a1 + a3))) 1)) + a2)) - w177)) a3 a4_0_0).bind fun v196 =>
 some v196
 else
 some a0
 else
 some a0
def z0J (a0 : List Int) (a1 : Int) (a2 : Int) (a3 : Int) (a4_0_0 : List Int) : Int × Int -> Fr
 | (w177, w176) => ⟨220, [(0, .one (.h 0 [])), (1, .one (.t none (.sc (.int .i64 a1)))), (2, .one (.t none (.sc (.int .i64 a2)))), (3, .one (.t none (.sc (.int .i64 a3)))), (4, .one (.t none (.cl 70 [.pr [.sl a4_0_0.length (a4_0_0.map fun x0 => .sc (.int .i64 x0))]]))), (18, .one (.t none (.sc (.int .i64 (i64.wrap (z1e .u64 (u64.wrap (i64.wrap (a1 + a3))) 1)))))), (19, .one (.t none (.sc (.int .i64 (i64.wrap ((i64.wrap (z1e .u64 (u64.wrap (i64.wrap (a1 + a3))) 1)) + a2)))))), (20, .one (.t none (.sc (.int .i64 w177)))), (21, .one (.t none (.sc (.int .i64 w176)))), (22, .one (.t none (.sc (.int .i64 (i64.wrap ((i64.wrap ((i64.wrap (z1e .u64 (u64.wrap (i64.wrap (a1 + a3))) 1)) + a2)) - 1)))))), (1220, .one (.h 0 []))], [(0, .os 1 a0.length (a0.map fun x0 => .sc (.int .i64 x0)))]⟩
def z0V (rf : List Int -> Int -> Int -> Int -> List Int -> Option (List Int)) (a0 : List Int) (a1 : Int) (a2 : Int) (a3 : Int) (a4_0_0 : List Int) : Option (List Int) :=
 if (i64.wrap (a2 - a1)) = 1 then
 z1b (z0U a0 a1 a4_0_0) LFm (a2, a3)
 else
 if (i64.wrap (a3 - a2)) = 1 then
 z1b (z0O a0 a2 a4_0_0) LFm (a1, a2)
 else
 chk (¬ 1 < 0) <|
 if (i64.wrap (z1e .u64 (u64.wrap (i64.wrap (a1 + a3))) 1)) < a2 then
 z1b (z0u a0 a1 a2 a3 a4_0_0 rf) LFm (i64.wrap ((i64.wrap ((i64.wrap (z1e .u64 (u64.wrap (i64.wrap (a1 + a3))) 1)) + a2)) - a3), i64.wrap (z1e .u64 (u64.wrap (i64.wrap (a1 + a3))) 1))
 else
 z1b (z1y a0 a1 a2 a3 a4_0_0 rf) LFm (a1, a2)
theorem z3p {rf : List Int -> Int -> Int -> Int -> List Int -> Option (List Int)} (ih : ∀ {a0 : List Int} {a1 : Int} {a2 : Int} {a3 : Int} {a4_0_0 : List Int} {r : List Int}, rf a0 a1 a2 a3 a4_0_0 = some r -> L 92 [.os 1 a0.length (a0.map fun x0 => .sc (.int .i64 x0)), .sc (.int .i64 a1), .sc (.int .i64 a2), .sc (.int .i64 a3), .cl 70 [.pr [.sl a4_0_0.length (a4_0_0.map fun x0 => .sc (.int .i64 x0))]]] = some (.tup [], [.os 1 r.length (r.map fun x0 => .sc (.int .i64 x0)), .dead, .dead, .dead, .dead])) {a0 : List Int} {a1 : Int} {a2 : Int} {a3 : Int} {a4_0_0 : List Int} {r : List Int} (h0 : z0V rf a0 a1 a2 a3 a4_0_0 = some r) : L 92 [.os 1 a0.length (a0.map fun x0 => .sc (.int .i64 x0)), .sc (.int .i64 a1), .sc (.int .i64 a2), .sc (.int .i64 a3), .cl 70 [.pr [.sl a4_0_0.length (a4_0_0.map fun x0 => .sc (.int .i64 x0))]]] = some (.tup [], [.os 1 r.length (r.map fun x0 => .sc (.int .i64 x0)), .dead, .dead, .dead, .dead]) := by
  simp only [z0V] at h0
  refine z2F zzR zBk (z1w zD6 ⟨of_decide_eq_true rfl, of_decide_eq_true rfl⟩ ?_)
  simp only [z1E, z1C, z1B, z1F, z3u]
  refine zp (zp (zs ?_))
  refine z0a ?_
  by_cases c177 : (i64.wrap (a2 - a1)) = 1
  ·rw [if_pos c177] at h0
   have c177e := eq_true c177
   refine z0t rfl (by simp [c177e]) (zp (zs ?_))
   refine z0a (zp (zs ?_))
   refine z0a (zp (zb rfl (z0C h0 (z0S a0 a1 a4_0_0) rfl rfl (by simp [z0S]) fun s o1 h1 hr1 => ?_)))
   obtain ⟨w102, w103⟩ := s
   simp only [z0U] at h1
   simp only [z0S]
   refine zp (zp (zs ?_))
   refine z0a ?_
   by_cases c190 : w102 < w103
   ·rw [if_pos c190] at h1
    refine z0t rfl (by simp [c190]) (z0j rfl (z0a (zb rfl (zp ?_))))
    obtain ⟨f191, h2⟩ := z1M h1
    refine zr rfl rfl rfl (by simp [f191]; rfl) ?_
    refine z0a (zp ?_)
    obtain ⟨v107, f192, h3⟩ := z0I h2
    obtain ⟨v108, f193, h4⟩ := z0I h3
    obtain ⟨v109, f194, h5⟩ := z0d h4
    have f194k := z2b f194
    try simp at f194k
    refine z1c rfl rfl rfl rfl ?_; repeat' ((first | refine z0q rfl rfl fun Q' hQ => ?_ | refine z0m rfl fun Q' hQ => ?_); simp [f192, f193, f194k]; refine hQ.out _ ?_; clear hQ; clear Q')
    refine z0a ?_
    by_cases c195 : v109 < 0
    ·rw [if_pos c195] at h5
     refine z0t rfl (by simp [c195]) (zs ?_)
     refine z0h ?_
     have ho := z0c h5
     refine z0i ho ?_
     simp [z0S]
    ·rw [if_neg c195] at h5
     refine z0r rfl (by simp [c195]) (zs ?_)
     refine z0h ?_
     have ho := z0c h5
     refine z0i ho ?_
     simp [z0S]
   ·rw [if_neg c190] at h1
    refine z0r rfl (by simp [c190]) (z0X rfl (z0w ?_))
    obtain ⟨rr1, h2, ho1⟩ := z0k h1
    have hs1 := hr1 _ ho1
    subst hs1
    refine z0s ho1 (z0g rfl (z0a (zp (zp (zs ?_)))))
    refine z0a (zb rfl (z0C h2 (z1l w102) rfl rfl (by simp [z1l]) fun s o2 h3 hr2 => ?_))
    obtain ⟨w114, w115⟩ := s
    simp only [z0T] at h3
    simp only [z1l]
    refine zp (zp (zs ?_))
    refine z0a ?_
    by_cases c204 : w114 < (i64.wrap (w102 - 1))
    ·rw [if_pos c204] at h3
     refine z0t rfl (by simp [c204]) (z0j rfl (z0a (zp (zb rfl ?_))))
     obtain ⟨v120, f205, h4⟩ := z0I h3
     obtain ⟨v121, f206, h5⟩ := z0I h4
     obtain ⟨v123, f207, h6⟩ := z0d h5
     obtain ⟨f207a, f207b, f207c, f207d, f207e⟩ := z8e f207
     try simp only [List.length_set] at f207b f207c
     have f207s : ∀ hh, ((w115.set w114.toNat v120).map (fun x0 : Int => (.sc (.int .i64 x0) : T)))[(i64.wrap (w114 + 1)).toNat]'hh = (fun x0 : Int => (.sc (.int .i64 x0) : T)) v123 := fun hh => by rw [List.getElem_map]; exact congrArg (fun x0 : Int => (.sc (.int .i64 x0) : T)) (f207e _)
     try simp only [List.map_set] at f207s
     refine z1c rfl rfl rfl rfl ?_; repeat' ((first | refine z0q rfl rfl fun Q' hQ => ?_ | refine z0m rfl fun Q' hQ => ?_); simp [f205, f206, f207a, f207b, f207c, f207d, f207e, f207s]; refine hQ.out _ ?_; clear hQ; clear Q')
     refine z0h (z0a (zs ?_))
     have ho := z0c h6
     refine z0i ho ?_
     simp [z1l]
    ·rw [if_neg c204] at h3
     refine z0r rfl (by simp [c204]) (z0X rfl (z0w ?_))
     obtain ⟨rr2, h4, ho2⟩ := z0k h3
     have hs2 := hr2 _ ho2
     subst hs2
     refine z0s ho2 (z0g rfl (z0a (z1f rfl (z0Q ?_))))
     cases h4
     simp
  ·rw [if_neg c177] at h0
   have c177e := eq_false c177
   refine z0r rfl (by simp [c177e]) (z0j rfl (z0a (zp (zp (zs ?_)))))
   refine z0a ?_
   by_cases c208 : (i64.wrap (a3 - a2)) = 1
   ·rw [if_pos c208] at h0
    have c208e := eq_true c208
    refine z0t rfl (by simp [c208e]) (zp (zs ?_))
    refine z0a (zp (zs ?_))
    refine z0a (zp (zb rfl (z0C h0 (z0M a0 a2 a4_0_0) rfl rfl (by simp [z0M]) fun s o3 h1 hr3 => ?_)))
    obtain ⟨w128, w127⟩ := s
    simp only [z0O] at h1
    simp only [z0M]
    refine zp (zp (zs ?_))
    refine z0a ?_
    by_cases c221 : w128 < w127
    ·rw [if_pos c221] at h1
     refine z0t rfl (by simp [c221]) (z0j rfl (z0a (zb rfl (zp ?_))))
     obtain ⟨f222, h2⟩ := z1M h1
     refine zr rfl rfl rfl (by simp [f222]; rfl) ?_
     refine z0a (zp ?_)
     obtain ⟨v132, f223, h3⟩ := z0I h2
     obtain ⟨v133, f224, h4⟩ := z0I h3
     obtain ⟨v134, f225, h5⟩ := z0d h4
     have f225k := z2b f225
     try simp at f225k
     refine z1c rfl rfl rfl rfl ?_; repeat' ((first | refine z0q rfl rfl fun Q' hQ => ?_ | refine z0m rfl fun Q' hQ => ?_); simp [f223, f224, f225k]; refine hQ.out _ ?_; clear hQ; clear Q')
     refine z0a ?_
     by_cases c226 : v134 < 0
     ·rw [if_pos c226] at h5
      refine z0r rfl (by simp [c226]) (zs ?_)
      refine z0h ?_
      have ho := z0c h5
      refine z0i ho ?_
      simp [z0M]
     ·rw [if_neg c226] at h5
      refine z0t rfl (by simp [c226]) (zs ?_)
      refine z0h ?_
      have ho := z0c h5
      refine z0i ho ?_
      simp [z0M]
    ·rw [if_neg c221] at h1
     refine z0r rfl (by simp [c221]) (z0X rfl (z0w ?_))
     obtain ⟨rr3, h2, ho3⟩ := z0k h1
     have hs3 := hr3 _ ho3
     subst hs3
     refine z0s ho3 (z0g rfl (z0a (zp (zp (zs ?_)))))
     refine z0a (zb rfl (z0C h2 (z1h w128) rfl rfl (by simp [z1h]) fun s o4 h3 hr4 => ?_))
     obtain ⟨w139, w140⟩ := s
     simp only [z0N] at h3
     simp only [z1h]
     refine zp (zp (zs ?_))
     refine z0a ?_
     by_cases c235 : w128 < w139
     ·rw [if_pos c235] at h3
      refine z0t rfl (by simp [c235]) (z0j rfl (z0a (zp (zb rfl ?_))))
      obtain ⟨v145, f236, h4⟩ := z0I h3
      obtain ⟨v146, f237, h5⟩ := z0I h4
      obtain ⟨v148, f238, h6⟩ := z0d h5
      obtain ⟨f238a, f238b, f238c, f238d, f238e⟩ := z8e f238
      try simp only [List.length_set] at f238b f238c
      have f238s : ∀ hh, ((w140.set w139.toNat v145).map (fun x0 : Int => (.sc (.int .i64 x0) : T)))[(i64.wrap (w139 - 1)).toNat]'hh = (fun x0 : Int => (.sc (.int .i64 x0) : T)) v148 := fun hh => by rw [List.getElem_map]; exact congrArg (fun x0 : Int => (.sc (.int .i64 x0) : T)) (f238e _)
      try simp only [List.map_set] at f238s
      refine z1c rfl rfl rfl rfl ?_; repeat' ((first | refine z0q rfl rfl fun Q' hQ => ?_ | refine z0m rfl fun Q' hQ => ?_); simp [f236, f237, f238a, f238b, f238c, f238d, f238e, f238s]; refine hQ.out _ ?_; clear hQ; clear Q')
      refine z0h (z0a (zs ?_))
      have ho := z0c h6
      refine z0i ho ?_
      simp [z1h]
     ·rw [if_neg c235] at h3
      refine z0r rfl (by simp [c235]) (z0X rfl (z0w ?_))
      obtain ⟨rr4, h4, ho4⟩ := z0k h3
      have hs4 := hr4 _ ho4
      subst hs4
      refine z0s ho4 (z0g rfl (z0a (z1f rfl (z0Q ?_))))
      cases h4
      simp
   ·rw [if_neg c208] at h0
    have c208e := eq_false c208
    refine z0r rfl (by simp [c208e]) (z0j rfl (z0a (zp ?_)))
    obtain ⟨f239, h1⟩ := z1M h0
    refine zr rfl rfl rfl (by simp [f239]; rfl) ?_
    refine z0a (zp (zs ?_))
    refine z0a (zp (zs ?_))
    refine z0a (zp (zp (zs ?_)))
    refine z0a ?_
    by_cases c240 : (i64.wrap (z1e .u64 (u64.wrap (i64.wrap (a1 + a3))) 1)) < a2
    ·rw [if_pos c240] at h1
     refine z0t rfl (by simp [c240]) (zp (zs ?_))
     refine z0a (zs ?_)
     refine z0a (zp (zs ?_))
     refine z0a (zp (zb rfl (z0C h1 (z0L a0 a1 a2 a3 a4_0_0) rfl rfl (by simp [z0L]) fun s o5 h2 hr5 => ?_)))
     obtain ⟨w153, w152⟩ := s
     simp only [z0u] at h2
     simp only [z0L]
     refine zp (zp (zs ?_))
     refine z0a ?_
     by_cases c253 : w153 < w152
     ·rw [if_pos c253] at h2
      refine z0t rfl (by simp [c253]) (z0j rfl (z0a (zb rfl (zp ?_))))
      obtain ⟨f254, h3⟩ := z1M h2
      refine zr rfl rfl rfl (by simp [f254]; rfl) ?_
      refine z0a (zp ?_)
      obtain ⟨v157, f255, h4⟩ := z0I h3
      obtain ⟨v158, f256, h5⟩ := z0I h4
      obtain ⟨v159, f257, h6⟩ := z0d h5
      have f257k := z2b f257
      try simp at f257k
      refine z1c rfl rfl rfl rfl ?_; repeat' ((first | refine z0q rfl rfl fun Q' hQ => ?_ | refine z0m rfl fun Q' hQ => ?_); simp [f255, f256, f257k]; refine hQ.out _ ?_; clear hQ; clear Q')
      refine z0a ?_
      by_cases c258 : v159 < 0
      ·rw [if_pos c258] at h6
       refine z0r rfl (by simp [c258]) (zs ?_)
       refine z0h ?_
       have ho := z0c h6
       refine z0i ho ?_
       simp [z0L]
      ·rw [if_neg c258] at h6
       refine z0t rfl (by simp [c258]) (zs ?_)
       refine z0h ?_
       have ho := z0c h6
       refine z0i ho ?_
       simp [z0L]
     ·rw [if_neg c253] at h2
      refine z0r rfl (by simp [c253]) (z0X rfl (z0w ?_))
      obtain ⟨rr5, h3, ho5⟩ := z0k h2
      have hs5 := hr5 _ ho5
      subst hs5
      refine z0s ho5 (z0g rfl (z0a (zp (zs ?_))))
      refine z0a (zp (zp ?_))
      by_cases c259 : w153 < a2
      ·rw [if_pos c259] at h3
       refine zr rfl rfl rfl (by simp [c259]; rfl) ?_
       refine z0a ?_
       by_cases c260 : a2 < (i64.wrap ((i64.wrap ((i64.wrap (z1e .u64 (u64.wrap (i64.wrap (a1 + a3))) 1)) + a2)) - w153))
       ·rw [if_pos c260] at h3
        refine z0t rfl (by simp [c260]) ?_
        obtain ⟨v160, f261, h4⟩ := z0d h3
        have f261k := z1Z f261
        try simp at f261k
        refine zr rfl rfl rfl (by simp [f261k]; rfl) ?_
        refine z0a (zp (zp ?_))
        by_cases c262 : a1 < w153
        ·rw [if_pos c262] at h4
         refine zr rfl rfl rfl (by simp [c262]; rfl) ?_
         refine z0a ?_
         by_cases c263 : w153 < (i64.wrap (z1e .u64 (u64.wrap (i64.wrap (a1 + a3))) 1))
         ·rw [if_pos c263] at h4
          refine z0t rfl (by simp [c263]) ?_
          obtain ⟨v161, f264, h5⟩ := z0d h4
          have f264k := ih f264
          try simp at f264k
          refine zr rfl rfl rfl (by simp [f264k]; rfl) ?_
          refine z0a (zp ?_)
          by_cases c265 : (i64.wrap (z1e .u64 (u64.wrap (i64.wrap (a1 + a3))) 1)) < (i64.wrap ((i64.wrap ((i64.wrap (z1e .u64 (u64.wrap (i64.wrap (a1 + a3))) 1)) + a2)) - w153))
          ·rw [if_pos c265] at h5
           refine zr rfl rfl rfl (by simp [c265]; rfl) ?_
           refine z0a ?_
           by_cases c266 : (i64.wrap ((i64.wrap ((i64.wrap (z1e .u64 (u64.wrap (i64.wrap (a1 + a3))) 1)) + a2)) - w153)) < a3
           ·rw [if_pos c266] at h5
            refine z0t rfl (by simp [c266]) ?_
            obtain ⟨v162, f267, h6⟩ := z0d h5
            have f267k := ih f267
            try simp at f267k
            refine zr rfl rfl rfl (by simp [f267k]; rfl) ?_
            cases h6
            simp
           ·rw [if_neg c266] at h5
            refine z0r rfl (by simp [c266]) (z0j rfl ?_)
            cases h5
            simp
          ·rw [if_neg c265] at h5
           refine zr rfl rfl rfl (by simp [c265]; rfl) ?_
           refine z0a (z0r rfl (by simp) (z0j rfl ?_))
           cases h5
           simp
         ·rw [if_neg c263] at h4
          refine z0r rfl (by simp [c263]) (z0j rfl (z0a (zp ?_)))
          by_cases c268 : (i64.wrap (z1e .u64 (u64.wrap (i64.wrap (a1 + a3))) 1)) < (i64.wrap ((i64.wrap ((i64.wrap (z1e .u64 (u64.wrap (i64.wrap (a1 + a3))) 1)) + a2)) - w153))
          ·rw [if_pos c268] at h4
           refine zr rfl rfl rfl (by simp [c268]; rfl) ?_
           refine z0a ?_
           by_cases c269 : (i64.wrap ((i64.wrap ((i64.wrap (z1e .u64 (u64.wrap (i64.wrap (a1 + a3))) 1)) + a2)) - w153)) < a3
           ·rw [if_pos c269] at h4
            refine z0t rfl (by simp [c269]) ?_
            obtain ⟨v163, f270, h5⟩ := z0d h4
            have f270k := ih f270
            try simp at f270k
            refine zr rfl rfl rfl (by simp [f270k]; rfl) ?_
            cases h5
            simp
           ·rw [if_neg c269] at h4
            refine z0r rfl (by simp [c269]) (z0j rfl ?_)
            cases h4
            simp
          ·rw [if_neg c268] at h4
           refine zr rfl rfl rfl (by simp [c268]; rfl) ?_
           refine z0a (z0r rfl (by simp) (z0j rfl ?_))
           cases h4
           simp
        ·rw [if_neg c262] at h4
         refine zr rfl rfl rfl (by simp [c262]; rfl) ?_
         refine z0a (z0r rfl (by simp) (z0j rfl (z0a (zp ?_))))
         by_cases c271 : (i64.wrap (z1e .u64 (u64.wrap (i64.wrap (a1 + a3))) 1)) < (i64.wrap ((i64.wrap ((i64.wrap (z1e .u64 (u64.wrap (i64.wrap (a1 + a3))) 1)) + a2)) - w153))
         ·rw [if_pos c271] at h4
          refine zr rfl rfl rfl (by simp [c271]; rfl) ?_
          refine z0a ?_
          by_cases c272 : (i64.wrap ((i64.wrap ((i64.wrap (z1e .u64 (u64.wrap (i64.wrap (a1 + a3))) 1)) + a2)) - w153)) < a3
          ·rw [if_pos c272] at h4
           refine z0t rfl (by simp [c272]) ?_
           obtain ⟨v164, f273, h5⟩ := z0d h4
           have f273k := ih f273
           try simp at f273k
           refine zr rfl rfl rfl (by simp [f273k]; rfl) ?_
           cases h5
           simp
          ·rw [if_neg c272] at h4
           refine z0r rfl (by simp [c272]) (z0j rfl ?_)
           cases h4
           simp
         ·rw [if_neg c271] at h4
          refine zr rfl rfl rfl (by simp [c271]; rfl) ?_
          refine z0a (z0r rfl (by simp) (z0j rfl ?_))
          cases h4
          simp
       ·rw [if_neg c260] at h3
        refine z0r rfl (by simp [c260]) (z0j rfl (z0a (zp (zp ?_))))
        by_cases c274 : a1 < w153
        ·rw [if_pos c274] at h3
         refine zr rfl rfl rfl (by simp [c274]; rfl) ?_
         refine z0a ?_
         by_cases c275 : w153 < (i64.wrap (z1e .u64 (u64.wrap (i64.wrap (a1 + a3))) 1))
         ·rw [if_pos c275] at h3
          refine z0t rfl (by simp [c275]) ?_
          obtain ⟨v165, f276, h4⟩ := z0d h3
          have f276k := ih f276
          try simp at f276k
          refine zr rfl rfl rfl (by simp [f276k]; rfl) ?_
          refine z0a (zp ?_)
          by_cases c277 : (i64.wrap (z1e .u64 (u64.wrap (i64.wrap (a1 + a3))) 1)) < (i64.wrap ((i64.wrap ((i64.wrap (z1e .u64 (u64.wrap (i64.wrap (a1 + a3))) 1)) + a2)) - w153))
          ·rw [if_pos c277] at h4
           refine zr rfl rfl rfl (by simp [c277]; rfl) ?_
           refine z0a ?_
           by_cases c278 : (i64.wrap ((i64.wrap ((i64.wrap (z1e .u64 (u64.wrap (i64.wrap (a1 + a3))) 1)) + a2)) - w153)) < a3
           ·rw [if_pos c278] at h4
            refine z0t rfl (by simp [c278]) ?_
            obtain ⟨v166, f279, h5⟩ := z0d h4
            have f279k := ih f279
            try simp at f279k
            refine zr rfl rfl rfl (by simp [f279k]; rfl) ?_
            cases h5
            simp
           ·rw [if_neg c278] at h4
            refine z0r rfl (by simp [c278]) (z0j rfl ?_)
            cases h4
            simp
          ·rw [if_neg c277] at h4
           refine zr rfl rfl rfl (by simp [c277]; rfl) ?_
           refine z0a (z0r rfl (by simp) (z0j rfl ?_))
           cases h4
           simp
         ·rw [if_neg c275] at h3
          refine z0r rfl (by simp [c275]) (z0j rfl (z0a (zp ?_)))
          by_cases c280 : (i64.wrap (z1e .u64 (u64.wrap (i64.wrap (a1 + a3))) 1)) < (i64.wrap ((i64.wrap ((i64.wrap (z1e .u64 (u64.wrap (i64.wrap (a1 + a3))) 1)) + a2)) - w153))
          ·rw [if_pos c280] at h3
           refine zr rfl rfl rfl (by simp [c280]; rfl) ?_
           refine z0a ?_
           by_cases c281 : (i64.wrap ((i64.wrap ((i64.wrap (z1e .u64 (u64.wrap (i64.wrap (a1 + a3))) 1)) + a2)) - w153)) < a3
           ·rw [if_pos c281] at h3
            refine z0t rfl (by simp [c281]) ?_
            obtain ⟨v167, f282, h4⟩ := z0d h3
            have f282k := ih f282
            try simp at f282k
            refine zr rfl rfl rfl (by simp [f282k]; rfl) ?_
            cases h4
            simp
           ·rw [if_neg c281] at h3
            refine z0r rfl (by simp [c281]) (z0j rfl ?_)
            cases h3
            simp
          ·rw [if_neg c280] at h3
           refine zr rfl rfl rfl (by simp [c280]; rfl) ?_
           refine z0a (z0r rfl (by simp) (z0j rfl ?_))
           cases h3
           simp
        ·rw [if_neg c274] at h3
         refine zr rfl rfl rfl (by simp [c274]; rfl) ?_
         refine z0a (z0r rfl (by simp) (z0j rfl (z0a (zp ?_))))
         by_cases c283 : (i64.wrap (z1e .u64 (u64.wrap (i64.wrap (a1 + a3))) 1)) < (i64.wrap ((i64.wrap ((i64.wrap (z1e .u64 (u64.wrap (i64.wrap (a1 + a3))) 1)) + a2)) - w153))
         ·rw [if_pos c283] at h3
          refine zr rfl rfl rfl (by simp [c283]; rfl) ?_
          refine z0a ?_
          by_cases c284 : (i64.wrap ((i64.wrap ((i64.wrap (z1e .u64 (u64.wrap (i64.wrap (a1 + a3))) 1)) + a2)) - w153)) < a3
          ·rw [if_pos c284] at h3
           refine z0t rfl (by simp [c284]) ?_
           obtain ⟨v168, f285, h4⟩ := z0d h3
           have f285k := ih f285
           try simp at f285k
           refine zr rfl rfl rfl (by simp [f285k]; rfl) ?_
           cases h4
           simp
          ·rw [if_neg c284] at h3
           refine z0r rfl (by simp [c284]) (z0j rfl ?_)
           cases h3
           simp
         ·rw [if_neg c283] at h3
          refine zr rfl rfl rfl (by simp [c283]; rfl) ?_
          refine z0a (z0r rfl (by simp) (z0j rfl ?_))
          cases h3
          simp
      ·rw [if_neg c259] at h3
       refine zr rfl rfl rfl (by simp [c259]; rfl) ?_
       refine z0a (z0r rfl (by simp) (z0j rfl (z0a (zp (zp ?_)))))
       by_cases c286 : a1 < w153
       ·rw [if_pos c286] at h3
        refine zr rfl rfl rfl (by simp [c286]; rfl) ?_
        refine z0a ?_
        by_cases c287 : w153 < (i64.wrap (z1e .u64 (u64.wrap (i64.wrap (a1 + a3))) 1))
        ·rw [if_pos c287] at h3
         refine z0t rfl (by simp [c287]) ?_
         obtain ⟨v169, f288, h4⟩ := z0d h3
         have f288k := ih f288
         try simp at f288k
         refine zr rfl rfl rfl (by simp [f288k]; rfl) ?_
         refine z0a (zp ?_)
         by_cases c289 : (i64.wrap (z1e .u64 (u64.wrap (i64.wrap (a1 + a3))) 1)) < (i64.wrap ((i64.wrap ((i64.wrap (z1e .u64 (u64.wrap (i64.wrap (a1 + a3))) 1)) + a2)) - w153))
         ·rw [if_pos c289] at h4
          refine zr rfl rfl rfl (by simp [c289]; rfl) ?_
          refine z0a ?_
          by_cases c290 : (i64.wrap ((i64.wrap ((i64.wrap (z1e .u64 (u64.wrap (i64.wrap (a1 + a3))) 1)) + a2)) - w153)) < a3
          ·rw [if_pos c290] at h4
           refine z0t rfl (by simp [c290]) ?_
           obtain ⟨v170, f291, h5⟩ := z0d h4
           have f291k := ih f291
           try simp at f291k
           refine zr rfl rfl rfl (by simp [f291k]; rfl) ?_
           cases h5
           simp
          ·rw [if_neg c290] at h4
           refine z0r rfl (by simp [c290]) (z0j rfl ?_)
           cases h4
           simp
         ·rw [if_neg c289] at h4
          refine zr rfl rfl rfl (by simp [c289]; rfl) ?_
          refine z0a (z0r rfl (by simp) (z0j rfl ?_))
          cases h4
          simp
        ·rw [if_neg c287] at h3
         refine z0r rfl (by simp [c287]) (z0j rfl (z0a (zp ?_)))
         by_cases c292 : (i64.wrap (z1e .u64 (u64.wrap (i64.wrap (a1 + a3))) 1)) < (i64.wrap ((i64.wrap ((i64.wrap (z1e .u64 (u64.wrap (i64.wrap (a1 + a3))) 1)) + a2)) - w153))
         ·rw [if_pos c292] at h3
          refine zr rfl rfl rfl (by simp [c292]; rfl) ?_
          refine z0a ?_
          by_cases c293 : (i64.wrap ((i64.wrap ((i64.wrap (z1e .u64 (u64.wrap (i64.wrap (a1 + a3))) 1)) + a2)) - w153)) < a3
          ·rw [if_pos c293] at h3
           refine z0t rfl (by simp [c293]) ?_
           obtain ⟨v171, f294, h4⟩ := z0d h3
           have f294k := ih f294
           try simp at f294k
           refine zr rfl rfl rfl (by simp [f294k]; rfl) ?_
           cases h4
           simp
          ·rw [if_neg c293] at h3
           refine z0r rfl (by simp [c293]) (z0j rfl ?_)
           cases h3
           simp
         ·rw [if_neg c292] at h3
          refine zr rfl rfl rfl (by simp [c292]; rfl) ?_
          refine z0a (z0r rfl (by simp) (z0j rfl ?_))
          cases h3
          simp
       ·rw [if_neg c286] at h3
        refine zr rfl rfl rfl (by simp [c286]; rfl) ?_
        refine z0a (z0r rfl (by simp) (z0j rfl (z0a (zp ?_))))
        by_cases c295 : (i64.wrap (z1e .u64 (u64.wrap (i64.wrap (a1 + a3))) 1)) < (i64.wrap ((i64.wrap ((i64.wrap (z1e .u64 (u64.wrap (i64.wrap (a1 + a3))) 1)) + a2)) - w153))
        ·rw [if_pos c295] at h3
         refine zr rfl rfl rfl (by simp [c295]; rfl) ?_
         refine z0a ?_
         by_cases c296 : (i64.wrap ((i64.wrap ((i64.wrap (z1e .u64 (u64.wrap (i64.wrap (a1 + a3))) 1)) + a2)) - w153)) < a3
         ·rw [if_pos c296] at h3
          refine z0t rfl (by simp [c296]) ?_
          obtain ⟨v172, f297, h4⟩ := z0d h3
          have f297k := ih f297
          try simp at f297k
          refine zr rfl rfl rfl (by simp [f297k]; rfl) ?_
          cases h4
          simp
         ·rw [if_neg c296] at h3
          refine z0r rfl (by simp [c296]) (z0j rfl ?_)
          cases h3
          simp
        ·rw [if_neg c295] at h3
         refine zr rfl rfl rfl (by simp [c295]; rfl) ?_
         refine z0a (z0r rfl (by simp) (z0j rfl ?_))
         cases h3
         simp
    ·rw [if_neg c240] at h1
     refine z0r rfl (by simp [c240]) (zp (zs ?_))
     refine z0a (zs ?_)
     refine z0a (zp (zs ?_))
     refine z0a (zp (zb rfl (z0C h1 (z0J a0 a1 a2 a3 a4_0_0) rfl rfl (by simp [z0J]) fun s o6 h2 hr6 => ?_)))
     obtain ⟨w177, w176⟩ := s
     simp only [z1y] at h2
     simp only [z0J]
     refine zp (zp (zs ?_))
     refine z0a ?_
     by_cases c310 : w177 < w176
     ·rw [if_pos c310] at h2
      refine z0t rfl (by simp [c310]) (z0j rfl (z0a (zb rfl (zp ?_))))
      obtain ⟨f311, h3⟩ := z1M h2
      refine zr rfl rfl rfl (by simp [f311]; rfl) ?_
      refine z0a (zp ?_)
      obtain ⟨v181, f312, h4⟩ := z0I h3
      obtain ⟨v182, f313, h5⟩ := z0I h4
      obtain ⟨v183, f314, h6⟩ := z0d h5
      have f314k := z2b f314
      try simp at f314k
      refine z1c rfl rfl rfl rfl ?_; repeat' ((first | refine z0q rfl rfl fun Q' hQ => ?_ | refine z0m rfl fun Q' hQ => ?_); simp [f312, f313, f314k]; refine hQ.out _ ?_; clear hQ; clear Q')
      refine z0a ?_
      by_cases c315 : v183 < 0
      ·rw [if_pos c315] at h6
       refine z0r rfl (by simp [c315]) (zs ?_)
       refine z0h ?_
       have ho := z0c h6
       refine z0i ho ?_
       simp [z0J]
      ·rw [if_neg c315] at h6
       refine z0t rfl (by simp [c315]) (zs ?_)
       refine z0h ?_
       have ho := z0c h6
       refine z0i ho ?_
       simp [z0J]
     ·rw [if_neg c310] at h2
      refine z0r rfl (by simp [c310]) (z0X rfl (z0w ?_))
      obtain ⟨rr6, h3, ho6⟩ := z0k h2
      have hs6 := hr6 _ ho6
      subst hs6
      refine z0s ho6 (z0g rfl (z0a (zp (zs ?_))))
      refine z0a (zp (zp ?_))
      by_cases c316 : w177 < a2
      ·rw [if_pos c316] at h3
       refine zr rfl rfl rfl (by simp [c316]; rfl) ?_
       refine z0a ?_
       by_cases c317 : a2 < (i64.wrap ((i64.wrap ((i64.wrap (z1e .u64 (u64.wrap (i64.wrap (a1 + a3))) 1)) + a2)) - w177))
       ·rw [if_pos c317] at h3
        refine z0t rfl (by simp [c317]) ?_
        obtain ⟨v184, f318, h4⟩ := z0d h3
        have f318k := z1Z f318
        try simp at f318k
        refine zr rfl rfl rfl (by simp [f318k]; rfl) ?_
        refine z0a (zp (zp ?_))
        by_cases c319 : a1 < w177
        ·rw [if_pos c319] at h4
         refine zr rfl rfl rfl (by simp [c319]; rfl) ?_
         refine z0a ?_
         by_cases c320 : w177 < (i64.wrap (z1e .u64 (u64.wrap (i64.wrap (a1 + a3))) 1))
         ·rw [if_pos c320] at h4
          refine z0t rfl (by simp [c320]) ?_
          obtain ⟨v185, f321, h5⟩ := z0d h4
          have f321k := ih f321
          try simp at f321k
          refine zr rfl rfl rfl (by simp [f321k]; rfl) ?_
          refine z0a (zp ?_)
          by_cases c322 : (i64.wrap (z1e .u64 (u64.wrap (i64.wrap (a1 + a3))) 1)) < (i64.wrap ((i64.wrap ((i64.wrap (z1e .u64 (u64.wrap (i64.wrap (a1 + a3))) 1)) + a2)) - w177))
          ·rw [if_pos c322] at h5
           refine zr rfl rfl rfl (by simp [c322]; rfl) ?_
           refine z0a ?_
           by_cases c323 : (i64.wrap ((i64.wrap ((i64.wrap (z1e .u64 (u64.wrap (i64.wrap (a1 + a3))) 1)) + a2)) - w177)) < a3
           ·rw [if_pos c323] at h5
            refine z0t rfl (by simp [c323]) ?_
            obtain ⟨v186, f324, h6⟩ := z0d h5
            have f324k := ih f324
            try simp at f324k
            refine zr rfl rfl rfl (by simp [f324k]; rfl) ?_
            cases h6
            simp
           ·rw [if_neg c323] at h5
            refine z0r rfl (by simp [c323]) (z0j rfl ?_)
            cases h5
            simp
          ·rw [if_neg c322] at h5
           refine zr rfl rfl rfl (by simp [c322]; rfl) ?_
           refine z0a (z0r rfl (by simp) (z0j rfl ?_))
           cases h5
           simp
         ·rw [if_neg c320] at h4
          refine z0r rfl (by simp [c320]) (z0j rfl (z0a (zp ?_)))
          by_cases c325 : (i64.wrap (z1e .u64 (u64.wrap (i64.wrap (a1 + a3))) 1)) < (i64.wrap ((i64.wrap ((i64.wrap (z1e .u64 (u64.wrap (i64.wrap (a1 + a3))) 1)) + a2)) - w177))
          ·rw [if_pos c325] at h4
           refine zr rfl rfl rfl (by simp [c325]; rfl) ?_
           refine z0a ?_
           by_cases c326 : (i64.wrap ((i64.wrap ((i64.wrap (z1e .u64 (u64.wrap (i64.wrap (a1 + a3))) 1)) + a2)) - w177)) < a3
           ·rw [if_pos c326] at h4
            refine z0t rfl (by simp [c326]) ?_
            obtain ⟨v187, f327, h5⟩ := z0d h4
            have f327k := ih f327
            try simp at f327k
            refine zr rfl rfl rfl (by simp [f327k]; rfl) ?_
            cases h5
            simp
           ·rw [if_neg c326] at h4
            refine z0r rfl (by simp [c326]) (z0j rfl ?_)
            cases h4
            simp
          ·rw [if_neg c325] at h4
           refine zr rfl rfl rfl (by simp [c325]; rfl) ?_
           refine z0a (z0r rfl (by simp) (z0j rfl ?_))
           cases h4
           simp
        ·rw [if_neg c319] at h4
         refine zr rfl rfl rfl (by simp [c319]; rfl) ?_
         refine z0a (z0r rfl (by simp) (z0j rfl (z0a (zp ?_))))
         by_cases c328 : (i64.wrap (z1e .u64 (u64.wrap (i64.wrap (a1 + a3))) 1)) < (i64.wrap ((i64.wrap ((i64.wrap (z1e .u64 (u64.wrap (i64.wrap (a1 + a3))) 1)) + a2)) - w177))
         ·rw [if_pos c328] at h4
          refine zr rfl rfl rfl (by simp [c328]; rfl) ?_
          refine z0a ?_
          by_cases c329 : (i64.wrap ((i64.wrap ((i64.wrap (z1e .u64 (u64.wrap (i64.wrap (a1 + a3))) 1)) + a2)) - w177)) < a3
          ·rw [if_pos c329] at h4
           refine z0t rfl (by simp [c329]) ?_
           obtain ⟨v188, f330, h5⟩ := z0d h4
           have f330k := ih f330
           try simp at f330k
           refine zr rfl rfl rfl (by simp [f330k]; rfl) ?_
           cases h5
           simp
          ·rw [if_neg c329] at h4
           refine z0r rfl (by simp [c329]) (z0j rfl ?_)
           cases h4
           simp
         ·rw [if_neg c328] at h4
          refine zr rfl rfl rfl (by simp [c328]; rfl) ?_
          refine z0a (z0r rfl (by simp) (z0j rfl ?_))
          cases h4
          simp
       ·rw [if_neg c317] at h3
        refine z0r rfl (by simp [c317]) (z0j rfl (z0a (zp (zp ?_))))
        by_cases c331 : a1 < w177
        ·rw [if_pos c331] at h3
         refine zr rfl rfl rfl (by simp [c331]; rfl) ?_
         refine z0a ?_
         by_cases c332 : w177 < (i64.wrap (z1e .u64 (u64.wrap (i64.wrap (a1 + a3))) 1))
         ·rw [if_pos c332] at h3
          refine z0t rfl (by simp [c332]) ?_
          obtain ⟨v189, f333, h4⟩ := z0d h3
          have f333k := ih f333
          try simp at f333k
          refine zr rfl rfl rfl (by simp [f333k]; rfl) ?_
          refine z0a (zp ?_)
          by_cases c334 : (i64.wrap (z1e .u64 (u64.wrap (i64.wrap (a1 + a3))) 1)) < (i64.wrap ((i64.wrap ((i64.wrap (z1e .u64 (u64.wrap (i64.wrap (a1 + a3))) 1)) + a2)) - w177))
          ·rw [if_pos c334] at h4
           refine zr rfl rfl rfl (by simp [c334]; rfl) ?_
           refine z0a ?_
           by_cases c335 : (i64.wrap ((i64.wrap ((i64.wrap (z1e .u64 (u64.wrap (i64.wrap (a1 + a3))) 1)) + a2)) - w177)) < a3
           ·rw [if_pos c335] at h4
            refine z0t rfl (by simp [c335]) ?_
            obtain ⟨v190, f336, h5⟩ := z0d h4
            have f336k := ih f336
            try simp at f336k
            refine zr rfl rfl rfl (by simp [f336k]; rfl) ?_
            cases h5
            simp
           ·rw [if_neg c335] at h4
            refine z0r rfl (by simp [c335]) (z0j rfl ?_)
            cases h4
            simp
          ·rw [if_neg c334] at h4
           refine zr rfl rfl rfl (by simp [c334]; rfl) ?_
           refine z0a (z0r rfl (by simp) (z0j rfl ?_))
           cases h4
           simp
         ·rw [if_neg c332] at h3
          refine z0r rfl (by simp [c332]) (z0j rfl (z0a (zp ?_)))
          by_cases c337 : (i64.wrap (z1e .u64 (u64.wrap (i64.wrap (a1 + a3))) 1)) < (i64.wrap ((i64.wrap ((i64.wrap (z1e .u64 (u64.wrap (i64.wrap (a1 + a3))) 1)) + a2)) - w177))
          ·rw [if_pos c337] at h3
           refine zr rfl rfl rfl (by simp [c337]; rfl) ?_
           refine z0a ?_
           by_cases c338 : (i64.wrap ((i64.wrap ((i64.wrap (z1e .u64 (u64.wrap (i64.wrap (a1 + a3))) 1)) + a2)) - w177)) < a3
           ·rw [if_pos c338] at h3
            refine z0t rfl (by simp [c338]) ?_
            obtain ⟨v191, f339, h4⟩ := z0d h3
            have f339k := ih f339
            try simp at f339k
            refine zr rfl rfl rfl (by simp [f339k]; rfl) ?_
            cases h4
            simp
           ·rw [if_neg c338] at h3
            refine z0r rfl (by simp [c338]) (z0j rfl ?_)
            cases h3
            simp
          ·rw [if_neg c337] at h3
           refine zr rfl rfl rfl (by simp [c337]; rfl) ?_
           refine z0a (z0r rfl (by simp) (z0j rfl ?_))
           cases h3
           simp
        ·rw [if_neg c331] at h3
         refine zr rfl rfl rfl (by simp [c331]; rfl) ?_
         refine z0a (z0r rfl (by simp) (z0j rfl (z0a (zp ?_))))
         by_cases c340 : (i64.wrap (z1e .u64 (u64.wrap (i64.wrap (a1 + a3))) 1)) < (i64.wrap ((i64.wrap ((i64.wrap (z1e .u64 (u64.wrap (i64.wrap (a1 + a3))) 1)) + a2)) - w177))
         ·rw [if_pos c340] at h3
          refine zr rfl rfl rfl (by simp [c340]; rfl) ?_
          refine z0a ?_
          by_cases c341 : (i64.wrap ((i64.wrap ((i64.wrap (z1e .u64 (u64.wrap (i64.wrap (a1 + a3))) 1)) + a2)) - w177)) < a3
          ·rw [if_pos c341] at h3
           refine z0t rfl (by simp [c341]) ?_
           obtain ⟨v192, f342, h4⟩ := z0d h3
           have f342k := ih f342
           try simp at f342k
           refine zr rfl rfl rfl (by simp [f342k]; rfl) ?_
           cases h4
           simp
          ·rw [if_neg c341] at h3
           refine z0r rfl (by simp [c341]) (z0j rfl ?_)
           cases h3
           simp
         ·rw [if_neg c340] at h3
          refine zr rfl rfl rfl (by simp [c340]; rfl) ?_
          refine z0a (z0r rfl (by simp) (z0j rfl ?_))
          cases h3
          simp
      ·rw [if_neg c316] at h3
       refine zr rfl rfl rfl (by simp [c316]; rfl) ?_
       refine z0a (z0r rfl (by simp) (z0j rfl (z0a (zp (zp ?_)))))
       by_cases c343 : a1 < w177
       ·rw [if_pos c343] at h3
        refine zr rfl rfl rfl (by simp [c343]; rfl) ?_
        refine z0a ?_
        by_cases c344 : w177 < (i64.wrap (z1e .u64 (u64.wrap (i64.wrap (a1 + a3))) 1))
        ·rw [if_pos c344] at h3
         refine z0t rfl (by simp [c344]) ?_
         obtain ⟨v193, f345, h4⟩ := z0d h3
         have f345k := ih f345
         try simp at f345k
         refine zr rfl rfl rfl (by simp [f345k]; rfl) ?_
         refine z0a (zp ?_)
         by_cases c346 : (i64.wrap (z1e .u64 (u64.wrap (i64.wrap (a1 + a3))) 1)) < (i64.wrap ((i64.wrap ((i64.wrap (z1e .u64 (u64.wrap (i64.wrap (a1 + a3))) 1)) + a2)) - w177))
         ·rw [if_pos c346] at h4
          refine zr rfl rfl rfl (by simp [c346]; rfl) ?_
          refine z0a ?_
          by_cases c347 : (i64.wrap ((i64.wrap ((i64.wrap (z1e .u64 (u64.wrap (i64.wrap (a1 + a3))) 1)) + a2)) - w177)) < a3
          ·rw [if_pos c347] at h4
           refine z0t rfl (by simp [c347]) ?_
           obtain ⟨v194, f348, h5⟩ := z0d h4
           have f348k := ih f348
           try simp at f348k
           refine zr rfl rfl rfl (by simp [f348k]; rfl) ?_
           cases h5
           simp
          ·rw [if_neg c347] at h4
           refine z0r rfl (by simp [c347]) (z0j rfl ?_)
           cases h4
           simp
         ·rw [if_neg c346] at h4
          refine zr rfl rfl rfl (by simp [c346]; rfl) ?_
          refine z0a (z0r rfl (by simp) (z0j rfl ?_))
          cases h4
          simp
        ·rw [if_neg c344] at h3
         refine z0r rfl (by simp [c344]) (z0j rfl (z0a (zp ?_)))
         by_cases c349 : (i64.wrap (z1e .u64 (u64.wrap (i64.wrap (a1 + a3))) 1)) < (i64.wrap ((i64.wrap ((i64.wrap (z1e .u64 (u64.wrap (i64.wrap (a1 + a3))) 1)) + a2)) - w177))
         ·rw [if_pos c349] at h3
          refine zr rfl rfl rfl (by simp [c349]; rfl) ?_
          refine z0a ?_
          by_cases c350 : (i64.wrap ((i64.wrap ((i64.wrap (z1e .u64 (u64.wrap (i64.wrap (a1 + a3))) 1)) + a2)) - w177)) < a3
          ·rw [if_pos c350] at h3
           refine z0t rfl (by simp [c350]) ?_
           obtain ⟨v195, f351, h4⟩ := z0d h3
           have f351k := ih f351
           try simp at f351k
           refine zr rfl rfl rfl (by simp [f351k]; rfl) ?_
           cases h4
           simp
          ·rw [if_neg c350] at h3
           refine z0r rfl (by simp [c350]) (z0j rfl ?_)
           cases h3
           simp
         ·rw [if_neg c349] at h3
          refine zr rfl rfl rfl (by simp [c349]; rfl) ?_
          refine z0a (z0r rfl (by simp) (z0j rfl ?_))
          cases h3
          simp
       ·rw [if_neg c343] at h3
        refine zr rfl rfl rfl (by simp [c343]; rfl) ?_
        refine z0a (z0r rfl (by simp) (z0j rfl (z0a (zp ?_))))
        by_cases c352 : (i64.wrap (z1e .u64 (u64.wrap (i64.wrap (a1 + a3))) 1)) < (i64.wrap ((i64.wrap ((i64.wrap (z1e .u64 (u64.wrap (i64.wrap (a1 + a3))) 1)) + a2)) - w177))
        ·rw [if_pos c352] at h3
         refine zr rfl rfl rfl (by simp [c352]; rfl) ?_
         refine z0a ?_
         by_cases c353 : (i64.wrap ((i64.wrap ((i64.wrap (z1e .u64 (u64.wrap (i64.wrap (a1 + a3))) 1)) + a2)) - w177)) < a3
         ·rw [if_pos c353] at h3
          refine z0t rfl (by simp [c353]) ?_
          obtain ⟨v196, f354, h4⟩ := z0d h3
          have f354k := ih f354
          try simp at f354k
          refine zr rfl rfl rfl (by simp [f354k]; rfl) ?_
          cases h4
          simp
         ·rw [if_neg c353] at h3
          refine z0r rfl (by simp [c353]) (z0j rfl ?_)
          cases h3
          simp
        ·rw [if_neg c352] at h3
         refine zr rfl rfl rfl (by simp [c352]; rfl) ?_
         refine z0a (z0r rfl (by simp) (z0j rfl ?_))
         cases h3
         simp
def z0y : Nat -> List Int -> Int -> Int -> Int -> List Int -> Option (List Int)
 | 0 => fun _ _ _ _ _ => none
 | k + 1 => z0V (z0y k)
theorem z1W : ∀ {k : Nat} {a0 : List Int} {a1 : Int} {a2 : Int} {a3 : Int} {a4_0_0 : List Int} {r : List Int}, z0y k a0 a1 a2 a3 a4_0_0 = some r -> L 92 [.os 1 a0.length (a0.map fun x0 => .sc (.int .i64 x0)), .sc (.int .i64 a1), .sc (.int .i64 a2), .sc (.int .i64 a3), .cl 70 [.pr [.sl a4_0_0.length (a4_0_0.map fun x0 => .sc (.int .i64 x0))]]] = some (.tup [], [.os 1 r.length (r.map fun x0 => .sc (.int .i64 x0)), .dead, .dead, .dead, .dead]) := by
  intro k
  induction k with
  | zero => intro a0 a1 a2 a3 a4_0_0 r h; cases h
  | succ k ih => intro a0 a1 a2 a3 a4_0_0 r h; exact z3p ih h
def z0Z (a1 : Int) (a2_0_0 : List Int) (w45 : Int) : Int × Int × List Int -> Option ((Int × Int × List Int) ⊕ ((Int × List Int) ⊕ List Int))
 | (w55, w56, w57) =>
 if w56 <= a1 then
 (z0y 5000 w57 w55 (i64.wrap (w55 + w45)) w56 a2_0_0).bind fun v59 =>
 z0B (w56, i64.wrap (w56 + (i64.wrap (2 * w45))), v59)
 else
 z1m <|
 if (i64.wrap (w55 + w45)) < a1 then
 (z0y 5000 w57 w55 (i64.wrap (w55 + w45)) a1 a2_0_0).bind fun v60 =>
 z0B (i64.wrap (w45 * 2), v60)
 else
 z0B (i64.wrap (w45 * 2), w57)
def z1n (a1 : Int) (a2_0_0 : List Int) (w45 : Int) : Int × Int × List Int -> Fr
 | (w55, w56, w57) => ⟨63, [(0, .one (.h 0 [])), (1, .one (.t none (.sc (.int .i64 a1)))), (2, .one (.t none (.cl 70 [.pr [.sl a2_0_0.length (a2_0_0.map fun x0 => .sc (.int .i64 x0))]]))), (6, .one (.t none (.sc (.int .i64 w45)))), (7, .one (.t none (.sc (.int .i64 w55)))), (8, .one (.t none (.sc (.int .i64 w56)))), (1063, .one (.h 0 []))], [(0, .os 1 w57.length (w57.map fun x0 => .sc (.int .i64 x0)))]⟩
def z1p (a1 : Int) (a2_0_0 : List Int) : Int × List Int -> Option ((Int × List Int) ⊕ List Int)
 | (w45, w46) =>
 if w45 < a1 then
 z1b (z0Z a1 a2_0_0 w45) LFm (0, i64.wrap (2 * w45), w46)
 else
 z1m <|
 some w46
def z0Y (a1 : Int) (a2_0_0 : List Int) : Int × List Int -> Fr
 | (w45, w46) => ⟨63, [(0, .one (.h 0 [])), (1, .one (.t none (.sc (.int .i64 a1)))), (2, .one (.t none (.cl 70 [.pr [.sl a2_0_0.length (a2_0_0.map fun x0 => .sc (.int .i64 x0))]]))), (6, .one (.t none (.sc (.int .i64 w45)))), (1063, .one (.h 0 []))], [(0, .os 1 w46.length (w46.map fun x0 => .sc (.int .i64 x0)))]⟩
def z1q (a1 : Int) (a2_0_0 : List Int) : Int × Int × List Int -> Option ((Int × Int × List Int) ⊕ List Int)
 | (w32, w33, w34) =>
 if w33 <= a1 then
 (z0z w34 w32 w33 a2_0_0).bind fun v36 =>
 z0B (w33, i64.wrap (w33 + 20), v36)
 else
 z1m <|
 (z0z w34 w32 a1 a2_0_0).bind fun v37 =>
 z1b (z1p a1 a2_0_0) LFm (20, v37)
def z1o (a1 : Int) (a2_0_0 : List Int) : Int × Int × List Int -> Fr
 | (w32, w33, w34) => ⟨63, [(0, .one (.h 0 [])), (1, .one (.t none (.sc (.int .i64 a1)))), (2, .one (.t none (.cl 70 [.pr [.sl a2_0_0.length (a2_0_0.map fun x0 => .sc (.int .i64 x0))]]))), (6, .one (.t none (.sc (.int .i64 20)))), (7, .one (.t none (.sc (.int .i64 w32)))), (8, .one (.t none (.sc (.int .i64 w33)))), (1063, .one (.h 0 []))], [(0, .os 1 w34.length (w34.map fun x0 => .sc (.int .i64 x0)))]⟩
def z1t (a0 : List Int) (a1 : Int) (a2_0_0 : List Int) : Option (List Int) :=
 z1b (z1q a1 a2_0_0) LFm (0, 20, a0)
theorem z3w {a0 : List Int} {a1 : Int} {a2_0_0 : List Int} {r : List Int} (h0 : z1t a0 a1 a2_0_0 = some r) : L 79 [.os 1 a0.length (a0.map fun x0 => .sc (.int .i64 x0)), .sc (.int .i64 a1), .cl 70 [.pr [.sl a2_0_0.length (a2_0_0.map fun x0 => .sc (.int .i64 x0))]]] = some (.tup [], [.os 1 r.length (r.map fun x0 => .sc (.int .i64 x0)), .dead, .dead]) := by
  simp only [z1t] at h0
  refine z2F zzU zBn (z1w zD9 ⟨of_decide_eq_true rfl, of_decide_eq_true rfl⟩ ?_)
  simp only [z1E, z1C, z1B, z1F, z3u]
  refine zp (zs ?_)
  refine z0a (zp (zs ?_))
  refine z0a (zp (zb rfl (z0C h0 (z1o a1 a2_0_0) rfl rfl (by simp [z1o]) fun s o1 h1 hr1 => ?_)))
  obtain ⟨w32, w33, w34⟩ := s
  simp only [z1q] at h1
  simp only [z1o]
  refine zp (zp (zs ?_))
  refine z0a ?_
  by_cases c39 : w33 <= a1
  ·rw [if_pos c39] at h1
   refine z0t rfl (by simp [c39]) (z0j rfl (z0a (zb rfl (zp ?_))))
   obtain ⟨v36, f40, h2⟩ := z0d h1
   have f40k := z1O f40
   try simp at f40k
   refine zr rfl rfl rfl (by simp [f40k]; rfl) ?_
   refine z0a (zp (zs ?_))
   refine z0a (zs ?_)
   refine z0h ?_
   have ho := z0c h2
   refine z0i ho ?_
   simp [z1o]
  ·rw [if_neg c39] at h1
   refine z0r rfl (by simp [c39]) (z0X rfl (z0w ?_))
   obtain ⟨rr1, h2, ho1⟩ := z0k h1
   have hs1 := hr1 _ ho1
   subst hs1
   refine z0s ho1 (z0g rfl (z0a (zp ?_)))
   obtain ⟨v37, f41, h3⟩ := z0d h2
   have f41k := z1O f41
   try simp at f41k
   refine zr rfl rfl rfl (by simp [f41k]; rfl) ?_
   refine z0a (zb rfl (z0C h3 (z0Y a1 a2_0_0) rfl rfl (by simp [z0Y]) fun s o2 h4 hr2 => ?_))
   obtain ⟨w45, w46⟩ := s
   simp only [z1p] at h4
   simp only [z0Y]
   refine zp (zp (zs ?_))
   refine z0a ?_
   by_cases c60 : w45 < a1
   ·rw [if_pos c60] at h4
    refine z0t rfl (by simp [c60]) (z0j rfl (z0a (zb rfl (zp (zs ?_)))))
    refine z0a (zp (zb rfl (z0C h4 (z1n a1 a2_0_0 w45) rfl rfl (by simp [z1n]) fun s o3 h5 hr3 => ?_)))
    obtain ⟨w55, w56, w57⟩ := s
    simp only [z0Z] at h5
    simp only [z1n]
    refine zp (zp (zs ?_))
    refine z0a ?_
    by_cases c65 : w56 <= a1
    ·rw [if_pos c65] at h5
     refine z0t rfl (by simp [c65]) (z0j rfl (z0a (zb rfl (zp ?_))))
     obtain ⟨v59, f66, h6⟩ := z0d h5
     have f66k := z1W f66
     try simp at f66k
     refine zr rfl rfl rfl (by simp [f66k]; rfl) ?_
     refine z0a (zp (zs ?_))
     refine z0a (zs ?_)
     refine z0h ?_
     have ho := z0c h6
     refine z0i ho ?_
     simp [z1n]
    ·rw [if_neg c65] at h5
     refine z0r rfl (by simp [c65]) (z0X rfl (z0w ?_))
     obtain ⟨rr3, h6, ho3⟩ := z0k h5
     have hs3 := hr3 _ ho3
     subst hs3
     refine z0s ho3 (z0g rfl (z0a (zp (zp (zs ?_)))))
     refine z0a (zp (zs ?_))
     refine z0a ?_
     by_cases c67 : (i64.wrap (w55 + w45)) < a1
     ·rw [if_pos c67] at h6
      refine z0t rfl (by simp [c67]) ?_
      obtain ⟨v60, f68, h7⟩ := z0d h6
      have f68k := z1W f68
      try simp at f68k
      refine zr rfl rfl rfl (by simp [f68k]; rfl) ?_
      refine z0a (zs ?_)
      refine z0h ?_
      have ho := z0c h7
      refine z0i ho ?_
      simp [z0Y]
     ·rw [if_neg c67] at h6
      refine z0r rfl (by simp [c67]) (z0j rfl (z0a (zs ?_)))
      refine z0h ?_
      have ho := z0c h6
      refine z0i ho ?_
      simp [z0Y]
   ·rw [if_neg c60] at h4
    refine z0r rfl (by simp [c60]) (z0X rfl (z0w ?_))
    obtain ⟨rr2, h5, ho2⟩ := z0k h4
    have hs2 := hr2 _ ho2
    subst hs2
    refine z0s ho2 (z0g rfl ?_)
    cases h5
    simp
def z0P (a0 : List Int) (a1_0_0 : List Int) : Option (List Int) :=
 (z1t a0 (a0.length : Int) a1_0_0).bind fun v2 =>
 some v2
theorem z2R {a0 : List Int} {a1_0_0 : List Int} {r : List Int} (h0 : z0P a0 a1_0_0 = some r) : L 69 [.os 1 a0.length (a0.map fun x0 => .sc (.int .i64 x0)), .cl 70 [.pr [.sl a1_0_0.length (a1_0_0.map fun x0 => .sc (.int .i64 x0))]]] = some (.tup [], [.os 1 r.length (r.map fun x0 => .sc (.int .i64 x0)), .dead]) := by
  simp only [z0P] at h0
  refine z2F zA2 zBv (z1w zDh ⟨of_decide_eq_true rfl, of_decide_eq_true rfl⟩ ?_)
  simp only [z1E, z1C, z1B, z1F, z3u]
  obtain ⟨v2, f2, h1⟩ := z0d h0
  have f2k := z3w f2
  try simp at f2k
  refine zr rfl rfl rfl (by simp [f2k]; rfl) ?_
  cases h1
  simp
def z2o (a0 : Dgm) (w136 : Int) (w138 : List Int) : Int × List Int -> Option ((Int × List Int) ⊕ ((Int × List Int × List Int) ⊕ List Int))
 | (w159, w160) =>
 if w159 < (a0.sets.length : Int) then
 (atI a0.below w159).bind fun v165 =>
 (atI v165 w136).bind fun v166 =>
 if v166 = true then
 (atI w160 w136).bind fun v167 =>
 z0B (i64.wrap (w159 + 1), (w160.set w136.toNat (i64.wrap (v167 + 1))))
 else
 z0B (i64.wrap (w159 + 1), w160)
 else
 z1m <|
 z0B (i64.wrap (w136 + 1), w160, (w138.set w136.toNat w136))
def z2n (a0 : Dgm) (a1 : List Int) (w136 : Int) (w138 : List Int) : Int × List Int -> Fr
 | (w159, w160) => ⟨114, [(1, .one (.t none (.sl a1.length (a1.map fun x0 => .sc (.int .i64 x0))))), (2, .one (.a 2 [] (0))), (5, .one (.a 5 [] (0))), (6, .one (.h 6 [])), (7, .one (.t none (.sc (.int .i64 w136)))), (23, .one (.t none (.sc (.int .i64 (a0.sets.length : Int))))), (24, .one (.t none (.sc (.int .i64 w136)))), (33, .one (.t none (.sc (.int .i64 (a0.sets.length : Int))))), (34, .one (.t none (.sc (.int .i64 w159))))], [(2, .vr [.sl a0.sets.length (a0.sets.map fun x0 => .sc (.int .i64 x0)), .sl a0.next.length (a0.next.map fun x0 => .sl x0.length (x0.map fun x1 => .sc (.int .i64 x1))), .sl a0.below.length (a0.below.map fun x0 => .sl x0.length (x0.map fun x1 => .sc (.bool x1)))]), (5, .vr [.os 1 w160.length (w160.map fun x0 => .sc (.int .i64 x0))]), (6, .os 1 (w138.set w136.toNat w136).length ((w138.set w136.toNat w136).map fun x0 => .sc (.int .i64 x0)))]⟩
def z2g (a0 : Dgm) (a1 : List Int) (w193 : Int) (v221 : Int) : Int × List Int -> Option ((Int × List Int) ⊕ ((Int × List Int) ⊕ List Int))
 | (w231, w232) =>
 if w231 < (a0.sets.length : Int) then
 (atI a0.below w231).bind fun v240 =>
 (atI v240 v221).bind fun v241 =>
 if v241 = true then
 (atI a1 w231).bind fun v242 =>
 (atI a1 v221).bind fun v243 =>
 if v242 = v243 then
 z0B (i64.wrap (w231 + 1), w232)
 else
 (atI w232 v221).bind fun v244 =>
 (atI w232 w231).bind fun v245 =>
 z0B (i64.wrap (w231 + 1), (w232.set v221.toNat (if v244 < (i64.wrap (v245 + 1)) then (i64.wrap (v245 + 1)) else v244)))
 else
 z0B (i64.wrap (w231 + 1), w232)
 else
 z1m <|
 z0B (i64.wrap (w193 + 1), w232)
def z1R (a0 : Dgm) (a1 : List Int) (v169 : List Int) (w193 : Int) (v221 : Int) : Int × List Int -> Fr
 | (w231, w232) => ⟨114, [(1, .one (.t none (.sl a1.length (a1.map fun x0 => .sc (.int .i64 x0))))), (2, .one (.a 2 [] (0))), (9, .one (.h 9 [])), (11, .one (.t none (.sc (.int .i64 v221)))), (60, .one (.h 6 [])), (61, .one (.t none (.sc (.int .i64 (v169.length : Int))))), (62, .one (.t none (.sc (.int .i64 w193)))), (75, .one (.t none (.sc (.int .i64 (a0.sets.length : Int))))), (76, .one (.t none (.sc (.int .i64 w231))))], [(2, .vr [.sl a0.sets.length (a0.sets.map fun x0 => .sc (.int .i64 x0)), .sl a0.next.length (a0.next.map fun x0 => .sl x0.length (x0.map fun x1 => .sc (.int .i64 x1))), .sl a0.below.length (a0.below.map fun x0 => .sl x0.length (x0.map fun x1 => .sc (.bool x1)))]), (9, .os 1 w232.length (w232.map fun x0 => .sc (.int .i64 x0))), (6, .os 1 v169.length (v169.map fun x0 => .sc (.int .i64 x0)))]⟩
def z2K (a0 : Dgm) (a1 : List Int) (v169 : List Int) : Int × List Int -> Option ((Int × List Int) ⊕ List Int)
 | (w193, w194) =>
 if w193 < (v169.length : Int) then
 (atI v169 w193).bind fun v221 =>
 (atI a0.sets v221).bind fun v222 =>
 (z5T v222).bind fun v223 =>
 if v223 = 1 then
 z0B (i64.wrap (w193 + 1), w194)
 else
 z1b (z2g a0 a1 w193 v221) LFm (0, w194)
 else
 z1m <|
 some w194
def z2f (a0 : Dgm) (a1 : List Int) (v169 : List Int) : Int × List Int -> Fr
 | (w193, w194) => ⟨114, [(1, .one (.t none (.sl a1.length (a1.map fun x0 => .sc (.int .i64 x0))))), (2, .one (.a 2 [] (0))), (9, .one (.h 9 [])), (60, .one (.h 6 [])), (61, .one (.t none (.sc (.int .i64 (v169.length : Int))))), (62, .one (.t none (.sc (.int .i64 w193))))], [(2, .vr [.sl a0.sets.length (a0.sets.map fun x0 => .sc (.int .i64 x0)), .sl a0.next.length (a0.next.map fun x0 => .sl x0.length (x0.map fun x1 => .sc (.int .i64 x1))), .sl a0.below.length (a0.below.map fun x0 => .sl x0.length (x0.map fun x1 => .sc (.bool x1)))]), (9, .os 1 w194.length (w194.map fun x0 => .sc (.int .i64 x0))), (6, .os 1 v169.length (v169.map fun x0 => .sc (.int .i64 x0)))]⟩
def z2X (a0 : Dgm) (a1 : List Int) : Int × List Int × List Int -> Option ((Int × List Int × List Int) ⊕ List Int)
 | (w136, w137, w138) =>
 if w136 < (a0.sets.length : Int) then
 (atI w138 w136).bind fun v154 =>
 z1b (z2o a0 w136 w138) LFm (0, w137)
 else
 z1m <|
 (z0P w138 w137).bind fun v169 =>
 chk (z2k 8 (a0.sets.length : Int)) <|
 z1b (z2K a0 a1 v169) LFm (0, List.replicate (a0.sets.length : Int).toNat (0 : Int))
def z2W (a0 : Dgm) (a1 : List Int) : Int × List Int × List Int -> Fr
 | (w136, w137, w138) => ⟨114, [(1, .one (.t none (.sl a1.length (a1.map fun x0 => .sc (.int .i64 x0))))), (2, .one (.a 2 [] (0))), (5, .one (.a 5 [] (0))), (6, .one (.h 6 [])), (23, .one (.t none (.sc (.int .i64 (a0.sets.length : Int))))), (24, .one (.t none (.sc (.int .i64 w136))))], [(2, .vr [.sl a0.sets.length (a0.sets.map fun x0 => .sc (.int .i64 x0)), .sl a0.next.length (a0.next.map fun x0 => .sl x0.length (x0.map fun x1 => .sc (.int .i64 x1))), .sl a0.below.length (a0.below.map fun x0 => .sl x0.length (x0.map fun x1 => .sc (.bool x1)))]), (5, .vr [.os 1 w137.length (w137.map fun x0 => .sc (.int .i64 x0))]), (6, .os 1 w138.length (w138.map fun x0 => .sc (.int .i64 x0)))]⟩
def z2O (a0 : Dgm) (a1 : List Int) : Option (List Int) :=
 chk (z2k 8 (a0.sets.length : Int)) <|
 z1b (z2X a0 a1) LFm (0, List.replicate (a0.sets.length : Int).toNat (0 : Int), List.replicate (a0.sets.length : Int).toNat (0 : Int))
theorem z8k {a0 : Dgm} {a1 : List Int} {r : List Int} (h0 : z2O a0 a1 = some r) : L 39 [.agg [.sl a0.sets.length (a0.sets.map fun x0 => .sc (.int .i64 x0)), .sl a0.next.length (a0.next.map fun x0 => .sl x0.length (x0.map fun x1 => .sc (.int .i64 x1))), .sl a0.below.length (a0.below.map fun x0 => .sl x0.length (x0.map fun x1 => .sc (.bool x1)))], .sl a1.length (a1.map fun x0 => .sc (.int .i64 x0))] = some (.os 1 r.length (r.map fun x0 => .sc (.int .i64 x0)), [.dead, .dead]) := by
  simp only [z2O] at h0
  refine z2F zAo zBR (z1w zDD ⟨of_decide_eq_true rfl, of_decide_eq_true rfl⟩ ?_)
  simp only [z1E, z1C, z1B, z1F, z3u]
  refine zp (zs ?_)
  refine z0a (zp ?_)
  obtain ⟨f150, h1⟩ := zng h0
  refine zr rfl rfl rfl (by simp [f150]; rfl) ?_
  refine z0a (zp (zr rfl rfl rfl (by simp [f150]; rfl) ?_))
  refine z0a (zp (zp (zs ?_)))
  refine z0a (zb rfl (z0C h1 (z2W a0 a1) rfl rfl (by simp [z2W]) fun s o1 h2 hr1 => ?_))
  obtain ⟨w136, w137, w138⟩ := s
  simp only [z2X] at h2
  simp only [z2W]
  refine zp (zs ?_)
  refine z0a (zp ?_)
  by_cases c185 : w136 < (a0.sets.length : Int)
  ·rw [if_pos c185] at h2
   refine z0t rfl (by simp [c185]) (z0j rfl (z0a (zp (zb rfl (zp (zs ?_))))))
   refine z0a (zp ?_)
   obtain ⟨v154, f186, h3⟩ := z0I h2
   refine zr rfl rfl rfl (by simp [f186]; rfl) ?_
   refine z0a (zp (zs ?_))
   refine z0a (zb rfl (z0C h3 (z2n a0 a1 w136 w138) rfl rfl (by simp [z2n]) fun s o2 h4 hr2 => ?_))
   obtain ⟨w159, w160⟩ := s
   simp only [z2o] at h4
   simp only [z2n]
   refine zp (zs ?_)
   refine z0a (zp ?_)
   by_cases c197 : w159 < (a0.sets.length : Int)
   ·rw [if_pos c197] at h4
    refine z0t rfl (by simp [c197]) (z0j rfl (z0a (zp (zb rfl (zp (zs ?_))))))
    refine z0a (zp ?_)
    obtain ⟨v165, f198, h5⟩ := z0I h4
    obtain ⟨v166, f199, h6⟩ := z0I h5
    refine zr rfl rfl rfl (by simp [f198, f199]; rfl) ?_
    refine z0a ?_
    by_cases c200 : v166 = true
    ·rw [if_pos c200] at h6
     refine z0t rfl (by simp [c200]) ?_
     obtain ⟨v167, f201, h7⟩ := z0I h6
     refine zr rfl rfl rfl (by simp [f201]; rfl) ?_
     refine z0h (z0a (zs ?_))
     have ho := z0c h7
     refine z0i ho ?_
     simp [z2n, c200]
    ·rw [if_neg c200] at h6
     refine z0r rfl (by simp [c200]) (z0j rfl (z0h (z0a (zs ?_))))
     have ho := z0c h6
     refine z0i ho ?_
     simp [z2n, c200]
   ·rw [if_neg c197] at h4
    refine z0r rfl (by simp [c197]) (z0X rfl (z0w ?_))
    obtain ⟨rr2, h5, ho2⟩ := z0k h4
    have hs2 := hr2 _ ho2
    subst hs2
    refine z0s ho2 (z0g rfl (z0h (z0a (zs ?_))))
    have ho := z0c h5
    refine z0i ho ?_
    simp [z2W]
  ·rw [if_neg c185] at h2
   refine z0r rfl (by simp [c185]) (z0X rfl (z0w ?_))
   obtain ⟨rr1, h3, ho1⟩ := z0k h2
   have hs1 := hr1 _ ho1
   subst hs1
   refine z0s ho1 (z0g rfl (z0a (zp (zeX rfl rfl (by simp; rfl) ?_))))
   obtain ⟨v169, f202, h4⟩ := z0d h3
   have f202k := z2R f202
   try simp at f202k
   refine zr rfl rfl rfl (by simp [f202k]; rfl) ?_
   refine z0a (zp ?_)
   obtain ⟨f203, h5⟩ := zng h4
   refine zr rfl rfl rfl (by simp [f203]; rfl) ?_
   refine z0a (zp (zp (zs ?_)))
   refine z0a (zb rfl (z0C h5 (z2f a0 a1 v169) rfl rfl (by simp [z2f]) fun s o3 h6 hr3 => ?_))
   obtain ⟨w193, w194⟩ := s
   simp only [z2K] at h6
   simp only [z2f]
   refine zp (zs ?_)
   refine z0a (zp ?_)
   by_cases c268 : w193 < (v169.length : Int)
   ·rw [if_pos c268] at h6
    refine z0t rfl (by simp [c268]) (z0j rfl (z0a (zp (zb rfl (zp ?_)))))
    obtain ⟨v221, f269, h7⟩ := z0I h6
    refine zr rfl rfl rfl (by simp [f269]; rfl) ?_
    refine z0a (zp (zp ?_))
    obtain ⟨v222, f270, h8⟩ := z0I h7
    obtain ⟨v223, f271, h9⟩ := z0d h8
    have f271k := zb0 f271
    try simp at f271k
    refine zr rfl rfl rfl (by simp [f270, f271k]; rfl) ?_
    refine z0a ?_
    by_cases c272 : v223 = 1
    ·rw [if_pos c272] at h9
     have c272e := eq_true c272
     refine z0t rfl (by simp [c272e]) (z0X rfl (z0w (z0g rfl (z0a (zs ?_)))))
     have ho := z0c h9
     refine z0i ho ?_
     simp [z2f]
    ·rw [if_neg c272] at h9
     have c272e := eq_false c272
     refine z0r rfl (by simp [c272e]) (z0j rfl (z0a (zp (zs ?_))))
     refine z0a (zb rfl (z0C h9 (z1R a0 a1 v169 w193 v221) rfl rfl (by simp [z1R]) fun s o4 h10 hr4 => ?_))
     obtain ⟨w231, w232⟩ := s
     simp only [z2g] at h10
     simp only [z1R]
     refine zp (zs ?_)
     refine z0a (zp ?_)
     by_cases c291 : w231 < (a0.sets.length : Int)
     ·rw [if_pos c291] at h10
      refine z0t rfl (by simp [c291]) (z0j rfl (z0a (zp (zb rfl (zp (zs ?_))))))
      refine z0a (zp ?_)
      obtain ⟨v240, f292, h11⟩ := z0I h10
      obtain ⟨v241, f293, h12⟩ := z0I h11
      by_cases c294 : v241 = true
      ·rw [if_pos c294] at h12
       obtain ⟨v242, f295, h13⟩ := z0I h12
       obtain ⟨v243, f296, h14⟩ := z0I h13
       refine z1c rfl rfl rfl rfl ?_; repeat' (first | (refine z0q rfl rfl fun Q' hQ => ?_; simp [f292, f293, c294, f295, f296]; refine hQ.out _ ?_; clear hQ; clear Q') | (refine z1g rfl rfl fun Q1 Q2 h1 h2 => ?_; simp [f292, f293, c294, f295, f296, z1Q]; (first | refine h1.out ?_ | refine h2.out ?_); clear h1 h2; clear Q1 Q2; intro Q' hQ; simp [f292, f293, c294, f295, f296]; refine hQ.out _ ?_; clear hQ; clear Q') | (refine z0m rfl fun Q' hQ => ?_; simp [f292, f293, c294, f295, f296]; refine hQ.out _ ?_; clear hQ; clear Q'))
       refine z0a ?_
       by_cases c297 : v242 = v243
       ·rw [if_pos c297] at h14
        have c297e := eq_true c297
        refine z0r rfl (by simp [c297e]) (z0j rfl (z0h (z0a (zs ?_))))
        have ho := z0c h14
        refine z0i ho ?_
        simp [z1R, c294]
       ·rw [if_neg c297] at h14
        have c297e := eq_false c297
        refine z0t rfl (by simp [c297e]) ?_
        obtain ⟨v244, f298, h15⟩ := z0I h14
        obtain ⟨v245, f299, h16⟩ := z0I h15
        refine z1c rfl rfl rfl rfl ?_; repeat' ((first | refine z0q rfl rfl fun Q' hQ => ?_ | refine z0m rfl fun Q' hQ => ?_); simp [f298, f299]; refine hQ.out _ ?_; clear hQ; clear Q')
        refine z0h (z0a (zs ?_))
        have ho := z0c h16
        refine z0i ho ?_
        simp [z1R, c294]
      ·rw [if_neg c294] at h12
       refine z1c rfl rfl rfl rfl ?_; repeat' (first | (refine z0q rfl rfl fun Q' hQ => ?_; simp [f292, f293, c294]; refine hQ.out _ ?_; clear hQ; clear Q') | (refine z1g rfl rfl fun Q1 Q2 h1 h2 => ?_; simp [f292, f293, c294, z1Q]; (first | refine h1.out ?_ | refine h2.out ?_); clear h1 h2; clear Q1 Q2; intro Q' hQ; simp [f292, f293, c294]; refine hQ.out _ ?_; clear hQ; clear Q') | (refine z0m rfl fun Q' hQ => ?_; simp [f292, f293, c294]; refine hQ.out _ ?_; clear hQ; clear Q'))
       refine z0a (z0r rfl (by simp) (z0j rfl (z0h (z0a (zs ?_)))))
       have ho := z0c h12
       refine z0i ho ?_
       simp [z1R, c294]
     ·rw [if_neg c291] at h10
      refine z0r rfl (by simp [c291]) (z0X rfl (z0w ?_))
      obtain ⟨rr4, h11, ho4⟩ := z0k h10
      have hs4 := hr4 _ ho4
      subst hs4
      refine z0s ho4 (z0g rfl (z0h (z0a (zs ?_))))
      have ho := z0c h11
      refine z0i ho ?_
      simp [z2f]
   ·rw [if_neg c268] at h6
    refine z0r rfl (by simp [c268]) (z0X rfl (z0w ?_))
    obtain ⟨rr3, h7, ho3⟩ := z0k h6
    have hs3 := hr3 _ ho3
    subst hs3
    refine z0s ho3 (z0g rfl (z0a (zp (zs ?_))))
    refine z0a (z1f rfl ?_)
    cases h7
    simp
end
end Go.Proofs.Ytbnnipkanechoaa
end
section
namespace Go.Proofs.Ytbnnipkanechoaa
open Go Go.IntKind
noncomputable section
set_option maxRecDepth 100000
set_option maxHeartbeats 1000000
structure Imgs where
  sets : List Int
  class_ : List Int
  height : List Int
  tiles : List (List Int)
  words : List ByteArray
  back : List ByteArray
deriving Inhabited
def z3r (a0 : List Int) (a1 : List Int) : Int -> Option (Int ⊕ Bool)
 | w10 =>
 if w10 < (a0.length : Int) then
 (atI a0 w10).bind fun v13 =>
 (atI a1 w10).bind fun v14 =>
 if v13 = v14 then
 z0B (i64.wrap (w10 + 1))
 else
 z1m <|
 some false
 else
 z1m <|
 some true
def z6Y (a0 : List Int) (a1 : List Int) : Int -> Fr
 | w10 => ⟨26, [(0, .one (.t none (.sl a0.length (a0.map fun x0 => .sc (.int .i64 x0))))), (1, .one (.t none (.sl a1.length (a1.map fun x0 => .sc (.int .i64 x0))))), (12, .one (.t none (.sc (.int .i64 (a0.length : Int))))), (13, .one (.t none (.sc (.int .i64 w10))))], []⟩
def z3x (a0 : List Int) (a1 : List Int) : Option (Bool) :=
 if (a0.length : Int) = (a1.length : Int) then
 z1b (z3r a0 a1) LFm 0
 else
 some false
theorem z6X {a0 : List Int} {a1 : List Int} {r : Bool} (h0 : z3x a0 a1 = some r) : L 45 [.sl a0.length (a0.map fun x0 => .sc (.int .i64 x0)), .sl a1.length (a1.map fun x0 => .sc (.int .i64 x0))] = some (.sc (.bool r), [.dead, .dead]) := by
  simp only [z3x] at h0
  refine z2F zAi zBL (z1w zDx ⟨of_decide_eq_true rfl, of_decide_eq_true rfl⟩ ?_)
  simp only [z1E, z1C, z1B, z1F, z3u]
  refine zp (zs ?_)
  refine z0a (zp (zp (zs ?_)))
  refine z0a ?_
  by_cases c14 : (a0.length : Int) = (a1.length : Int)
  ·rw [if_pos c14] at h0
   have c14e := eq_true c14
   refine z0r rfl (by simp [c14e]) (z0j rfl (z0a (zp (zp (zs ?_)))))
   refine z0a (zb rfl (z0C h0 (z6Y a0 a1) rfl rfl (by simp [z6Y]) fun s o1 h1 hr1 => ?_))
   obtain ⟨w10, hs1⟩ : ∃ y, y = s := ⟨_, rfl⟩
   subst hs1
   simp only [z3r] at h1
   simp only [z6Y]
   refine zp (zs ?_)
   refine z0a (zp ?_)
   by_cases c23 : w10 < (a0.length : Int)
   ·rw [if_pos c23] at h1
    refine z0t rfl (by simp [c23]) (z0j rfl (z0a (zp (zb rfl (zp (zs ?_))))))
    refine z0a (zp ?_)
    obtain ⟨v13, f24, h2⟩ := z0I h1
    obtain ⟨v14, f25, h3⟩ := z0I h2
    refine z1c rfl rfl rfl rfl ?_; repeat' ((first | refine z0q rfl rfl fun Q' hQ => ?_ | refine z0m rfl fun Q' hQ => ?_); simp [f24, f25]; refine hQ.out _ ?_; clear hQ; clear Q')
    refine z0a ?_
    by_cases c26 : v13 = v14
    ·rw [if_pos c26] at h3
     have c26e := eq_true c26
     refine z0r rfl (by simp [c26e]) (z0j rfl (z0h (z0a (zs ?_))))
     have ho := z0c h3
     refine z0i ho ?_
     simp [z6Y]
    ·rw [if_neg c26] at h3
     have c26e := eq_false c26
     refine z0t rfl (by simp [c26e]) (zp (zs ?_))
     refine z0a (z1f rfl (z1H (z0Q ?_)))
     obtain ⟨rr1, h4, ho1⟩ := z0k h3
     have hs1 := hr1 _ ho1
     subst hs1
     refine z3F ho1 (z1H (z0Q ?_))
     cases h4
     simp
   ·rw [if_neg c23] at h1
    refine z0r rfl (by simp [c23]) (z0X rfl (z0w ?_))
    obtain ⟨rr1, h2, ho1⟩ := z0k h1
    have hs1 := hr1 _ ho1
    subst hs1
    refine z0s ho1 (z0g rfl (z0a (zp (zs ?_))))
    refine z0a (z1f rfl ?_)
    cases h2
    simp
  ·rw [if_neg c14] at h0
   have c14e := eq_false c14
   refine z0t rfl (by simp [c14e]) (zp (zs ?_))
   refine z0a (z1f rfl (z0Q ?_))
   cases h0
   simp
def z2d (a0 : List (List Int)) (a1 : List (List Int)) : Int -> Option (Int ⊕ Bool)
 | w14 =>
 if w14 < (a0.length : Int) then
 (atI a0 w14).bind fun v18 =>
 (atI a1 w14).bind fun v19 =>
 (z3x v18 v19).bind fun v20 =>
 if v20 = true then
 z0B (i64.wrap (w14 + 1))
 else
 z1m <|
 some false
 else
 z1m <|
 some true
def z4N (a0 : List (List Int)) (a1 : List (List Int)) : Int -> Fr
 | w14 => ⟨27, [(0, .one (.t none (.sl a0.length (a0.map fun x0 => .sl x0.length (x0.map fun x1 => .sc (.int .i64 x1)))))), (1, .one (.t none (.sl a1.length (a1.map fun x0 => .sl x0.length (x0.map fun x1 => .sc (.int .i64 x1)))))), (12, .one (.t none (.sc (.int .i64 (a0.length : Int))))), (13, .one (.t none (.sc (.int .i64 w14))))], []⟩
def z2B (a0 : List (List Int)) (a1 : List (List Int)) : Option (Bool) :=
 if (a0.length : Int) = (a1.length : Int) then
 z1b (z2d a0 a1) LFm 0
 else
 some false
theorem zet {a0 : List (List Int)} {a1 : List (List Int)} {r : Bool} (h0 : z2B a0 a1 = some r) : L 46 [.sl a0.length (a0.map fun x0 => .sl x0.length (x0.map fun x1 => .sc (.int .i64 x1))), .sl a1.length (a1.map fun x0 => .sl x0.length (x0.map fun x1 => .sc (.int .i64 x1)))] = some (.sc (.bool r), [.dead, .dead]) := by
  simp only [z2B] at h0
  refine z2F zAh zBK (z1w zDw ⟨of_decide_eq_true rfl, of_decide_eq_true rfl⟩ ?_)
  simp only [z1E, z1C, z1B, z1F, z3u]
  refine zp (zs ?_)
  refine z0a (zp (zp (zs ?_)))
  refine z0a ?_
  by_cases c17 : (a0.length : Int) = (a1.length : Int)
  ·rw [if_pos c17] at h0
   have c17e := eq_true c17
   refine z0r rfl (by simp [c17e]) (z0j rfl (z0a (zp (zp (zs ?_)))))
   refine z0a (zb rfl (z0C h0 (z4N a0 a1) rfl rfl (by simp [z4N]) fun s o1 h1 hr1 => ?_))
   obtain ⟨w14, hs1⟩ : ∃ y, y = s := ⟨_, rfl⟩
   subst hs1
   simp only [z2d] at h1
   simp only [z4N]
   refine zp (zs ?_)
   refine z0a (zp ?_)
   by_cases c28 : w14 < (a0.length : Int)
   ·rw [if_pos c28] at h1
    refine z0t rfl (by simp [c28]) (z0j rfl (z0a (zp (zb rfl (zp (zs ?_))))))
    refine z0a (zp ?_)
    obtain ⟨v18, f29, h2⟩ := z0I h1
    obtain ⟨v19, f30, h3⟩ := z0I h2
    obtain ⟨v20, f31, h4⟩ := z0d h3
    have f31k := z6X f31
    try simp at f31k
    refine z1c rfl rfl rfl rfl ?_; repeat' ((first | refine z0q rfl rfl fun Q' hQ => ?_ | refine z0m rfl fun Q' hQ => ?_); simp [f29, f30, f31k]; refine hQ.out _ ?_; clear hQ; clear Q')
    refine z0a ?_
    by_cases c32 : v20 = true
    ·rw [if_pos c32] at h4
     refine z0r rfl (by simp [c32]) (z0j rfl (z0h (z0a (zs ?_))))
     have ho := z0c h4
     refine z0i ho ?_
     simp [z4N, c32]
    ·rw [if_neg c32] at h4
     refine z0t rfl (by simp [c32]) (zp (zs ?_))
     refine z0a (z1f rfl (z1H (z0Q ?_)))
     obtain ⟨rr1, h5, ho1⟩ := z0k h4
     have hs1 := hr1 _ ho1
     subst hs1
     refine z3F ho1 (z1H (z0Q ?_))
     cases h5
     simp [c32]
   ·rw [if_neg c28] at h1
    refine z0r rfl (by simp [c28]) (z0X rfl (z0w ?_))
    obtain ⟨rr1, h2, ho1⟩ := z0k h1
    have hs1 := hr1 _ ho1
    subst hs1
    refine z0s ho1 (z0g rfl (z0a (zp (zs ?_))))
    refine z0a (z1f rfl ?_)
    cases h2
    simp
  ·rw [if_neg c17] at h0
   have c17e := eq_false c17
   refine z0t rfl (by simp [c17e]) (zp (zs ?_))
   refine z0a (z1f rfl (z0Q ?_))
   cases h0
   simp
def z3s (a0 : List ByteArray) (a1 : List ByteArray) : Int -> Option (Int ⊕ Bool)
 | w10 =>
 if w10 < (a0.length : Int) then
 (atI a0 w10).bind fun v13 =>
 (atI a1 w10).bind fun v14 =>
 if v13 = v14 then
 z0B (i64.wrap (w10 + 1))
 else
 z1m <|
 some false
 else
 z1m <|
 some true
def z7b (a0 : List ByteArray) (a1 : List ByteArray) : Int -> Fr
 | w10 => ⟨26, [(0, .one (.t none (.sl a0.length (a0.map fun x0 => .sc (.string x0))))), (1, .one (.t none (.sl a1.length (a1.map fun x0 => .sc (.string x0))))), (12, .one (.t none (.sc (.int .i64 (a0.length : Int))))), (13, .one (.t none (.sc (.int .i64 w10))))], []⟩
def z4c (a0 : List ByteArray) (a1 : List ByteArray) : Option (Bool) :=
 if (a0.length : Int) = (a1.length : Int) then
 z1b (z3s a0 a1) LFm 0
 else
 some false
theorem zcV {a0 : List ByteArray} {a1 : List ByteArray} {r : Bool} (h0 : z4c a0 a1 = some r) : L 47 [.sl a0.length (a0.map fun x0 => .sc (.string x0)), .sl a1.length (a1.map fun x0 => .sc (.string x0))] = some (.sc (.bool r), [.dead, .dead]) := by
  simp only [z4c] at h0
  refine z2F zAg zBJ (z1w zDv ⟨of_decide_eq_true rfl, of_decide_eq_true rfl⟩ ?_)
  simp only [z1E, z1C, z1B, z1F, z3u]
  refine zp (zs ?_)
  refine z0a (zp (zp (zs ?_)))
  refine z0a ?_
  by_cases c14 : (a0.length : Int) = (a1.length : Int)
  ·rw [if_pos c14] at h0
   have c14e := eq_true c14
   refine z0r rfl (by simp [c14e]) (z0j rfl (z0a (zp (zp (zs ?_)))))
   refine z0a (zb rfl (z0C h0 (z7b a0 a1) rfl rfl (by simp [z7b]) fun s o1 h1 hr1 => ?_))
   obtain ⟨w10, hs1⟩ : ∃ y, y = s := ⟨_, rfl⟩
   subst hs1
   simp only [z3s] at h1
   simp only [z7b]
   refine zp (zs ?_)
   refine z0a (zp ?_)
   by_cases c23 : w10 < (a0.length : Int)
   ·rw [if_pos c23] at h1
    refine z0t rfl (by simp [c23]) (z0j rfl (z0a (zp (zb rfl (zp (zs ?_))))))
    refine z0a (zp ?_)
    obtain ⟨v13, f24, h2⟩ := z0I h1
    obtain ⟨v14, f25, h3⟩ := z0I h2
    refine z1c rfl rfl rfl rfl ?_; repeat' ((first | refine z0q rfl rfl fun Q' hQ => ?_ | refine z0m rfl fun Q' hQ => ?_); simp [f24, f25]; refine hQ.out _ ?_; clear hQ; clear Q')
    refine z0a ?_
    by_cases c26 : v13 = v14
    ·rw [if_pos c26] at h3
     have c26e := eq_true c26
     refine z0r rfl (by simp [c26e]) (z0j rfl (z0h (z0a (zs ?_))))
     have ho := z0c h3
     refine z0i ho ?_
     simp [z7b]
    ·rw [if_neg c26] at h3
     have c26e := eq_false c26
     refine z0t rfl (by simp [c26e]) (zp (zs ?_))
     refine z0a (z1f rfl (z1H (z0Q ?_)))
     obtain ⟨rr1, h4, ho1⟩ := z0k h3
     have hs1 := hr1 _ ho1
     subst hs1
     refine z3F ho1 (z1H (z0Q ?_))
     cases h4
     simp
   ·rw [if_neg c23] at h1
    refine z0r rfl (by simp [c23]) (z0X rfl (z0w ?_))
    obtain ⟨rr1, h2, ho1⟩ := z0k h1
    have hs1 := hr1 _ ho1
    subst hs1
    refine z0s ho1 (z0g rfl (z0a (zp (zs ?_))))
    refine z0a (z1f rfl ?_)
    cases h2
    simp
  ·rw [if_neg c14] at h0
   have c14e := eq_false c14
   refine z0t rfl (by simp [c14e]) (zp (zs ?_))
   refine z0a (z1f rfl (z0Q ?_))
   cases h0
   simp
def z2l (a0 : Imgs) (a1 : Imgs) : Option (Bool) :=
 (z3x a0.sets a1.sets).bind fun v7 =>
 if v7 = true then
 (z3x a0.class_ a1.class_).bind fun v8 =>
 if v8 = true then
 (z3x a0.height a1.height).bind fun v9 =>
 if v9 = true then
 (z2B a0.tiles a1.tiles).bind fun v10 =>
 if v10 = true then
 (z4c a0.words a1.words).bind fun v11 =>
 if v11 = true then
 (z4c a0.back a1.back).bind fun v12 =>
 some v12
 else
 some false
 else
 some false
 else
 some false
 else
 some false
 else
 some false
theorem z4p {a0 : Imgs} {a1 : Imgs} {r : Bool} (h0 : z2l a0 a1 = some r) : L 16 [.agg [.sl a0.sets.length (a0.sets.map fun x0 => .sc (.int .i64 x0)), .sl a0.class_.length (a0.class_.map fun x0 => .sc (.int .i64 x0)), .sl a0.height.length (a0.height.map fun x0 => .sc (.int .i64 x0)), .sl a0.tiles.length (a0.tiles.map fun x0 => .sl x0.length (x0.map fun x1 => .sc (.int .i64 x1))), .sl a0.words.length (a0.words.map fun x0 => .sc (.string x0)), .sl a0.back.length (a0.back.map fun x0 => .sc (.string x0))], .agg [.sl a1.sets.length (a1.sets.map fun x0 => .sc (.int .i64 x0)), .sl a1.class_.length (a1.class_.map fun x0 => .sc (.int .i64 x0)), .sl a1.height.length (a1.height.map fun x0 => .sc (.int .i64 x0)), .sl a1.tiles.length (a1.tiles.map fun x0 => .sl x0.length (x0.map fun x1 => .sc (.int .i64 x1))), .sl a1.words.length (a1.words.map fun x0 => .sc (.string x0)), .sl a1.back.length (a1.back.map fun x0 => .sc (.string x0))]] = some (.sc (.bool r), [.dead, .dead]) := by
  simp only [z2l] at h0
  refine z2F zAD zC5 (z1w zDR ⟨of_decide_eq_true rfl, of_decide_eq_true rfl⟩ ?_)
  simp only [z1E, z1C, z1B, z1F, z3u]
  refine zp (zs ?_)
  refine z0a (zp ?_)
  obtain ⟨v7, f12, h1⟩ := z0d h0
  have f12k := z6X f12
  try simp at f12k
  by_cases c13 : v7 = true
  ·rw [if_pos c13] at h1
   obtain ⟨v8, f14, h2⟩ := z0d h1
   have f14k := z6X f14
   try simp at f14k
   by_cases c15 : v8 = true
   ·rw [if_pos c15] at h2
    obtain ⟨v9, f16, h3⟩ := z0d h2
    have f16k := z6X f16
    try simp at f16k
    by_cases c17 : v9 = true
    ·rw [if_pos c17] at h3
     obtain ⟨v10, f18, h4⟩ := z0d h3
     have f18k := zet f18
     try simp at f18k
     by_cases c19 : v10 = true
     ·rw [if_pos c19] at h4
      obtain ⟨v11, f20, h5⟩ := z0d h4
      have f20k := zcV f20
      try simp at f20k
      by_cases c21 : v11 = true
      ·rw [if_pos c21] at h5
       obtain ⟨v12, f22, h6⟩ := z0d h5
       have f22k := zcV f22
       try simp at f22k
       refine zr rfl rfl rfl (by simp [f12k, c13, f14k, c15, f16k, c17, f18k, c19, f20k, c21, f22k]; rfl) ?_
       refine z0a (z1f rfl ?_)
       cases h6
       simp [c13, c15, c17, c19, c21]
      ·rw [if_neg c21] at h5
       refine zr rfl rfl rfl (by simp [f12k, c13, f14k, c15, f16k, c17, f18k, c19, f20k, c21]; rfl) ?_
       refine z0a (z1f rfl ?_)
       cases h5
       simp [c13, c15, c17, c19, c21]
     ·rw [if_neg c19] at h4
      refine zr rfl rfl rfl (by simp [f12k, c13, f14k, c15, f16k, c17, f18k, c19]; rfl) ?_
      refine z0a (z1f rfl ?_)
      cases h4
      simp [c13, c15, c17, c19]
    ·rw [if_neg c17] at h3
     refine zr rfl rfl rfl (by simp [f12k, c13, f14k, c15, f16k, c17]; rfl) ?_
     refine z0a (z1f rfl ?_)
     cases h3
     simp [c13, c15, c17]
   ·rw [if_neg c15] at h2
    refine zr rfl rfl rfl (by simp [f12k, c13, f14k, c15]; rfl) ?_
    refine z0a (z1f rfl ?_)
    cases h2
    simp [c13, c15]
  ·rw [if_neg c13] at h1
   refine zr rfl rfl rfl (by simp [f12k, c13]; rfl) ?_
   refine z0a (z1f rfl ?_)
   cases h1
   simp [c13]
end
end Go.Proofs.Ytbnnipkanechoaa
end
section
namespace Go.Proofs.Ytbnnipkanechoaa
open Go
theorem zum {a0 : List Int} {r : List Int} (h : zpT a0 = some r) : L 64 [.os 1 a0.length (a0.map fun x0 => .sc (.int .i64 x0)), .sc (.func (.func 65) #[] #[])] = some (.tup [], [.os 1 r.length (r.map fun x0 => .sc (.int .i64 x0)), .dead]) := by
 refine ztk rfl ?_
 have e : (List.map (fun x0 => T.sc (Value.int IntKind.i64 x0)) a0) = a0.map fun x => .sc (.int .i64 x) := rfl
 simp only [xt, xtC, if_true, zvQ, Array.isEmpty_empty, and_self, zmS, h, Option.map_some]
end Go.Proofs.Ytbnnipkanechoaa
end
section
namespace Go.Proofs.Ytbnnipkanechoaa
open Go Go.IntKind
noncomputable section
set_option maxRecDepth 100000
set_option maxHeartbeats 1000000
def z2y (w93 : Int) (v122 : List Int) : Int × List Bool × List ByteArray × List Int -> Option ((Int × List Bool × List ByteArray × List Int) ⊕ ((Int × List Bool × List ByteArray × List Int) ⊕ (List Int × List ByteArray)))
 | (w129, w130, w131, w132) =>
 if w129 < (v122.length : Int) then
 (atI v122 w129).bind fun v139 =>
 (atI w130 v139).bind fun v140 =>
 if v140 = true then
 z0B (i64.wrap (w129 + 1), w130, w131, w132)
 else
 (atI w132 w93).bind fun v142 =>
 (atI w131 v142).bind fun v143 =>
 chk (z9E v143 ⟨#[UInt8.ofNat (u8.wrap (i64.wrap (97 + w129))).toNat]⟩) <|
 (atI w131 v139).bind fun v144 =>
 chk (z2i 8 (w132.length + 1)) <|
 z0B (i64.wrap (w129 + 1), (w130.set v139.toNat true), (w131.set v139.toNat (v143 ++ ⟨#[UInt8.ofNat (u8.wrap (i64.wrap (97 + w129))).toNat]⟩)), w132 ++ [v139])
 else
 z1m <|
 z0B (i64.wrap (w93 + 1), w130, w131, w132)
def z2x (a0 : Dgm) (w93 : Int) (v122 : List Int) : Int × List Bool × List ByteArray × List Int -> Fr
 | (w129, w130, w131, w132) => ⟨76, [(2, .one (.a 2 [] (0))), (6, .one (.h 6 [])), (7, .one (.h 7 [])), (8, .one (.h 8 [])), (9, .one (.t none (.sc (.int .i64 w93)))), (38, .one (.t none (.sl v122.length (v122.map fun x0 => .sc (.int .i64 x0))))), (39, .one (.t none (.sc (.int .i64 (v122.length : Int))))), (40, .one (.t none (.sc (.int .i64 w129))))], [(2, .vr [.sl a0.sets.length (a0.sets.map fun x0 => .sc (.int .i64 x0)), .sl a0.next.length (a0.next.map fun x0 => .sl x0.length (x0.map fun x1 => .sc (.int .i64 x1))), .sl a0.below.length (a0.below.map fun x0 => .sl x0.length (x0.map fun x1 => .sc (.bool x1)))]), (6, .os 1 w130.length (w130.map fun x0 => .sc (.bool x0))), (7, .os 1 w131.length (w131.map fun x0 => .sc (.string x0))), (8, .os 1 w132.length (w132.map fun x0 => .sc (.int .i64 x0)))]⟩
def z4h (a0 : Dgm) : Int × List Bool × List ByteArray × List Int -> Option ((Int × List Bool × List ByteArray × List Int) ⊕ (List Int × List ByteArray))
 | (w93, w94, w95, w96) =>
 if w93 < (w96.length : Int) then
 (atI w96 w93).bind fun v121 =>
 (atI a0.next v121).bind fun v122 =>
 z1b (z2y w93 v122) LFm (0, w94, w95, w96)
 else
 z1m <|
 some (w96, w95)
def z3o (a0 : Dgm) : Int × List Bool × List ByteArray × List Int -> Fr
 | (w93, w94, w95, w96) => ⟨76, [(2, .one (.a 2 [] (0))), (6, .one (.h 6 [])), (7, .one (.h 7 [])), (8, .one (.h 8 [])), (9, .one (.t none (.sc (.int .i64 w93))))], [(2, .vr [.sl a0.sets.length (a0.sets.map fun x0 => .sc (.int .i64 x0)), .sl a0.next.length (a0.next.map fun x0 => .sl x0.length (x0.map fun x1 => .sc (.int .i64 x1))), .sl a0.below.length (a0.below.map fun x0 => .sl x0.length (x0.map fun x1 => .sc (.bool x1)))]), (6, .os 1 w94.length (w94.map fun x0 => .sc (.bool x0))), (7, .os 1 w95.length (w95.map fun x0 => .sc (.string x0))), (8, .os 1 w96.length (w96.map fun x0 => .sc (.int .i64 x0)))]⟩
def z2a (a0 : Dgm) (a1 : Int) : Option (List Int × List ByteArray) :=
 chk (z2k 1 (a0.sets.length : Int)) <|
 chk (z2k 16 (a0.sets.length : Int)) <|
 chk (0 <= a1 /\ a1 < (a0.sets.length : Int)) <|
 z1b (z4h a0) LFm (0, ((List.replicate (a0.sets.length : Int).toNat (false : Bool)).set a1.toNat true), List.replicate (a0.sets.length : Int).toNat (ByteArray.empty : ByteArray), [a1])
theorem z4g {a0 : Dgm} {a1 : Int} {r : List Int × List ByteArray} (h0 : z2a a0 a1 = some r) : L 41 [.agg [.sl a0.sets.length (a0.sets.map fun x0 => .sc (.int .i64 x0)), .sl a0.next.length (a0.next.map fun x0 => .sl x0.length (x0.map fun x1 => .sc (.int .i64 x1))), .sl a0.below.length (a0.below.map fun x0 => .sl x0.length (x0.map fun x1 => .sc (.bool x1)))], .sc (.int .i64 a1)] = some (.tup [.os 1 r.1.length (r.1.map fun x0 => .sc (.int .i64 x0)), .os 1 r.2.length (r.2.map fun x0 => .sc (.string x0))], [.dead, .dead]) := by
  simp only [z2a] at h0
  refine z2F zAm zBP (z1w zDB ⟨of_decide_eq_true rfl, of_decide_eq_true rfl⟩ ?_)
  simp only [z1E, z1C, z1B, z1F, z3u]
  refine zp (zs ?_)
  refine z0a (zp ?_)
  obtain ⟨f91, h1⟩ := zxV h0
  refine zr rfl rfl rfl (by simp [f91]; rfl) ?_
  refine z0a (zp ?_)
  obtain ⟨f92, h2⟩ := zng h1
  refine zr rfl rfl rfl (by simp [f92]; rfl) ?_
  refine z0a (zp ?_)
  obtain ⟨f93, h3⟩ := z1M h2
  obtain ⟨f93a, f93b⟩ := f93
  have f93c : a1.toNat < a0.sets.length := by omega
  have f93d : a1.toNat + 1 <= a0.sets.length := by omega
  refine zr rfl rfl rfl (by simp [f91, f92, f93a, f93b, f93c, f93d]; rfl) ?_
  refine z0a (zp (zs ?_))
  refine z0a (zp (zp (zs ?_)))
  refine z0a (zb rfl (z0C h3 (z3o a0) rfl rfl (by simp [z3o]) fun s o1 h4 hr1 => ?_))
  obtain ⟨w93, w94, w95, w96⟩ := s
  simp only [z4h] at h4
  simp only [z3o]
  refine zp (zp (zs ?_))
  refine z0a ?_
  by_cases c151 : w93 < (w96.length : Int)
  ·rw [if_pos c151] at h4
   refine z0t rfl (by simp [c151]) (z0j rfl (z0a (zp (zb rfl (zp ?_)))))
   obtain ⟨v121, f152, h5⟩ := z0I h4
   obtain ⟨v122, f153, h6⟩ := z0I h5
   refine z1c rfl rfl rfl rfl ?_; repeat' ((first | refine z0q rfl rfl fun Q' hQ => ?_ | refine z0m rfl fun Q' hQ => ?_); simp [f152, f153]; refine hQ.out _ ?_; clear hQ; clear Q')
   refine z0a (zb rfl (z0C h6 (z2x a0 w93 v122) rfl rfl (by simp [z2x]) fun s o2 h7 hr2 => ?_))
   obtain ⟨w129, w130, w131, w132⟩ := s
   simp only [z2y] at h7
   simp only [z2x]
   refine zp (zs ?_)
   refine z0a (zp ?_)
   by_cases c172 : w129 < (v122.length : Int)
   ·rw [if_pos c172] at h7
    refine z0t rfl (by simp [c172]) (z0j rfl (z0a (zp (zb rfl (zp ?_)))))
    obtain ⟨v139, f173, h8⟩ := z0I h7
    refine zr rfl rfl rfl (by simp [f173]; rfl) ?_
    refine z0a (zp ?_)
    obtain ⟨v140, f174, h9⟩ := z0I h8
    refine zr rfl rfl rfl (by simp [f174]; rfl) ?_
    refine z0a ?_
    by_cases c175 : v140 = true
    ·rw [if_pos c175] at h9
     refine z0r rfl (by simp [c175]) (z0j rfl (z0h (z0a (zs ?_))))
     have ho := z0c h9
     refine z0i ho ?_
     simp [z2x, c175]
    ·rw [if_neg c175] at h9
     refine z0t rfl (by simp [c175]) (zp (zr rfl rfl rfl (by simp [f174]; rfl) ?_))
     refine z0a (zp ?_)
     obtain ⟨v142, f176, h10⟩ := z0I h9
     obtain ⟨v143, f177, h11⟩ := z0I h10
     obtain ⟨f178, h12⟩ := z1M h11
     obtain ⟨v144, f179, h13⟩ := z0I h12
     refine z1c rfl rfl rfl rfl ?_; repeat' ((first | refine z0q rfl rfl fun Q' hQ => ?_ | refine z0m rfl fun Q' hQ => ?_); simp [f176, f177, f178, f179]; refine hQ.out _ ?_; clear hQ; clear Q')
     refine z0a ?_
     obtain ⟨f180, h14⟩ := z5I h13
     refine zr rfl rfl rfl (by simp [f180]; rfl) ?_
     refine z0h (z0a (zs ?_))
     have ho := z0c h14
     refine z0i ho ?_
     simp [z2x, c175]
   ·rw [if_neg c172] at h7
    refine z0r rfl (by simp [c172]) (z0X rfl (z0w ?_))
    obtain ⟨rr2, h8, ho2⟩ := z0k h7
    have hs2 := hr2 _ ho2
    subst hs2
    refine z0s ho2 (z0g rfl (z0h (z0a (zs ?_))))
    have ho := z0c h8
    refine z0i ho ?_
    simp [z3o]
  ·rw [if_neg c151] at h4
   refine z0r rfl (by simp [c151]) (z0X rfl (z0w ?_))
   obtain ⟨rr1, h5, ho1⟩ := z0k h4
   have hs1 := hr1 _ ho1
   subst hs1
   refine z0s ho1 (z0g rfl (z0a (zp (zs ?_))))
   refine z0a (z1f rfl ?_)
   cases h5
   simp
def z3f (a0 : DFA) (a1 : List Int) (w226 : List Int) (w246 : Int) (w248 : List (List Bool)) (v266 : Int) : Int × List (List Int) -> Option ((Int × List (List Int)) ⊕ ((Int × List (List Int) × List (List Bool)) ⊕ Dgm))
 | (w272, w273) =>
 if w272 < a0.letters then
 (atI w273 w246).bind fun v278 =>
 (z5U a0 v266 w272).bind fun v279 =>
 (atI w226 v279).bind fun v280 =>
 (atI v278 w272).bind fun v281 =>
 z0B (i64.wrap (w272 + 1), (w273.set w246.toNat (v278.set w272.toNat v280)))
 else
 z1m <|
 chk (z2k 1 (a1.length : Int)) <|
 (atI w248 w246).bind fun v282 =>
 z0B (i64.wrap (w246 + 1), w273, (w248.set w246.toNat (List.replicate (a1.length : Int).toNat (false : Bool))))
def z3N (a0 : DFA) (a1 : List Int) (w226 : List Int) (w246 : Int) (w248 : List (List Bool)) (v266 : Int) : Int × List (List Int) -> Fr
 | (w272, w273) => ⟨127, [(1, .one (.t none (.sl a1.length (a1.map fun x0 => .sc (.int .i64 x0))))), (2, .one (.a 2 [] (0))), (4, .one (.a 4 [] (0))), (5, .one (.h 5 [])), (8, .one (.a 8 [] (0))), (9, .one (.t none (.sc (.int .i64 w246)))), (10, .one (.t none (.sc (.int .i64 v266)))), (44, .one (.t none (.sl a1.length (a1.map fun x0 => .sc (.int .i64 x0))))), (45, .one (.t none (.sc (.int .i64 (a1.length : Int))))), (46, .one (.t none (.sc (.int .i64 w246)))), (59, .one (.t none (.sc (.int .i64 a0.letters)))), (60, .one (.t none (.sc (.int .i64 w272))))], [(2, .vr [.sc (.int .i64 a0.letters), .sc (.int .i64 a0.start), .sl a0.final.length (a0.final.map fun x0 => .sc (.bool x0)), .sl a0.next.length (a0.next.map fun x0 => .sl x0.length (x0.map fun x1 => .sc (.int .i64 x1)))]), (4, .vr [.os 1 0 [], .os 1 0 [], .os 1 0 []]), (5, .os 1 w226.length (w226.map fun x0 => .sc (.int .i64 x0))), (8, .vr [.sl a1.length (a1.map fun x0 => .sc (.int .i64 x0)), .os 1 w273.length (w273.map fun x0 => .os 1 x0.length (x0.map fun x1 => .sc (.int .i64 x1))), .os 1 w248.length (w248.map fun x0 => .os 1 x0.length (x0.map fun x1 => .sc (.bool x1)))])]⟩
def z3e (a1 : List Int) (w337 : Int) (v393 : List Int × List ByteArray) (w411 : Int) (w412 : List (List Bool)) (v430 : Int) : Int -> Option (Int ⊕ ((Int × List (List Bool)) ⊕ ((Int × List (List Bool)) ⊕ Dgm)))
 | w436 =>
 if w436 < (v393.1.length : Int) then
 (atI v393.1 w436).bind fun v442 =>
 (atI a1 v442).bind fun v443 =>
 (z3y v443 v430).bind fun v444 =>
 if v444 = true then
 (atI w412 w411).bind fun v445 =>
 (atI v445 w337).bind fun v446 =>
 z1m <|
 z0B (i64.wrap (w411 + 1), (w412.set w411.toNat (v445.set w337.toNat true)))
 else
 z0B (i64.wrap (w436 + 1))
 else
 z1m <|
 z0B (i64.wrap (w411 + 1), w412)
def z3L (a1 : List Int) (w247 : List (List Int)) (w337 : Int) (v393 : List Int × List ByteArray) (w411 : Int) (w412 : List (List Bool)) (v430 : Int) : Int -> Fr
 | w436 => ⟨127, [(1, .one (.t none (.sl a1.length (a1.map fun x0 => .sc (.int .i64 x0))))), (4, .one (.a 4 [] (0))), (8, .one (.a 8 [] (0))), (12, .one (.t none (.sc (.int .i64 w337)))), (13, .one (.h 13 [])), (15, .one (.t none (.sc (.int .i64 w411)))), (16, .one (.t none (.sc (.int .i64 v430)))), (87, .one (.t none (.sc (.int .i64 (a1.length : Int))))), (88, .one (.t none (.sc (.int .i64 w337)))), (97, .one (.t none (.sl a1.length (a1.map fun x0 => .sc (.int .i64 x0))))), (98, .one (.t none (.sc (.int .i64 (a1.length : Int))))), (99, .one (.t none (.sc (.int .i64 w411)))), (104, .one (.h 13 [])), (105, .one (.t none (.sc (.int .i64 (v393.1.length : Int))))), (106, .one (.t none (.sc (.int .i64 w436))))], [(4, .vr [.os 1 0 [], .os 1 0 [], .os 1 0 []]), (8, .vr [.sl a1.length (a1.map fun x0 => .sc (.int .i64 x0)), .os 1 w247.length (w247.map fun x0 => .os 1 x0.length (x0.map fun x1 => .sc (.int .i64 x1))), .os 1 w412.length (w412.map fun x0 => .os 1 x0.length (x0.map fun x1 => .sc (.bool x1)))]), (13, .os 1 v393.1.length (v393.1.map fun x0 => .sc (.int .i64 x0)))]⟩
def z3O (a1 : List Int) (w337 : Int) (v393 : List Int × List ByteArray) : Int × List (List Bool) -> Option ((Int × List (List Bool)) ⊕ ((Int × List (List Bool)) ⊕ Dgm))
 | (w411, w412) =>
 if w411 < (a1.length : Int) then
 (atI a1 w411).bind fun v430 =>
 z1b (z3e a1 w337 v393 w411 w412 v430) LFm 0
 else
 z1m <|
 z0B (i64.wrap (w337 + 1), w412)
def z3d (a1 : List Int) (w247 : List (List Int)) (w337 : Int) (v393 : List Int × List ByteArray) : Int × List (List Bool) -> Fr
 | (w411, w412) => ⟨127, [(1, .one (.t none (.sl a1.length (a1.map fun x0 => .sc (.int .i64 x0))))), (4, .one (.a 4 [] (0))), (8, .one (.a 8 [] (0))), (12, .one (.t none (.sc (.int .i64 w337)))), (13, .one (.h 13 [])), (87, .one (.t none (.sc (.int .i64 (a1.length : Int))))), (88, .one (.t none (.sc (.int .i64 w337)))), (97, .one (.t none (.sl a1.length (a1.map fun x0 => .sc (.int .i64 x0))))), (98, .one (.t none (.sc (.int .i64 (a1.length : Int))))), (99, .one (.t none (.sc (.int .i64 w411))))], [(4, .vr [.os 1 0 [], .os 1 0 [], .os 1 0 []]), (8, .vr [.sl a1.length (a1.map fun x0 => .sc (.int .i64 x0)), .os 1 w247.length (w247.map fun x0 => .os 1 x0.length (x0.map fun x1 => .sc (.int .i64 x1))), .os 1 w412.length (w412.map fun x0 => .os 1 x0.length (x0.map fun x1 => .sc (.bool x1)))]), (13, .os 1 v393.1.length (v393.1.map fun x0 => .sc (.int .i64 x0)))]⟩
def z3P (a1 : List Int) (w247 : List (List Int)) : Int × List (List Bool) -> Option ((Int × List (List Bool)) ⊕ Dgm)
 | (w337, w338) =>
 if w337 < (a1.length : Int) then
 (z2a (⟨a1, w247, w338⟩ : Dgm) w337).bind fun v393 =>
 z1b (z3O a1 w337 v393) LFm (0, w338)
 else
 z1m <|
 some (⟨a1, w247, w338⟩ : Dgm)
def z3M (a1 : List Int) (w247 : List (List Int)) : Int × List (List Bool) -> Fr
 | (w337, w338) => ⟨127, [(1, .one (.t none (.sl a1.length (a1.map fun x0 => .sc (.int .i64 x0))))), (4, .one (.a 4 [] (0))), (8, .one (.a 8 [] (0))), (87, .one (.t none (.sc (.int .i64 (a1.length : Int))))), (88, .one (.t none (.sc (.int .i64 w337))))], [(4, .vr [.os 1 0 [], .os 1 0 [], .os 1 0 []]), (8, .vr [.sl a1.length (a1.map fun x0 => .sc (.int .i64 x0)), .os 1 w247.length (w247.map fun x0 => .os 1 x0.length (x0.map fun x1 => .sc (.int .i64 x1))), .os 1 w338.length (w338.map fun x0 => .os 1 x0.length (x0.map fun x1 => .sc (.bool x1)))])]⟩
def z3Z (a0 : DFA) (a1 : List Int) (w226 : List Int) : Int × List (List Int) × List (List Bool) -> Option ((Int × List (List Int) × List (List Bool)) ⊕ Dgm)
 | (w246, w247, w248) =>
 if w246 < (a1.length : Int) then
 (atI a1 w246).bind fun v266 =>
 chk (z2k 8 a0.letters) <|
 (atI w247 w246).bind fun v267 =>
 z1b (z3f a0 a1 w226 w246 w248 v266) LFm (0, (w247.set w246.toNat (List.replicate a0.letters.toNat (0 : Int))))
 else
 z1m <|
 z1b (z3P a1 w247) LFm (0, w248)
def z3X (a0 : DFA) (a1 : List Int) (w226 : List Int) : Int × List (List Int) × List (List Bool) -> Fr
 | (w246, w247, w248) => ⟨127, [(1, .one (.t none (.sl a1.length (a1.map fun x0 => .sc (.int .i64 x0))))), (2, .one (.a 2 [] (0))), (4, .one (.a 4 [] (0))), (5, .one (.h 5 [])), (8, .one (.a 8 [] (0))), (44, .one (.t none (.sl a1.length (a1.map fun x0 => .sc (.int .i64 x0))))), (45, .one (.t none (.sc (.int .i64 (a1.length : Int))))), (46, .one (.t none (.sc (.int .i64 w246))))], [(2, .vr [.sc (.int .i64 a0.letters), .sc (.int .i64 a0.start), .sl a0.final.length (a0.final.map fun x0 => .sc (.bool x0)), .sl a0.next.length (a0.next.map fun x0 => .sl x0.length (x0.map fun x1 => .sc (.int .i64 x1)))]), (4, .vr [.os 1 0 [], .os 1 0 [], .os 1 0 []]), (5, .os 1 w226.length (w226.map fun x0 => .sc (.int .i64 x0))), (8, .vr [.sl a1.length (a1.map fun x0 => .sc (.int .i64 x0)), .os 1 w247.length (w247.map fun x0 => .os 1 x0.length (x0.map fun x1 => .sc (.int .i64 x1))), .os 1 w248.length (w248.map fun x0 => .os 1 x0.length (x0.map fun x1 => .sc (.bool x1)))])]⟩
def z4a (a0 : DFA) (a1 : List Int) : Int × List Int -> Option ((Int × List Int) ⊕ Dgm)
 | (w225, w226) =>
 if w225 < (a1.length : Int) then
 (atI a1 w225).bind fun v229 =>
 (atI w226 v229).bind fun v230 =>
 z0B (i64.wrap (w225 + 1), (w226.set v229.toNat w225))
 else
 z1m <|
 chk (z2k 24 (a1.length : Int)) <|
 z1b (z3Z a0 a1 w226) LFm (0, List.replicate (a1.length : Int).toNat ([] : List Int), List.replicate (a1.length : Int).toNat ([] : List Bool))
def z3Y (a0 : DFA) (a1 : List Int) : Int × List Int -> Fr
 | (w225, w226) => ⟨127, [(1, .one (.t none (.sl a1.length (a1.map fun x0 => .sc (.int .i64 x0))))), (2, .one (.a 2 [] (0))), (4, .one (.a 4 [] (0))), (5, .one (.h 5 [])), (24, .one (.t none (.sl a1.length (a1.map fun x0 => .sc (.int .i64 x0))))), (25, .one (.t none (.sc (.int .i64 (a1.length : Int))))), (26, .one (.t none (.sc (.int .i64 w225))))], [(2, .vr [.sc (.int .i64 a0.letters), .sc (.int .i64 a0.start), .sl a0.final.length (a0.final.map fun x0 => .sc (.bool x0)), .sl a0.next.length (a0.next.map fun x0 => .sl x0.length (x0.map fun x1 => .sc (.int .i64 x1)))]), (4, .vr [.os 1 0 [], .os 1 0 [], .os 1 0 []]), (5, .os 1 w226.length (w226.map fun x0 => .sc (.int .i64 x0)))]⟩
def z4f (a0 : DFA) (a1 : List Int) : Option (Dgm) :=
 chk (¬ (a0.final.length : Int) < 0) <|
 chk (z2k 8 (zk4 .i64 1 (a0.final.length : Int))) <|
 z1b (z4a a0 a1) LFm (0, List.replicate (zk4 .i64 1 (a0.final.length : Int)).toNat (0 : Int))
theorem zaT {a0 : DFA} {a1 : List Int} {r : Dgm} (h0 : z4f a0 a1 = some r) : L 37 [.agg [.sc (.int .i64 a0.letters), .sc (.int .i64 a0.start), .sl a0.final.length (a0.final.map fun x0 => .sc (.bool x0)), .sl a0.next.length (a0.next.map fun x0 => .sl x0.length (x0.map fun x1 => .sc (.int .i64 x1)))], .sl a1.length (a1.map fun x0 => .sc (.int .i64 x0))] = some (.agg [.sl r.sets.length (r.sets.map fun x0 => .sc (.int .i64 x0)), .os 1 r.next.length (r.next.map fun x0 => .os 1 x0.length (x0.map fun x1 => .sc (.int .i64 x1))), .os 1 r.below.length (r.below.map fun x0 => .os 1 x0.length (x0.map fun x1 => .sc (.bool x1)))], [.dead, .dead]) := by
  simp only [z4f] at h0
  refine z2F zAq zBT (z1w zDF ⟨of_decide_eq_true rfl, of_decide_eq_true rfl⟩ ?_)
  simp only [z1E, z1C, z1B, z1F, z3u]
  refine zp (zs ?_)
  refine z0a (zp ?_)
  obtain ⟨f288, h1⟩ := z1M h0
  obtain ⟨f289, h2⟩ := zng h1
  refine zr rfl rfl rfl (by simp [f288, f289]; rfl) ?_
  refine z0a (zp (zp (zs ?_)))
  refine z0a (zb rfl (z0C h2 (z3Y a0 a1) rfl rfl (by simp [z3Y]) fun s o1 h3 hr1 => ?_))
  obtain ⟨w225, w226⟩ := s
  simp only [z4a] at h3
  simp only [z3Y]
  refine zp (zs ?_)
  refine z0a (zp ?_)
  by_cases c296 : w225 < (a1.length : Int)
  ·rw [if_pos c296] at h3
   refine z0t rfl (by simp [c296]) (z0j rfl (z0a (zp (zb rfl (zp ?_)))))
   obtain ⟨v229, f297, h4⟩ := z0I h3
   refine zr rfl rfl rfl (by simp [f297]; rfl) ?_
   refine z0a ?_
   obtain ⟨v230, f298, h5⟩ := z0I h4
   refine zr rfl rfl rfl (by simp [f298]; rfl) ?_
   refine z0h (z0a (zs ?_))
   have ho := z0c h5
   refine z0i ho ?_
   simp [z3Y]
  ·rw [if_neg c296] at h3
   refine z0r rfl (by simp [c296]) (z0X rfl (z0w ?_))
   obtain ⟨rr1, h4, ho1⟩ := z0k h3
   have hs1 := hr1 _ ho1
   subst hs1
   refine z0s ho1 (z0g rfl (z0a (zp ?_)))
   obtain ⟨f299, h5⟩ := zng h4
   refine zeQ rfl rfl rfl rfl ?_
   iterate 5 (refine z4o rfl rfl (by simp [z0f, z0e, f299]; rfl) ?_)
   refine z5M ?_
   refine z4o rfl rfl (by simp [z0f, z0e, f299]; rfl) ?_
   refine z5M ?_
   iterate 4 (refine z4o rfl rfl (by simp [z0f, z0e, f299]; rfl) ?_)
   refine z6N ?_
   refine ⟨?_, ?_⟩
   ·refine z4o rfl rfl (by simp [z0f, z0e, f299]; rfl) ?_
    iterate 3 (refine z4o rfl rfl (by simp [z0f, z0e, f299]; rfl) ?_)
    refine z6N ?_
    simp [z8f, f299]
   refine ⟨?_, ?_⟩
   ·refine z5M ?_
    refine z4o rfl rfl (by simp [z0f, z0e, f299]; rfl) ?_
    refine z5M ?_
    iterate 4 (refine z4o rfl rfl (by simp [z0f, z0e, f299]; rfl) ?_)
    refine z6N ?_
    refine ⟨?_, ?_⟩
    ·refine z4o rfl rfl (by simp [z0f, z0e, f299]; rfl) ?_
     iterate 3 (refine z4o rfl rfl (by simp [z0f, z0e, f299]; rfl) ?_)
     refine z6N ?_
     simp [z8f, f299]
    refine ⟨?_, ?_⟩
    ·refine z4o rfl rfl (by simp [z0f, z0e, f299]; rfl) ?_
     refine z5M ?_
     iterate 4 (refine z4o rfl rfl (by simp [z0f, z0e, f299]; rfl) ?_)
     refine z6N ?_
     refine ⟨?_, ?_⟩
     ·refine z4o rfl rfl (by simp [z0f, z0e, f299]; rfl) ?_
      iterate 3 (refine z4o rfl rfl (by simp [z0f, z0e, f299]; rfl) ?_)
      refine z6N ?_
      simp [z8f, f299]
     simp [z8f, f299]
    simp [z8f, f299]
   refine zeM rfl (by simp [f299]; rfl) ?_
   refine z0a (zp (zp (zs ?_)))
   refine z0a (zb rfl (z0C h5 (z3X a0 a1 w226) rfl rfl (by simp [z3X]) fun s o2 h6 hr2 => ?_))
   obtain ⟨w246, w247, w248⟩ := s
   simp only [z3Z] at h6
   simp only [z3X]
   refine zp (zs ?_)
   refine z0a (zp ?_)
   by_cases c341 : w246 < (a1.length : Int)
   ·rw [if_pos c341] at h6
    refine z0t rfl (by simp [c341]) (z0j rfl (z0a (zp (zb rfl (zp ?_)))))
    obtain ⟨v266, f342, h7⟩ := z0I h6
    refine zr rfl rfl rfl (by simp [f342]; rfl) ?_
    refine z0a (zp ?_)
    obtain ⟨f343, h8⟩ := zng h7
    obtain ⟨v267, f344, h9⟩ := z0I h8
    refine z1c rfl rfl rfl rfl ?_; repeat' ((first | refine z0q rfl rfl fun Q' hQ => ?_ | refine z0m rfl fun Q' hQ => ?_); simp [f343, f344]; refine hQ.out _ ?_; clear hQ; clear Q')
    refine z0a (zp (zp (zs ?_)))
    refine z0a (zb rfl (z0C h9 (z3N a0 a1 w226 w246 w248 v266) rfl rfl (by simp [z3N]) fun s o3 h10 hr3 => ?_))
    obtain ⟨w272, w273⟩ := s
    simp only [z3f] at h10
    simp only [z3N]
    refine zp (zs ?_)
    refine z0a (zp ?_)
    by_cases c355 : w272 < a0.letters
    ·rw [if_pos c355] at h10
     refine z0t rfl (by simp [c355]) (z0j rfl (z0a (zp (zb rfl (zp (zs ?_))))))
     refine z0a ?_
     obtain ⟨v278, f356, h11⟩ := z0I h10
     obtain ⟨v279, f357, h12⟩ := z0d h11
     have f357k := zb1 f357
     try simp at f357k
     obtain ⟨v280, f358, h13⟩ := z0I h12
     obtain ⟨v281, f359, h14⟩ := z0I h13
     refine z1c rfl rfl rfl rfl ?_; repeat' ((first | refine z0q rfl rfl fun Q' hQ => ?_ | refine z0m rfl fun Q' hQ => ?_); simp [f356, f357k, f358, f359]; refine hQ.out _ ?_; clear hQ; clear Q')
     refine z0h (z0a (zr rfl rfl rfl (by simp [f356]; rfl) ?_))
     have ho := z0c h14
     refine z0i ho ?_
     simp [z3N]
    ·rw [if_neg c355] at h10
     refine z0r rfl (by simp [c355]) (z0X rfl (z0w ?_))
     obtain ⟨rr3, h11, ho3⟩ := z0k h10
     have hs3 := hr3 _ ho3
     subst hs3
     refine z0s ho3 (z0g rfl (z0a ?_))
     obtain ⟨f360, h12⟩ := zxV h11
     obtain ⟨v282, f361, h13⟩ := z0I h12
     refine z1c rfl rfl rfl rfl ?_; repeat' ((first | refine z0q rfl rfl fun Q' hQ => ?_ | refine z0m rfl fun Q' hQ => ?_); simp [f360, f361]; refine hQ.out _ ?_; clear hQ; clear Q')
     refine z0h (z0a (zs ?_))
     have ho := z0c h13
     refine z0i ho ?_
     simp [z3X]
   ·rw [if_neg c341] at h6
    refine z0r rfl (by simp [c341]) (z0X rfl (z0w ?_))
    obtain ⟨rr2, h7, ho2⟩ := z0k h6
    have hs2 := hr2 _ ho2
    subst hs2
    refine z0s ho2 (z0g rfl (z0a (zp (zp (zs ?_)))))
    refine z0a (zb rfl (z0C h7 (z3M a1 w247) rfl rfl (by simp [z3M]) fun s o4 h8 hr4 => ?_))
    obtain ⟨w337, w338⟩ := s
    simp only [z3P] at h8
    simp only [z3M]
    refine zp (zs ?_)
    refine z0a (zp ?_)
    by_cases c504 : w337 < (a1.length : Int)
    ·rw [if_pos c504] at h8
     refine z0t rfl (by simp [c504]) (z0j rfl (z0a (zp (zb rfl (zp (zs ?_))))))
     refine z0a (zp ?_)
     obtain ⟨v393, f505, h9⟩ := z0d h8
     have f505k := z4g f505
     try simp at f505k
     refine zr rfl rfl rfl (by simp [f505k]; rfl) ?_
     refine z0a (zp (zs ?_))
     refine z0a (zb rfl (z0C h9 (z3d a1 w247 w337 v393) rfl rfl (by simp [z3d]) fun s o5 h10 hr5 => ?_))
     obtain ⟨w411, w412⟩ := s
     simp only [z3O] at h10
     simp only [z3d]
     refine zp (zs ?_)
     refine z0a (zp ?_)
     by_cases c552 : w411 < (a1.length : Int)
     ·rw [if_pos c552] at h10
      refine z0t rfl (by simp [c552]) (z0j rfl (z0a (zp (zb rfl (zp ?_)))))
      obtain ⟨v430, f553, h11⟩ := z0I h10
      refine zr rfl rfl rfl (by simp [f553]; rfl) ?_
      refine z0a (zp (zs ?_))
      refine z0a (zb rfl (z0C h11 (z3L a1 w247 w337 v393 w411 w412 v430) rfl rfl (by simp [z3L]) fun s o6 h12 hr6 => ?_))
      obtain ⟨w436, hs6⟩ : ∃ y, y = s := ⟨_, rfl⟩
      subst hs6
      simp only [z3e] at h12
      simp only [z3L]
      refine zp (zs ?_)
      refine z0a (zp ?_)
      by_cases c568 : w436 < (v393.1.length : Int)
      ·rw [if_pos c568] at h12
       refine z0t rfl (by simp [c568]) (z0j rfl (z0a (zp (zb rfl (zp ?_)))))
       obtain ⟨v442, f569, h13⟩ := z0I h12
       refine zr rfl rfl rfl (by simp [f569]; rfl) ?_
       refine z0a (zp ?_)
       obtain ⟨v443, f570, h14⟩ := z0I h13
       obtain ⟨v444, f571, h15⟩ := z0d h14
       have f571k := z5C f571
       try simp at f571k
       refine zr rfl rfl rfl (by simp [f570, f571k]; rfl) ?_
       refine z0a ?_
       by_cases c572 : v444 = true
       ·rw [if_pos c572] at h15
        refine z0t rfl (by simp [c572]) (zp ?_)
        obtain ⟨v445, f573, h16⟩ := z0I h15
        obtain ⟨v446, f574, h17⟩ := z0I h16
        refine zr rfl rfl rfl (by simp [f573, f574]; rfl) ?_
        refine z0a (z0X rfl (z9w rfl (z0w ?_)))
        obtain ⟨rr6, h18, ho6⟩ := z0k h17
        have hs6 := hr6 _ ho6
        subst hs6
        refine z0s ho6 (z0g rfl (z0h (z0a (zr rfl rfl rfl (by simp [f573]; rfl) ?_))))
        have ho := z0c h18
        refine z0i ho ?_
        simp [z3d, c572]
       ·rw [if_neg c572] at h15
        refine z0r rfl (by simp [c572]) (z0j rfl (z0h (z0a (zs ?_))))
        have ho := z0c h15
        refine z0i ho ?_
        simp [z3L, c572]
      ·rw [if_neg c568] at h12
       refine z0r rfl (by simp [c568]) (z0X rfl (z0w ?_))
       obtain ⟨rr6, h13, ho6⟩ := z0k h12
       have hs6 := hr6 _ ho6
       subst hs6
       refine z0s ho6 (z0g rfl (z0h (z0a (zs ?_))))
       have ho := z0c h13
       refine z0i ho ?_
       simp [z3d]
     ·rw [if_neg c552] at h10
      refine z0r rfl (by simp [c552]) (z0X rfl (z0w ?_))
      obtain ⟨rr5, h11, ho5⟩ := z0k h10
      have hs5 := hr5 _ ho5
      subst hs5
      refine z0s ho5 (z0g rfl (z0h (z0a (zs ?_))))
      have ho := z0c h11
      refine z0i ho ?_
      simp [z3M]
    ·rw [if_neg c504] at h8
     refine z0r rfl (by simp [c504]) (z0X rfl (z0w ?_))
     obtain ⟨rr4, h9, ho4⟩ := z0k h8
     have hs4 := hr4 _ ho4
     subst hs4
     refine z0s ho4 (z0g rfl (z0a (zp (zs ?_))))
     refine z0a (z1f rfl ?_)
     cases h9
     simp
def z2Y (a0 : Dgm) (w50 : Int) (w52 : List Int) : Int × List Int -> Option ((Int × List Int) ⊕ ((Int × List Int × List Int) ⊕ (List Int × List Int)))
 | (w82, w83) =>
 if w82 < (w52.length : Int) then
 (atI w52 w82).bind fun v90 =>
 (atI a0.below w50).bind fun v91 =>
 (atI v91 v90).bind fun v92 =>
 if v92 = true then
 (atI a0.below v90).bind fun v93 =>
 (atI v93 w50).bind fun v94 =>
 if v94 = true then
 (atI w83 w50).bind fun v95 =>
 z0B (i64.wrap (w82 + 1), (w83.set w50.toNat w82))
 else
 z0B (i64.wrap (w82 + 1), w83)
 else
 z0B (i64.wrap (w82 + 1), w83)
 else
 z1m <|
 (atI w83 w50).bind fun v96 =>
 if v96 = (w52.length : Int) then
 chk (z2i 8 (w52.length + 1)) <|
 z0B (i64.wrap (w50 + 1), w83, w52 ++ [w50])
 else
 z0B (i64.wrap (w50 + 1), w83, w52)
def z1U (a0 : Dgm) (w50 : Int) (w52 : List Int) : Int × List Int -> Fr
 | (w82, w83) => ⟨68, [(1, .one (.a 1 [] (0))), (4, .one (.h 4 [])), (5, .one (.h 5 [])), (6, .one (.t none (.sc (.int .i64 w50)))), (15, .one (.t none (.sc (.int .i64 (a0.sets.length : Int))))), (16, .one (.t none (.sc (.int .i64 w50)))), (24, .one (.h 5 [])), (25, .one (.t none (.sc (.int .i64 (w52.length : Int))))), (26, .one (.t none (.sc (.int .i64 w82))))], [(1, .vr [.sl a0.sets.length (a0.sets.map fun x0 => .sc (.int .i64 x0)), .sl a0.next.length (a0.next.map fun x0 => .sl x0.length (x0.map fun x1 => .sc (.int .i64 x1))), .sl a0.below.length (a0.below.map fun x0 => .sl x0.length (x0.map fun x1 => .sc (.bool x1)))]), (4, .os 1 w83.length (w83.map fun x0 => .sc (.int .i64 x0))), (5, .os 1 w52.length (w52.map fun x0 => .sc (.int .i64 x0)))]⟩
def z2Z (a0 : Dgm) : Int × List Int × List Int -> Option ((Int × List Int × List Int) ⊕ (List Int × List Int))
 | (w50, w51, w52) =>
 if w50 < (a0.sets.length : Int) then
 (atI w51 w50).bind fun v75 =>
 z1b (z2Y a0 w50 w52) LFm (0, (w51.set w50.toNat (w52.length : Int)))
 else
 z1m <|
 some (w51, w52)
def z2p (a0 : Dgm) : Int × List Int × List Int -> Fr
 | (w50, w51, w52) => ⟨68, [(1, .one (.a 1 [] (0))), (4, .one (.h 4 [])), (5, .one (.h 5 [])), (15, .one (.t none (.sc (.int .i64 (a0.sets.length : Int))))), (16, .one (.t none (.sc (.int .i64 w50))))], [(1, .vr [.sl a0.sets.length (a0.sets.map fun x0 => .sc (.int .i64 x0)), .sl a0.next.length (a0.next.map fun x0 => .sl x0.length (x0.map fun x1 => .sc (.int .i64 x1))), .sl a0.below.length (a0.below.map fun x0 => .sl x0.length (x0.map fun x1 => .sc (.bool x1)))]), (4, .os 1 w51.length (w51.map fun x0 => .sc (.int .i64 x0))), (5, .os 1 w52.length (w52.map fun x0 => .sc (.int .i64 x0)))]⟩
def z2P (a0 : Dgm) : Option (List Int × List Int) :=
 chk (z2k 8 (a0.sets.length : Int)) <|
 z1b (z2Z a0) LFm (0, List.replicate (a0.sets.length : Int).toNat (0 : Int), [])
theorem z8l {a0 : Dgm} {r : List Int × List Int} (h0 : z2P a0 = some r) : L 38 [.agg [.sl a0.sets.length (a0.sets.map fun x0 => .sc (.int .i64 x0)), .sl a0.next.length (a0.next.map fun x0 => .sl x0.length (x0.map fun x1 => .sc (.int .i64 x1))), .sl a0.below.length (a0.below.map fun x0 => .sl x0.length (x0.map fun x1 => .sc (.bool x1)))]] = some (.tup [.os 1 r.1.length (r.1.map fun x0 => .sc (.int .i64 x0)), .os 1 r.2.length (r.2.map fun x0 => .sc (.int .i64 x0))], [.dead]) := by
  simp only [z2P] at h0
  refine z2F zAp zBS (z1w zDE ⟨of_decide_eq_true rfl, of_decide_eq_true rfl⟩ ?_)
  simp only [z1E, z1C, z1B, z1F, z3u]
  refine zp (zs ?_)
  refine z0a (zp ?_)
  obtain ⟨f72, h1⟩ := zng h0
  refine zr rfl rfl rfl (by simp [f72]; rfl) ?_
  refine z0a (zp (zs ?_))
  refine z0a (zp (zp (zs ?_)))
  refine z0a (zb rfl (z0C h1 (z2p a0) rfl rfl (by simp [z2p]) fun s o1 h2 hr1 => ?_))
  obtain ⟨w50, w51, w52⟩ := s
  simp only [z2Z] at h2
  simp only [z2p]
  refine zp (zs ?_)
  refine z0a (zp ?_)
  by_cases c111 : w50 < (a0.sets.length : Int)
  ·rw [if_pos c111] at h2
   refine z0t rfl (by simp [c111]) (z0j rfl (z0a (zp (zb rfl (zp (zs ?_))))))
   refine z0a (zp ?_)
   obtain ⟨v75, f112, h3⟩ := z0I h2
   refine zr rfl rfl rfl (by simp [f112]; rfl) ?_
   refine z0a (zp (zp (zs ?_)))
   refine z0a (zb rfl (z0C h3 (z1U a0 w50 w52) rfl rfl (by simp [z1U]) fun s o2 h4 hr2 => ?_))
   obtain ⟨w82, w83⟩ := s
   simp only [z2Y] at h4
   simp only [z1U]
   refine zp (zs ?_)
   refine z0a (zp ?_)
   by_cases c131 : w82 < (w52.length : Int)
   ·rw [if_pos c131] at h4
    refine z0t rfl (by simp [c131]) (z0j rfl (z0a (zp (zb rfl (zp ?_)))))
    obtain ⟨v90, f132, h5⟩ := z0I h4
    refine zr rfl rfl rfl (by simp [f132]; rfl) ?_
    refine z0a (zp ?_)
    obtain ⟨v91, f133, h6⟩ := z0I h5
    obtain ⟨v92, f134, h7⟩ := z0I h6
    by_cases c135 : v92 = true
    ·rw [if_pos c135] at h7
     obtain ⟨v93, f136, h8⟩ := z0I h7
     obtain ⟨v94, f137, h9⟩ := z0I h8
     refine zr rfl rfl rfl (by simp [f133, f134, c135, f136, f137]; rfl) ?_
     refine z0a ?_
     by_cases c138 : v94 = true
     ·rw [if_pos c138] at h9
      refine z0t rfl (by simp [c138]) ?_
      obtain ⟨v95, f139, h10⟩ := z0I h9
      refine zr rfl rfl rfl (by simp [f139]; rfl) ?_
      refine z0h (z0a (zs ?_))
      have ho := z0c h10
      refine z0i ho ?_
      simp [z1U, c135, c138]
     ·rw [if_neg c138] at h9
      refine z0r rfl (by simp [c138]) (z0j rfl (z0h (z0a (zs ?_))))
      have ho := z0c h9
      refine z0i ho ?_
      simp [z1U, c135, c138]
    ·rw [if_neg c135] at h7
     refine zr rfl rfl rfl (by simp [f133, f134, c135]; rfl) ?_
     refine z0a (z0r rfl (by simp) (z0j rfl (z0h (z0a (zs ?_)))))
     have ho := z0c h7
     refine z0i ho ?_
     simp [z1U, c135]
   ·rw [if_neg c131] at h4
    refine z0r rfl (by simp [c131]) (z0X rfl (z0w ?_))
    obtain ⟨rr2, h5, ho2⟩ := z0k h4
    have hs2 := hr2 _ ho2
    subst hs2
    refine z0s ho2 (z0g rfl (z0a (zp ?_)))
    obtain ⟨v96, f140, h6⟩ := z0I h5
    refine zr rfl rfl rfl (by simp [f140]; rfl) ?_
    refine z0a ?_
    by_cases c141 : v96 = (w52.length : Int)
    ·rw [if_pos c141] at h6
     have c141e := eq_true c141
     refine z0t rfl (by simp [c141e]) ?_
     obtain ⟨f142, h7⟩ := z5I h6
     refine zr rfl rfl rfl (by simp [f142]; rfl) ?_
     refine z0h (z0a (zs ?_))
     have ho := z0c h7
     refine z0i ho ?_
     simp [z2p]
    ·rw [if_neg c141] at h6
     have c141e := eq_false c141
     refine z0r rfl (by simp [c141e]) (z0j rfl (z0h (z0a (zs ?_))))
     have ho := z0c h6
     refine z0i ho ?_
     simp [z2p]
  ·rw [if_neg c111] at h2
   refine z0r rfl (by simp [c111]) (z0X rfl (z0w ?_))
   obtain ⟨rr1, h3, ho1⟩ := z0k h2
   have hs1 := hr1 _ ho1
   subst hs1
   refine z0s ho1 (z0g rfl (z0a (zp (zs ?_))))
   refine z0a (z1f rfl ?_)
   cases h3
   simp
def z3n (a0 : Dgm) (w64 : List Int) (w85 : Int) (w86 : List Int) (v101 : Int) : Int -> Option (Int ⊕ ((Int × List Int) ⊕ List Int))
 | w106 =>
 if w106 < (w64.length : Int) then
 (atI w64 w106).bind fun v111 =>
 if v111 = v101 then
 z0B (i64.wrap (w106 + 1))
 else
 (atI a0.sets v111).bind fun v112 =>
 (atI a0.sets v101).bind fun v113 =>
 (z3y v112 v113).bind fun v114 =>
 if v114 = true then
 z1m <|
 z0B (i64.wrap (w85 + 1), w86)
 else
 z0B (i64.wrap (w106 + 1))
 else
 z1m <|
 chk (z2i 8 (w86.length + 1)) <|
 z0B (i64.wrap (w85 + 1), w86 ++ [v101])
def z2u (a0 : Dgm) (w64 : List Int) (w85 : Int) (w86 : List Int) (v101 : Int) : Int -> Fr
 | w106 => ⟨80, [(2, .one (.a 2 [] (0))), (5, .one (.h 5 [])), (8, .one (.h 8 [])), (10, .one (.t none (.sc (.int .i64 v101)))), (45, .one (.h 5 [])), (46, .one (.t none (.sc (.int .i64 (w64.length : Int))))), (47, .one (.t none (.sc (.int .i64 w85)))), (51, .one (.h 5 [])), (52, .one (.t none (.sc (.int .i64 (w64.length : Int))))), (53, .one (.t none (.sc (.int .i64 w106))))], [(2, .vr [.sl a0.sets.length (a0.sets.map fun x0 => .sc (.int .i64 x0)), .sl a0.next.length (a0.next.map fun x0 => .sl x0.length (x0.map fun x1 => .sc (.int .i64 x1))), .sl a0.below.length (a0.below.map fun x0 => .sl x0.length (x0.map fun x1 => .sc (.bool x1)))]), (5, .os 1 w64.length (w64.map fun x0 => .sc (.int .i64 x0))), (8, .os 1 w86.length (w86.map fun x0 => .sc (.int .i64 x0)))]⟩
def z2w (a0 : Dgm) (w64 : List Int) : Int × List Int -> Option ((Int × List Int) ⊕ List Int)
 | (w85, w86) =>
 if w85 < (w64.length : Int) then
 (atI w64 w85).bind fun v101 =>
 z1b (z3n a0 w64 w85 w86 v101) LFm 0
 else
 z1m <|
 some w86
def z2v (a0 : Dgm) (w64 : List Int) : Int × List Int -> Fr
 | (w85, w86) => ⟨80, [(2, .one (.a 2 [] (0))), (5, .one (.h 5 [])), (8, .one (.h 8 [])), (45, .one (.h 5 [])), (46, .one (.t none (.sc (.int .i64 (w64.length : Int))))), (47, .one (.t none (.sc (.int .i64 w85))))], [(2, .vr [.sl a0.sets.length (a0.sets.map fun x0 => .sc (.int .i64 x0)), .sl a0.next.length (a0.next.map fun x0 => .sl x0.length (x0.map fun x1 => .sc (.int .i64 x1))), .sl a0.below.length (a0.below.map fun x0 => .sl x0.length (x0.map fun x1 => .sc (.bool x1)))]), (5, .os 1 w64.length (w64.map fun x0 => .sc (.int .i64 x0))), (8, .os 1 w86.length (w86.map fun x0 => .sc (.int .i64 x0)))]⟩
def z3t (a0 : Dgm) (a1 : Int) : Int × List Int -> Option ((Int × List Int) ⊕ List Int)
 | (w63, w64) =>
 if w63 < (a0.sets.length : Int) then
 (atI a0.sets w63).bind fun v68 =>
 if w63 = a1 then
 z0B (i64.wrap (w63 + 1), w64)
 else
 (atI a0.sets a1).bind fun v69 =>
 (z3y v69 v68).bind fun v70 =>
 if v70 = true then
 chk (z2i 8 (w64.length + 1)) <|
 z0B (i64.wrap (w63 + 1), w64 ++ [w63])
 else
 z0B (i64.wrap (w63 + 1), w64)
 else
 z1m <|
 z1b (z2w a0 w64) LFm (0, [])
def z2e (a0 : Dgm) (a1 : Int) : Int × List Int -> Fr
 | (w63, w64) => ⟨80, [(1, .one (.t none (.sc (.int .i64 a1)))), (2, .one (.a 2 [] (0))), (5, .one (.h 5 [])), (21, .one (.t none (.sl a0.sets.length (a0.sets.map fun x0 => .sc (.int .i64 x0))))), (22, .one (.t none (.sc (.int .i64 (a0.sets.length : Int))))), (23, .one (.t none (.sc (.int .i64 w63))))], [(2, .vr [.sl a0.sets.length (a0.sets.map fun x0 => .sc (.int .i64 x0)), .sl a0.next.length (a0.next.map fun x0 => .sl x0.length (x0.map fun x1 => .sc (.int .i64 x1))), .sl a0.below.length (a0.below.map fun x0 => .sl x0.length (x0.map fun x1 => .sc (.bool x1)))]), (5, .os 1 w64.length (w64.map fun x0 => .sc (.int .i64 x0)))]⟩
def z3q (a0 : Dgm) (a1 : Int) : Option (List Int) :=
 (atI a0.sets a1).bind fun v58 =>
 (z5T v58).bind fun v59 =>
 if v59 = 1 then
 some []
 else
 z1b (z3t a0 a1) LFm (0, [])
theorem z9q {a0 : Dgm} {a1 : Int} {r : List Int} (h0 : z3q a0 a1 = some r) : L 40 [.agg [.sl a0.sets.length (a0.sets.map fun x0 => .sc (.int .i64 x0)), .sl a0.next.length (a0.next.map fun x0 => .sl x0.length (x0.map fun x1 => .sc (.int .i64 x1))), .sl a0.below.length (a0.below.map fun x0 => .sl x0.length (x0.map fun x1 => .sc (.bool x1)))], .sc (.int .i64 a1)] = some (.os 1 r.length (r.map fun x0 => .sc (.int .i64 x0)), [.dead, .dead]) := by
  simp only [z3q] at h0
  refine z2F zAn zBQ (z1w zDC ⟨of_decide_eq_true rfl, of_decide_eq_true rfl⟩ ?_)
  simp only [z1E, z1C, z1B, z1F, z3u]
  refine zp (zs ?_)
  refine z0a (zw6 rfl (zp (zp ?_)))
  obtain ⟨v58, f94, h1⟩ := z0I h0
  obtain ⟨v59, f95, h2⟩ := z0d h1
  have f95k := zb0 f95
  try simp at f95k
  refine zr rfl rfl rfl (by simp [f94, f95k]; rfl) ?_
  refine z0a ?_
  by_cases c96 : v59 = 1
  ·rw [if_pos c96] at h2
   have c96e := eq_true c96
   refine z0t rfl (by simp [c96e]) (zp (zs ?_))
   refine z0a (z1f rfl (z0Q ?_))
   cases h2
   simp
  ·rw [if_neg c96] at h2
   have c96e := eq_false c96
   refine z0r rfl (by simp [c96e]) (z0j rfl (z0a (zp (zs ?_))))
   refine z0a (zp (zp (zs ?_)))
   refine z0a (zb rfl (z0C h2 (z2e a0 a1) rfl rfl (by simp [z2e]) fun s o1 h3 hr1 => ?_))
   obtain ⟨w63, w64⟩ := s
   simp only [z3t] at h3
   simp only [z2e]
   refine zp (zs ?_)
   refine z0a (zp ?_)
   by_cases c110 : w63 < (a0.sets.length : Int)
   ·rw [if_pos c110] at h3
    refine z0t rfl (by simp [c110]) (z0j rfl (z0a (zp (zb rfl (zp ?_)))))
    obtain ⟨v68, f111, h4⟩ := z0I h3
    refine zr rfl rfl rfl (by simp [f111]; rfl) ?_
    refine z0a (zp ?_)
    by_cases c112 : w63 = a1
    ·rw [if_pos c112] at h4
     have c112e := eq_true c112
     refine zr rfl rfl rfl (by simp [c112e]; rfl) ?_
     refine z0a (z0r rfl (by simp) (z0j rfl (z0h (z0a (zs ?_)))))
     have ho := z0c h4
     refine z0i ho ?_
     simp [z2e]
    ·rw [if_neg c112] at h4
     have c112e := eq_false c112
     obtain ⟨v69, f113, h5⟩ := z0I h4
     obtain ⟨v70, f114, h6⟩ := z0d h5
     have f114k := z5C f114
     try simp at f114k
     refine zr rfl rfl rfl (by simp [c112e, f113, f114k]; rfl) ?_
     refine z0a ?_
     by_cases c115 : v70 = true
     ·rw [if_pos c115] at h6
      refine z0t rfl (by simp [c115]) ?_
      obtain ⟨f116, h7⟩ := z5I h6
      refine zr rfl rfl rfl (by simp [f116]; rfl) ?_
      refine z0h (z0a (zs ?_))
      have ho := z0c h7
      refine z0i ho ?_
      simp [z2e, c115]
     ·rw [if_neg c115] at h6
      refine z0r rfl (by simp [c115]) (z0j rfl (z0h (z0a (zs ?_))))
      have ho := z0c h6
      refine z0i ho ?_
      simp [z2e, c115]
   ·rw [if_neg c110] at h3
    refine z0r rfl (by simp [c110]) (z0X rfl (z0w ?_))
    obtain ⟨rr1, h4, ho1⟩ := z0k h3
    have hs1 := hr1 _ ho1
    subst hs1
    refine z0s ho1 (z0g rfl (z0a (zp (zs ?_))))
    refine z0a (zp (zw7 rfl (z0a (zp (zp (zs ?_))))))
    refine z0a (zb rfl (z0C h4 (z2v a0 w64) rfl rfl (by simp [z2v]) fun s o2 h5 hr2 => ?_))
    obtain ⟨w85, w86⟩ := s
    simp only [z2w] at h5
    simp only [z2v]
    refine zp (zs ?_)
    refine z0a (zp ?_)
    by_cases c164 : w85 < (w64.length : Int)
    ·rw [if_pos c164] at h5
     refine z0t rfl (by simp [c164]) (z0j rfl (z0a (zp (zb rfl (zp ?_)))))
     obtain ⟨v101, f165, h6⟩ := z0I h5
     refine zr rfl rfl rfl (by simp [f165]; rfl) ?_
     refine z0a (zp (zp (zs ?_)))
     refine z0a (zb rfl (z0C h6 (z2u a0 w64 w85 w86 v101) rfl rfl (by simp [z2u]) fun s o3 h7 hr3 => ?_))
     obtain ⟨w106, hs3⟩ : ∃ y, y = s := ⟨_, rfl⟩
     subst hs3
     simp only [z3n] at h7
     simp only [z2u]
     refine zp (zs ?_)
     refine z0a (zp ?_)
     by_cases c180 : w106 < (w64.length : Int)
     ·rw [if_pos c180] at h7
      refine z0t rfl (by simp [c180]) (z0j rfl (z0a (zp (zb rfl (zp ?_)))))
      obtain ⟨v111, f181, h8⟩ := z0I h7
      refine zr rfl rfl rfl (by simp [f181]; rfl) ?_
      refine z0a (zp ?_)
      by_cases c182 : v111 = v101
      ·rw [if_pos c182] at h8
       have c182e := eq_true c182
       refine z1c rfl rfl rfl rfl ?_; repeat' (first | (refine z0q rfl rfl fun Q' hQ => ?_; simp [c182e]; refine hQ.out _ ?_; clear hQ; clear Q') | (refine z1g rfl rfl fun Q1 Q2 h1 h2 => ?_; simp [c182e, z1Q]; (first | refine h1.out ?_ | refine h2.out ?_); clear h1 h2; clear Q1 Q2; intro Q' hQ; simp [c182e]; refine hQ.out _ ?_; clear hQ; clear Q') | (refine z0m rfl fun Q' hQ => ?_; simp [c182e]; refine hQ.out _ ?_; clear hQ; clear Q'))
       refine z0a (z0r rfl (by simp) (z0j rfl (z0h (z0a (zs ?_)))))
       have ho := z0c h8
       refine z0i ho ?_
       simp [z2u]
      ·rw [if_neg c182] at h8
       have c182e := eq_false c182
       obtain ⟨v112, f183, h9⟩ := z0I h8
       obtain ⟨v113, f184, h10⟩ := z0I h9
       obtain ⟨v114, f185, h11⟩ := z0d h10
       have f185k := z5C f185
       try simp at f185k
       refine z1c rfl rfl rfl rfl ?_; repeat' (first | (refine z0q rfl rfl fun Q' hQ => ?_; simp [c182e, f183, f184, f185k]; refine hQ.out _ ?_; clear hQ; clear Q') | (refine z1g rfl rfl fun Q1 Q2 h1 h2 => ?_; simp [c182e, f183, f184, f185k, z1Q]; (first | refine h1.out ?_ | refine h2.out ?_); clear h1 h2; clear Q1 Q2; intro Q' hQ; simp [c182e, f183, f184, f185k]; refine hQ.out _ ?_; clear hQ; clear Q') | (refine z0m rfl fun Q' hQ => ?_; simp [c182e, f183, f184, f185k]; refine hQ.out _ ?_; clear hQ; clear Q'))
       refine z0a ?_
       by_cases c186 : v114 = true
       ·rw [if_pos c186] at h11
        refine z0t rfl (by simp [c186]) (z0X rfl (z9w rfl (z0w ?_)))
        obtain ⟨rr3, h12, ho3⟩ := z0k h11
        have hs3 := hr3 _ ho3
        subst hs3
        refine z0s ho3 (z9w rfl (z0w (z0g rfl (z0a (zs ?_)))))
        have ho := z0c h12
        refine z0i ho ?_
        simp [z2v, c186]
       ·rw [if_neg c186] at h11
        refine z0r rfl (by simp [c186]) (z0j rfl (z0h (z0a (zs ?_))))
        have ho := z0c h11
        refine z0i ho ?_
        simp [z2u, c186]
     ·rw [if_neg c180] at h7
      refine z0r rfl (by simp [c180]) (z0X rfl (z0w ?_))
      obtain ⟨rr3, h8, ho3⟩ := z0k h7
      have hs3 := hr3 _ ho3
      subst hs3
      refine z0s ho3 (z0g rfl (z0a ?_))
      obtain ⟨f187, h9⟩ := z5I h8
      refine zr rfl rfl rfl (by simp [f187]; rfl) ?_
      refine z0h (z0a (zs ?_))
      have ho := z0c h9
      refine z0i ho ?_
      simp [z2v]
    ·rw [if_neg c164] at h5
     refine z0r rfl (by simp [c164]) (z0X rfl (z0w ?_))
     obtain ⟨rr2, h6, ho2⟩ := z0k h5
     have hs2 := hr2 _ ho2
     subst hs2
     refine z0s ho2 (z0g rfl (z0a (zp (zs ?_))))
     refine z0a (z1f rfl ?_)
     cases h6
     simp
def z3j (a0 : List Int) (a1 : Int) : Int -> Option (Int ⊕ Int)
 | w6 =>
 if w6 < (a0.length : Int) then
 (atI a0 w6).bind fun v8 =>
 if a1 = v8 then
 z1m <|
 some w6
 else
 z0B (i64.wrap (w6 + 1))
 else
 z1m <|
 some (-1)
def z3i (a0 : List Int) (a1 : Int) : Int -> Fr
 | w6 => ⟨19, [(0, .one (.t none (.sl a0.length (a0.map fun x0 => .sc (.int .i64 x0))))), (1, .one (.t none (.sc (.int .i64 a1)))), (7, .one (.t none (.sc (.int .i64 (a0.length : Int))))), (8, .one (.t none (.sc (.int .i64 w6))))], []⟩
def z3E (a0 : List Int) (a1 : Int) : Option (Int) :=
 z1b (z3j a0 a1) LFm 0
theorem z8U {a0 : List Int} {a1 : Int} {r : Int} (h0 : z3E a0 a1 = some r) : L 74 [.sl a0.length (a0.map fun x0 => .sc (.int .i64 x0)), .sc (.int .i64 a1)] = some (.sc (.int .i64 r), [.dead, .dead]) := by
  simp only [z3E] at h0
  refine z2F zzX zBq (z1w zDc ⟨of_decide_eq_true rfl, of_decide_eq_true rfl⟩ ?_)
  simp only [z1E, z1C, z1B, z1F, z3u]
  refine zp (zs ?_)
  refine z0a (zp (zp (zs ?_)))
  refine z0a (zb rfl (z0C h0 (z3i a0 a1) rfl rfl (by simp [z3i]) fun s o1 h1 hr1 => ?_))
  obtain ⟨w6, hs1⟩ : ∃ y, y = s := ⟨_, rfl⟩
  subst hs1
  simp only [z3j] at h1
  simp only [z3i]
  refine zp (zs ?_)
  refine z0a (zp ?_)
  by_cases c16 : w6 < (a0.length : Int)
  ·rw [if_pos c16] at h1
   refine z0t rfl (by simp [c16]) (z0j rfl (z0a (zp (zb rfl (zp (zs ?_))))))
   refine z0a (zp ?_)
   obtain ⟨v8, f17, h2⟩ := z0I h1
   refine zr rfl rfl rfl (by simp [f17]; rfl) ?_
   refine z0a ?_
   by_cases c18 : a1 = v8
   ·rw [if_pos c18] at h2
    have c18e := eq_true c18
    refine z0t rfl (by simp [c18e]) (zp (zs ?_))
    refine z0a (z1f rfl (z1H (z0Q ?_)))
    obtain ⟨rr1, h3, ho1⟩ := z0k h2
    have hs1 := hr1 _ ho1
    subst hs1
    refine z3F ho1 (z1H (z0Q ?_))
    cases h3
    simp
   ·rw [if_neg c18] at h2
    have c18e := eq_false c18
    refine z0r rfl (by simp [c18e]) (z0j rfl (z0h (z0a (zs ?_))))
    have ho := z0c h2
    refine z0i ho ?_
    simp [z3i]
  ·rw [if_neg c16] at h1
   refine z0r rfl (by simp [c16]) (z0X rfl (z0w ?_))
   obtain ⟨rr1, h2, ho1⟩ := z0k h1
   have hs1 := hr1 _ ho1
   subst hs1
   refine z0s ho1 (z0g rfl (z0a (zp (zs ?_))))
   refine z0a (z1f rfl ?_)
   cases h2
   simp
def z2t (a0 : List Int) (a1 : Int) : Option (Bool) :=
 (z3E a0 a1).bind fun v2 =>
 some (decide (0 <= v2))
theorem z7C {a0 : List Int} {a1 : Int} {r : Bool} (h0 : z2t a0 a1 = some r) : L 63 [.sl a0.length (a0.map fun x0 => .sc (.int .i64 x0)), .sc (.int .i64 a1)] = some (.sc (.bool r), [.dead, .dead]) := by
  simp only [z2t] at h0
  refine z2F zA5 zBy (z1w zDk ⟨of_decide_eq_true rfl, of_decide_eq_true rfl⟩ ?_)
  simp only [z1E, z1C, z1B, z1F, z3u]
  refine zp (zs ?_)
  refine z0a (zp ?_)
  obtain ⟨v2, f2, h1⟩ := z0d h0
  have f2k := z8U f2
  try simp at f2k
  refine zr rfl rfl rfl (by simp [f2k]; rfl) ?_
  refine z0a (z1f rfl ?_)
  cases h1
  simp
def z6i (a0 : DFA) : Int × List Int -> Option ((Int × List Int) ⊕ List Int)
 | (w10, w11) =>
 if w10 < (a0.final.length : Int) then
 chk (¬ w10 < 0) <|
 (z2t w11 (zk4 .i64 1 w10)).bind fun v13 =>
 if v13 = true then
 z0B (i64.wrap (w10 + 1), w11)
 else
 chk (z2i 8 (w11.length + 1)) <|
 z0B (i64.wrap (w10 + 1), w11 ++ [zk4 .i64 1 w10])
 else
 z1m <|
 (zpT w11).bind fun v14 =>
 some v14
def z5f (a0 : DFA) : Int × List Int -> Fr
 | (w10, w11) => ⟨36, [(3, .one (.h 3 [])), (18, .one (.t none (.sc (.int .i64 (a0.final.length : Int))))), (19, .one (.t none (.sc (.int .i64 w10))))], [(3, .os 1 w11.length (w11.map fun x0 => .sc (.int .i64 x0)))]⟩
def z7F (a0 : DFA) : Option (List Int) :=
 chk (¬ (a0.final.length : Int) < 0) <|
 (z6G a0 (i64.wrap ((zk4 .i64 1 (a0.final.length : Int)) - 1))).bind fun v8 =>
 z1b (z6i a0) LFm (0, v8.1)
theorem zif {a0 : DFA} {r : List Int} (h0 : z7F a0 = some r) : L 36 [.agg [.sc (.int .i64 a0.letters), .sc (.int .i64 a0.start), .sl a0.final.length (a0.final.map fun x0 => .sc (.bool x0)), .sl a0.next.length (a0.next.map fun x0 => .sl x0.length (x0.map fun x1 => .sc (.int .i64 x1)))]] = some (.os 1 r.length (r.map fun x0 => .sc (.int .i64 x0)), [.dead]) := by
  simp only [z7F] at h0
  refine z2F zAr zBU (z1w zDG ⟨of_decide_eq_true rfl, of_decide_eq_true rfl⟩ ?_)
  simp only [z1E, z1C, z1B, z1F, z3u]
  refine zp (zs ?_)
  refine z0a (zp ?_)
  obtain ⟨f18, h1⟩ := z1M h0
  obtain ⟨v8, f19, h2⟩ := z0d h1
  have f19k := zhF f19
  try simp at f19k
  refine z1c rfl rfl rfl rfl ?_; repeat' ((first | refine z0q rfl rfl fun Q' hQ => ?_ | refine z0m rfl fun Q' hQ => ?_); simp [f18, f19k]; refine hQ.out _ ?_; clear hQ; clear Q')
  refine z0a (zp (zp (zs ?_)))
  refine z0a (zb rfl (z0C h2 (z5f a0) rfl rfl (by simp [z5f]) fun s o1 h3 hr1 => ?_))
  obtain ⟨w10, w11⟩ := s
  simp only [z6i] at h3
  simp only [z5f]
  refine zp (zs ?_)
  refine z0a (zp ?_)
  by_cases c29 : w10 < (a0.final.length : Int)
  ·rw [if_pos c29] at h3
   refine z0t rfl (by simp [c29]) (z0j rfl (z0a (zp (zb rfl (zp (zs ?_))))))
   refine z0a (zp ?_)
   obtain ⟨f30, h4⟩ := z1M h3
   obtain ⟨v13, f31, h5⟩ := z0d h4
   have f31k := z7C f31
   try simp at f31k
   refine zr rfl rfl rfl (by simp [f30, f31k]; rfl) ?_
   refine z0a ?_
   by_cases c32 : v13 = true
   ·rw [if_pos c32] at h5
    refine z0r rfl (by simp [c32]) (z0j rfl (z0h (z0a (zs ?_))))
    have ho := z0c h5
    refine z0i ho ?_
    simp [z5f, c32]
   ·rw [if_neg c32] at h5
    refine z0t rfl (by simp [c32]) ?_
    obtain ⟨f33, h6⟩ := z5I h5
    refine zr rfl rfl rfl (by simp [f30, f33]; rfl) ?_
    refine z0h (z0a (zs ?_))
    have ho := z0c h6
    refine z0i ho ?_
    simp [z5f, c32]
  ·rw [if_neg c29] at h3
   refine z0r rfl (by simp [c29]) (z0X rfl (z0w ?_))
   obtain ⟨rr1, h4, ho1⟩ := z0k h3
   have hs1 := hr1 _ ho1
   subst hs1
   refine z0s ho1 (z0g rfl (z0a (zp ?_)))
   obtain ⟨v14, f34, h5⟩ := z0d h4
   have f34k := zum f34
   try simp at f34k
   refine zr rfl rfl rfl (by simp [f34k]; rfl) ?_
   refine z0a (zp (zs ?_))
   refine z0a (z1f rfl ?_)
   cases h5
   simp
def z5E (v69 : List Int) (v71 : List Int × List Int) (w107 : Int) (v123 : List Int × List ByteArray) : Int × List ByteArray -> Option ((Int × List ByteArray) ⊕ ((Int × List ByteArray) ⊕ (Imgs × Int)))
 | (w127, w128) =>
 if w127 < (v69.length : Int) then
 (atI v71.1 w127).bind fun v132 =>
 if v132 = w107 then
 (atI v123.2 w127).bind fun v133 =>
 (atI w128 w127).bind fun v134 =>
 z0B (i64.wrap (w127 + 1), (w128.set w127.toNat v133))
 else
 z0B (i64.wrap (w127 + 1), w128)
 else
 z1m <|
 z0B (i64.wrap (w107 + 1), w128)
def z5D (v69 : List Int) (v70 : Dgm) (v71 : List Int × List Int) (v72 : List Int) (w79 : List (List Int)) (w80 : List ByteArray) (w107 : Int) (v123 : List Int × List ByteArray) : Int × List ByteArray -> Fr
 | (w127, w128) => ⟨120, [(2, .one (.a 2 [] (0))), (5, .one (.t none (.sl v69.length (v69.map fun x0 => .sc (.int .i64 x0))))), (7, .one (.a 7 [] (0))), (8, .one (.t none (.sl v71.1.length (v71.1.map fun x0 => .sc (.int .i64 x0))))), (10, .one (.a 10 [] (0))), (14, .one (.t none (.sc (.int .i64 w107)))), (17, .one (.h 17 [])), (85, .one (.h 9 [])), (86, .one (.t none (.sc (.int .i64 (v71.2.length : Int))))), (87, .one (.t none (.sc (.int .i64 w107)))), (99, .one (.t none (.sc (.int .i64 (v69.length : Int))))), (100, .one (.t none (.sc (.int .i64 w127))))], [(2, .vr [.os 1 0 [], .os 1 0 [], .os 1 0 [], .os 1 0 [], .os 1 0 [], .os 1 0 []]), (7, .vr [.sl v70.sets.length (v70.sets.map fun x0 => .sc (.int .i64 x0)), .os 1 v70.next.length (v70.next.map fun x0 => .os 1 x0.length (x0.map fun x1 => .sc (.int .i64 x1))), .os 1 v70.below.length (v70.below.map fun x0 => .os 1 x0.length (x0.map fun x1 => .sc (.bool x1)))]), (10, .vr [.sl v69.length (v69.map fun x0 => .sc (.int .i64 x0)), .sl v71.1.length (v71.1.map fun x0 => .sc (.int .i64 x0)), .os 1 v72.length (v72.map fun x0 => .sc (.int .i64 x0)), .os 1 w79.length (w79.map fun x0 => .os 1 x0.length (x0.map fun x1 => .sc (.int .i64 x1))), .os 1 w128.length (w128.map fun x0 => .sc (.string x0)), .os 1 w80.length (w80.map fun x0 => .sc (.string x0))]), (17, .os 1 v123.2.length (v123.2.map fun x0 => .sc (.string x0))), (9, .os 1 v71.2.length (v71.2.map fun x0 => .sc (.int .i64 x0)))]⟩
def z7i (v69 : List Int) (v70 : Dgm) (v71 : List Int × List Int) (v72 : List Int) (w79 : List (List Int)) (w80 : List ByteArray) : Int × List ByteArray -> Option ((Int × List ByteArray) ⊕ (Imgs × Int))
 | (w107, w108) =>
 if w107 < (v71.2.length : Int) then
 (atI v71.2 w107).bind fun v122 =>
 (z2a v70 v122).bind fun v123 =>
 z1b (z5E v69 v71 w107 v123) LFm (0, w108)
 else
 z1m <|
 some ((⟨v69, v71.1, v72, w79, w108, w80⟩ : Imgs), 0)
def z7g (v69 : List Int) (v70 : Dgm) (v71 : List Int × List Int) (v72 : List Int) (w79 : List (List Int)) (w80 : List ByteArray) : Int × List ByteArray -> Fr
 | (w107, w108) => ⟨120, [(2, .one (.a 2 [] (0))), (5, .one (.t none (.sl v69.length (v69.map fun x0 => .sc (.int .i64 x0))))), (7, .one (.a 7 [] (0))), (8, .one (.t none (.sl v71.1.length (v71.1.map fun x0 => .sc (.int .i64 x0))))), (10, .one (.a 10 [] (0))), (85, .one (.h 9 [])), (86, .one (.t none (.sc (.int .i64 (v71.2.length : Int))))), (87, .one (.t none (.sc (.int .i64 w107))))], [(2, .vr [.os 1 0 [], .os 1 0 [], .os 1 0 [], .os 1 0 [], .os 1 0 [], .os 1 0 []]), (7, .vr [.sl v70.sets.length (v70.sets.map fun x0 => .sc (.int .i64 x0)), .os 1 v70.next.length (v70.next.map fun x0 => .os 1 x0.length (x0.map fun x1 => .sc (.int .i64 x1))), .os 1 v70.below.length (v70.below.map fun x0 => .os 1 x0.length (x0.map fun x1 => .sc (.bool x1)))]), (10, .vr [.sl v69.length (v69.map fun x0 => .sc (.int .i64 x0)), .sl v71.1.length (v71.1.map fun x0 => .sc (.int .i64 x0)), .os 1 v72.length (v72.map fun x0 => .sc (.int .i64 x0)), .os 1 w79.length (w79.map fun x0 => .os 1 x0.length (x0.map fun x1 => .sc (.int .i64 x1))), .os 1 w108.length (w108.map fun x0 => .sc (.string x0)), .os 1 w80.length (w80.map fun x0 => .sc (.string x0))]), (9, .os 1 v71.2.length (v71.2.map fun x0 => .sc (.int .i64 x0)))]⟩
def z7j (v69 : List Int) (v70 : Dgm) (v71 : List Int × List Int) (v72 : List Int) : Int × List (List Int) × List ByteArray -> Option ((Int × List (List Int) × List ByteArray) ⊕ (Imgs × Int))
 | (w78, w79, w80) =>
 if w78 < (v69.length : Int) then
 (z3q v70 w78).bind fun v88 =>
 (atI w79 w78).bind fun v89 =>
 (z2a v70 w78).bind fun v90 =>
 (atI v71.1 w78).bind fun v91 =>
 (atI v71.2 v91).bind fun v92 =>
 (atI v90.2 v92).bind fun v93 =>
 (atI w80 w78).bind fun v94 =>
 z0B (i64.wrap (w78 + 1), (w79.set w78.toNat v88), (w80.set w78.toNat v93))
 else
 z1m <|
 z1b (z7i v69 v70 v71 v72 w79 w80) LFm (0, List.replicate (v69.length : Int).toNat (ByteArray.empty : ByteArray))
def z7h (v69 : List Int) (v70 : Dgm) (v71 : List Int × List Int) (v72 : List Int) : Int × List (List Int) × List ByteArray -> Fr
 | (w78, w79, w80) => ⟨120, [(2, .one (.a 2 [] (0))), (5, .one (.t none (.sl v69.length (v69.map fun x0 => .sc (.int .i64 x0))))), (7, .one (.a 7 [] (0))), (8, .one (.t none (.sl v71.1.length (v71.1.map fun x0 => .sc (.int .i64 x0))))), (9, .one (.h 9 [])), (10, .one (.a 10 [] (0))), (53, .one (.t none (.sc (.int .i64 (v69.length : Int))))), (54, .one (.t none (.sc (.int .i64 w78))))], [(2, .vr [.os 1 0 [], .os 1 0 [], .os 1 0 [], .os 1 0 [], .os 1 0 [], .os 1 0 []]), (7, .vr [.sl v70.sets.length (v70.sets.map fun x0 => .sc (.int .i64 x0)), .os 1 v70.next.length (v70.next.map fun x0 => .os 1 x0.length (x0.map fun x1 => .sc (.int .i64 x1))), .os 1 v70.below.length (v70.below.map fun x0 => .os 1 x0.length (x0.map fun x1 => .sc (.bool x1)))]), (9, .os 1 v71.2.length (v71.2.map fun x0 => .sc (.int .i64 x0))), (10, .vr [.sl v69.length (v69.map fun x0 => .sc (.int .i64 x0)), .sl v71.1.length (v71.1.map fun x0 => .sc (.int .i64 x0)), .os 1 v72.length (v72.map fun x0 => .sc (.int .i64 x0)), .os 1 w79.length (w79.map fun x0 => .os 1 x0.length (x0.map fun x1 => .sc (.int .i64 x1))), .os 1 (List.replicate (v69.length : Int).toNat (ByteArray.empty : ByteArray)).length ((List.replicate (v69.length : Int).toNat (ByteArray.empty : ByteArray)).map fun x0 => .sc (.string x0)), .os 1 w80.length (w80.map fun x0 => .sc (.string x0))])]⟩
def z7G (a0 : DFA) : Option (Imgs × Int) :=
 (z4F a0).bind fun v68 =>
 if v68 = 0 then
 (z7F a0).bind fun v69 =>
 if 400 < (v69.length : Int) then
 some ((⟨[], [], [], [], [], []⟩ : Imgs), 3)
 else
 (z4f a0 v69).bind fun v70 =>
 (z2P v70).bind fun v71 =>
 (z2O v70 v71.1).bind fun v72 =>
 chk (z2k 24 (v69.length : Int)) <|
 chk (z2k 16 (v69.length : Int)) <|
 z1b (z7j v69 v70 v71 v72) LFm (0, List.replicate (v69.length : Int).toNat ([] : List Int), List.replicate (v69.length : Int).toNat (ByteArray.empty : ByteArray))
 else
 some ((⟨[], [], [], [], [], []⟩ : Imgs), v68)
theorem zmU {a0 : DFA} {r : Imgs × Int} (h0 : z7G a0 = some r) : L 14 [.agg [.sc (.int .i64 a0.letters), .sc (.int .i64 a0.start), .sl a0.final.length (a0.final.map fun x0 => .sc (.bool x0)), .sl a0.next.length (a0.next.map fun x0 => .sl x0.length (x0.map fun x1 => .sc (.int .i64 x1)))]] = some (.tup [.agg [.sl r.1.sets.length (r.1.sets.map fun x0 => .sc (.int .i64 x0)), .sl r.1.class_.length (r.1.class_.map fun x0 => .sc (.int .i64 x0)), .sl r.1.height.length (r.1.height.map fun x0 => .sc (.int .i64 x0)), .sl r.1.tiles.length (r.1.tiles.map fun x0 => .sl x0.length (x0.map fun x1 => .sc (.int .i64 x1))), .sl r.1.words.length (r.1.words.map fun x0 => .sc (.string x0)), .sl r.1.back.length (r.1.back.map fun x0 => .sc (.string x0))], .sc (.int .i64 r.2)], [.dead]) := by
  simp only [z7G] at h0
  refine z2F zAF zAT (zuJ zAZ ⟨of_decide_eq_true rfl, of_decide_eq_true rfl⟩ rfl ?_)
  simp only [z1E, z1C, z1B, z1F, z3u]
  refine zp (zs ?_)
  refine z0a (zp (zp ?_))
  obtain ⟨v68, f87, h1⟩ := z0d h0
  have f87k := zdc f87
  try simp at f87k
  refine zr rfl rfl rfl (by simp [f87k]; rfl) ?_
  refine z0a (zp (zs ?_))
  refine z0a ?_
  by_cases c88 : v68 = 0
  ·rw [if_pos c88] at h1
   have c88e := eq_true c88
   refine z0r rfl (by simp [c88e]) (z0j rfl (z0a (zp ?_)))
   obtain ⟨v69, f89, h2⟩ := z0d h1
   have f89k := zif f89
   try simp at f89k
   refine zr rfl rfl rfl (by simp [f89k]; rfl) ?_
   refine z0a (zp (zs ?_))
   refine z0a (zp (zp (zs ?_)))
   refine z0a ?_
   by_cases c90 : 400 < (v69.length : Int)
   ·rw [if_pos c90] at h2
    refine z0t rfl (by simp [c90]) (zp (zs ?_))
    refine z0a (z1f rfl (z0Q ?_))
    cases h2
    simp
   ·rw [if_neg c90] at h2
    refine z0r rfl (by simp [c90]) (z0j rfl (z0a (zp (zeX rfl rfl (by simp; rfl) ?_))))
    obtain ⟨v70, f91, h3⟩ := z0d h2
    have f91k := zaT f91
    try simp at f91k
    refine zr rfl rfl rfl (by simp [f91k]; rfl) ?_
    refine z0a (zp ?_)
    obtain ⟨v71, f92, h4⟩ := z0d h3
    have f92k := z8l f92
    try simp at f92k
    refine zr rfl rfl rfl (by simp [f92k]; rfl) ?_
    refine z0a (zp (zeX rfl rfl (by simp; rfl) ?_))
    obtain ⟨v72, f93, h5⟩ := z0d h4
    have f93k := z8k f93
    try simp at f93k
    obtain ⟨f94, h6⟩ := zng h5
    obtain ⟨f95, h7⟩ := zng h6
    refine zeQ rfl rfl rfl rfl ?_
    refine zm6 [(0, 0, 0, 1), (1, 1, 0, 2), (2, 2, 0, 3), (3, 3, 0, 4), (4, 5, 0, 5), (5, 7, 0, 6), (6, 9, 0, 7), (7, 4, 1, 8), (7, 6, 1, 9), (7, 8, 1, 10), (7, 10, 1, 11), (7, 12, 1, 12), (8, 6, 1, 13), (8, 8, 1, 14), (8, 10, 1, 15), (8, 12, 1, 16), (9, 4, 1, 13), (9, 8, 1, 17), (9, 10, 1, 18), (9, 12, 1, 19), (10, 4, 1, 14), (10, 6, 1, 17), (10, 10, 1, 20), (10, 12, 1, 21), (11, 4, 1, 15), (11, 6, 1, 18), (11, 8, 1, 20), (11, 12, 1, 22), (12, 4, 1, 16), (12, 6, 1, 19), (12, 8, 1, 21), (12, 10, 1, 22), (13, 8, 1, 23), (13, 10, 1, 24), (13, 12, 1, 25), (14, 6, 1, 23), (14, 10, 1, 26), (14, 12, 1, 27), (15, 6, 1, 24), (15, 8, 1, 26), (15, 12, 1, 28), (16, 6, 1, 25), (16, 8, 1, 27), (16, 10, 1, 28), (17, 4, 1, 23), (17, 10, 1, 29), (17, 12, 1, 30), (18, 4, 1, 24), (18, 8, 1, 29), (18, 12, 1, 31), (19, 4, 1, 25), (19, 8, 1, 30), (19, 10, 1, 31), (20, 4, 1, 26), (20, 6, 1, 29), (20, 12, 1, 32), (21, 4, 1, 27), (21, 6, 1, 30), (21, 10, 1, 32), (22, 4, 1, 28), (22, 6, 1, 31), (22, 8, 1, 32), (23, 10, 1, 33), (23, 12, 1, 34), (24, 8, 1, 33), (24, 12, 1, 35), (25, 8, 1, 34), (25, 10, 1, 35), (26, 6, 1, 33), (26, 12, 1, 36), (27, 6, 1, 34), (27, 10, 1, 36), (28, 6, 1, 35), (28, 8, 1, 36), (29, 4, 1, 33), (29, 12, 1, 37), (30, 4, 1, 34), (30, 10, 1, 37), (31, 4, 1, 35), (31, 8, 1, 37), (32, 4, 1, 36), (32, 6, 1, 37), (33, 11, 0, 38), (34, 10, 1, 39), (35, 8, 1, 39), (36, 6, 1, 39), (37, 4, 1, 39), (38, 12, 1, 40), (39, 11, 0, 40), (40, 13, 2, 41)] 41 (by kernel_rfl) ?_
    iterate 16 (refine z0n rfl rfl rfl rfl (by simp [z0f, z0e, f93k, f94, f95]; rfl) ?_)
    refine z0p rfl rfl rfl rfl (by simp [z0f, z0e, f93k, f94, f95]) ?_
    iterate 3 (refine z0n rfl rfl rfl rfl (by simp [z0f, z0e, f93k, f94, f95]; rfl) ?_)
    refine z0p rfl rfl rfl rfl (by simp [z0f, z0e, f93k, f94, f95]) ?_
    refine z0p rfl rfl rfl rfl (by simp [z0f, z0e, f93k, f94, f95]) ?_
    refine z0n rfl rfl rfl rfl (by simp [z0f, z0e, f93k, f94, f95]; rfl) ?_
    refine z0n rfl rfl rfl rfl (by simp [z0f, z0e, f93k, f94, f95]; rfl) ?_
    iterate 3 (refine z0p rfl rfl rfl rfl (by simp [z0f, z0e, f93k, f94, f95]) ?_)
    refine z0n rfl rfl rfl rfl (by simp [z0f, z0e, f93k, f94, f95]; rfl) ?_
    iterate 4 (refine z0p rfl rfl rfl rfl (by simp [z0f, z0e, f93k, f94, f95]) ?_)
    iterate 3 (refine z0n rfl rfl rfl rfl (by simp [z0f, z0e, f93k, f94, f95]; rfl) ?_)
    refine z0p rfl rfl rfl rfl (by simp [z0f, z0e, f93k, f94, f95]) ?_
    refine z0n rfl rfl rfl rfl (by simp [z0f, z0e, f93k, f94, f95]; rfl) ?_
    refine z0n rfl rfl rfl rfl (by simp [z0f, z0e, f93k, f94, f95]; rfl) ?_
    refine z0p rfl rfl rfl rfl (by simp [z0f, z0e, f93k, f94, f95]) ?_
    refine z0p rfl rfl rfl rfl (by simp [z0f, z0e, f93k, f94, f95]) ?_
    refine z0n rfl rfl rfl rfl (by simp [z0f, z0e, f93k, f94, f95]; rfl) ?_
    iterate 4 (refine z0p rfl rfl rfl rfl (by simp [z0f, z0e, f93k, f94, f95]) ?_)
    refine z0n rfl rfl rfl rfl (by simp [z0f, z0e, f93k, f94, f95]; rfl) ?_
    refine z0n rfl rfl rfl rfl (by simp [z0f, z0e, f93k, f94, f95]; rfl) ?_
    refine z0p rfl rfl rfl rfl (by simp [z0f, z0e, f93k, f94, f95]) ?_
    refine z0p rfl rfl rfl rfl (by simp [z0f, z0e, f93k, f94, f95]) ?_
    refine z0n rfl rfl rfl rfl (by simp [z0f, z0e, f93k, f94, f95]; rfl) ?_
    iterate 5 (refine z0p rfl rfl rfl rfl (by simp [z0f, z0e, f93k, f94, f95]) ?_)
    refine z0n rfl rfl rfl rfl (by simp [z0f, z0e, f93k, f94, f95]; rfl) ?_
    iterate 6 (refine z0p rfl rfl rfl rfl (by simp [z0f, z0e, f93k, f94, f95]) ?_)
    refine z0n rfl rfl rfl rfl (by simp [z0f, z0e, f93k, f94, f95]; rfl) ?_
    refine z0n rfl rfl rfl rfl (by simp [z0f, z0e, f93k, f94, f95]; rfl) ?_
    refine z0p rfl rfl rfl rfl (by simp [z0f, z0e, f93k, f94, f95]) ?_
    refine z0n rfl rfl rfl rfl (by simp [z0f, z0e, f93k, f94, f95]; rfl) ?_
    iterate 3 (refine z0p rfl rfl rfl rfl (by simp [z0f, z0e, f93k, f94, f95]) ?_)
    refine z0n rfl rfl rfl rfl (by simp [z0f, z0e, f93k, f94, f95]; rfl) ?_
    iterate 5 (refine z0p rfl rfl rfl rfl (by simp [z0f, z0e, f93k, f94, f95]) ?_)
    refine z0n rfl rfl rfl rfl (by simp [z0f, z0e, f93k, f94, f95]; rfl) ?_
    iterate 6 (refine z0p rfl rfl rfl rfl (by simp [z0f, z0e, f93k, f94, f95]) ?_)
    refine z0n rfl rfl rfl rfl (by simp [z0f, z0e, f93k, f94, f95]; rfl) ?_
    refine z0n rfl rfl rfl rfl (by simp [z0f, z0e, f93k, f94, f95]; rfl) ?_
    iterate 3 (refine z0p rfl rfl rfl rfl (by simp [z0f, z0e, f93k, f94, f95]) ?_)
    refine z0n rfl rfl rfl rfl (by simp [z0f, z0e, f93k, f94, f95]; rfl) ?_
    refine z0p rfl rfl rfl rfl (by simp [z0f, z0e, f93k, f94, f95]) ?_
    refine z0n rfl rfl rfl rfl (by simp [z0f, z0e, f93k, f94, f95]; rfl) ?_
    refine zn4 rfl ?_
    refine zeM rfl (by simp [f93k, f94, f95]; rfl) ?_
    refine z0a (zp (zp (zs ?_)))
    refine z0a (zb rfl (z0C h7 (z7h v69 v70 v71 v72) rfl rfl (by simp [z7h]) fun s o1 h8 hr1 => ?_))
    obtain ⟨w78, w79, w80⟩ := s
    simp only [z7j] at h8
    simp only [z7h]
    refine zp (zs ?_)
    refine z0a (zp ?_)
    by_cases c111 : w78 < (v69.length : Int)
    ·rw [if_pos c111] at h8
     refine z0t rfl (by simp [c111]) (z0j rfl (z0a (zp (zb rfl (zp (zs ?_))))))
     refine z0a (zp ?_)
     obtain ⟨v88, f112, h9⟩ := z0d h8
     have f112k := z9q f112
     try simp at f112k
     obtain ⟨v89, f113, h10⟩ := z0I h9
     refine z1c rfl rfl rfl rfl ?_; repeat' ((first | refine z0q rfl rfl fun Q' hQ => ?_ | refine z0m rfl fun Q' hQ => ?_); simp [f112k, f113]; refine hQ.out _ ?_; clear hQ; clear Q')
     refine z0a (zp ?_)
     obtain ⟨v90, f114, h11⟩ := z0d h10
     have f114k := z4g f114
     try simp at f114k
     refine zr rfl rfl rfl (by simp [f114k]; rfl) ?_
     refine z0a ?_
     obtain ⟨v91, f115, h12⟩ := z0I h11
     obtain ⟨v92, f116, h13⟩ := z0I h12
     obtain ⟨v93, f117, h14⟩ := z0I h13
     obtain ⟨v94, f118, h15⟩ := z0I h14
     refine z1c rfl rfl rfl rfl ?_; repeat' ((first | refine z0q rfl rfl fun Q' hQ => ?_ | refine z0m rfl fun Q' hQ => ?_); simp [f115, f116, f117, f118]; refine hQ.out _ ?_; clear hQ; clear Q')
     refine z0h (z0a (zs ?_))
     have ho := z0c h15
     refine z0i ho ?_
     simp [z7h]
    ·rw [if_neg c111] at h8
     refine z0r rfl (by simp [c111]) (z0X rfl (z0w ?_))
     obtain ⟨rr1, h9, ho1⟩ := z0k h8
     have hs1 := hr1 _ ho1
     subst hs1
     refine z0s ho1 (z0g rfl (z0a (zp (zp (zs ?_)))))
     refine z0a (zb rfl (z0C h9 (z7g v69 v70 v71 v72 w79 w80) rfl rfl (by simp [z7g]) fun s o2 h10 hr2 => ?_))
     obtain ⟨w107, w108⟩ := s
     simp only [z7i] at h10
     simp only [z7g]
     refine zp (zs ?_)
     refine z0a (zp ?_)
     by_cases c155 : w107 < (v71.2.length : Int)
     ·rw [if_pos c155] at h10
      refine z0t rfl (by simp [c155]) (z0j rfl (z0a (zp (zb rfl (zp ?_)))))
      obtain ⟨v122, f156, h11⟩ := z0I h10
      refine zr rfl rfl rfl (by simp [f156]; rfl) ?_
      refine z0a (zp ?_)
      obtain ⟨v123, f157, h12⟩ := z0d h11
      have f157k := z4g f157
      try simp at f157k
      refine zr rfl rfl rfl (by simp [f157k]; rfl) ?_
      refine z0a (zp (zs ?_))
      refine z0a (zb rfl (z0C h12 (z5D v69 v70 v71 v72 w79 w80 w107 v123) rfl rfl (by simp [z5D]) fun s o3 h13 hr3 => ?_))
      obtain ⟨w127, w128⟩ := s
      simp only [z5E] at h13
      simp only [z5D]
      refine zp (zs ?_)
      refine z0a (zp ?_)
      by_cases c168 : w127 < (v69.length : Int)
      ·rw [if_pos c168] at h13
       refine z0t rfl (by simp [c168]) (z0j rfl (z0a (zp (zb rfl (zp (zs ?_))))))
       refine z0a (zp ?_)
       obtain ⟨v132, f169, h14⟩ := z0I h13
       refine zr rfl rfl rfl (by simp [f169]; rfl) ?_
       refine z0a ?_
       by_cases c170 : v132 = w107
       ·rw [if_pos c170] at h14
        have c170e := eq_true c170
        refine z0t rfl (by simp [c170e]) ?_
        obtain ⟨v133, f171, h15⟩ := z0I h14
        obtain ⟨v134, f172, h16⟩ := z0I h15
        refine z1c rfl rfl rfl rfl ?_; repeat' ((first | refine z0q rfl rfl fun Q' hQ => ?_ | refine z0m rfl fun Q' hQ => ?_); simp [f171, f172]; refine hQ.out _ ?_; clear hQ; clear Q')
        refine z0h (z0a (zs ?_))
        have ho := z0c h16
        refine z0i ho ?_
        simp [z5D]
       ·rw [if_neg c170] at h14
        have c170e := eq_false c170
        refine z0r rfl (by simp [c170e]) (z0j rfl (z0h (z0a (zs ?_))))
        have ho := z0c h14
        refine z0i ho ?_
        simp [z5D]
      ·rw [if_neg c168] at h13
       refine z0r rfl (by simp [c168]) (z0X rfl (z0w ?_))
       obtain ⟨rr3, h14, ho3⟩ := z0k h13
       have hs3 := hr3 _ ho3
       subst hs3
       refine z0s ho3 (z0g rfl (z0h (z0a (zs ?_))))
       have ho := z0c h14
       refine z0i ho ?_
       simp [z7g]
     ·rw [if_neg c155] at h10
      refine z0r rfl (by simp [c155]) (z0X rfl (z0w ?_))
      obtain ⟨rr2, h11, ho2⟩ := z0k h10
      have hs2 := hr2 _ ho2
      subst hs2
      refine z0s ho2 (z0g rfl (z0a (zp (zs ?_))))
      refine z0a (z1f rfl ?_)
      cases h11
      simp
  ·rw [if_neg c88] at h1
   have c88e := eq_false c88
   refine z0t rfl (by simp [c88e]) (zp (zs ?_))
   refine z0a (z1f rfl (z0Q ?_))
   cases h1
   simp
end
end Go.Proofs.Ytbnnipkanechoaa
end
section
namespace Go.Proofs.Ytbnnipkanechoaa
open Go
set_option maxRecDepth 100000
theorem zeI (a b : Nat) : zrD a b = true ↔ (szN b < szN a ∨ (szN a = szN b /\ a <= b)) := by unfold zrD; simp
theorem zop (a b : Nat) : zrD a b = false ↔ ¬ (szN b < szN a ∨ (szN a = szN b /\ a <= b)) := by rw [← zeI]; simp
def zuZ (x : Nat) : List Nat -> List Nat
 | [] => [x]
 | y :: l => if zrD x y = true then x :: y :: l else y :: zuZ x l
def zk3 : List Nat -> List Nat
 | [] => []
 | x :: l => zuZ x (zk3 l)
abbrev znh (l : List Nat) : Prop := l.Pairwise fun a b => zrD a b = true
theorem zpc (x : Nat) : ∀ l : List Nat, zv0 (x : Int) (toI l) = toI (zuZ x l)
 | [] => rfl
 | y :: l => by
  have ih := zpc x l
  have e : leI (x : Int) (y : Int) = zrD x y := by simp [leI]
  simp only [toI, List.map_cons, zv0, zuZ] at ih ⊢
  rw [e]
  by_cases h : zrD x y = true
  ·rw [if_pos h, if_pos h]; rfl
  ·rw [if_neg h, if_neg h, ih]; rfl
theorem zmg : ∀ l : List Nat, zcO (toI l) = toI (zk3 l)
 | [] => rfl
 | x :: l => by
  have ih := zmg l
  simp only [toI, List.map_cons, zcO, zk3] at ih ⊢
  rw [ih]; exact zpc x (zk3 l)
theorem zhA (x : Nat) : ∀ l : List Nat, (zuZ x l).Perm (x :: l)
 | [] => .refl _
 | y :: l => by
  unfold zuZ
  split
  ·exact .refl _
  ·exact ((zhA x l).cons y).trans (.swap x y l)
theorem zaE : ∀ l : List Nat, (zk3 l).Perm l
 | [] => .refl _
 | x :: l => (zhA x (zk3 l)).trans ((zaE l).cons x)
theorem zhz (x : Nat) : ∀ l : List Nat, znh l -> znh (zuZ x l)
 | [], _ => by simp [zuZ]
 | y :: l, h => by
  unfold zuZ
  rw [znh, List.pairwise_cons] at h
  split
  ·rename_i hxy
   refine List.pairwise_cons.2 ⟨fun z hz => ?_, List.pairwise_cons.2 h⟩
   rcases List.mem_cons.1 hz with rfl | hz
   ·exact hxy
   ·have := h.1 z hz
    rw [zeI] at *
    omega
  ·rename_i hxy
   refine List.pairwise_cons.2 ⟨fun z hz => ?_, zhz x l h.2⟩
   rcases List.mem_cons.1 ((zhA x l).mem_iff.1 hz) with rfl | hz
   ·rw [zeI] at *
    omega
   ·exact h.1 z hz
theorem z9P : ∀ l : List Nat, znh (zk3 l)
 | [] => by simp [zk3]
 | x :: l => zhz x _ (z9P l)
theorem zjh : ∀ {l1 l2 : List Nat}, l1.Perm l2 -> znh l1 -> znh l2 -> l1 = l2
 | [], l2, h, _, _ => by rw [List.nil_perm] at h; exact h.symm
 | a :: l1, [], h, _, _ => by simp at h
 | a :: l1, b :: l2, h, h1, h2 => by
  have hab : a = b := by
   rcases List.mem_cons.1 (h.mem_iff.1 (List.mem_cons_self ..)) with e | ha
   ·exact e
   ·rcases List.mem_cons.1 (h.mem_iff.2 (List.mem_cons_self ..)) with e | hb
    ·exact e.symm
    ·have e1 := (List.pairwise_cons.1 h2).1 a ha
     have e2 := (List.pairwise_cons.1 h1).1 b hb
     rw [zeI] at e1 e2
     omega
  subst hab
  rw [zjh (List.perm_cons a |>.1 h) (List.pairwise_cons.1 h1).2 (List.pairwise_cons.1 h2).2]
def z8o (S : List Nat) : Nat -> List Nat
 | 0 => S
 | q + 1 => if 2 ^ q ∈ z8o S q then z8o S q else z8o S q ++ [2 ^ q]
theorem z6a {S : List Nat} (hS : S.Nodup) : ∀ q, (z8o S q).Nodup /\ (∀ x, x ∈ z8o S q ↔ x ∈ S ∨ ∃ i, i < q /\ x = 2 ^ i) /\ (z8o S q).length <= S.length + q
 | 0 => ⟨hS, fun x => by simp [z8o], by simp [z8o]⟩
 | q + 1 => by
  obtain ⟨h1, h2, h3⟩ := z6a hS q
  unfold z8o
  split
  ·rename_i h
   refine ⟨h1, fun x => ?_, by omega⟩
   rw [h2]
   constructor
   ·rintro (h | ⟨i, h, e⟩)
    ·exact .inl h
    ·exact .inr ⟨i, by omega, e⟩
   ·rintro (h' | ⟨i, h', e⟩)
    ·exact .inl h'
    ·by_cases ei : i = q
     ·subst ei; rw [e]; exact (h2 _).1 h
     ·exact .inr ⟨i, by omega, e⟩
  ·rename_i h
   refine ⟨List.nodup_append.2 ⟨h1, by simp, fun a ha b hb e => ?_⟩, fun x => ?_, by rw [List.length_append, List.length_singleton]; omega⟩
   ·obtain rfl := List.mem_singleton.1 hb
    exact h (e ▸ ha)
   ·rw [List.mem_append, h2, List.mem_singleton]
    constructor
    ·rintro ((h' | ⟨i, h', e⟩) | e)
     ·exact .inl h'
     ·exact .inr ⟨i, by omega, e⟩
     ·exact .inr ⟨q, by omega, e⟩
    ·rintro (h' | ⟨i, h', e⟩)
     ·exact .inl (.inl h')
     ·by_cases ei : i = q
      ·subst ei; exact .inr e
      ·exact .inl (.inr ⟨i, by omega, e⟩)
def z5t (d : DFA) (m n : Nat) : List Nat := zk3 (z8o (z1s d m n (2 ^ n - 1)).1 n)
structure SetsP (d : DFA) (m n : Nat) (S : List Nat) : Prop where
 nd : S.Nodup
 lt : ∀ x ∈ S, x < 2 ^ n
 cl : ∀ x ∈ S, ∀ a, a < m -> mvN d x a ∈ S
 one : ∀ q, q < n -> 2 ^ q ∈ S
 srt : znh S
theorem zxo {d : DFA} {m n : Nat} (hd : DfaOk d m n) {q a : Nat} (hq : q < n) (ha : a < m) : ∃ p, p < n /\ mvN d (2 ^ q) a = 2 ^ p := by
 obtain ⟨h1, h2, e, h3, h4⟩ := zhn hd hq ha
 refine ⟨((d.next.getD q []).getD a 0).toNat, by rw [e]; omega, Nat.eq_of_testBit_eq fun i => ?_⟩
 rw [Bool.eq_iff_iff, zkf hd ha, Nat.testBit_two_pow, decide_eq_true_iff]
 constructor
 ·rintro ⟨j, j1, j2, j3⟩
  rw [Nat.testBit_two_pow, decide_eq_true_iff] at j2
  subst j2; exact j3
 ·intro h
  exact ⟨q, hq, by rw [Nat.testBit_two_pow]; simp, h⟩
theorem zk5 {d : DFA} {m n : Nat} (hd : DfaOk d m n) : SetsP d m n (z5t d m n) := by
 have hp := Nat.two_pow_pos n
 have hf : 2 ^ n - 1 < 2 ^ n := by omega
 have hi := z4E hd hf
 obtain ⟨h1, h2, h3⟩ := z6a hi.nd n
 have hpm := zaE (z8o (z1s d m n (2 ^ n - 1)).1 n)
 have hm : ∀ x, x ∈ z5t d m n ↔ x ∈ (z1s d m n (2 ^ n - 1)).1 ∨ ∃ i, i < n /\ x = 2 ^ i := fun x => hpm.mem_iff.trans (h2 x)
 refine ⟨hpm.nodup_iff.2 h1, fun x hx => ?_, fun x hx a ha => ?_, fun q hq => (hm _).2 (.inr ⟨q, hq, rfl⟩), z9P _⟩
 ·rcases (hm x).1 hx with h | ⟨i, hi', rfl⟩
  ·exact hi.lt x h
  ·exact Nat.pow_lt_pow_right (by omega) hi'
 ·rcases (hm x).1 hx with h | ⟨i, hi', rfl⟩
  ·exact (hm _).2 (.inl (zeP hd hf h ha))
  ·obtain ⟨p, hp1, hp2⟩ := zxo hd hi' ha
   exact (hm _).2 (.inr ⟨p, hp1, hp2⟩)
theorem zos {S : List Nat} (hl : S.length < 4611686018427387904) (x : Nat) : z2t (toI S) (x : Int) = some (decide (x ∈ S)) := by
 unfold z2t z3E
 rw [z9Z (s := (0 : Int)) S.length (fun k => (k : Int)) (fun k => decide (x = S.getD k 0)) (fun k => some (k : Int)) (x := some (-1)) rfl (by simp only [LFm]; omega)]
 ·cases h : (List.range S.length).find? (fun k => decide (x = S.getD k 0)) with
  | none =>
   have := zhP.1 h
   rw [Option.bind_some]
   congr 1
   have hn : ¬ x ∈ S := fun hx => by
    obtain ⟨i, hi, rfl⟩ := List.getElem_of_mem hx
    have := this i hi
    simp [List.getD, hi] at this
   simp [hn]
  | some k =>
   obtain ⟨k1, k2, _⟩ := zhO.1 h
   rw [Option.bind_some]
   congr 1
   have hx : x ∈ S := by
    have : x = S.getD k 0 := by simpa using k2
    rw [this]; exact z1x k1
   simp [hx]
 ·intro k hk
  simp only [z3j]
  rw [if_pos (by rw [z0v]; omega), z2Q hk, Option.bind_some]
  by_cases h : x = S.getD k 0
  ·rw [if_pos (by omega), if_pos (by simpa using h)]
  ·rw [if_neg (by omega), if_neg (by simpa using h), z1X (by omega)]
 ·simp only [z3j]
  rw [if_neg (by rw [z0v]; omega)]
theorem zwi {d : DFA} {m n : Nat} (hd : DfaOk d m n) (hn : n <= 7) : z7F d = some (toI (z5t d m n)) := by
 have hp := Nat.two_pow_pos n
 have h128 : 2 ^ n <= 128 := Nat.pow_le_pow_right (n := 2) (by omega) hn
 have hf : 2 ^ n - 1 < 2 ^ n := by omega
 have hi := z4E hd hf
 have hl := z1r hi.nd hi.lt
 obtain ⟨h1, h2, h3⟩ := z6a hi.nd n
 unfold z7F
 have ew : IntKind.i64.wrap (((2 ^ n : Nat) : Int) - 1) = ((2 ^ n - 1 : Nat) : Int) := by rw [z2E (by omega) (by omega)]; omega
 rw [hd.fin, z0K _ (by omega), z6T (by omega), ew, zuP hd (by omega) hf, Option.bind_some]
 refine z1I (s := ((0 : Int), toI (z1s d m n (2 ^ n - 1)).1)) n (fun q => ((q : Int), toI (z8o (z1s d m n (2 ^ n - 1)).1 q))) rfl (by simp only [LFm]; omega) (fun q hq => ?_) ?_
 ·have h3' := (z6a hi.nd q).2.2
  simp only [z6i]
  rw [if_pos (by rw [hd.fin]; omega), z0K _ (by omega), z6T (by omega), zos (by omega), Option.bind_some, z1X (by omega), z8o]
  by_cases h : 2 ^ q ∈ z8o (z1s d m n (2 ^ n - 1)).1 q
  ·rw [if_pos (by simpa using h), if_pos h]
  ·rw [if_neg (by simpa using h), if_neg h, z0K _ (by unfold z2i; rw [z0v]; omega), z6Q]
 ·simp only [z6i]
  rw [if_neg (by rw [hd.fin]; omega)]
  have hv : zpT (toI (z8o (z1s d m n (2 ^ n - 1)).1 n)) = some (toI (z5t d m n)) := by
   unfold zpT
   rw [if_pos, zmg]; rfl
   refine ⟨fun h => ?_, by rw [z0v]; omega, ?_⟩
   ·have hm := (h2 (2 ^ n - 1)).2 (.inl (zeu hd hf))
    have := congrArg List.length h
    rw [z0v] at this
    have h0 := List.length_pos_of_mem hm
    simp at this
    rw [this] at h0; simp at h0
   ·rw [List.all_eq_true]
    intro x hx
    simp only [toI, List.mem_map] at hx
    obtain ⟨y, hy, rfl⟩ := hx
    have : y < 2 ^ n := by
     rcases (h2 y).1 hy with h | ⟨i, hi', rfl⟩
     ·exact hi.lt y h
     ·exact Nat.pow_lt_pow_right (by omega) hi'
    simp; omega
  rw [hv, Option.bind_some]
end Go.Proofs.Ytbnnipkanechoaa
end
section
namespace Go.Proofs.Ytbnnipkanechoaa
open Go
set_option maxRecDepth 100000
def z1N {α : Type} (N : Nat) (f : Nat -> α) (z : α) (k : Nat) : List α := (List.range N).map fun i => if i < k then f i else z
theorem zaN {α : Type} (N : Nat) (f : Nat -> α) (z : α) (k : Nat) : (z1N N f z k).length = N := by simp [z1N]
theorem z7J {α : Type} (N : Nat) (f : Nat -> α) (z : α) : z1N N f z 0 = List.replicate N z := by
 apply List.ext_getElem (by simp [z1N]); intro i h1 h2; simp [z1N]
theorem z7I {α : Type} (N : Nat) (f : Nat -> α) (z : α) : z1N N f z N = (List.range N).map f := by
 apply List.ext_getElem (by simp [z1N]); intro i h1 h2
 have : i < N := by simpa [z1N] using h1
 simp [z1N, this]
theorem z5X {α : Type} {N : Nat} {f : Nat -> α} {z : α} {k i : Nat} (h : i < N) : atI (z1N N f z k) (i : Int) = some (if i < k then f i else z) := by
 rw [z1P (by rw [zaN]; exact h)]; simp [z1N]
theorem z4r {α : Type} {N : Nat} {f : Nat -> α} {z : α} {k : Nat} (h : k < N) : (z1N N f z k).set k (f k) = z1N N f z (k + 1) := by
 apply List.ext_getElem (by simp [z1N]); intro i h1 h2
 simp only [z1N, List.getElem_set, List.getElem_map, List.getElem_range]
 by_cases e : k = i
 ·subst e; rw [if_pos rfl, if_pos (by omega)]
 ·rw [if_neg e]
  by_cases e2 : i < k
  ·rw [if_pos e2, if_pos (by omega)]
  ·rw [if_neg e2, if_neg (by omega)]
theorem zn1 {α : Type} {N : Nat} {f : Nat -> α} {z : α} {k : Nat} (h : f k = z) : z1N N f z k = z1N N f z (k + 1) := by
 apply List.ext_getElem (by simp [z1N]); intro i h1 h2
 simp only [z1N, List.getElem_map, List.getElem_range]
 by_cases e : k = i
 ·subst e; rw [if_neg (by omega), if_pos (by omega), h]
 ·by_cases e2 : i < k
  ·rw [if_pos e2, if_pos (by omega)]
  ·rw [if_neg e2, if_neg (by omega)]
theorem z3m {α : Type} {N : Nat} {f : Nat -> α} {i : Nat} (h : i < N) : atI ((List.range N).map f) (i : Int) = some (f i) := by
 rw [z1P (by simpa using h)]; simp
theorem zji {α : Type} {l : List α} {i : Nat} {x : α} (h : i < l.length) : atI (l.set i x) (i : Int) = some x := by
 rw [z1P (by simpa using h)]; simp
theorem zhj {α : Type} (l : List α) (i : Nat) (x y : α) : (l.set i x).set i y = l.set i y := by simp
theorem z9r {S : List Nat} (hS : S.Nodup) {i : Nat} (h : i < S.length) : S.idxOf (S.getD i 0) = i := by
 rw [List.getD, List.getElem?_eq_getElem h, Option.getD_some]
 have hm : S[i] ∈ S := List.getElem_mem h
 have h1 := List.idxOf_lt_length_of_mem hm
 have h2 : S[S.idxOf S[i]] = S[i] := List.getElem_idxOf h1
 exact (List.getElem_inj hS).1 h2
theorem z9t {S : List Nat} {x : Nat} (h : x ∈ S) : S.getD (S.idxOf x) 0 = x := by
 have := List.idxOf_lt_length_of_mem h
 rw [List.getD, List.getElem?_eq_getElem this, Option.getD_some, List.getElem_idxOf]
theorem zdd {S : List Nat} {x : Nat} (h : x ∈ S) : S.idxOf x < S.length := List.idxOf_lt_length_of_mem h
theorem zwq {S : List Nat} (hS : S.Nodup) {i j : Nat} (hi : i < S.length) (hj : j < S.length) (h : S.getD i 0 = S.getD j 0) : i = j := by
 rw [← z9r hS hi, h, z9r hS hj]
def z6k (st : RS) (x : Nat) : ByteArray := st.2.getD (st.1.idxOf x) ByteArray.empty
theorem znn {st : RS} (hl : st.2.length = st.1.length) {x : Nat} (hx : x ∉ st.1) (w : ByteArray) (y : Nat) : z6k (st.1 ++ [x], st.2 ++ [w]) y = if y = x then w else z6k st y := by
 unfold z6k
 simp only
 by_cases hy : y ∈ st.1
 ·have hne : y ≠ x := fun e => hx (e ▸ hy)
  rw [if_neg hne, List.idxOf_append, if_pos hy, z9v _ (by rw [hl]; exact zdd hy)]
 ·rw [List.idxOf_append, if_neg hy]
  by_cases e : y = x
  ·subst e
   rw [if_pos rfl, show List.idxOf y [y] = 0 by simp, Nat.zero_add, zhH hl.symm]
  ·rw [if_neg e]
   have h1 : List.idxOf y [x] = 1 := by
    rw [List.idxOf_cons]
    have : (x == y) = false := by simpa using fun h => e h.symm
    simp [this]
   have h2 : st.1.idxOf y = st.1.length := List.idxOf_eq_length hy
   rw [h1, h2, List.getD, List.getD, List.getElem?_eq_none (by simp [hl]; omega), List.getElem?_eq_none (by omega)]
theorem zvz {d : DFA} {m n : Nat} {S : List Nat} (hS : SetsP d m n S) : ∀ {w : List UInt8} {s : Nat}, (∀ c ∈ w, 97 <= c.toNat /\ c.toNat < 97 + m) -> s ∈ S -> zkJ d s w ∈ S
 | [], s, _, h => h
 | c :: w, s, hw, h => zvz (w := w) (s := mvN d s (c.toNat - 97)) hS (fun c' hc' => hw c' (List.mem_cons_of_mem _ hc')) (hS.cl s h _ (by have := hw c (List.mem_cons_self ..); omega))
theorem ztr {d : DFA} {m n s : Nat} {S : List Nat} (hS : SetsP d m n S) (hs : s ∈ S) {st : RS} (h : RInv d m n s st) {x : Nat} (hx : x ∈ st.1) : x ∈ S := by
 obtain ⟨i, hi, rfl⟩ := List.getElem_of_mem hx
 obtain ⟨_, o2, o3⟩ := h.ok i hi
 rw [List.getD, List.getD, List.getElem?_eq_getElem hi, Option.getD_some] at o3
 rw [← o3]
 exact zvz hS o2 hs
def zoY (d : DFA) (m : Nat) (S : List Nat) (i : Nat) : List Int := (List.range m).map fun a => ((S.idxOf (mvN d (S.getD i 0) a) : Nat) : Int)
def zwN (d : DFA) (m : Nat) (S : List Nat) : List (List Int) := (List.range S.length).map (zoY d m S)
def ztd (S : List Nat) (st : RS) : List Bool := (List.range S.length).map fun i => decide (S.getD i 0 ∈ st.1)
def zkM (S : List Nat) (st : RS) : List ByteArray := (List.range S.length).map fun i => z6k st (S.getD i 0)
def zib (S : List Nat) (st : RS) : List Int := toI (st.1.map S.idxOf)
theorem zsX {S : List Nat} {st : RS} {k : Nat} (h : k < st.1.length) : atI (zib S st) (k : Int) = some ((S.idxOf (st.1.getD k 0) : Nat) : Int) := by
 unfold zib
 rw [z2Q (by simpa using h)]
 simp [List.getD, h]
theorem zmm {d : DFA} {m n s : Nat} (hd : DfaOk d m n) (hn : n <= 12) {S : List Nat} (hS : SetsP d m n S) (hs : s ∈ S) {st : RS} (h : RInv d m n s st) {k : Nat} (hk : k < st.1.length) :
  z1b (z2y (k : Int) (zoY d m S (S.idxOf (st.1.getD k 0)))) LFm (0, ztd S st, zkM S st, zib S st) = z0B (((k + 1 : Nat) : Int), ztd S (z7f d k st m), zkM S (z7f d k st m), zib S (z7f d k st m)) := by
 have h12 := zev hn
 have hm6 := hd.m6
 have hSl := z1r hS.nd hS.lt
 refine z1I (s := ((0 : Int), ztd S st, zkM S st, zib S st)) m (fun a => ((a : Int), ztd S (z7f d k st a), zkM S (z7f d k st a), zib S (z7f d k st a))) rfl (by simp only [LFm]; omega) (fun a ha => ?_) ?_
 ·obtain ⟨k1, _, X, W, k3, k4⟩ := zhD hd h hk a (by omega)
  have hk' : k < (z7f d k st a).1.length := by rw [k3, List.length_append]; omega
  have hl := z1r k1.nd k1.lt
  have eg : (z7f d k st a).1.getD k 0 = st.1.getD k 0 := by rw [k3, z9v _ hk]
  have hkS : st.1.getD k 0 ∈ S := ztr hS hs h (z1x hk)
  have hxS : mvN d (st.1.getD k 0) a ∈ S := hS.cl _ hkS a ha
  obtain ⟨o1, _, _⟩ := k1.ok k hk'
  have hwk : z6k (z7f d k st a) (st.1.getD k 0) = (z7f d k st a).2.getD k ByteArray.empty := by
   unfold z6k; rw [← eg, z9r k1.nd hk']
  simp only [z2y]
  rw [if_pos (by simp [zoY]; omega), zoY, z3m ha, Option.bind_some, z9t hkS, ztd, z3m (zdd hxS), Option.bind_some, z9t hxS, z1X (by omega), z7f]
  unfold zk2
  rw [eg]
  simp only [decide_eq_true_eq]
  by_cases hm : mvN d (st.1.getD k 0) a ∈ (z7f d k st a).1
  ·rw [if_pos hm, if_pos hm]; rfl
  ·rw [if_neg hm, if_neg hm, zsX hk', Option.bind_some, eg, zkM, z3m (zdd hkS), Option.bind_some, z9t hkS, hwk, zo2 (by omega), z0K _ (by unfold z9E; rw [zd7]; omega), z3m (zdd hxS), Option.bind_some, z0K _ (by unfold z2i zib; rw [z0v, List.length_map]; omega), Int.toNat_natCast]
   congr 1
   refine Prod.ext rfl (Prod.ext ?_ (Prod.ext ?_ ?_))
   ·simp only [ztd]
    apply List.ext_getElem (by simp)
    intro i i1 i2
    have hi : i < S.length := by simpa using i2
    simp only [List.getElem_set, List.getElem_map, List.getElem_range, List.mem_append, List.mem_singleton]
    by_cases e : S.idxOf (mvN d (st.1.getD k 0) a) = i
    ·subst e; rw [if_pos rfl, z9t hxS]; simp
    ·rw [if_neg e]
     have : S.getD i 0 ≠ mvN d (st.1.getD k 0) a := fun hh => e (by rw [← hh, z9r hS.nd hi])
     simp only [this, or_false]
   ·simp only [zkM]
    apply List.ext_getElem (by simp)
    intro i i1 i2
    have hi : i < S.length := by simpa using i2
    simp only [List.getElem_set, List.getElem_map, List.getElem_range]
    rw [znn k1.len hm]
    by_cases e : S.idxOf (mvN d (st.1.getD k 0) a) = i
    ·subst e; rw [if_pos rfl, z9t hxS, if_pos rfl]
    ·have : S.getD i 0 ≠ mvN d (st.1.getD k 0) a := fun hh => e (by rw [← hh, z9r hS.nd hi])
     rw [if_neg e, if_neg this]
   ·simp only [zib, List.map_append, List.map_cons, List.map_nil]
    rw [z6Q]
 ·simp only [z2y]
  have := z1r h.nd h.lt
  rw [if_neg (by simp [zoY]), z1X (by omega)]
theorem zhl {d : DFA} {m n : Nat} (hd : DfaOk d m n) (hn : n <= 12) {S : List Nat} (hS : SetsP d m n S) (bl : List (List Bool)) {j : Nat} (hj : j < S.length) :
  z2a ⟨toI S, zwN d m S, bl⟩ (j : Int) = some (zib S (z1s d m n (S.getD j 0)), zkM S (z1s d m n (S.getD j 0))) := by
 have h12 := zev hn
 have hp := Nat.two_pow_pos n
 have hSl := z1r hS.nd hS.lt
 have hs : S.getD j 0 ∈ S := z1x hj
 have hs2 : S.getD j 0 < 2 ^ n := hS.lt _ hs
 unfold z2a
 simp only
 rw [z0v, z0K _ (by unfold z2k; omega), z0K _ (by unfold z2k; omega), z0K _ (by omega), Int.toNat_natCast, Int.toNat_natCast]
 have e1 : (List.replicate S.length false).set j true = ztd S (z6J d m (S.getD j 0) 0) := by
  apply List.ext_getElem (by simp [ztd])
  intro i i1 i2
  have hi : i < S.length := by simpa using i1
  simp only [ztd, z6J, List.getElem_set, List.getElem_map, List.getElem_range, List.getElem_replicate, List.mem_singleton]
  by_cases e : j = i
  ·subst e; simp
  ·rw [if_neg e]
   have : S.getD i 0 ≠ S.getD j 0 := fun hh => e (zwq hS.nd hi hj hh).symm
   symm; simpa using this
 have e2 : List.replicate S.length (ByteArray.empty : ByteArray) = zkM S (z6J d m (S.getD j 0) 0) := by
  apply List.ext_getElem (by simp [zkM])
  intro i i1 i2
  simp only [zkM, z6J, List.getElem_map, List.getElem_range, List.getElem_replicate, z6k]
  generalize List.idxOf (S.getD i 0) [S.getD j 0] = q
  cases q <;> rfl
 have e3 : [(j : Int)] = zib S (z6J d m (S.getD j 0) 0) := by
  simp only [zib, z6J, List.map_cons, List.map_nil, z9r hS.nd hj]; rfl
 rw [e1, e2, e3]
 refine zd5 (s := ((0 : Int), ztd S (z6J d m (S.getD j 0) 0), zkM S (z6J d m (S.getD j 0) 0), zib S (z6J d m (S.getD j 0) 0))) (fun z => ∃ k : Nat, k <= 2 ^ n /\ z = ((k : Int), ztd S (z6J d m (S.getD j 0) k), zkM S (z6J d m (S.getD j 0) k), zib S (z6J d m (S.getD j 0) k))) (fun z => 2 ^ n + 1 - z.1.toNat) ⟨0, by omega, rfl⟩ (by simp only [LFm]; omega) ?_
 rintro z ⟨k, hk, rfl⟩
 have hl := zk8 hd hs2 k
 have hqs : (zib S (z6J d m (S.getD j 0) k)).length = (z6J d m (S.getD j 0) k).1.length := by simp [zib, toI]
 simp only [z4h]
 by_cases h : k < (z6J d m (S.getD j 0) k).1.length
 ·left
  have hinv := (z9S hd hs2 k).1
  have hkS : (z6J d m (S.getD j 0) k).1.getD k 0 ∈ S := ztr hS hs hinv (z1x h)
  rw [if_pos (by rw [hqs]; omega), zsX h, Option.bind_some, zwN, z3m (zdd hkS), Option.bind_some, zmm hd hn hS hs hinv h]
  refine ⟨_, rfl, ⟨k + 1, by omega, ?_⟩, by simp only; omega⟩
  rw [z6J, if_pos h]
 ·right
  rw [if_neg (by rw [hqs]; omega)]
  unfold z1s
  rw [zfy h _ hk]
end Go.Proofs.Ytbnnipkanechoaa
end
section
namespace Go.Proofs.Ytbnnipkanechoaa
open Go
set_option maxRecDepth 100000
def z3D (d : DFA) (m n : Nat) (S : List Nat) (i j : Nat) : Bool := (z1s d m n (S.getD j 0)).1.any fun x => decide (S.getD i 0 &&& x = S.getD i 0)
def zvm (d : DFA) (m n : Nat) (S : List Nat) : List (List Bool) := (List.range S.length).map fun i => (List.range S.length).map (z3D d m n S i)
def dgm (d : DFA) (m n : Nat) (S : List Nat) : Dgm := ⟨toI S, zwN d m S, zvm d m n S⟩
theorem z4T {d : DFA} {m n : Nat} (hd : DfaOk d m n) {S : List Nat} (hS : SetsP d m n S) {i j : Nat} (hj : j < S.length) : z3D d m n S i j = true ↔ zwV d m (S.getD i 0) (S.getD j 0) := by
 rw [zu5 hd (hS.lt _ (z1x hj))]
 unfold z3D zkI
 simp
def zrG (n : Nat) (S : List Nat) (k : Nat) : List Int := (List.range (2 ^ n)).map fun x => if x ∈ S.take k then ((S.idxOf x : Nat) : Int) else 0
theorem zv2 {n : Nat} {S : List Nat} (hS : S.Nodup) {k : Nat} (hk : k < S.length) : (zrG n S k).set (S.getD k 0) (k : Int) = zrG n S (k + 1) := by
 have hg : S.getD k 0 = S[k] := by rw [List.getD, List.getElem?_eq_getElem hk, Option.getD_some]
 apply List.ext_getElem (by simp [zrG])
 intro i h1 h2
 simp only [zrG, List.getElem_set, List.getElem_map, List.getElem_range]
 rw [List.take_succ_eq_append_getElem hk]
 simp only [List.mem_append, List.mem_singleton]
 by_cases e : S.getD k 0 = i
 ·rw [if_pos e, if_pos (.inr (by rw [← hg]; exact e.symm)), ← e, z9r hS hk]
 ·rw [if_neg e]
  have : ¬ i = S[k] := fun h => e (by rw [hg]; exact h.symm)
  simp [this]
theorem zvI {n : Nat} {S : List Nat} {k x : Nat} (h : x < 2 ^ n) : atI (zrG n S k) (x : Int) = some (if x ∈ S.take k then ((S.idxOf x : Nat) : Int) else 0) := by
 unfold zrG; rw [z3m h]
theorem zr0 {d : DFA} {m n : Nat} (hd : DfaOk d m n) (hn : n <= 12) {S : List Nat} (hS : SetsP d m n S) {i : Nat} (hi : i < S.length) :
  z1b (z3f d (toI S) (zrG n S S.length) (i : Int) (z1N S.length (fun _ => List.replicate S.length false) [] i) ((S.getD i 0 : Nat) : Int)) LFm (0, (z1N S.length (zoY d m S) [] i).set i (List.replicate m 0)) =
   z0B (((i + 1 : Nat) : Int), z1N S.length (zoY d m S) [] (i + 1), z1N S.length (fun _ => List.replicate S.length false) [] (i + 1)) := by
 have h12 := zev hn
 have hm6 := hd.m6
 have hSl := z1r hS.nd hS.lt
 have hx : S.getD i 0 ∈ S := z1x hi
 refine z1I (s := ((0 : Int), (z1N S.length (zoY d m S) [] i).set i (List.replicate m 0))) m (fun a => ((a : Int), (z1N S.length (zoY d m S) [] i).set i (z1N m (fun a => ((S.idxOf (mvN d (S.getD i 0) a) : Nat) : Int)) 0 a))) (by rw [z7J]; rfl) (by simp only [LFm]; omega) (fun a ha => ?_) ?_
 ·have hmv : mvN d (S.getD i 0) a ∈ S := hS.cl _ hx a ha
  simp only [z3f]
  rw [if_pos (by rw [hd.lt]; omega), zji (by rw [zaN]; exact hi), Option.bind_some, zt8 hd hn (hS.lt _ hx) ha, Option.bind_some, zvI (hS.lt _ hmv), Option.bind_some, List.take_length, if_pos hmv, z5X ha, Option.bind_some, z1X (by omega), Int.toNat_natCast, Int.toNat_natCast, zhj]
  rw [z4r (f := fun a => ((S.idxOf (mvN d (S.getD i 0) a) : Nat) : Int)) (z := 0) ha]
 ·simp only [z3f]
  rw [if_neg (by rw [hd.lt]; omega), z0v, z0K _ (by unfold z2k; omega), z5X hi, Option.bind_some, z1X (by omega), Int.toNat_natCast, Int.toNat_natCast, z7I]
  have e1 := z4r (f := zoY d m S) (z := []) hi
  have e2 := z4r (f := fun _ => List.replicate S.length false) (z := []) hi
  rw [show ((List.range m).map fun a => ((S.idxOf (mvN d (S.getD i 0) a) : Nat) : Int)) = zoY d m S i from rfl, e1, e2]
def zfH (d : DFA) (m n : Nat) (S : List Nat) (j i : Nat) : List (List Bool) := (List.range S.length).map fun i' => z1N S.length (z3D d m n S i') false (if i' < i then j + 1 else j)
theorem zyC {d : DFA} {m n : Nat} {S : List Nat} {j : Nat} : zfH d m n S j S.length = zfH d m n S (j + 1) 0 := by
 unfold zfH
 refine List.map_congr_left fun i hi => ?_
 rw [if_pos (List.mem_range.1 hi), if_neg (by omega)]
theorem zvq {α : Type} (p : α -> Bool) (l : List α) (d : α) : ((List.range l.length).find? fun k => p (l.getD k d)).isSome = l.any p := by
 rw [Bool.eq_iff_iff, List.any_eq_true]
 rw [List.find?_isSome]
 constructor
 ·rintro ⟨k, hk, h⟩
  have hk := List.mem_range.1 hk
  exact ⟨_, by rw [List.getD, List.getElem?_eq_getElem hk, Option.getD_some]; exact List.getElem_mem hk, h⟩
 ·rintro ⟨x, hx, h⟩
  obtain ⟨i, hi, rfl⟩ := List.getElem_of_mem hx
  exact ⟨i, List.mem_range.2 hi, by rw [List.getD, List.getElem?_eq_getElem hi, Option.getD_some]; exact h⟩
theorem zu4 {d : DFA} {m n : Nat} (hd : DfaOk d m n) (hn : n <= 12) {S : List Nat} (hS : SetsP d m n S) {i j : Nat} (hi : i < S.length) (hj : j < S.length) (w : List ByteArray) :
  z1b (z3e (toI S) (j : Int) (zib S (z1s d m n (S.getD j 0)), w) (i : Int) (zfH d m n S j i) ((S.getD i 0 : Nat) : Int)) LFm 0 = z0B (((i + 1 : Nat) : Int), zfH d m n S j (i + 1)) := by
 have h12 := zev hn
 have hSl := z1r hS.nd hS.lt
 have hjS := z1x hj
 have hinv := z4E hd (hS.lt _ hjS)
 have hl := z1r hinv.nd hinv.lt
 have hx62 : S.getD i 0 < 2 ^ n := hS.lt _ (z1x hi)
 have hcol : z3D d m n S i j = true -> (zfH d m n S j i).set i ((z1N S.length (z3D d m n S i) false j).set j true) = zfH d m n S j (i + 1) := fun hb => by
  have e := z4r (f := z3D d m n S i) (z := false) hj
  rw [hb] at e
  rw [e]
  apply List.ext_getElem (by simp [zfH])
  intro k h1 h2
  simp only [zfH, List.getElem_set, List.getElem_map, List.getElem_range]
  by_cases ek : i = k
  ·subst ek; rw [if_pos rfl, if_pos (by omega)]
  ·rw [if_neg ek]
   by_cases e2 : k < i
   ·rw [if_pos e2, if_pos (by omega)]
   ·rw [if_neg e2, if_neg (by omega)]
 have hcol0 : z3D d m n S i j = false -> zfH d m n S j i = zfH d m n S j (i + 1) := fun hb => by
  unfold zfH
  refine List.map_congr_left fun k hk => ?_
  by_cases ek : k = i
  ·subst ek; rw [if_neg (by omega), if_pos (by omega)]; exact zn1 hb
  ·by_cases e2 : k < i
   ·rw [if_pos e2, if_pos (by omega)]
   ·rw [if_neg e2, if_neg (by omega)]
 rw [z9Z (s := (0 : Int)) (z1s d m n (S.getD j 0)).1.length (fun k => (k : Int)) (fun k => decide (S.getD i 0 &&& (z1s d m n (S.getD j 0)).1.getD k 0 = S.getD i 0)) (fun _ => z0B (((i + 1 : Nat) : Int), (zfH d m n S j i).set i ((z1N S.length (z3D d m n S i) false j).set j true))) (x := z0B (((i + 1 : Nat) : Int), zfH d m n S j i)) rfl (by simp only [LFm]; omega)]
 ·have ha : ((List.range (z1s d m n (S.getD j 0)).1.length).find? fun k => decide (S.getD i 0 &&& (z1s d m n (S.getD j 0)).1.getD k 0 = S.getD i 0)).isSome = z3D d m n S i j := zvq (fun x => decide (S.getD i 0 &&& x = S.getD i 0)) (z1s d m n (S.getD j 0)).1 0
  revert ha
  cases (List.range (z1s d m n (S.getD j 0)).1.length).find? fun k => decide (S.getD i 0 &&& (z1s d m n (S.getD j 0)).1.getD k 0 = S.getD i 0) with
  | none => intro ha; simp only; rw [hcol0 (by simpa using ha.symm)]
  | some k => intro ha; simp only; rw [hcol (by simpa using ha.symm)]
 ·intro k hk
  have hkS : (z1s d m n (S.getD j 0)).1.getD k 0 ∈ S := ztr hS hjS hinv (z1x hk)
  have hqs : (zib S (z1s d m n (S.getD j 0))).length = (z1s d m n (S.getD j 0)).1.length := by simp [zib, toI]
  have h62 := hS.lt _ hkS
  simp only [z3e]
  rw [if_pos (by rw [hqs]; omega), zsX hk, Option.bind_some, z2Q (zdd hkS), z9t hkS, Option.bind_some, zbt (by omega) (by omega), Option.bind_some]
  simp only [decide_eq_true_eq]
  split
  ·rw [zfH, z3m hi, Option.bind_some, z5X hj, Option.bind_some, z1X (by omega), if_neg (by omega : ¬ i < i), Int.toNat_natCast, Int.toNat_natCast]
  ·rw [z1X (by omega)]
 ·have hqs : (zib S (z1s d m n (S.getD j 0))).length = (z1s d m n (S.getD j 0)).1.length := by simp [zib, toI]
  simp only [z3e]
  rw [if_neg (by rw [hqs]; omega), z1X (by omega)]
theorem zru {d : DFA} {m n : Nat} (hd : DfaOk d m n) (hn : n <= 12) {S : List Nat} (hS : SetsP d m n S) : z4f d (toI S) = some (dgm d m n S) := by
 have h12 := zev hn
 have hm6 := hd.m6
 have hp := Nat.two_pow_pos n
 have hSl := z1r hS.nd hS.lt
 unfold z4f
 rw [hd.fin, z0K _ (by omega), z6T (by omega), z0K _ (by unfold z2k; omega), Int.toNat_natCast]
 have e0 : List.replicate (2 ^ n) (0 : Int) = zrG n S 0 := by
  apply List.ext_getElem (by simp [zrG]); intro i h1 h2; simp [zrG]
 rw [e0]
 refine z1I (s := ((0 : Int), zrG n S 0)) S.length (fun k => ((k : Int), zrG n S k)) rfl (by simp only [LFm]; omega) (fun k hk => ?_) ?_
 ·simp only [z4a]
  rw [if_pos (by rw [z0v]; omega), z2Q hk, Option.bind_some, zvI (hS.lt _ (z1x hk)), Option.bind_some, z1X (by omega), Int.toNat_natCast, zv2 hS.nd hk]
 ·simp only [z4a]
  rw [if_neg (by rw [z0v]; omega), z0v, z0K _ (by unfold z2k; omega), Int.toNat_natCast]
  congr 1
  have f1 : List.replicate S.length ([] : List Int) = z1N S.length (zoY d m S) [] 0 := (z7J _ _ _).symm
  have f2 : List.replicate S.length ([] : List Bool) = z1N S.length (fun _ => List.replicate S.length false) [] 0 := (z7J _ _ _).symm
  rw [f1, f2]
  refine z1I (s := ((0 : Int), z1N S.length (zoY d m S) [] 0, z1N S.length (fun _ => List.replicate S.length false) [] 0)) S.length (fun k => ((k : Int), z1N S.length (zoY d m S) [] k, z1N S.length (fun _ => List.replicate S.length false) [] k)) rfl (by simp only [LFm]; omega) (fun k hk => ?_) ?_
  ·simp only [z3Z]
   rw [if_pos (by rw [z0v]; omega), z2Q hk, Option.bind_some, hd.lt, z0K _ (by unfold z2k; omega), z5X hk, Option.bind_some, Int.toNat_natCast, Int.toNat_natCast, zr0 hd hn hS hk]
  ·simp only [z3Z]
   rw [if_neg (by rw [z0v]; omega), z7I, z7I]
   congr 1
   have f3 : ((List.range S.length).map fun _ => List.replicate S.length false) = zfH d m n S 0 0 := by
    unfold zfH
    refine List.map_congr_left fun i hi => ?_
    rw [if_neg (by omega), z7J]
   rw [f3]
   refine z1I (s := ((0 : Int), zfH d m n S 0 0)) S.length (fun j => ((j : Int), zfH d m n S j 0)) rfl (by simp only [LFm]; omega) (fun j hj => ?_) ?_
   ·simp only [z3P]
    rw [if_pos (by rw [z0v]; omega)]
    have es := zhl hd hn hS (zfH d m n S j 0) hj
    unfold zwN at es
    rw [es, Option.bind_some]
    refine z1I (s := ((0 : Int), zfH d m n S j 0)) S.length (fun i => ((i : Int), zfH d m n S j i)) rfl (by simp only [LFm]; omega) (fun i hi => ?_) ?_
    ·simp only [z3O]
     rw [if_pos (by rw [z0v]; omega), z2Q hi, Option.bind_some, zu4 hd hn hS hi hj]
    ·simp only [z3O]
     rw [if_neg (by rw [z0v]; omega), z1X (by omega), zyC]
   ·simp only [z3P]
    rw [if_neg (by rw [z0v]; omega)]
    have f4 : zfH d m n S S.length 0 = zvm d m n S := by
     unfold zfH zvm
     refine List.map_congr_left fun i hi => ?_
     rw [if_neg (by omega), z7I]
    rw [f4]; rfl
end Go.Proofs.Ytbnnipkanechoaa
end
section
namespace Go.Proofs.Ytbnnipkanechoaa
open Go
set_option maxRecDepth 100000
theorem zxq (i j : Nat) (h : i + j < 4611686018427387904) : IntKind.i64.wrap (z1e .u64 (IntKind.u64.wrap (IntKind.i64.wrap ((i : Int) + j))) 1) = (((i + j) / 2 : Nat) : Int) := by
 have e1 : IntKind.u64.wrap (IntKind.i64.wrap ((i : Int) + j)) = (((i + j : Nat)) : Int) := by
  rw [z2E (by omega) (by omega), IntKind.wrap_u64]; omega
 have e2 : z1e .u64 (((i + j : Nat)) : Int) 1 = (((i + j) / 2 : Nat) : Int) := by
  unfold z1e
  have : min ((1 : Int).toNat) IntKind.u64.bits = 1 := by decide
  rw [this, Int.fdiv_eq_ediv_of_nonneg _ (by decide)]
  omega
 rw [e1, e2, z2E (by omega) (by omega)]
theorem at0 {α : Type} (A : List α) (x : α) (B : List α) {i : Nat} (h : i = A.length) : atI (A ++ x :: B) (i : Int) = some x := by
 subst h
 rw [z1P (by simp)]; simp
theorem at1 {α : Type} (A : List α) (x y : α) (B : List α) {i : Nat} (h : i = A.length + 1) : atI (A ++ x :: y :: B) (i : Int) = some y := by
 have : A ++ x :: y :: B = (A ++ [x]) ++ y :: B := by simp
 rw [this]
 exact at0 _ _ _ (by simpa using h)
theorem zw9 {α : Type} (A : List α) (x z : α) (B : List α) {i : Nat} (h : i = A.length) : (A ++ x :: B).set i z = A ++ z :: B := by
 subst h; simp
theorem zxT {α : Type} (A : List α) (x y z : α) (B : List α) {i : Nat} (h : i = A.length + 1) : (A ++ x :: y :: B).set i z = A ++ x :: z :: B := by
 have : A ++ x :: y :: B = (A ++ [x]) ++ y :: B := by simp
 rw [this, zw9 _ _ _ _ (by simpa using h)]; simp
def kv (K : List Int) (x : Int) : Int := K.getD x.toNat 0
def zvt (K : List Int) (x : Int) : Prop := 0 <= x /\ x < K.length
abbrev zkH (K : List Int) (l : List Int) : Prop := ∀ x ∈ l, zvt K x
abbrev zaa (K : List Int) (l : List Int) : Prop := l.Pairwise fun x y => kv K x <= kv K y
theorem zy7 {K : List Int} {x y : Int} (hx : zvt K x) (hy : zvt K y) : ∃ c, z1z x y K = some c /\ (c < 0 ↔ kv K x < kv K y) := by
 obtain ⟨i, rfl⟩ := Int.eq_ofNat_of_zero_le hx.1
 obtain ⟨j, rfl⟩ := Int.eq_ofNat_of_zero_le hy.1
 have hi : i < K.length := by have := hx.2; omega
 have hj : j < K.length := by have := hy.2; omega
 unfold z1z
 rw [z1P hi, Option.bind_some, z1P hj, Option.bind_some]
 have e1 : kv K (i : Int) = K[i] := by simp [kv, List.getD, hi]
 have e2 : kv K (j : Int) = K[j] := by simp [kv, List.getD, hj]
 rw [e1, e2]
 simp only [cmp_Compare_int, cmp_isNaN_int, decide_true, Bool.not_true, Option.bind_some, Bool.false_eq_true, if_false]
 by_cases h1 : K[i] < K[j]
 ·rw [if_pos h1]; exact ⟨_, rfl, by omega⟩
 ·rw [if_neg h1]
  by_cases h2 : K[j] < K[i]
  ·rw [if_pos h2]; exact ⟨_, rfl, by omega⟩
  ·rw [if_neg h2]; exact ⟨_, rfl, by omega⟩
theorem zwm {K : List Int} {P S R : List Int} {x : Int} (hv : zkH K (S ++ [x])) (hs : zaa K S) (hl : P.length + S.length < 2 ^ 40) {w : Nat} (hw : w = P.length + S.length) :
  ∃ S', z1b (z0E (P.length : Int) K (w : Int)) LFm ((w : Int), P ++ S ++ x :: R) = some (.inl (((w + 1 : Nat) : Int), P ++ S' ++ R)) /\ zaa K S' /\ S'.Perm (S ++ [x]) := by
 refine Exists.elim (z1T (b := z0E (P.length : Int) K (w : Int)) (fun z => ∃ S1 S2, S1 ++ S2 = S /\ z = (((P.length + S1.length : Nat) : Int), P ++ S1 ++ x :: (S2 ++ R)) /\ ∀ y ∈ S2, kv K x < kv K y) (fun z => z.1.toNat)
  (fun r => ∃ S', r = .inl (((w + 1 : Nat) : Int), P ++ S' ++ R) /\ zaa K S' /\ S'.Perm (S ++ [x])) ?_ LFm ((w : Int), P ++ S ++ x :: R) ⟨S, [], by simp, by rw [hw]; simp, by simp⟩ (by simp only [LFm]; omega)) fun r h => by
   obtain ⟨h1, S', rfl, h2, h3⟩ := h
   exact ⟨S', h1, h2, h3⟩
 rintro z ⟨S1, S2, rfl, rfl, h2⟩
 have hlen : S1.length + S2.length < 2 ^ 40 := by rw [List.length_append] at hl; omega
 have fin : (∀ y ∈ S1, kv K y <= kv K x) -> zaa K (S1 ++ x :: S2) /\ (S1 ++ x :: S2).Perm (S1 ++ S2 ++ [x]) := fun hle => by
  refine ⟨?_, ?_⟩
  ·rw [zaa, List.pairwise_append] at hs ⊢
   refine ⟨hs.1, List.pairwise_cons.2 ⟨fun y hy => by have := h2 y hy; omega, hs.2.1⟩, fun a ha b hb => ?_⟩
   rcases List.mem_cons.1 hb with rfl | hb
   ·exact hle a ha
   ·exact hs.2.2 a ha b hb
  ·rw [List.append_assoc]
   exact List.Perm.append_left _ (List.perm_append_singleton x S2).symm
 simp only [z0E]
 rcases List.eq_nil_or_concat S1 with rfl | ⟨S0, y, rfl⟩
 ·right
  rw [if_neg (by simp)]
  obtain ⟨f1, f2⟩ := fin (fun y hy => by simp at hy)
  refine ⟨_, rfl, x :: S2, ?_, by simpa using f1, by simpa using f2⟩
  have : IntKind.i64.wrap ((w : Int) + 1) = ((w + 1 : Nat) : Int) := by rw [z2E (by omega) (by omega)]; omega
  rw [this]; simp
 ·simp only [List.concat_eq_append] at *
  have hy : zvt K y := hv y (by simp)
  have hx : zvt K x := hv x (by simp)
  have e1 : P ++ (S0 ++ [y]) ++ x :: (S2 ++ R) = (P ++ S0) ++ y :: x :: (S2 ++ R) := by simp
  have hn : (P.length + (S0 ++ [y]).length : Nat) = (P ++ S0).length + 1 := by simp; omega
  have hj : IntKind.i64.wrap ((((P ++ S0).length + 1 : Nat) : Int) - 1) = (((P ++ S0).length : Nat) : Int) := by
   rw [z2E (by simp at hlen ⊢; omega) (by simp at hlen ⊢; simp at hl; omega)]; omega
  rw [e1, hn, if_pos (by simp; omega), at1 _ _ _ _ rfl, Option.bind_some, hj, at0 _ _ _ rfl, Option.bind_some]
  obtain ⟨c, hc, hc2⟩ := zy7 hx hy
  rw [hc, Option.bind_some]
  by_cases hlt : c < 0
  ·left
   rw [if_pos hlt, Int.toNat_natCast, zxT _ _ _ _ _ rfl, at0 _ _ _ rfl, Option.bind_some, Int.toNat_natCast, zw9 _ _ _ _ rfl]
   refine ⟨_, rfl, ⟨S0, y :: S2, by simp, ?_, fun z hz => ?_⟩, by simp only; omega⟩
   ·simp
   ·rcases List.mem_cons.1 hz with rfl | hz
    ·exact hc2.1 hlt
    ·exact h2 z hz
  ·right
   rw [if_neg hlt]
   have hyx : kv K y <= kv K x := by have := (not_congr hc2).1 hlt; omega
   obtain ⟨f1, f2⟩ := fin (fun z hz => by
    rcases List.mem_append.1 hz with hz | hz
    ·rw [zaa, List.pairwise_append, List.pairwise_append] at hs
     have := hs.1.2.2 z hz y (by simp)
     omega
    ·obtain rfl := List.mem_singleton.1 hz; exact hyx)
   refine ⟨_, rfl, S0 ++ [y] ++ x :: S2, ?_, f1, f2⟩
   have : IntKind.i64.wrap ((w : Int) + 1) = ((w + 1 : Nat) : Int) := by rw [z2E (by omega) (by omega)]; omega
   rw [this]; simp
theorem zpb {K : List Int} {P X R : List Int} (hv : zkH K X) (hl : P.length + X.length < 2 ^ 40) {a b : Nat} (ha : a = P.length) (hb : b = P.length + X.length) :
  ∃ S, z0z (P ++ X ++ R) (a : Int) (b : Int) K = some (P ++ S ++ R) /\ zaa K S /\ S.Perm X := by
 subst ha hb
 unfold z0z
 rw [z1X (by omega)]
 cases X with
 | nil =>
  refine ⟨[], ?_, by simp, .refl _⟩
  rw [show LFm = (LFm - 1) + 1 from rfl, z1b]
  simp only [z0F]
  rw [if_neg (by simp; omega)]
  rfl
 | cons x X =>
  refine Exists.elim (z1T (b := z0F (P.length : Int) ((P.length + (x :: X).length : Nat) : Int) K) (fun z => ∃ S U, S ≠ [] /\ z = (((P.length + S.length : Nat) : Int), P ++ S ++ (U ++ R)) /\ zaa K S /\ (S ++ U).Perm (x :: X)) (fun z => P.length + (x :: X).length + 1 - z.1.toNat)
   (fun r => ∃ S, r = P ++ S ++ R /\ zaa K S /\ S.Perm (x :: X)) ?_ LFm ((P.length + 1 : Nat), P ++ x :: X ++ R) ⟨[x], X, by simp, by simp, by simp, .refl _⟩ (by simp only [LFm]; omega)) fun r h => by
    obtain ⟨h1, S, rfl, h2, h3⟩ := h
    exact ⟨S, h1, h2, h3⟩
  rintro z ⟨S, U, h0, rfl, h1, h2⟩
  have hlen := h2.length_eq
  rw [List.length_append] at hlen
  simp only [z0F]
  cases U with
  | nil =>
   right
   rw [if_neg (by simp at hlen ⊢; omega)]
   exact ⟨_, rfl, S, by simp, h1, by simpa using h2⟩
  | cons u U =>
   left
   rw [if_pos (by simp at hlen ⊢; omega)]
   have hvS : zkH K (S ++ [u]) := fun y hy => hv y (h2.mem_iff.1 (by
    rcases List.mem_append.1 hy with hy | hy
    ·exact List.mem_append.2 (.inl hy)
    ·obtain rfl := List.mem_singleton.1 hy; simp))
   obtain ⟨S', e, s1, s2⟩ := zwm (P := P) (S := S) (R := U ++ R) (x := u) hvS h1 (by simp at hlen hl ⊢; omega) rfl
   have e' : P ++ S ++ (u :: U ++ R) = P ++ S ++ u :: (U ++ R) := rfl
   rw [e', e]
   have hS' := s2.length_eq
   simp at hS'
   refine ⟨_, rfl, ⟨S', U, fun h => by rw [h] at hS'; simp at hS', ?_, s1, ?_⟩, ?_⟩
   ·simp only [hS']
    congr 1
   ·refine List.Perm.trans ?_ h2
    have : S ++ u :: U = S ++ [u] ++ U := by simp
    rw [this]
    exact s2.append_right U
   ·simp at hlen ⊢; omega
theorem zun {P V R : List Int} {x : Int} (hl : P.length + V.length < 2 ^ 40) {w : Nat} (hw : w = P.length + V.length + 1) :
  z1b (z0T (w : Int)) LFm ((P.length : Int), P ++ x :: (V ++ R)) = some (P ++ V ++ x :: R) := by
 refine z1I (s := ((P.length : Int), P ++ x :: (V ++ R))) V.length (fun k => (((P.length + k : Nat) : Int), (P ++ V.take k) ++ x :: (V.drop k ++ R))) (by simp) (by simp only [LFm]; omega) (fun k hk => ?_) ?_
 ·have hlk : P.length + k = (P ++ V.take k).length := by rw [List.length_append, List.length_take]; omega
  simp only [z0T]
  rw [z2E (x := (w : Int) - 1) (by omega) (by omega), if_pos (by omega)]
  have hj : IntKind.i64.wrap (((P.length + k : Nat) : Int) + 1) = ((P.length + k + 1 : Nat) : Int) := by rw [z2E (by omega) (by omega)]; omega
  rw [hj, List.drop_eq_getElem_cons hk, List.cons_append, hlk, at1 _ _ _ _ rfl, Option.bind_some, at0 _ _ _ rfl, Option.bind_some, Int.toNat_natCast, zw9 _ _ _ _ rfl, at1 _ _ _ _ rfl, Option.bind_some, Int.toNat_natCast, zxT _ _ _ _ _ rfl]
  rw [List.take_succ_eq_append_getElem hk]
  have e2 : P.length + (k + 1) = (P ++ V.take k).length + 1 := by omega
  rw [e2]
  simp only [List.append_assoc, List.cons_append, List.nil_append]
 ·simp only [z0T]
  rw [z2E (x := (w : Int) - 1) (by omega) (by omega), if_neg (by omega)]
  simp
theorem zrt {P V R : List Int} {x : Int} (hl : P.length + V.length < 2 ^ 40) :
  z1b (z0N (P.length : Int)) LFm (((P.length + V.length : Nat) : Int), P ++ V ++ x :: R) = some (P ++ x :: (V ++ R)) := by
 refine z1I (s := (((P.length + V.length : Nat) : Int), P ++ V ++ x :: R)) V.length (fun k => (((P.length + (V.length - k) : Nat) : Int), (P ++ V.take (V.length - k)) ++ x :: (V.drop (V.length - k) ++ R))) (by simp) (by simp only [LFm]; omega) (fun k hk => ?_) ?_
 ·obtain ⟨j, hj⟩ : ∃ j, V.length - k = j + 1 := ⟨V.length - k - 1, by omega⟩
  have hjl : j < V.length := by omega
  have e3 : V.length - (k + 1) = j := by omega
  have hlk : P.length + j = (P ++ V.take j).length := by rw [List.length_append, List.length_take]; omega
  rw [hj, e3]
  simp only [z0N]
  rw [if_pos (by omega)]
  have hw : IntKind.i64.wrap (((P.length + (j + 1) : Nat) : Int) - 1) = ((P.length + j : Nat) : Int) := by rw [z2E (by omega) (by omega)]; omega
  have e1 : (P ++ V.take (j + 1)) ++ x :: (V.drop (j + 1) ++ R) = (P ++ V.take j) ++ V[j] :: x :: (V.drop (j + 1) ++ R) := by
   rw [List.take_succ_eq_append_getElem hjl]; simp only [List.append_assoc, List.cons_append, List.nil_append]
  have e2 : P.length + (j + 1) = (P ++ V.take j).length + 1 := by omega
  rw [hw, e1, hlk, e2, at0 _ _ _ rfl, Option.bind_some, at1 _ _ _ _ rfl, Option.bind_some, Int.toNat_natCast, zxT _ _ _ _ _ rfl, at0 _ _ _ rfl, Option.bind_some, Int.toNat_natCast, zw9 _ _ _ _ rfl, List.drop_eq_getElem_cons hjl]
  rfl
 ·simp only [z0N]
  rw [if_neg (by omega)]
  simp
end Go.Proofs.Ytbnnipkanechoaa
end
section
namespace Go.Proofs.Ytbnnipkanechoaa
open Go
set_option maxRecDepth 100000
theorem zep {P X M Y R : List Int} (K : List Int) (hxy : X.length = Y.length) (hl : P.length + X.length + M.length + Y.length < 2 ^ 40) {a b n : Nat} (ha : a = P.length) (hb : b = P.length + X.length + M.length) (hn : n = X.length) :
  z0x (P ++ (X ++ (M ++ (Y ++ R)))) (a : Int) (b : Int) (n : Int) K = some (P ++ (Y ++ (M ++ (X ++ R)))) := by
 subst ha hb hn
 unfold z0x
 refine z1I (s := ((0 : Int), P ++ (X ++ (M ++ (Y ++ R))))) X.length (fun k => ((k : Int), P ++ (Y.take k ++ (X.drop k ++ (M ++ (X.take k ++ (Y.drop k ++ R))))))) (by simp) (by simp only [LFm]; omega) (fun k hk => ?_) ?_
 ·have hk' : k < Y.length := by omega
  simp only [z1j]
  have e1 : IntKind.i64.wrap ((((P.length + X.length + M.length : Nat)) : Int) + (k : Int)) = ((P.length + X.length + M.length + k : Nat) : Int) := by rw [z2E (by omega) (by omega)]; omega
  have e2 : IntKind.i64.wrap ((P.length : Int) + (k : Int)) = ((P.length + k : Nat) : Int) := by rw [z2E (by omega) (by omega)]; omega
  rw [if_pos (by omega), e1, e2, z1X (by omega), List.drop_eq_getElem_cons hk, List.drop_eq_getElem_cons hk']
  have f1 : P ++ (Y.take k ++ (X[k] :: X.drop (k + 1) ++ (M ++ (X.take k ++ (Y[k] :: Y.drop (k + 1) ++ R))))) = (P ++ Y.take k) ++ X[k] :: (X.drop (k + 1) ++ (M ++ (X.take k ++ Y[k] :: (Y.drop (k + 1) ++ R)))) := by simp only [List.append_assoc, List.cons_append]
  have l1 : P.length + k = (P ++ Y.take k).length := by rw [List.length_append, List.length_take]; omega
  have g : ∀ z : Int, (P ++ Y.take k) ++ z :: (X.drop (k + 1) ++ (M ++ (X.take k ++ Y[k] :: (Y.drop (k + 1) ++ R)))) = ((P ++ Y.take k) ++ z :: (X.drop (k + 1) ++ (M ++ X.take k))) ++ Y[k] :: (Y.drop (k + 1) ++ R) := fun z => by simp only [List.append_assoc, List.cons_append]
  have l2 : ∀ z : Int, P.length + X.length + M.length + k = ((P ++ Y.take k) ++ z :: (X.drop (k + 1) ++ (M ++ X.take k))).length := fun z => by
   simp only [List.length_append, List.length_cons, List.length_take, List.length_drop]; omega
  rw [f1, l1]
  conv => lhs; rw [show (P ++ List.take k Y ++ X[k] :: (List.drop (k + 1) X ++ (M ++ (List.take k X ++ Y[k] :: (List.drop (k + 1) Y ++ R))))) = _ from g X[k]]
  rw [at0 _ _ _ (l2 X[k]), Option.bind_some, ← g, at0 _ _ _ rfl, Option.bind_some, Int.toNat_natCast, zw9 _ _ _ _ rfl, g, at0 _ _ _ (l2 Y[k]), Option.bind_some, Int.toNat_natCast, zw9 _ _ _ _ (l2 Y[k])]
  rw [List.take_succ_eq_append_getElem hk, List.take_succ_eq_append_getElem hk']
  simp only [List.append_assoc, List.cons_append, List.nil_append]
 ·simp only [z1j]
  rw [if_neg (by omega)]
  have e3 : Y.take X.length = Y := List.take_of_length_le (by omega)
  have e4 : Y.drop X.length = [] := List.drop_of_length_le (by omega)
  simp [e3, e4]
theorem rotate {P U V R : List Int} (K : List Int) (hU : U ≠ []) (hV : V ≠ []) (hl : P.length + U.length + V.length < 2 ^ 40) {a m b : Nat} (ha : a = P.length) (hm : m = P.length + U.length) (hb : b = P.length + U.length + V.length) :
  z0A (P ++ (U ++ (V ++ R))) (a : Int) (m : Int) (b : Int) K = some (P ++ (V ++ (U ++ R))) := by
 subst ha hm hb
 unfold z0A
 have e1 : IntKind.i64.wrap (((P.length + U.length : Nat) : Int) - (P.length : Int)) = (U.length : Int) := by rw [z2E (by omega) (by omega)]; omega
 have e2 : IntKind.i64.wrap (((P.length + U.length + V.length : Nat) : Int) - ((P.length + U.length : Nat) : Int)) = (V.length : Int) := by rw [z2E (by omega) (by omega)]; omega
 rw [e1, e2]
 refine zd5 (s := ((U.length : Int), (V.length : Int), P ++ (U ++ (V ++ R)))) (fun z => ∃ (A X Y B : List Int), X ≠ [] /\ Y ≠ [] /\ A.length + X.length = P.length + U.length /\ A.length + X.length + Y.length <= P.length + U.length + V.length /\ z = ((X.length : Int), (Y.length : Int), A ++ (X ++ (Y ++ B))) /\ A ++ (Y ++ (X ++ B)) = P ++ (V ++ (U ++ R))) (fun z => z.1.toNat + z.2.1.toNat) ⟨P, U, V, R, hU, hV, rfl, by omega, rfl, rfl⟩ (by simp only [LFm]; omega) ?_
 rintro z ⟨A, X, Y, B, hX, hY, hm, hb, rfl, hfin⟩
 have x0 := List.length_pos_iff.2 hX
 have y0 := List.length_pos_iff.2 hY
 have hmi : IntKind.i64.wrap (((P.length + U.length : Nat) : Int) - (X.length : Int)) = (A.length : Int) := by rw [z2E (by omega) (by omega)]; omega
 simp only [z1D]
 by_cases h1 : (X.length : Int) = (Y.length : Int)
 ·right
  rw [if_pos h1, hmi]
  have := zep (P := A) (X := X) (M := []) (Y := Y) (R := B) K (by omega) (by simp; omega) rfl (b := P.length + U.length) (by simp; omega) rfl
  rw [List.nil_append, List.nil_append] at this
  rw [this, Option.bind_some, hfin]
 ·left
  rw [if_neg h1]
  by_cases h2 : (Y.length : Int) < (X.length : Int)
  ·rw [if_pos h2, hmi]
   have hx1 : (X.take Y.length).length = Y.length := by rw [List.length_take]; omega
   have := zep (P := A) (X := X.take Y.length) (M := X.drop Y.length) (Y := Y) (R := B) K hx1 (by simp only [List.length_take, List.length_drop]; omega) rfl (b := P.length + U.length) (by simp only [List.length_take, List.length_drop]; omega) (n := Y.length) hx1.symm
   have e : A ++ (X.take Y.length ++ (X.drop Y.length ++ (Y ++ B))) = A ++ (X ++ (Y ++ B)) := by
    rw [← List.append_assoc (X.take Y.length), List.take_append_drop]
   rw [e] at this
   rw [this, Option.bind_some]
   have hw : IntKind.i64.wrap ((X.length : Int) - (Y.length : Int)) = ((X.drop Y.length).length : Int) := by rw [z2E (by omega) (by omega), List.length_drop]; omega
   refine ⟨_, rfl, ⟨A ++ Y, X.drop Y.length, X.take Y.length, B, ?_, ?_, ?_, ?_, ?_, ?_⟩, ?_⟩
   ·intro h; have := congrArg List.length h; simp at this; omega
   ·intro h; rw [h] at hx1; simp at hx1; omega
   ·rw [List.length_append, List.length_drop]; omega
   ·rw [List.length_append, List.length_drop, hx1]; omega
   ·rw [hw, hx1]; simp only [List.append_assoc]
   ·rw [← hfin, List.append_assoc, ← List.append_assoc (X.take Y.length), List.take_append_drop]
   ·simp only [hw, List.length_drop, Int.toNat_natCast]; omega
  ·rw [if_neg h2, hmi]
   have hlt : X.length < Y.length := by omega
   have hb1 : IntKind.i64.wrap (IntKind.i64.wrap (((P.length + U.length : Nat) : Int) + (Y.length : Int)) - (X.length : Int)) = ((P.length + U.length + Y.length - X.length : Nat) : Int) := by
    rw [z2E (x := ((P.length + U.length : Nat) : Int) + (Y.length : Int)) (by omega) (by omega), z2E (by omega) (by omega)]; omega
   have hy1 : (Y.drop (Y.length - X.length)).length = X.length := by rw [List.length_drop]; omega
   have := zep (P := A) (X := X) (M := Y.take (Y.length - X.length)) (Y := Y.drop (Y.length - X.length)) (R := B) K hy1.symm (by simp only [List.length_take, List.length_drop]; omega) rfl (b := P.length + U.length + Y.length - X.length) (by simp only [List.length_take]; omega) rfl
   have e : A ++ (X ++ (Y.take (Y.length - X.length) ++ (Y.drop (Y.length - X.length) ++ B))) = A ++ (X ++ (Y ++ B)) := by
    rw [← List.append_assoc (Y.take (Y.length - X.length)), List.take_append_drop]
   rw [e] at this
   rw [hb1, this, Option.bind_some]
   have hw : IntKind.i64.wrap ((Y.length : Int) - (X.length : Int)) = ((Y.take (Y.length - X.length)).length : Int) := by rw [z2E (by omega) (by omega), List.length_take]; omega
   refine ⟨_, rfl, ⟨A, Y.drop (Y.length - X.length), Y.take (Y.length - X.length), X ++ B, ?_, ?_, ?_, ?_, ?_, ?_⟩, ?_⟩
   ·intro h; rw [h] at hy1; simp at hy1; omega
   ·intro h; have := congrArg List.length h; simp at this; omega
   ·rw [hy1]; exact hm
   ·rw [hy1, List.length_take]; omega
   ·rw [hw, hy1]
   ·rw [← hfin, ← List.append_assoc (Y.take (Y.length - X.length)), List.take_append_drop]
   ·simp only [hw, List.length_take, Int.toNat_natCast]; omega
theorem ztB {ρ : Type} {b : Int × Int -> Option ((Int × Int) ⊕ ρ)} {p : Nat -> Bool} {lo hi : Nat} {Post : ρ -> Prop} (hlh : lo <= hi) (h40 : hi < 2 ^ 40) (hmono : ∀ i j, lo <= i -> i < j -> j < hi -> p j = true -> p i = true)
  (step : ∀ i j : Nat, lo <= i -> i < j -> j <= hi -> b ((i : Int), (j : Int)) = if p ((i + j) / 2) = true then z0B ((((i + j) / 2 + 1 : Nat) : Int), (j : Int)) else z0B ((i : Int), (((i + j) / 2 : Nat) : Int)))
  (last : ∀ s, lo <= s -> s <= hi -> (∀ k, lo <= k -> k < s -> p k = true) -> (∀ k, s <= k -> k < hi -> p k = false) -> ∃ r, b ((s : Int), (s : Int)) = some (.inr r) /\ Post r) :
  ∃ r, z1b b LFm ((lo : Int), (hi : Int)) = some r /\ Post r := by
 refine z1T (fun z => ∃ i j : Nat, lo <= i /\ i <= j /\ j <= hi /\ z = ((i : Int), (j : Int)) /\ (∀ k, lo <= k -> k < i -> p k = true) /\ (∀ k, j <= k -> k < hi -> p k = false)) (fun z => (z.2 - z.1).toNat) Post ?_ LFm _ ⟨lo, hi, by omega, hlh, by omega, rfl, fun k h1 h2 => by omega, fun k h1 h2 => by omega⟩ (by simp only [LFm]; omega)
 rintro z ⟨i, j, h1, h2, h3, rfl, h4, h5⟩
 by_cases hij : i < j
 ·left
  rw [step i j h1 hij h3]
  by_cases hp : p ((i + j) / 2) = true
  ·rw [if_pos hp]
   refine ⟨_, rfl, ⟨(i + j) / 2 + 1, j, by omega, by omega, h3, rfl, fun k k1 k2 => ?_, h5⟩, by simp only; omega⟩
   by_cases e : k = (i + j) / 2
   ·rw [e]; exact hp
   ·exact hmono k ((i + j) / 2) k1 (by omega) (by omega) hp
  ·rw [if_neg hp]
   refine ⟨_, rfl, ⟨i, (i + j) / 2, h1, by omega, by omega, rfl, h4, fun k k1 k2 => ?_⟩, by simp only; omega⟩
   by_cases e : k = (i + j) / 2
   ·rw [e]; simpa using hp
   ·cases hk : p k with
    | false => rfl
    | true => exact absurd (hmono ((i + j) / 2) k (by omega) (by omega) k2 hk) hp
 ·right
  obtain rfl : i = j := by omega
  exact last i h1 h3 h4 h5
end Go.Proofs.Ytbnnipkanechoaa
end
section
namespace Go.Proofs.Ytbnnipkanechoaa
open Go
set_option maxRecDepth 100000
theorem atM {A V B : List Int} {t i : Nat} (h : t < V.length) (hi : i = A.length + t) : atI (A ++ (V ++ B)) (i : Int) = some (V.getD t 0) := by
 subst hi
 rw [z1P (by simp; omega)]
 congr 1
 rw [List.getElem_append_right (by omega)]
 have : A.length + t - A.length = t := by omega
 simp only [this]
 rw [List.getElem_append_left h, List.getD, List.getElem?_eq_getElem h, Option.getD_some]
theorem zy1 {K V : List Int} (hv : zkH K V) {t : Nat} (h : t < V.length) : zvt K (V.getD t 0) := by
 rw [List.getD, List.getElem?_eq_getElem h, Option.getD_some]; exact hv _ (List.getElem_mem h)
theorem z6S {K V : List Int} (hs : zaa K V) {i j : Nat} (hij : i <= j) (hj : j < V.length) : kv K (V.getD i 0) <= kv K (V.getD j 0) := by
 rw [List.getD, List.getD, List.getElem?_eq_getElem hj, List.getElem?_eq_getElem (show i < V.length by omega), Option.getD_some, Option.getD_some]
 by_cases e : i = j
 ·subst e; omega
 ·exact List.pairwise_iff_getElem.1 hs i j (by omega) hj (by omega)
theorem z7c {V : List Int} {k : Nat} {x : Int} (h : x ∈ V.take k) : ∃ i, i < k /\ i < V.length /\ x = V.getD i 0 := by
 obtain ⟨i, hi, rfl⟩ := List.getElem_of_mem h
 have hi' : i < k /\ i < V.length := by rw [List.length_take] at hi; omega
 refine ⟨i, hi'.1, hi'.2, ?_⟩
 rw [List.getElem_take, List.getD, List.getElem?_eq_getElem hi'.2, Option.getD_some]
theorem z7d {V : List Int} {k : Nat} {x : Int} (h : x ∈ V.drop k) : ∃ i, k <= i /\ i < V.length /\ x = V.getD i 0 := by
 obtain ⟨i, hi, rfl⟩ := List.getElem_of_mem h
 have hi' : k + i < V.length := by rw [List.length_drop] at hi; omega
 refine ⟨k + i, by omega, hi', ?_⟩
 rw [List.getElem_drop, List.getD, List.getElem?_eq_getElem hi', Option.getD_some]
theorem zsA {K V1 V2 : List Int} {x : Int} (hs : zaa K (V1 ++ V2)) (h1 : ∀ y ∈ V1, kv K y <= kv K x) (h2 : ∀ y ∈ V2, kv K x <= kv K y) : zaa K (V1 ++ x :: V2) := by
 rw [zaa, List.pairwise_append] at hs ⊢
 refine ⟨hs.1, List.pairwise_cons.2 ⟨h2, hs.2.1⟩, fun a ha b hb => ?_⟩
 rcases List.mem_cons.1 hb with rfl | hb
 ·exact h1 a ha
 ·exact hs.2.2 a ha b hb
def tl3 (rf : List Int -> Int -> Int -> Int -> List Int -> Option (List Int)) (K : List Int) (M E b : Int) (v : List Int) : Option (List Int) :=
 if M < E then (if E < b then (rf v M E b K).bind fun r => some r else some v) else some v
def tl2 (rf : List Int -> Int -> Int -> Int -> List Int -> Option (List Int)) (K : List Int) (a s M E b : Int) (v : List Int) : Option (List Int) :=
 if a < s then (if s < M then (rf v a s M K).bind fun r => tl3 rf K M E b r else tl3 rf K M E b v) else tl3 rf K M E b v
def tl1 (rf : List Int -> Int -> Int -> Int -> List Int -> Option (List Int)) (K : List Int) (a m s M E b : Int) (v : List Int) : Option (List Int) :=
 if s < m then (if m < E then (z0A v s m E K).bind fun r => tl2 rf K a s M E b r else tl2 rf K a s M E b v) else tl2 rf K a s M E b v
def zkG (rf : List Int -> Int -> Int -> Int -> List Int -> Option (List Int)) (K : List Int) (N : Nat) : Prop :=
 ∀ {P U V R : List Int} {a m b : Nat}, U ≠ [] -> V ≠ [] -> zkH K (U ++ V) -> zaa K U -> zaa K V -> P.length + U.length + V.length < 2 ^ 40 -> U.length + V.length <= N -> a = P.length -> m = P.length + U.length -> b = P.length + U.length + V.length ->
  ∃ W, rf (P ++ (U ++ (V ++ R))) (a : Int) (m : Int) (b : Int) K = some (P ++ (W ++ R)) /\ zaa K W /\ W.Perm (U ++ V)
theorem zmF {rf : List Int -> Int -> Int -> Int -> List Int -> Option (List Int)} {K : List Int} {N : Nat} (hrf : zkG rf K N) {P U V R : List Int} {a m b : Nat} (hv : zkH K (U ++ V)) (hsU : zaa K U) (hsV : zaa K V) (hl : P.length + U.length + V.length < 2 ^ 40) (hN : U.length + V.length <= N) (ha : a = P.length) (hm : m = P.length + U.length) (hb : b = P.length + U.length + V.length)
  (f : List Int -> Option (List Int)) :
  ∃ W, (if (a : Int) < (m : Int) then (if (m : Int) < (b : Int) then (rf (P ++ (U ++ (V ++ R))) (a : Int) (m : Int) (b : Int) K).bind f else f (P ++ (U ++ (V ++ R)))) else f (P ++ (U ++ (V ++ R)))) = f (P ++ (W ++ R)) /\ zaa K W /\ W.Perm (U ++ V) := by
 by_cases h1 : U = []
 ·subst h1
  rw [if_neg (by simp at hm; omega)]
  exact ⟨V, by simp, hsV, .refl _⟩
 ·have h1' := List.length_pos_iff.2 h1
  rw [if_pos (by omega)]
  by_cases h2 : V = []
  ·subst h2
   rw [if_neg (by simp at hb; omega)]
   exact ⟨U, by simp, hsU, by simp⟩
  ·have h2' := List.length_pos_iff.2 h2
   rw [if_pos (by omega)]
   obtain ⟨W, e, w1, w2⟩ := hrf h1 h2 hv hsU hsV hl hN ha hm hb (R := R)
   exact ⟨W, by rw [e, Option.bind_some], w1, w2⟩
theorem zx3 {rf : List Int -> Int -> Int -> Int -> List Int -> Option (List Int)} {K : List Int} {N : Nat} (hrf : zkG rf K N) {P U1 U2 V1 V2 R : List Int} {a m b s M E : Nat} (hv : zkH K (U1 ++ U2 ++ (V1 ++ V2))) (hsU : zaa K (U1 ++ U2)) (hsV : zaa K (V1 ++ V2)) (hl : P.length + U1.length + U2.length + V1.length + V2.length < 2 ^ 40)
  (h1 : U1.length + V1.length <= N) (h2 : U2.length + V2.length <= N) (ha : a = P.length) (hs : s = a + U1.length) (hm : m = s + U2.length) (hE : E = m + V1.length) (hb : b = E + V2.length) (hM : M = s + V1.length)
  (c1 : ∀ x ∈ U1, ∀ y ∈ V2, kv K x <= kv K y) (c2 : ∀ x ∈ V1, ∀ y ∈ U2, kv K x <= kv K y) :
  ∃ W, tl1 rf K (a : Int) (m : Int) (s : Int) (M : Int) (E : Int) (b : Int) (P ++ (U1 ++ U2 ++ (V1 ++ V2 ++ R))) = some (P ++ (W ++ R)) /\ zaa K W /\ W.Perm (U1 ++ U2 ++ (V1 ++ V2)) := by
 have e0 : tl1 rf K (a : Int) (m : Int) (s : Int) (M : Int) (E : Int) (b : Int) (P ++ (U1 ++ U2 ++ (V1 ++ V2 ++ R))) = tl2 rf K (a : Int) (s : Int) (M : Int) (E : Int) (b : Int) (P ++ (U1 ++ (V1 ++ (U2 ++ (V2 ++ R))))) := by
  unfold tl1
  by_cases hu : U2 = []
  ·subst hu
   rw [if_neg (by simp at hm; omega)]; simp
  ·have hu' := List.length_pos_iff.2 hu
   rw [if_pos (by omega)]
   by_cases hw : V1 = []
   ·subst hw
    rw [if_neg (by simp at hE; omega)]; simp
   ·have hw' := List.length_pos_iff.2 hw
    rw [if_pos (by omega)]
    have := rotate (P := P ++ U1) (U := U2) (V := V1) (R := V2 ++ R) K hu hw (by simp; omega) (a := s) (m := m) (b := E) (by simp; omega) (by simp; omega) (by simp; omega)
    have e : P ++ U1 ++ (U2 ++ (V1 ++ (V2 ++ R))) = P ++ (U1 ++ U2 ++ (V1 ++ V2 ++ R)) := by simp only [List.append_assoc]
    rw [e] at this
    rw [this, Option.bind_some]
    simp only [List.append_assoc]
 rw [e0]
 have q1 := List.pairwise_append.1 hsU
 have q2 := List.pairwise_append.1 hsV
 have m1 : ∀ x ∈ U1 ++ V1, x ∈ U1 ++ U2 ++ (V1 ++ V2) := fun x hx => by
  simp only [List.mem_append] at *
  rcases hx with h | h
  ·exact .inl (.inl h)
  ·exact .inr (.inl h)
 have m2 : ∀ x ∈ U2 ++ V2, x ∈ U1 ++ U2 ++ (V1 ++ V2) := fun x hx => by
  simp only [List.mem_append] at *
  rcases hx with h | h
  ·exact .inl (.inr h)
  ·exact .inr (.inr h)
 obtain ⟨L, e1, l1, l2⟩ := zmF (R := U2 ++ (V2 ++ R)) hrf (P := P) (U := U1) (V := V1) (fun x hx => hv x (m1 x hx)) q1.1 q2.1 (by omega) h1 ha (m := s) (by omega) (b := M) (by omega) (tl3 rf K (M : Int) (E : Int) (b : Int))
 have hL := l2.length_eq
 rw [List.length_append] at hL
 unfold tl2
 rw [e1]
 obtain ⟨Rw, e2, r1, r2⟩ := zmF (R := R) hrf (P := P ++ L) (U := U2) (V := V2) (fun x hx => hv x (m2 x hx)) q1.2.1 q2.2.1 (by rw [List.length_append]; omega) h2 (a := M) (by rw [List.length_append]; omega) (m := E) (by rw [List.length_append]; omega) (b := b) (by rw [List.length_append]; omega) (fun r => some r)
 unfold tl3
 have e : P ++ (L ++ (U2 ++ (V2 ++ R))) = P ++ L ++ (U2 ++ (V2 ++ R)) := by simp only [List.append_assoc]
 rw [e, e2]
 refine ⟨L ++ Rw, by simp only [List.append_assoc], ?_, ?_⟩
 ·refine List.pairwise_append.2 ⟨l1, r1, fun x hx y hy => ?_⟩
  have hx' := l2.mem_iff.1 hx
  have hy' := r2.mem_iff.1 hy
  rcases List.mem_append.1 hx' with hx' | hx' <;> rcases List.mem_append.1 hy' with hy' | hy'
  ·exact q1.2.2 x hx' y hy'
  ·exact c1 x hx' y hy'
  ·exact c2 x hx' y hy'
  ·exact q2.2.2 x hx' y hy'
 ·refine (l2.append r2).trans ?_
  have : (U1 ++ V1 ++ (U2 ++ V2)).Perm (U1 ++ U2 ++ (V1 ++ V2)) := by
   simp only [List.append_assoc]
   refine List.Perm.append_left U1 ?_
   rw [← List.append_assoc, ← List.append_assoc]
   exact List.perm_append_comm.append_right V2
  exact this
theorem zvp : @z1y = @z0u := rfl
theorem zml {rf : List Int -> Int -> Int -> Int -> List Int -> Option (List Int)} {K : List Int} {N : Nat} (hrf : zkG rf K N) {P U V R : List Int} (hv : zkH K (U ++ V)) (hsU : zaa K U) (hsV : zaa K V) (hl : P.length + U.length + V.length < 2 ^ 40) {a m b M lo hi : Nat} (ha : a = P.length) (hm : m = P.length + U.length) (hb : b = P.length + U.length + V.length)
  (hU2 : 2 <= U.length) (hV2 : 2 <= V.length) (hN : U.length + V.length <= N + 1) (hM : M = (a + b) / 2) (hlo : (lo = a /\ m <= M) ∨ (lo = M + m - b /\ M < m)) (hhi : (hi = m /\ m <= M) ∨ (hi = M /\ M < m)) :
  ∃ r, z1b (z0u (P ++ (U ++ (V ++ R))) (a : Int) (m : Int) (b : Int) K rf) LFm ((lo : Int), (hi : Int)) = some r /\ ∃ W, r = P ++ (W ++ R) /\ zaa K W /\ W.Perm (U ++ V) := by
 have hvU : zkH K U := fun x hx => hv x (List.mem_append.2 (.inl hx))
 have hvV : zkH K V := fun x hx => hv x (List.mem_append.2 (.inr hx))
 have cM : IntKind.i64.wrap (z1e .u64 (IntKind.u64.wrap (IntKind.i64.wrap ((a : Int) + b))) 1) = (M : Int) := by rw [zxq _ _ (by omega), hM]
 have cN : IntKind.i64.wrap ((M : Int) + (m : Int)) = ((M + m : Nat) : Int) := by rw [z2E (by omega) (by omega)]; omega
 have cP : IntKind.i64.wrap (((M + m : Nat) : Int) - 1) = ((M + m - 1 : Nat) : Int) := by rw [z2E (by omega) (by omega)]; omega
 refine ztB (p := fun c => decide (kv K (U.getD (c - a) 0) <= kv K (V.getD (M + m - 1 - c - m) 0))) (by omega) (by omega) (fun i j h1 h2 h3 hp => ?_) (fun i j h1 h2 h3 => ?_) (fun s h1 h2 h3 h4 => ?_)
 ·simp only [decide_eq_true_eq] at hp ⊢
  have k1 := z6S hsU (i := i - a) (j := j - a) (by omega) (by omega)
  have k2 := z6S hsV (i := M + m - 1 - j - m) (j := M + m - 1 - i - m) (by omega) (by omega)
  omega
 ·simp only [z0u]
  rw [if_pos (by omega), z0K _ (by omega), cM, zxq i j (by omega), cN, cP]
  have hc : (i + j) / 2 < hi /\ lo <= (i + j) / 2 := by omega
  have w1 : IntKind.i64.wrap (((M + m - 1 : Nat) : Int) - (((i + j) / 2 : Nat) : Int)) = ((M + m - 1 - (i + j) / 2 : Nat) : Int) := by rw [z2E (by omega) (by omega)]; omega
  have e1 : P ++ (U ++ (V ++ R)) = (P ++ U) ++ (V ++ R) := by simp only [List.append_assoc]
  have g1 : atI (P ++ (U ++ (V ++ R))) ((M + m - 1 - (i + j) / 2 : Nat) : Int) = some (V.getD (M + m - 1 - (i + j) / 2 - m) 0) := by
   rw [e1]; exact atM (by omega) (by rw [List.length_append]; omega)
  have g2 : atI (P ++ (U ++ (V ++ R))) (((i + j) / 2 : Nat) : Int) = some (U.getD ((i + j) / 2 - a) 0) := atM (by omega) (by omega)
  rw [w1, g1, Option.bind_some, g2, Option.bind_some]
  obtain ⟨c, hc1, hc2⟩ := zy7 (zy1 hvV (t := M + m - 1 - (i + j) / 2 - m) (by omega)) (zy1 hvU (t := (i + j) / 2 - a) (by omega))
  rw [hc1, Option.bind_some]
  simp only [decide_eq_true_eq]
  by_cases h : c < 0
  ·have := hc2.1 h
   rw [if_pos h, if_neg (by omega)]
  ·have := (not_congr hc2).1 h
   rw [if_neg h, if_pos (by omega), z1X (by omega)]
 ·have wE : IntKind.i64.wrap (((M + m : Nat) : Int) - (s : Int)) = ((M + m - s : Nat) : Int) := by rw [z2E (by omega) (by omega)]; omega
  have hx : (z0u (P ++ (U ++ (V ++ R))) (a : Int) (m : Int) (b : Int) K rf) ((s : Int), (s : Int)) = z1m (tl1 rf K (a : Int) (m : Int) (s : Int) (M : Int) ((M + m - s : Nat) : Int) (b : Int) (P ++ (U ++ (V ++ R)))) := by
   simp only [z0u]
   rw [if_neg (by omega), cM, cN, wE]
   rfl
  have hsa : a <= s /\ s <= m /\ s <= M := by omega
  have tU : U.take (s - a) ++ U.drop (s - a) = U := List.take_append_drop ..
  have tV : V.take (M - s) ++ V.drop (M - s) = V := List.take_append_drop ..
  have lU1 : (U.take (s - a)).length = s - a := by rw [List.length_take]; omega
  have lU2 : (U.drop (s - a)).length = m - s := by rw [List.length_drop]; omega
  have lV1 : (V.take (M - s)).length = M - s := by rw [List.length_take]; omega
  have lV2 : (V.drop (M - s)).length = b - (M + m - s) := by rw [List.length_drop]; omega
  have c1 : ∀ x ∈ U.take (s - a), ∀ y ∈ V.drop (M - s), kv K x <= kv K y := fun x hx y hy => by
   obtain ⟨i, i1, i2, rfl⟩ := z7c hx
   obtain ⟨j, j1, j2, rfl⟩ := z7d hy
   have hs1 : lo <= s - 1 /\ s - 1 < s := by omega
   have := h3 (s - 1) hs1.1 hs1.2
   simp only [decide_eq_true_eq] at this
   have k1 := z6S hsU (i := i) (j := s - 1 - a) (by omega) (by omega)
   have k2 := z6S hsV (i := M + m - 1 - (s - 1) - m) (j := j) (by omega) (by omega)
   omega
  have c2 : ∀ x ∈ V.take (M - s), ∀ y ∈ U.drop (s - a), kv K x <= kv K y := fun x hx y hy => by
   obtain ⟨i, i1, i2, rfl⟩ := z7c hx
   obtain ⟨j, j1, j2, rfl⟩ := z7d hy
   have hs1 : s <= s /\ s < hi := by omega
   have := h4 s hs1.1 hs1.2
   simp only [decide_eq_false_iff_not] at this
   have k1 := z6S hsU (i := s - a) (j := j) (by omega) (by omega)
   have k2 := z6S hsV (i := i) (j := M + m - 1 - s - m) (by omega) (by omega)
   omega
  obtain ⟨W, e, w1, w2⟩ := zx3 (P := P) (U1 := U.take (s - a)) (U2 := U.drop (s - a)) (V1 := V.take (M - s)) (V2 := V.drop (M - s)) (R := R) hrf (a := a) (m := m) (b := b) (s := s) (M := M) (E := M + m - s) (by rw [tU, tV]; exact hv) (by rw [tU]; exact hsU) (by rw [tV]; exact hsV) (by omega) (by omega) (by omega) ha (by omega) (by omega) (by omega) (by omega) (by omega) c1 c2
  rw [tU, tV] at e w2
  rw [hx, e]
  exact ⟨_, rfl, W, rfl, w1, w2⟩
theorem zhh {K : List Int} : ∀ (k : Nat) {P U V R : List Int} {a m b : Nat}, U ≠ [] -> V ≠ [] -> zkH K (U ++ V) -> zaa K U -> zaa K V -> P.length + U.length + V.length < 2 ^ 40 -> U.length + V.length <= k -> a = P.length -> m = P.length + U.length -> b = P.length + U.length + V.length ->
  ∃ W, z0y k (P ++ (U ++ (V ++ R))) (a : Int) (m : Int) (b : Int) K = some (P ++ (W ++ R)) /\ zaa K W /\ W.Perm (U ++ V)
 | 0, P, U, V, R, a, m, b, hU, _, _, _, _, _, hk, _, _, _ => by
  have := List.length_pos_iff.2 hU
  omega
 | k + 1, P, U, V, R, a, m, b, hU, hV, hv, hsU, hsV, hl, hk, ha, hm, hb => by
  have u0 := List.length_pos_iff.2 hU
  have v0 := List.length_pos_iff.2 hV
  have hvU : zkH K U := fun x hx => hv x (List.mem_append.2 (.inl hx))
  have hvV : zkH K V := fun x hx => hv x (List.mem_append.2 (.inr hx))
  have cU : IntKind.i64.wrap ((m : Int) - (a : Int)) = (U.length : Int) := by rw [z2E (by omega) (by omega)]; omega
  have cV : IntKind.i64.wrap ((b : Int) - (m : Int)) = (V.length : Int) := by rw [z2E (by omega) (by omega)]; omega
  show ∃ W, z0V (z0y k) (P ++ (U ++ (V ++ R))) (a : Int) (m : Int) (b : Int) K = _ /\ _
  unfold z0V
  rw [cU, cV]
  by_cases h1 : U.length = 1
  ·obtain ⟨x, rfl⟩ := List.length_eq_one_iff.1 h1
   rw [if_pos (by simp)]
   have hx : zvt K x := hvU x (by simp)
   have := ztB (b := z0U (P ++ ([x] ++ (V ++ R))) (a : Int) K) (p := fun h => decide (kv K (V.getD (h - m) 0) < kv K x)) (lo := m) (hi := b) (Post := fun r => ∃ W, r = P ++ (W ++ R) /\ zaa K W /\ W.Perm ([x] ++ V)) (by omega) (by omega) (fun i j q1 q2 q3 hp => ?_) (fun i j q1 q2 q3 => ?_) (fun s q1 q2 q3 q4 => ?_)
   ·obtain ⟨r, e, W, rfl, w1, w2⟩ := this
    exact ⟨W, e, w1, w2⟩
   ·simp only [decide_eq_true_eq] at hp ⊢
    have k1 := z6S hsV (i := i - m) (j := j - m) (by omega) (by omega)
    omega
   ·simp only [z0U]
    rw [if_pos (by omega), z0K _ (by omega), zxq _ _ (by omega)]
    have e1 : P ++ ([x] ++ (V ++ R)) = (P ++ [x]) ++ (V ++ R) := by simp only [List.append_assoc]
    have g1 : atI (P ++ ([x] ++ (V ++ R))) (((i + j) / 2 : Nat) : Int) = some (V.getD ((i + j) / 2 - m) 0) := by
     rw [e1]; exact atM (by omega) (by rw [List.length_append]; simp at hm ⊢; omega)
    rw [g1, Option.bind_some, show P ++ ([x] ++ (V ++ R)) = P ++ x :: (V ++ R) from rfl, at0 _ _ _ ha, Option.bind_some]
    obtain ⟨c, hc1, hc2⟩ := zy7 (zy1 hvV (t := (i + j) / 2 - m) (by omega)) hx
    rw [hc1, Option.bind_some]
    simp only [decide_eq_true_eq]
    by_cases h : c < 0
    ·rw [if_pos h, if_pos (hc2.1 h), z1X (by omega)]
    ·rw [if_neg h, if_neg ((not_congr hc2).1 h)]
   ·simp only [z0U]
    rw [if_neg (by omega)]
    have lV1 : (V.take (s - m)).length = s - m := by rw [List.length_take]; omega
    simp only [List.length_singleton] at *
    have := zun (P := P) (V := V.take (s - m)) (R := V.drop (s - m) ++ R) (x := x) (by omega) (w := s) (by omega)
    rw [← List.append_assoc (V.take (s - m)), List.take_append_drop] at this
    rw [show P ++ ([x] ++ (V ++ R)) = P ++ x :: (V ++ R) from rfl, ha, this]
    refine ⟨_, rfl, V.take (s - m) ++ x :: V.drop (s - m), by simp only [List.append_assoc, List.cons_append], ?_, ?_⟩
    ·refine zsA (by rw [List.take_append_drop]; exact hsV) (fun y hy => ?_) (fun y hy => ?_)
     ·obtain ⟨i, i1, i2, rfl⟩ := z7c hy
      have := q3 (m + i) (by omega) (by omega)
      simp only [decide_eq_true_eq, Nat.add_sub_cancel_left] at this
      omega
     ·obtain ⟨i, i1, i2, rfl⟩ := z7d hy
      have := q4 (m + i) (by omega) (by omega)
      simp only [decide_eq_false_iff_not, Nat.add_sub_cancel_left] at this
      omega
    ·refine List.perm_middle.trans ?_
     rw [List.take_append_drop]
     exact .refl _
  ·rw [if_neg (by omega)]
   by_cases h2 : V.length = 1
   ·obtain ⟨x, rfl⟩ := List.length_eq_one_iff.1 h2
    rw [if_pos (by simp)]
    have hx : zvt K x := hvV x (by simp)
    have := ztB (b := z0O (P ++ (U ++ ([x] ++ R))) (m : Int) K) (p := fun h => decide (kv K (U.getD (h - a) 0) <= kv K x)) (lo := a) (hi := m) (Post := fun r => ∃ W, r = P ++ (W ++ R) /\ zaa K W /\ W.Perm (U ++ [x])) (by omega) (by omega) (fun i j q1 q2 q3 hp => ?_) (fun i j q1 q2 q3 => ?_) (fun s q1 q2 q3 q4 => ?_)
    ·obtain ⟨r, e, W, rfl, w1, w2⟩ := this
     exact ⟨W, e, w1, w2⟩
    ·simp only [decide_eq_true_eq] at hp ⊢
     have k1 := z6S hsU (i := i - a) (j := j - a) (by omega) (by omega)
     omega
    ·simp only [z0O]
     have e1 : P ++ (U ++ ([x] ++ R)) = (P ++ U) ++ x :: R := by simp only [List.append_assoc, List.cons_append, List.nil_append]
     have g1 : atI (P ++ (U ++ ([x] ++ R))) (((i + j) / 2 : Nat) : Int) = some (U.getD ((i + j) / 2 - a) 0) := atM (by omega) (by omega)
     have g2 : atI (P ++ (U ++ ([x] ++ R))) (m : Int) = some x := by rw [e1]; exact at0 _ _ _ (by rw [List.length_append]; omega)
     rw [if_pos (by omega), z0K _ (by omega), zxq _ _ (by omega), g2, Option.bind_some, g1, Option.bind_some]
     obtain ⟨c, hc1, hc2⟩ := zy7 hx (zy1 hvU (t := (i + j) / 2 - a) (by omega))
     rw [hc1, Option.bind_some]
     simp only [decide_eq_true_eq]
     by_cases h : c < 0
     ·have := hc2.1 h
      rw [if_pos h, if_neg (by omega)]
     ·have := (not_congr hc2).1 h
      rw [if_neg h, if_pos (by omega), z1X (by omega)]
    ·simp only [z0O]
     rw [if_neg (by omega)]
     have lU1 : (U.take (s - a)).length = s - a := by rw [List.length_take]; omega
     have lU2 : (U.drop (s - a)).length = m - s := by rw [List.length_drop]; omega
     simp only [List.length_singleton] at *
     have := zrt (P := P ++ U.take (s - a)) (V := U.drop (s - a)) (R := R) (x := x) (by rw [List.length_append]; omega)
     have e2 : (P ++ U.take (s - a)).length = s := by rw [List.length_append]; omega
     have e3 : (P ++ U.take (s - a)).length + (U.drop (s - a)).length = m := by rw [e2, lU2]; omega
     have e4 : P ++ U.take (s - a) ++ U.drop (s - a) ++ x :: R = P ++ (U ++ ([x] ++ R)) := by
      rw [List.append_assoc P, List.take_append_drop]; simp only [List.append_assoc, List.cons_append, List.nil_append]
     rw [e3, e4, e2] at this
     rw [this]
     refine ⟨_, rfl, U.take (s - a) ++ x :: U.drop (s - a), by simp only [List.append_assoc, List.cons_append], ?_, ?_⟩
     ·refine zsA (by rw [List.take_append_drop]; exact hsU) (fun y hy => ?_) (fun y hy => ?_)
      ·obtain ⟨i, i1, i2, rfl⟩ := z7c hy
       have := q3 (a + i) (by omega) (by omega)
       simp only [decide_eq_true_eq, Nat.add_sub_cancel_left] at this
       omega
      ·obtain ⟨i, i1, i2, rfl⟩ := z7d hy
       have := q4 (a + i) (by omega) (by omega)
       simp only [decide_eq_false_iff_not, Nat.add_sub_cancel_left] at this
       omega
     ·refine List.perm_middle.trans ?_
      rw [List.take_append_drop]
      exact (List.perm_append_singleton x U).symm
   ·rw [if_neg (by omega)]
    have hrf : zkG (z0y k) K k := fun {P' U' V' R' a' m' b'} g1 g2 g3 g4 g5 g6 g7 g8 g9 g10 => zhh k g1 g2 g3 g4 g5 g6 g7 g8 g9 g10
    have cM : IntKind.i64.wrap (z1e .u64 (IntKind.u64.wrap (IntKind.i64.wrap ((a : Int) + b))) 1) = (((a + b) / 2 : Nat) : Int) := zxq _ _ (by omega)
    have cN : IntKind.i64.wrap ((((a + b) / 2 : Nat) : Int) + (m : Int)) = (((a + b) / 2 + m : Nat) : Int) := by rw [z2E (by omega) (by omega)]; omega
    rw [z0K _ (by omega), cM, cN]
    by_cases hMm : (a + b) / 2 < m
    ·have cB : IntKind.i64.wrap ((((a + b) / 2 + m : Nat) : Int) - (b : Int)) = (((a + b) / 2 + m - b : Nat) : Int) := by rw [z2E (by omega) (by omega)]; omega
     rw [if_pos (by omega), cB]
     obtain ⟨r, e, W, rfl, w1, w2⟩ := zml (R := R) hrf hv hsU hsV hl (M := (a + b) / 2) (lo := (a + b) / 2 + m - b) (hi := (a + b) / 2) ha hm hb (by omega) (by omega) (by omega) rfl (.inr ⟨rfl, hMm⟩) (.inr ⟨rfl, hMm⟩)
     exact ⟨W, e, w1, w2⟩
    ·rw [if_neg (by omega), zvp]
     obtain ⟨r, e, W, rfl, w1, w2⟩ := zml (R := R) hrf hv hsU hsV hl (M := (a + b) / 2) (lo := a) (hi := m) ha hm hb (by omega) (by omega) (by omega) rfl (.inl ⟨rfl, by omega⟩) (.inl ⟨rfl, by omega⟩)
     exact ⟨W, e, w1, w2⟩
end Go.Proofs.Ytbnnipkanechoaa
end
section
namespace Go.Proofs.Ytbnnipkanechoaa
open Go
set_option maxRecDepth 100000
def zne (K : List Int) (B : Nat) (l : List Int) : Prop := ∀ i j, i < j -> j < l.length -> i / B = j / B -> kv K (l.getD i 0) <= kv K (l.getD j 0)
theorem zx7 {K l : List Int} (h : ∀ i j, i < j -> j < l.length -> kv K (l.getD i 0) <= kv K (l.getD j 0)) : zaa K l := by
 refine List.pairwise_iff_getElem.2 fun i j hi hj hij => ?_
 have := h i j hij hj
 rwa [List.getD, List.getD, List.getElem?_eq_getElem hj, List.getElem?_eq_getElem hi, Option.getD_some, Option.getD_some] at this
theorem zpk {A X : List Int} {i : Nat} (h : i < A.length) : (A ++ X).getD i 0 = A.getD i 0 := by
 rw [List.getD, List.getD, List.getElem?_append_left h]
theorem zpj {A X : List Int} {i : Nat} : (A ++ X).getD (A.length + i) 0 = X.getD i 0 := by
 rw [List.getD, List.getD, List.getElem?_append_right (by omega), Nat.add_sub_cancel_left]
theorem zkz {K A X : List Int} {B q : Nat} (hB : 0 < B) (hA : A.length = q * B) (h : zne K B (A ++ X)) : zne K B X := fun i j hij hj hb => by
 have := h (A.length + i) (A.length + j) (by omega) (by rw [List.length_append]; omega) (by rw [hA, Nat.add_comm, Nat.add_mul_div_right _ _ hB, Nat.add_comm, Nat.add_comm (q * B), Nat.add_mul_div_right _ _ hB, hb, Nat.add_comm])
 rwa [zpj, zpj] at this
theorem zeH {K U X : List Int} {B : Nat} (hU : U.length <= B) (h : zne K B (U ++ X)) : zaa K U := zx7 fun i j hij hj => by
 have := h i j hij (by rw [List.length_append]; omega) (by rw [Nat.div_eq_of_lt (by omega), Nat.div_eq_of_lt (by omega)])
 rwa [zpk (by omega), zpk hj] at this
theorem zdn {K D W : List Int} {B q : Nat} (hB : 0 < B) (hD : D.length = q * B) (h : zne K B D) (hW : zaa K W) : zne K B (D ++ W) := fun i j hij hj hb => by
 by_cases h1 : j < D.length
 ·rw [zpk (by omega), zpk h1]
  exact h i j hij h1 hb
 ·have h2 : D.length <= i := by
   rcases Nat.lt_or_ge i D.length with h2 | h2
   ·exfalso
    have a1 : i / B < q := by rw [Nat.div_lt_iff_lt_mul hB, ← hD]; exact h2
    have a2 : q <= j / B := by rw [Nat.le_div_iff_mul_le hB, ← hD]; omega
    omega
   ·exact h2
  obtain ⟨i', rfl⟩ := Nat.exists_eq_add_of_le h2
  obtain ⟨j', rfl⟩ := Nat.exists_eq_add_of_le (show D.length <= j by omega)
  rw [zpj, zpj]
  exact z6S hW (by omega) (by rw [List.length_append] at hj; omega)
theorem zu2 (K : List Int) (B : Nat) : zne K B [] := fun i j _ hj => by simp at hj
theorem zvj {K l0 : List Int} (hv : zkH K l0) (hn : l0.length < 2 ^ 38) (Post : List Int -> Prop) (k : ∀ D, zne K 20 D -> D.Perm l0 -> ∃ r, z1b (z1p ((l0.length : Nat) : Int) K) LFm (20, D) = some r /\ Post r) :
  ∃ r, z1b (z1q ((l0.length : Nat) : Int) K) LFm (0, 20, l0) = some r /\ Post r := by
 refine z1T (fun z => ∃ (D X : List Int) (q : Nat), D.length = q * 20 /\ z = ((D.length : Int), ((D.length + 20 : Nat) : Int), D ++ X) /\ zne K 20 D /\ (D ++ X).Perm l0) (fun z => l0.length + 1 - z.1.toNat) Post ?_ LFm _ ⟨[], l0, 0, rfl, rfl, zu2 K 20, .refl _⟩ (by simp only [LFm]; omega)
 rintro z ⟨D, X, q, hq, rfl, hD, hp⟩
 have hlen := hp.length_eq
 rw [List.length_append] at hlen
 have hvX : zkH K X := fun x hx => hv x (hp.mem_iff.1 (List.mem_append.2 (.inr hx)))
 simp only [z1q]
 by_cases h : D.length + 20 <= l0.length
 ·left
  rw [if_pos (by omega)]
  have t1 : X.take 20 ++ X.drop 20 = X := List.take_append_drop ..
  have t2 : (X.take 20).length = 20 := by rw [List.length_take]; omega
  obtain ⟨S, e, s1, s2⟩ := zpb (P := D) (X := X.take 20) (R := X.drop 20) (fun x hx => hvX x (List.mem_of_mem_take hx)) (by omega) (a := D.length) (b := D.length + 20) rfl (by omega)
  have hS := s2.length_eq
  rw [t2] at hS
  rw [List.append_assoc, t1] at e
  rw [e, Option.bind_some, z2E (by omega) (by omega)]
  refine ⟨_, rfl, ⟨D ++ S, X.drop 20, q + 1, by rw [List.length_append]; omega, ?_, zdn (by omega) hq hD s1, ?_⟩, by simp only; omega⟩
  ·rw [List.length_append, hS]
   congr 2
  ·refine List.Perm.trans ?_ hp
   rw [List.append_assoc]
   refine List.Perm.append_left D ?_
   have := s2.append_right (X.drop 20)
   rwa [t1] at this
 ·right
  rw [if_neg (by omega)]
  obtain ⟨S, e, s1, s2⟩ := zpb (P := D) (X := X) (R := []) hvX (by omega) (a := D.length) (b := l0.length) rfl (by omega)
  rw [List.append_nil, List.append_nil] at e
  rw [e, Option.bind_some]
  obtain ⟨r, e2, hr⟩ := k (D ++ S) (zdn (by omega) hq hD s1) ((s2.append_left D).trans hp)
  exact ⟨r, by rw [e2]; rfl, hr⟩
theorem zxs {K l0 : List Int} (hv : zkH K l0) (hn : l0.length <= 5000) {B : Nat} (hB0 : 0 < B) (hB : B < 5000) {l : List Int} (hb : zne K B l) (hp : l.Perm l0) :
  ∃ S, z1b (z0Z ((l0.length : Nat) : Int) K (B : Int)) LFm (0, ((2 * B : Nat) : Int), l) = some (.inl (((B * 2 : Nat) : Int), S)) /\ zne K (B * 2) S /\ S.Perm l0 := by
 refine Exists.elim (z1T (b := z0Z ((l0.length : Nat) : Int) K (B : Int)) (fun z => ∃ (D X : List Int) (q : Nat), D.length = q * (B * 2) /\ z = ((D.length : Int), ((D.length + 2 * B : Nat) : Int), D ++ X) /\ zne K (B * 2) D /\ zne K B X /\ (D ++ X).Perm l0) (fun z => l0.length + 1 - z.1.toNat)
  (fun r => ∃ S, r = .inl (((B * 2 : Nat) : Int), S) /\ zne K (B * 2) S /\ S.Perm l0) ?_ LFm (0, ((2 * B : Nat) : Int), l) ⟨[], l, 0, by simp, by simp, zu2 K _, hb, hp⟩ (by simp only [LFm]; omega)) fun r h => by
   obtain ⟨h1, S, rfl, h2, h3⟩ := h
   exact ⟨S, h1, h2, h3⟩
 rintro z ⟨D, X, q, hq, rfl, hD, hX, hp2⟩
 have hlen := hp2.length_eq
 rw [List.length_append] at hlen
 have hvX : zkH K X := fun x hx => hv x (hp2.mem_iff.1 (List.mem_append.2 (.inr hx)))
 have wB : IntKind.i64.wrap (2 * (B : Int)) = ((2 * B : Nat) : Int) := by rw [z2E (by omega) (by omega)]; omega
 have wB2 : IntKind.i64.wrap ((B : Int) * 2) = ((B * 2 : Nat) : Int) := by rw [z2E (by omega) (by omega)]; omega
 have wa : IntKind.i64.wrap ((D.length : Int) + (B : Int)) = ((D.length + B : Nat) : Int) := by rw [z2E (by omega) (by omega)]; omega
 simp only [z0Z]
 rw [wa, wB, wB2]
 have t1 : X.take B ++ X.drop B = X := List.take_append_drop ..
 by_cases h : D.length + 2 * B <= l0.length
 ·left
  rw [if_pos (by omega)]
  have t2 : (X.take B).length = B := by rw [List.length_take]; omega
  have hX2 : zne K B (X.drop B) := zkz (A := X.take B) (q := 1) hB0 (by omega) (by rw [t1]; exact hX)
  have t3 : (X.drop B).take B ++ (X.drop B).drop B = X.drop B := List.take_append_drop ..
  have t4 : ((X.drop B).take B).length = B := by rw [List.length_take, List.length_drop]; omega
  obtain ⟨W, e, w1, w2⟩ := zhh (K := K) 5000 (P := D) (U := X.take B) (V := (X.drop B).take B) (R := (X.drop B).drop B) (a := D.length) (m := D.length + B) (b := D.length + 2 * B) (fun h => by rw [h] at t2; simp at t2; omega) (fun h => by rw [h] at t4; simp at t4; omega)
   (fun x hx => hvX x (by
    rcases List.mem_append.1 hx with hx | hx
    ·exact List.mem_of_mem_take hx
    ·exact List.mem_of_mem_drop (List.mem_of_mem_take hx)))
   (zeH (B := B) (X := X.drop B) (by omega) (by rw [t1]; exact hX)) (zeH (B := B) (X := (X.drop B).drop B) (by omega) (by rw [t3]; exact hX2)) (by omega) (by omega) rfl (by omega) (by omega)
  have hW := w2.length_eq
  rw [List.length_append, t2, t4] at hW
  rw [t3, t1] at e
  have hX3 : zne K B ((X.drop B).drop B) := zkz (A := (X.drop B).take B) (q := 1) hB0 (by omega) (by rw [t3]; exact hX2)
  have ws : IntKind.i64.wrap (((D.length + 2 * B : Nat) : Int) + ((2 * B : Nat) : Int)) = ((D.length + 2 * B + 2 * B : Nat) : Int) := by rw [z2E (by omega) (by omega)]; omega
  rw [e, Option.bind_some, ws]
  refine ⟨_, rfl, ⟨D ++ W, (X.drop B).drop B, q + 1, ?_, ?_, zdn (by omega) hq hD w1, hX3, ?_⟩, by simp only; omega⟩
  ·rw [List.length_append, hW, Nat.add_mul, hq]; omega
  ·rw [List.length_append, hW]
   refine Prod.ext ?_ (Prod.ext ?_ ?_)
   ·simp only; omega
   ·simp only; omega
   ·simp only [List.append_assoc]
  ·refine List.Perm.trans ?_ hp2
   rw [List.append_assoc]
   refine List.Perm.append_left D ?_
   have := w2.append_right ((X.drop B).drop B)
   rwa [List.append_assoc, t3, t1] at this
 ·right
  rw [if_neg (by omega)]
  by_cases h2 : D.length + B < l0.length
  ·have t2 : (X.take B).length = B := by rw [List.length_take]; omega
   have hX2 : zne K B (X.drop B) := zkz (A := X.take B) (q := 1) hB0 (by omega) (by rw [t1]; exact hX)
   have t4 : (X.drop B).length = l0.length - D.length - B := by rw [List.length_drop]; omega
   obtain ⟨W, e, w1, w2⟩ := zhh (K := K) 5000 (P := D) (U := X.take B) (V := X.drop B) (R := []) (a := D.length) (m := D.length + B) (b := l0.length) (fun h => by rw [h] at t2; simp at t2; omega) (fun h => by rw [h] at t4; simp at t4; omega)
    (fun x hx => hvX x (by rw [t1] at hx; exact hx))
    (zeH (B := B) (X := X.drop B) (by omega) (by rw [t1]; exact hX)) (zeH (B := B) (X := []) (by omega) (by rw [List.append_nil]; exact hX2)) (by omega) (by omega) rfl (by omega) (by omega)
   rw [List.append_nil, List.append_nil, t1] at e
   rw [if_pos (by omega), e, Option.bind_some]
   refine ⟨_, rfl, D ++ W, rfl, zdn (by omega) hq hD w1, ?_⟩
   have := w2.append_left D
   rw [t1] at this
   exact this.trans hp2
  ·rw [if_neg (by omega)]
   refine ⟨_, rfl, D ++ X, rfl, ?_, hp2⟩
   exact zdn (by omega) hq hD (zeH (B := B) (X := []) (by omega) (by rw [List.append_nil]; exact hX))
theorem zsz {K l : List Int} (hv : zkH K l) (hn : l.length <= 5000) : ∃ S, z0P l K = some S /\ zaa K S /\ S.Perm l := by
 unfold z0P z1t
 obtain ⟨r, e, h⟩ := zvj (Post := fun r => zaa K r /\ r.Perm l) hv (by omega) fun D hD hp => by
  refine z1T (fun z => ∃ (B : Nat) (S : List Int), 0 < B /\ B < 10000 /\ z = ((B : Int), S) /\ zne K B S /\ S.Perm l) (fun z => 10000 - z.1.toNat) _ ?_ LFm _ ⟨20, D, by omega, by omega, rfl, hD, hp⟩ (by simp only [LFm]; omega)
  rintro z ⟨B, S, hB0, hB1, rfl, hS, hp2⟩
  have hlen := hp2.length_eq
  simp only [z1p]
  by_cases h : B < l.length
  ·left
   have wB : IntKind.i64.wrap (2 * (B : Int)) = ((2 * B : Nat) : Int) := by rw [z2E (by omega) (by omega)]; omega
   obtain ⟨S', e, s1, s2⟩ := zxs hv hn hB0 (by omega) hS hp2
   rw [if_pos (by omega), wB, e]
   exact ⟨_, rfl, ⟨B * 2, S', by omega, by omega, rfl, s1, s2⟩, by simp only; omega⟩
  ·right
   rw [if_neg (by omega)]
   exact ⟨_, rfl, zeH (B := B) (X := []) (by omega) (by rw [List.append_nil]; exact hS), hp2⟩
 exact ⟨r, by rw [e]; rfl, h⟩
end Go.Proofs.Ytbnnipkanechoaa
end
section
namespace Go.Proofs.Ytbnnipkanechoaa
open Go
set_option maxRecDepth 100000
structure EqvN (N : Nat) (e : Nat -> Nat -> Bool) : Prop where
 refl : ∀ i, i < N -> e i i = true
 symm : ∀ i j, i < N -> j < N -> e i j = true -> e j i = true
 trans : ∀ i j k, i < N -> j < N -> k < N -> e i j = true -> e j k = true -> e i k = true
def z1G (e : Nat -> Nat -> Bool) : Nat -> List Nat
 | 0 => []
 | i + 1 => if (z1G e i).any (e i) = true then z1G e i else z1G e i ++ [i]
def z7t (e : Nat -> Nat -> Bool) (N i : Nat) : Nat := (z1G e N).findIdx (e i)
theorem zhI (e : Nat -> Nat -> Bool) {i : Nat} : ∀ j, i <= j -> ∃ R, z1G e j = z1G e i ++ R
 | 0, h => by
  obtain rfl : i = 0 := by omega
  exact ⟨[], by simp⟩
 | j + 1, h => by
  by_cases e0 : i = j + 1
  ·subst e0; exact ⟨[], by simp⟩
  ·obtain ⟨R, hR⟩ := zhI e (i := i) j (by omega)
   rw [show z1G e (j + 1) = if (z1G e j).any (e j) = true then z1G e j else z1G e j ++ [j] from rfl]
   split
   ·exact ⟨R, hR⟩
   ·exact ⟨R ++ [j], by rw [hR, List.append_assoc]⟩
theorem zdf (e : Nat -> Nat -> Bool) : ∀ i, ∀ f ∈ z1G e i, f < i
 | 0, f, h => by simp [z1G] at h
 | i + 1, f, h => by
  unfold z1G at h
  split at h
  ·have := zdf e i f h; omega
  ·rcases List.mem_append.1 h with h | h
   ·have := zdf e i f h; omega
   ·have := List.mem_singleton.1 h; omega
theorem zhJ (e : Nat -> Nat -> Bool) : ∀ i, (z1G e i).length <= i
 | 0 => by simp [z1G]
 | i + 1 => by
  have := zhJ e i
  unfold z1G
  split
  ·omega
  ·rw [List.length_append, List.length_singleton]; omega
theorem zhK {N : Nat} {e : Nat -> Nat -> Bool} (he : EqvN N e) : ∀ i, i <= N -> (z1G e i).Pairwise fun f g => e f g = false /\ e g f = false
 | 0, _ => by simp [z1G]
 | i + 1, hi => by
  have ih := zhK he i (by omega)
  unfold z1G
  split
  ·exact ih
  ·rename_i h
   refine List.pairwise_append.2 ⟨ih, by simp, fun a ha b hb => ?_⟩
   obtain rfl := List.mem_singleton.1 hb
   have hlt := zdf e b a ha
   have h1 : e b a = false := by
    cases hh : e b a with
    | false => rfl
    | true => exact absurd (List.any_eq_true.2 ⟨a, ha, hh⟩) h
   refine ⟨?_, h1⟩
   cases hh : e a b with
   | false => rfl
   | true => rw [he.symm a b (by omega) (by omega) hh] at h1; cases h1
theorem ztH {N : Nat} {e : Nat -> Nat -> Bool} (he : EqvN N e) {i c c' : Nat} {l : List Nat} (hl : l.Pairwise fun f g => e f g = false /\ e g f = false) (hlt : ∀ f ∈ l, f < N) (hi : i < N) (hc : c < l.length) (hc' : c' < l.length) (h : e i (l.getD c 0) = true) (h' : e i (l.getD c' 0) = true) : c = c' := by
 have m1 : l.getD c 0 < N := hlt _ (z1x hc)
 have m2 : l.getD c' 0 < N := hlt _ (z1x hc')
 have hcc := he.trans _ _ _ m1 hi m2 (he.symm _ _ hi m1 h) h'
 rcases Nat.lt_trichotomy c c' with hlt' | rfl | hlt'
 ·have := (List.pairwise_iff_getElem.1 hl c c' hc hc' hlt').1
  rw [List.getD, List.getD, List.getElem?_eq_getElem hc, List.getElem?_eq_getElem hc', Option.getD_some, Option.getD_some, this] at hcc
  cases hcc
 ·rfl
 ·have := (List.pairwise_iff_getElem.1 hl c' c hc' hc hlt').2
  rw [List.getD, List.getD, List.getElem?_eq_getElem hc, List.getElem?_eq_getElem hc', Option.getD_some, Option.getD_some, this] at hcc
  cases hcc
theorem zvO {N : Nat} {e : Nat -> Nat -> Bool} (he : EqvN N e) {i : Nat} (hi : i < N) : (z1G e i).findIdx (e i) = z7t e N i := by
 unfold z7t
 obtain ⟨R, hR⟩ := zhI e (i := i + 1) N (by omega)
 rw [hR]
 by_cases h : (z1G e i).any (e i) = true
 ·have : z1G e (i + 1) = z1G e i := by rw [z1G, if_pos h]
  rw [this, List.findIdx_append, if_pos]
  obtain ⟨x, hx, hp⟩ := List.any_eq_true.1 h
  exact List.findIdx_lt_length_of_exists ⟨x, hx, hp⟩
 ·have e1 : z1G e (i + 1) = z1G e i ++ [i] := by rw [z1G, if_neg h]
  have e2 : (z1G e i).findIdx (e i) = (z1G e i).length := List.findIdx_eq_length.2 fun x hx => by
   cases hh : e i x with
   | false => rfl
   | true => exact absurd (List.any_eq_true.2 ⟨x, hx, hh⟩) h
  rw [e1, List.append_assoc, List.findIdx_append, if_neg (by rw [e2]; omega), List.singleton_append, List.findIdx_cons, he.refl i hi, e2]
  simp
theorem zhU {N : Nat} {e : Nat -> Nat -> Bool} (he : EqvN N e) {i : Nat} (hi : i < N) : z7t e N i < (z1G e N).length /\ e i ((z1G e N).getD (z7t e N i) 0) = true := by
 have hex : ∃ x ∈ z1G e N, e i x = true := by
  obtain ⟨R, hR⟩ := zhI e (i := i + 1) N (by omega)
  by_cases h : (z1G e i).any (e i) = true
  ·obtain ⟨x, hx, hp⟩ := List.any_eq_true.1 h
   refine ⟨x, ?_, hp⟩
   rw [hR, z1G, if_pos h]
   exact List.mem_append.2 (.inl hx)
  ·refine ⟨i, ?_, he.refl i hi⟩
   rw [hR, z1G, if_neg h]; simp
 have hlt : z7t e N i < (z1G e N).length := List.findIdx_lt_length_of_exists hex
 refine ⟨hlt, ?_⟩
 rw [List.getD, List.getElem?_eq_getElem hlt, Option.getD_some]
 exact List.findIdx_getElem (w := hlt)
theorem zky {N : Nat} {e : Nat -> Nat -> Bool} (he : EqvN N e) {i j : Nat} (hi : i < N) (hj : j < N) : z7t e N i = z7t e N j ↔ e i j = true := by
 obtain ⟨a1, a2⟩ := zhU he hi
 obtain ⟨b1, b2⟩ := zhU he hj
 have hF := zdf e N
 have m1 := hF _ (z1x a1)
 constructor
 ·intro h
  rw [← h] at b2
  exact he.trans _ _ _ hi m1 hj a2 (he.symm _ _ hj m1 b2)
 ·intro h
  exact ztH he (zhK he N (Nat.le_refl _)) hF hj a1 b1 (he.trans _ _ _ hj hi m1 (he.symm _ _ hi hj h) a2) b2
def z2L (d : DFA) (m n : Nat) (S : List Nat) (i j : Nat) : Bool := z3D d m n S i j && z3D d m n S j i
theorem zdh {d : DFA} {m n : Nat} (hd : DfaOk d m n) {S : List Nat} (hS : SetsP d m n S) : EqvN S.length (z2L d m n S) where
 refl i hi := by
  have := (z4T hd hS hi (i := i)).2 (zpK d m _)
  simp [z2L, this]
 symm i j hi hj h := by
  simp only [z2L, Bool.and_eq_true] at h ⊢
  exact ⟨h.2, h.1⟩
 trans i j k hi hj hk h1 h2 := by
  simp only [z2L, Bool.and_eq_true] at h1 h2 ⊢
  exact ⟨(z4T hd hS hk).2 (zhZ hd ((z4T hd hS hj).1 h1.1) ((z4T hd hS hk).1 h2.1)), (z4T hd hS hi).2 (zhZ hd ((z4T hd hS hj).1 h2.2) ((z4T hd hS hi).1 h1.2))⟩
theorem zpM {d : DFA} {m n : Nat} {S : List Nat} {i : Nat} (hi : i < S.length) : atI (zvm d m n S) (i : Int) = some ((List.range S.length).map (z3D d m n S i)) := z3m hi
def zpE (d : DFA) (m n : Nat) (S : List Nat) : List Int := (List.range S.length).map fun i => ((z7t (z2L d m n S) S.length i : Nat) : Int)
def zob (d : DFA) (m n : Nat) (S : List Nat) : List Nat := z1G (z2L d m n S) S.length
theorem zrz {d : DFA} {m n : Nat} (hd : DfaOk d m n) (hn : n <= 12) {S : List Nat} (hS : SetsP d m n S) : z2P (dgm d m n S) = some (zpE d m n S, toI (zob d m n S)) := by
 have h12 := zev hn
 have hSl := z1r hS.nd hS.lt
 have he := zdh hd hS
 unfold z2P
 have ed : (dgm d m n S).sets = toI S := rfl
 have eb : (dgm d m n S).below = zvm d m n S := rfl
 rw [ed, z0v, z0K _ (by unfold z2k; omega), Int.toNat_natCast]
 have f1 : List.replicate S.length (0 : Int) = z1N S.length (fun i => ((z7t (z2L d m n S) S.length i : Nat) : Int)) 0 0 := (z7J _ _ _).symm
 rw [f1]
 refine z1I (s := ((0 : Int), z1N S.length (fun i => ((z7t (z2L d m n S) S.length i : Nat) : Int)) 0 0, ([] : List Int))) S.length (fun k => ((k : Int), z1N S.length (fun i => ((z7t (z2L d m n S) S.length i : Nat) : Int)) 0 k, toI (z1G (z2L d m n S) k))) rfl (by simp only [LFm]; omega) (fun i hi => ?_) ?_
 ·have hF := zhJ (z2L d m n S) i
  have hFl := zdf (z2L d m n S) i
  have hap := zhK he i (by omega)
  have hcl := zvO he hi
  simp only [z2Z]
  rw [ed, if_pos (by rw [z0v]; omega), z5X hi, Option.bind_some, z0v, Int.toNat_natCast]
  generalize hL : z1N S.length (fun i => ((z7t (z2L d m n S) S.length i : Nat) : Int)) 0 i = L at *
  have hLl : L.length = S.length := by rw [← hL, zaN]
  have hstep : ∀ c, c < (z1G (z2L d m n S) i).length -> (z2L d m n S i ((z1G (z2L d m n S) i).getD c 0) = true ↔ (z1G (z2L d m n S) i).findIdx (z2L d m n S i) = c) := fun c hc => by
   constructor
   ·intro h
    have hex : (z1G (z2L d m n S) i).findIdx (z2L d m n S i) < (z1G (z2L d m n S) i).length := List.findIdx_lt_length_of_exists ⟨_, z1x hc, h⟩
    have hp : z2L d m n S i ((z1G (z2L d m n S) i).getD ((z1G (z2L d m n S) i).findIdx (z2L d m n S i)) 0) = true := by
     rw [List.getD, List.getElem?_eq_getElem hex, Option.getD_some]
     exact List.findIdx_getElem (w := hex)
    exact ztH he hap (fun f hf => by have := hFl f hf; omega) hi hex hc hp h
   ·intro h
    have hex : (z1G (z2L d m n S) i).findIdx (z2L d m n S i) < (z1G (z2L d m n S) i).length := by omega
    have hp : z2L d m n S i ((z1G (z2L d m n S) i)[(z1G (z2L d m n S) i).findIdx (z2L d m n S i)]) = true := List.findIdx_getElem (w := hex)
    rw [← h, List.getD, List.getElem?_eq_getElem hex, Option.getD_some]
    exact hp
  refine z1I (s := ((0 : Int), L.set i (((z1G (z2L d m n S) i).length : Nat) : Int))) (z1G (z2L d m n S) i).length (fun c => ((c : Int), L.set i (((if (z1G (z2L d m n S) i).findIdx (z2L d m n S i) < c then (z1G (z2L d m n S) i).findIdx (z2L d m n S i) else (z1G (z2L d m n S) i).length : Nat)) : Int))) (by simp) (by simp only [LFm]; omega) (fun c hc => ?_) ?_
  ·have hf := hFl _ (z1x hc)
   simp only [z2Y]
   rw [eb, if_pos (by rw [z0v]; omega), z2Q hc, Option.bind_some, zpM hi, Option.bind_some, z3m (by omega), Option.bind_some, z1X (by omega)]
   by_cases h1 : z3D d m n S i ((z1G (z2L d m n S) i).getD c 0) = true
   ·rw [if_pos h1, zpM (by omega), Option.bind_some, z3m hi, Option.bind_some]
    by_cases h2 : z3D d m n S ((z1G (z2L d m n S) i).getD c 0) i = true
    ·have := (hstep c hc).1 ((Bool.and_eq_true _ _).mpr ⟨h1, h2⟩)
     rw [if_pos h2, zji (by omega), Option.bind_some, Int.toNat_natCast, zhj, this, if_pos (by omega)]
    ·have : ¬ (z1G (z2L d m n S) i).findIdx (z2L d m n S i) = c := fun h => by
      have := (hstep c hc).2 h
      simp only [z2L, Bool.and_eq_true] at this
      exact h2 this.2
     rw [if_neg h2]
     congr 3
     by_cases h3 : (z1G (z2L d m n S) i).findIdx (z2L d m n S i) < c
     ·rw [if_pos h3, if_pos (by omega)]
     ·rw [if_neg h3, if_neg (by omega)]
   ·have : ¬ (z1G (z2L d m n S) i).findIdx (z2L d m n S i) = c := fun h => by
     have := (hstep c hc).2 h
     simp only [z2L, Bool.and_eq_true] at this
     exact h1 this.1
    rw [if_neg h1]
    congr 3
    by_cases h3 : (z1G (z2L d m n S) i).findIdx (z2L d m n S i) < c
    ·rw [if_pos h3, if_pos (by omega)]
    ·rw [if_neg h3, if_neg (by omega)]
  ·have hle : (z1G (z2L d m n S) i).findIdx (z2L d m n S i) <= (z1G (z2L d m n S) i).length := List.findIdx_le_length
   have hv : (if (z1G (z2L d m n S) i).findIdx (z2L d m n S i) < (z1G (z2L d m n S) i).length then (z1G (z2L d m n S) i).findIdx (z2L d m n S i) else (z1G (z2L d m n S) i).length) = (z1G (z2L d m n S) i).findIdx (z2L d m n S i) := by split <;> omega
   have hset : L.set i ((z7t (z2L d m n S) S.length i : Nat) : Int) = z1N S.length (fun i => ((z7t (z2L d m n S) S.length i : Nat) : Int)) 0 (i + 1) := by
    rw [← hL]; exact z4r (f := fun i => ((z7t (z2L d m n S) S.length i : Nat) : Int)) (z := 0) hi
   simp only [z2Y]
   rw [if_neg (by rw [z0v]; omega), hv, zji (by omega), Option.bind_some, hcl, hset, z1X (by omega), z0v, z1G]
   by_cases h : (z1G (z2L d m n S) i).any (z2L d m n S i) = true
   ·obtain ⟨x, hx, hpx⟩ := List.any_eq_true.1 h
    have := List.findIdx_lt_length_of_exists ⟨x, hx, hpx⟩
    rw [if_pos h, if_neg (by omega)]
   ·have e2 : (z1G (z2L d m n S) i).findIdx (z2L d m n S i) = (z1G (z2L d m n S) i).length := List.findIdx_eq_length.2 fun x hx => by
     cases hh : z2L d m n S i x with
     | false => rfl
     | true => exact absurd (List.any_eq_true.2 ⟨x, hx, hh⟩) h
    rw [if_neg h, if_pos (by omega), z0K _ (by unfold z2i; omega), z6Q]
 ·simp only [z2Z]
  rw [ed, if_neg (by rw [z0v]; omega), z7I]
  rfl
end Go.Proofs.Ytbnnipkanechoaa
end
section
namespace Go.Proofs.Ytbnnipkanechoaa
open Go
set_option maxRecDepth 100000
def z7K (g : Nat -> Nat) : Nat -> Nat
 | 0 => 0
 | k + 1 => max (z7K g k) (g k)
theorem zuU {g : Nat -> Nat} {k j : Nat} (h : j < k) : g j <= z7K g k := by
 induction k with
 | zero => omega
 | succ k ih =>
  simp only [z7K]
  by_cases e : j = k
  ·subst e; omega
  ·have := ih (by omega); omega
theorem zbq {g : Nat -> Nat} {k b : Nat} (h : ∀ j, j < k -> g j <= b) : z7K g k <= b := by
 induction k with
 | zero => simp [z7K]
 | succ k ih =>
  have := ih fun j hj => h j (by omega)
  have := h k (by omega)
  simp only [z7K]; omega
theorem znY {g g' : Nat -> Nat} {k : Nat} (h : ∀ j, j < k -> g j = g' j) : z7K g k = z7K g' k := by
 induction k with
 | zero => rfl
 | succ k ih => simp only [z7K]; rw [ih fun j hj => h j (by omega), h k (by omega)]
def z7L (p : Nat -> Bool) : Nat -> Nat
 | 0 => 0
 | k + 1 => z7L p k + (if p k = true then 1 else 0)
theorem ztT (p : Nat -> Bool) (k : Nat) : z7L p k <= k := by
 induction k with
 | zero => simp [z7L]
 | succ k ih => simp only [z7L]; split <;> omega
theorem zpD {p q : Nat -> Bool} {k : Nat} (h : ∀ j, j < k -> p j = true -> q j = true) : z7L p k <= z7L q k := by
 induction k with
 | zero => simp [z7L]
 | succ k ih =>
  have := ih fun j hj => h j (by omega)
  have := h k (by omega)
  simp only [z7L]
  by_cases h1 : p k = true
  ·rw [if_pos h1, if_pos (this h1)]; omega
  ·rw [if_neg h1]; split <;> omega
theorem zjv {p q : Nat -> Bool} {k i : Nat} (h : ∀ j, j < k -> p j = true -> q j = true) (hi : i < k) (hp : p i = false) (hq : q i = true) : z7L p k < z7L q k := by
 induction k with
 | zero => omega
 | succ k ih =>
  simp only [z7L]
  by_cases e : i = k
  ·subst e
   have := zpD (p := p) (q := q) (k := i) fun j hj => h j (by omega)
   rw [hp, hq]; simp; omega
  ·have h1 := ih (fun j hj => h j (by omega)) (by omega)
   have := h k (by omega)
   by_cases h2 : p k = true
   ·rw [if_pos h2, if_pos (this h2)]; omega
   ·rw [if_neg h2]; split <;> omega
structure BelN (N : Nat) (b : Nat -> Nat -> Bool) : Prop where
 refl : ∀ i, i < N -> b i i = true
 trans : ∀ i j k, i < N -> j < N -> k < N -> b i j = true -> b j k = true -> b i k = true
def zic (N : Nat) (b : Nat -> Nat -> Bool) (i : Nat) : Nat := z7L (fun j => b j i) N
def sbN (b : Nat -> Nat -> Bool) (j i : Nat) : Bool := b j i && !b i j
theorem zp6 {N : Nat} {b : Nat -> Nat -> Bool} (hb : BelN N b) {i j : Nat} (hi : i < N) (hj : j < N) (h : sbN b j i = true) : zic N b j < zic N b i := by
 simp only [sbN, Bool.and_eq_true, Bool.not_eq_true'] at h
 exact zjv (fun k hk hkj => hb.trans k j i hk hj hi hkj h.1) hi h.2 (hb.refl i hi)
def zAN (N : Nat) (b : Nat -> Nat -> Bool) (z : Nat -> Bool) (h : Nat -> Nat) : Prop := ∀ i, i < N -> h i = if z i = true then 0 else z7K (fun j => if sbN b j i = true then h j + 1 else 0) N
def zxA (N : Nat) (b : Nat -> Nat -> Bool) (z : Nat -> Bool) : Nat -> Nat -> Nat
 | 0, _ => 0
 | f + 1, i => if z i = true then 0 else z7K (fun j => if sbN b j i = true then zxA N b z f j + 1 else 0) N
def zo8 (N : Nat) (b : Nat -> Nat -> Bool) (z : Nat -> Bool) (i : Nat) : Nat := zxA N b z N i
theorem zjr {N : Nat} {b : Nat -> Nat -> Bool} (hb : BelN N b) (z : Nat -> Bool) : ∀ f i, i < N -> zic N b i <= f -> ∀ g, zic N b i <= g -> zxA N b z f i = zxA N b z g i
 | 0, i, hi, hl, g, hg => by
  exfalso
  have := zjv (p := fun _ => false) (q := fun j => b j i) (k := N) (i := i) (fun j _ hf => by simp at hf) hi rfl (hb.refl i hi)
  unfold zic at hl; omega
 | f + 1, i, hi, hl, 0, hg => by
  exfalso
  have := zjv (p := fun _ => false) (q := fun j => b j i) (k := N) (i := i) (fun j _ hf => by simp at hf) hi rfl (hb.refl i hi)
  unfold zic at hg; omega
 | f + 1, i, hi, hl, g + 1, hg => by
  simp only [zxA]
  split
  ·rfl
  ·refine znY fun j hj => ?_
   by_cases hs : sbN b j i = true
   ·have := zp6 hb hi hj hs
    rw [if_pos hs, if_pos hs, zjr hb z f j hj (by omega) g (by omega)]
   ·rw [if_neg hs, if_neg hs]
theorem zpe {N : Nat} {b : Nat -> Nat -> Bool} (hb : BelN N b) (z : Nat -> Bool) : zAN N b z (zo8 N b z) := fun i hi => by
 have hl : zic N b i <= N := ztT _ _
 unfold zo8
 rw [zjr hb z N i hi hl (N + 1) (by omega)]
 rfl
theorem zmV {N : Nat} {b : Nat -> Nat -> Bool} (hb : BelN N b) (z : Nat -> Bool) {i : Nat} (hi : i < N) : zo8 N b z i <= N := by
 have : ∀ L i, i < N -> zic N b i <= L -> zo8 N b z i <= L := by
  intro L
  induction L with
  | zero =>
   intro i hi hl
   exfalso
   have := zjv (p := fun _ => false) (q := fun j => b j i) (k := N) (i := i) (fun j _ hf => by simp at hf) hi rfl (hb.refl i hi)
   unfold zic at hl; omega
  | succ L ih =>
   intro i hi hl
   rw [zpe hb z i hi]
   split
   ·omega
   ·refine zbq fun j hj => ?_
    by_cases hs : sbN b j i = true
    ·have := zp6 hb hi hj hs
     have := ih j hj (by omega)
     rw [if_pos hs]; omega
    ·rw [if_neg hs]; omega
 exact this N i hi (ztT _ _)
theorem zpL {d : DFA} {m n : Nat} (hd : DfaOk d m n) {S : List Nat} (hS : SetsP d m n S) : BelN S.length (z3D d m n S) where
 refl i hi := (z4T hd hS hi).2 (zpK d m _)
 trans i j k hi hj hk h1 h2 := (z4T hd hS hk).2 (zhZ hd ((z4T hd hS hj).1 h1) ((z4T hd hS hk).1 h2))
theorem zsC {s : Nat} (h : s < 128) : z5T (s : Int) = some ((szN s : Nat) : Int) := by
 unfold z5T z4q
 rw [znk (by omega)]
 have : z3a (s : Int) = some ((szN s : Nat) : Int) := by
  unfold z3a
  rw [z0K _ (by omega), z0K _ (by omega), z0K _ (by omega), z0K _ (by omega), z0K _ (by omega), z0K _ (by omega)]
  congr 1
  revert s
  decide +kernel
 rw [this]; rfl
def za8 (S : List Nat) (i : Nat) : Bool := decide (szN (S.getD i 0) = 1)
def z9a (d : DFA) (m n : Nat) (S : List Nat) (i : Nat) : Nat := zo8 S.length (z3D d m n S) (za8 S) i
def zvJ (d : DFA) (m n : Nat) (S : List Nat) : List Int := (List.range S.length).map fun i => ((z9a d m n S i : Nat) : Int)
theorem zsp (N : Nat) : toI (List.range N) = (List.range N).map fun i => ((i : Nat) : Int) := rfl
theorem zr6 {d : DFA} {m n : Nat} {S : List Nat} (hl : S.length < 4611686018427387904) {i : Nat} (hi : i < S.length) (C O : List Int) (L : List Int) (hL : L.length = S.length) (h0 : L.getD i 0 = 0) :
  z1b (z2o (dgm d m n S) (i : Int) O) LFm (0, L) = z0B (((i + 1 : Nat) : Int), L.set i ((zic S.length (z3D d m n S) i : Nat) : Int), O.set i (i : Int)) := by
 refine z1I (s := ((0 : Int), L)) S.length (fun k => ((k : Int), L.set i ((z7L (fun j => z3D d m n S j i) k : Nat) : Int))) ?_ (by simp only [LFm]; omega) (fun k hk => ?_) ?_
 ·refine Prod.ext rfl ?_
  show L = L.set i 0
  apply List.ext_getElem (by simp)
  intro j h1 h2
  rw [List.getElem_set]
  by_cases e : i = j
  ·subst e
   rw [if_pos rfl]
   rw [List.getD, List.getElem?_eq_getElem h1, Option.getD_some] at h0
   exact h0
  ·rw [if_neg e]
 ·have hc := ztT (fun j => z3D d m n S j i) k
  have ed : (dgm d m n S).sets = toI S := rfl
  have eb : (dgm d m n S).below = zvm d m n S := rfl
  simp only [z2o]
  rw [ed, eb, if_pos (by rw [z0v]; omega), zpM hk, Option.bind_some, z3m hi, Option.bind_some, z1X (by omega)]
  simp only [z7L]
  by_cases h : z3D d m n S k i = true
  ·rw [if_pos h, if_pos h, zji (by omega), Option.bind_some, Int.toNat_natCast, zhj, z1X (by omega)]
  ·rw [if_neg h, if_neg h]; rfl
 ·have ed : (dgm d m n S).sets = toI S := rfl
  simp only [z2o]
  rw [ed, if_neg (by rw [z0v]; omega), z1X (by omega), Int.toNat_natCast]
  rfl
theorem ztA {d : DFA} {m n : Nat} (hd : DfaOk d m n) {S : List Nat} (hS : SetsP d m n S) (hl : S.length < 100000) (k : Int) {i : Nat} (hi : i < S.length) {H : Nat -> Nat} (h0 : H i = 0) (hlow : ∀ j, j < S.length -> sbN (z3D d m n S) j i = true -> H j = z9a d m n S j) :
  z1b (z2g (dgm d m n S) (zpE d m n S) k (i : Int)) LFm (0, (List.range S.length).map fun j => ((H j : Nat) : Int)) = z0B (IntKind.i64.wrap (k + 1), (List.range S.length).map fun j => (((if j = i then z7K (fun j => if sbN (z3D d m n S) j i = true then z9a d m n S j + 1 else 0) S.length else H j) : Nat) : Int)) := by
 have he := zdh hd hS
 have hb := zpL hd hS
 have ed : (dgm d m n S).sets = toI S := rfl
 have eb : (dgm d m n S).below = zvm d m n S := rfl
 refine z1I (s := ((0 : Int), (List.range S.length).map fun j => ((H j : Nat) : Int))) S.length (fun q => ((q : Int), (List.range S.length).map fun j => (((if j = i then z7K (fun j => if sbN (z3D d m n S) j i = true then z9a d m n S j + 1 else 0) q else H j) : Nat) : Int))) ?_ (by simp only [LFm]; omega) (fun q hq => ?_) ?_
 ·refine Prod.ext rfl ?_
  refine List.map_congr_left fun j hj => ?_
  by_cases e : j = i
  ·subst e; simp [z7K, h0]
  ·rw [if_neg e]
 ·have hle := zmV hb (za8 S) hq
  have hmx : z7K (fun j => if sbN (z3D d m n S) j i = true then z9a d m n S j + 1 else 0) q <= S.length + 1 := zbq fun j hj => by
   have := zmV hb (za8 S) (i := j) (by omega)
   unfold z9a; split <;> omega
  have hse : z3D d m n S q i = true -> (sbN (z3D d m n S) q i = true ↔ ¬ z7t (z2L d m n S) S.length q = z7t (z2L d m n S) S.length i) := fun h => by
   rw [zky he hq hi]
   simp only [sbN, z2L, h, Bool.true_and, Bool.not_eq_true', Bool.not_eq_true]
  have hfin : ∀ v : Nat, v = (if sbN (z3D d m n S) q i = true then max (z7K (fun j => if sbN (z3D d m n S) j i = true then z9a d m n S j + 1 else 0) q) (z9a d m n S q + 1) else z7K (fun j => if sbN (z3D d m n S) j i = true then z9a d m n S j + 1 else 0) q) -> ((List.range S.length).map fun j => (((if j = i then v else H j) : Nat) : Int)) = (List.range S.length).map fun j => (((if j = i then z7K (fun j => if sbN (z3D d m n S) j i = true then z9a d m n S j + 1 else 0) (q + 1) else H j) : Nat) : Int) := fun v hv => by
   refine List.map_congr_left fun j hj => ?_
   by_cases e : j = i
   ·rw [if_pos e, if_pos e, hv]
    simp only [z7K]
    by_cases h : sbN (z3D d m n S) q i = true
    ·rw [if_pos h, if_pos h]
    ·rw [if_neg h, if_neg h]; congr 1; omega
   ·rw [if_neg e, if_neg e]
  simp only [z2g]
  rw [ed, eb, if_pos (by rw [z0v]; omega), zpM hq, Option.bind_some, z3m hi, Option.bind_some, z1X (by omega)]
  by_cases h : z3D d m n S q i = true
  ·rw [if_pos h, zpE, z3m hq, Option.bind_some, z3m hi, Option.bind_some]
   by_cases hc : z7t (z2L d m n S) S.length q = z7t (z2L d m n S) S.length i
   ·have hs : ¬ sbN (z3D d m n S) q i = true := fun hh => (hse h).1 hh hc
    rw [if_pos (by rw [hc]), hfin _ (by rw [if_neg hs])]
   ·have hs := (hse h).2 hc
    have hqi : q ≠ i := fun e => by subst e; exact hc rfl
    rw [if_neg (by omega), z3m hi, Option.bind_some, z3m hq, Option.bind_some, if_pos rfl, if_neg hqi, hlow q hq hs, z1X (by unfold z9a; omega), Int.toNat_natCast]
    have hset : ∀ v : Nat, ((List.range S.length).map fun j => (((if j = i then z7K (fun j => if sbN (z3D d m n S) j i = true then z9a d m n S j + 1 else 0) q else H j) : Nat) : Int)).set i (v : Int) = (List.range S.length).map fun j => (((if j = i then v else H j) : Nat) : Int) := fun v => by
     apply List.ext_getElem (by simp)
     intro j h1 h2
     simp only [List.getElem_set, List.getElem_map, List.getElem_range]
     by_cases e : i = j
     ·subst e; rw [if_pos rfl, if_pos rfl]
     ·rw [if_neg e, if_neg (fun hh => e hh.symm), if_neg (fun hh => e hh.symm)]
    by_cases hlt : ((z7K (fun j => if sbN (z3D d m n S) j i = true then z9a d m n S j + 1 else 0) q : Nat) : Int) < ((z9a d m n S q + 1 : Nat) : Int)
    ·rw [if_pos hlt, hset, hfin _ (by rw [if_pos hs]; omega)]
    ·rw [if_neg hlt, hset, hfin _ (by rw [if_pos hs]; omega)]
  ·have hs : ¬ sbN (z3D d m n S) q i = true := fun hh => by simp only [sbN, Bool.and_eq_true] at hh; exact h hh.1
   rw [if_neg h, hfin _ (by rw [if_neg hs])]
 ·simp only [z2g]
  rw [ed, if_neg (by rw [z0v]; omega)]
theorem zrl {d : DFA} {m n : Nat} (hd : DfaOk d m n) (hn : n <= 7) {S : List Nat} (hS : SetsP d m n S) : z2O (dgm d m n S) (zpE d m n S) = some (zvJ d m n S) := by
 have h128 : 2 ^ n <= 128 := Nat.pow_le_pow_right (n := 2) (by omega) hn
 have hSl := z1r hS.nd hS.lt
 have hb := zpL hd hS
 have he := zdh hd hS
 have ed : (dgm d m n S).sets = toI S := rfl
 unfold z2O
 rw [ed, z0v, z0K _ (by unfold z2k; omega), Int.toNat_natCast]
 have f1 : List.replicate S.length (0 : Int) = z1N S.length (fun i => ((zic S.length (z3D d m n S) i : Nat) : Int)) 0 0 := (z7J _ _ _).symm
 have f2 : (List.replicate S.length (0 : Int)) = z1N S.length (fun i => ((i : Nat) : Int)) 0 0 := (z7J _ _ _).symm
 conv => lhs; arg 3; rw [show ((0 : Int), List.replicate S.length (0 : Int), List.replicate S.length (0 : Int)) = ((0 : Int), z1N S.length (fun i => ((zic S.length (z3D d m n S) i : Nat) : Int)) 0 0, z1N S.length (fun i => ((i : Nat) : Int)) 0 0) by rw [← f1, ← f2]]
 refine z1I (s := ((0 : Int), z1N S.length (fun i => ((zic S.length (z3D d m n S) i : Nat) : Int)) 0 0, z1N S.length (fun i => ((i : Nat) : Int)) 0 0)) S.length (fun k => ((k : Int), z1N S.length (fun i => ((zic S.length (z3D d m n S) i : Nat) : Int)) 0 k, z1N S.length (fun i => ((i : Nat) : Int)) 0 k)) rfl (by simp only [LFm]; omega) (fun i hi => ?_) ?_
 ·simp only [z2X]
  rw [ed, if_pos (by rw [z0v]; omega), z5X hi, Option.bind_some, zr6 (by omega) hi [] _ _ (zaN _ _ _ _) (by simp [z1N, List.getD, hi])]
  have e1 := z4r (f := fun i => ((zic S.length (z3D d m n S) i : Nat) : Int)) (z := 0) hi
  have e2 := z4r (f := fun i => ((i : Nat) : Int)) (z := 0) hi
  rw [e1, e2]
 ·simp only [z2X]
  rw [ed, if_neg (by rw [z0v]; omega), z7I, z7I]
  have hK : ((List.range S.length).map fun i => ((zic S.length (z3D d m n S) i : Nat) : Int)).length = S.length := by simp
  have hv : zkH ((List.range S.length).map fun i => ((zic S.length (z3D d m n S) i : Nat) : Int)) (toI (List.range S.length)) := fun x hx => by
   simp only [toI, List.mem_map, List.mem_range] at hx
   obtain ⟨i, hi, rfl⟩ := hx
   exact ⟨by omega, by rw [hK]; omega⟩
  obtain ⟨O, hO, hs, hp⟩ := zsz hv (by rw [z0v, List.length_range]; omega)
  rw [← zsp, hO, Option.bind_some, z0v, z0K _ (by unfold z2k; omega), Int.toNat_natCast]
  have hOl : O.length = S.length := by rw [hp.length_eq, z0v, List.length_range]
  have hOn : O.Nodup := hp.nodup_iff.2 (by
   unfold toI
   exact List.Pairwise.map _ (fun a b h e => h (by omega)) List.nodup_range)
  have hmem : ∀ x, x ∈ O ↔ ∃ i, i < S.length /\ x = (i : Int) := fun x => by
   rw [hp.mem_iff]; simp only [toI, List.mem_map, List.mem_range]
   constructor
   ·rintro ⟨i, hi, rfl⟩; exact ⟨i, hi, rfl⟩
   ·rintro ⟨i, hi, rfl⟩; exact ⟨i, hi, rfl⟩
  have hkv : ∀ i, i < S.length -> kv ((List.range S.length).map fun i => ((zic S.length (z3D d m n S) i : Nat) : Int)) (i : Int) = ((zic S.length (z3D d m n S) i : Nat) : Int) := fun i hi => by
   simp [kv, List.getD, hi]
  congr 1
  have f3 : List.replicate S.length (0 : Int) = (List.range S.length).map fun (j : Nat) => (((if (j : Int) ∈ O.take 0 then z9a d m n S j else 0) : Nat) : Int) := by
   apply List.ext_getElem (by simp); intro i h1 h2; simp
  rw [f3]
  refine z1I (s := ((0 : Int), (List.range S.length).map fun (j : Nat) => (((if (j : Int) ∈ O.take 0 then z9a d m n S j else 0) : Nat) : Int))) S.length (fun k => ((k : Int), (List.range S.length).map fun (j : Nat) => (((if (j : Int) ∈ O.take k then z9a d m n S j else 0) : Nat) : Int))) rfl (by simp only [LFm]; omega) (fun k hk => ?_) ?_
  ·have hkO : k < O.length := by omega
   obtain ⟨i, hi, hOk⟩ := (hmem O[k]).1 (List.getElem_mem hkO)
   have hnot : (i : Int) ∉ O.take k := fun h => by
    obtain ⟨j, hj, hji⟩ := List.getElem_of_mem h
    rw [List.length_take] at hj
    rw [List.getElem_take, ← hOk] at hji
    have := (List.getElem_inj hOn).1 hji
    omega
   have htake : ∀ j : Nat, (j : Int) ∈ O.take (k + 1) ↔ (j = i ∨ (j : Int) ∈ O.take k) := fun j => by
    rw [List.take_succ_eq_append_getElem hkO, List.mem_append, List.mem_singleton, hOk]
    constructor
    ·rintro (h | h)
     ·exact .inr h
     ·exact .inl (by omega)
    ·rintro (h | h)
     ·exact .inr (by omega)
     ·exact .inl h
   have hupd : ((List.range S.length).map fun (j : Nat) => (((if j = i then z9a d m n S i else if (j : Int) ∈ O.take k then z9a d m n S j else 0) : Nat) : Int)) = (List.range S.length).map fun (j : Nat) => (((if (j : Int) ∈ O.take (k + 1) then z9a d m n S j else 0) : Nat) : Int) := by
    refine List.map_congr_left fun j hj => ?_
    by_cases e : j = i
    ·subst e; rw [if_pos rfl, if_pos ((htake j).2 (.inl rfl))]
    ·rw [if_neg e]
     by_cases h : (j : Int) ∈ O.take k
     ·rw [if_pos h, if_pos ((htake j).2 (.inr h))]
     ·rw [if_neg h, if_neg (fun hh => ((htake j).1 hh).elim e h)]
   have hlt128 : S.getD i 0 < 2 ^ n := hS.lt _ (z1x hi)
   simp only [z2K]
   rw [if_pos (by omega), z1P hkO, Option.bind_some, hOk, ed, z2Q hi, Option.bind_some, zsC (by omega), Option.bind_some]
   have hok := zpe hb (za8 S) i hi
   by_cases hz : szN (S.getD i 0) = 1
   ·rw [if_pos (by omega), z1X (by omega)]
    have hh : z9a d m n S i = 0 := by
     unfold z9a; rw [hok, if_pos (by simp only [za8, hz, decide_true])]
    refine congrArg z0B (Prod.ext rfl ?_)
    refine List.map_congr_left fun j hj => ?_
    by_cases e : j = i
    ·subst e; rw [if_neg hnot, if_pos ((htake j).2 (.inl rfl)), hh]
    ·by_cases h : (j : Int) ∈ O.take k
     ·rw [if_pos h, if_pos ((htake j).2 (.inr h))]
     ·rw [if_neg h, if_neg (fun hh => ((htake j).1 hh).elim e h)]
   ·rw [if_neg (by omega), ztA hd hS (by omega) (k : Int) hi (H := fun (j : Nat) => if (j : Int) ∈ O.take k then z9a d m n S j else 0) (if_neg hnot) (fun j hj hsb => ?_), z1X (by omega)]
    ·have hh : z7K (fun j => if sbN (z3D d m n S) j i = true then z9a d m n S j + 1 else 0) S.length = z9a d m n S i := by
      have : z9a d m n S i = _ := hok
      rw [this, if_neg (by simp only [za8, hz, decide_false]; simp)]; rfl
     rw [hh, hupd]
    ·have hl := zp6 hb hi hj hsb
     have hjO : (j : Int) ∈ O := (hmem _).2 ⟨j, hj, rfl⟩
     obtain ⟨p, hpO, hpj⟩ := List.getElem_of_mem hjO
     refine if_pos ?_
     rcases Nat.lt_trichotomy p k with h | h | h
     ·rw [← hpj]
      exact List.mem_take_iff_getElem.2 ⟨p, by omega, rfl⟩
     ·subst h
      rw [hOk] at hpj
      have : i = j := by omega
      subst this; omega
     ·have := List.pairwise_iff_getElem.1 hs k p hkO hpO h
      rw [hOk, hpj, hkv i hi, hkv j hj] at this
      omega
  ·simp only [z2K]
   rw [if_neg (by omega)]
   congr 2
   unfold zvJ
   refine List.map_congr_left fun j hj => ?_
   rw [List.take_of_length_le (by omega), if_pos ((hmem _).2 ⟨j, List.mem_range.1 hj, rfl⟩)]
end Go.Proofs.Ytbnnipkanechoaa
end
