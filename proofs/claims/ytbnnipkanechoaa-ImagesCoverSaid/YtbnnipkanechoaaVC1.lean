/- Proved here: the law ImagesCover returns true for every input, and its arguments read afterwards as before. No condition. -/
import Derived.Test.YtbnnipkanechoaaB5
import Derived.Test.YtbnnipkanechoaaRows
import Derived.Test.YtbnnipkanechoaaChecked
import Derived.WalkKit
import Derived.ProofKit
import Derived.OpenShut
import Derived.ShutString
import Derived.ChangeOld
import Derived.Below
import Derived.Deep.DeepHandedRow
set_option linter.unusedVariables false
set_option linter.unusedSimpArgs false
section
namespace Go.Proofs.Ytbnnipkanechoaa
open Go
noncomputable section
set_option maxRecDepth 100000
set_option maxHeartbeats 1000000
def z3G (v79 : Imgs × Int) (w103 : Int) (v127 : Int) (v128 : List Int) : Int × Int → Option ((Int × Int) ⊕ (Int ⊕ Bool))
  | (w134, w135) =>
  if w135 < (v128.length : Int) then
    (atI v128 w135).bind fun v141 =>
    if v141 ≤ w103 then
      z0Y <|
      z0Y <|
      some false
    else
      if (v79.1.sets.length : Int) ≤ v141 then
        z0Y <|
        z0Y <|
        some false
      else
        (atI v79.1.sets v141).bind fun v142 =>
        if (z2x .i64 v142 v127) = v142 then
          if v142 = v127 then
            z0Y <|
            z0Y <|
            some false
          else
            z0Z (orI .i64 w134 v142, IntKind.i64.wrap (w135 + 1))
        else
          z0Y <|
          z0Y <|
          some false
  else
    z0Y <|
    (atI v79.1.tiles w103).bind fun v146 =>
    if 0 < (v146.length : Int) then
      if w134 = v127 then
        if (v146.length : Int) = 0 then
          none
        else
          z0Z (IntKind.i64.wrap (w103 + 1))
      else
        z0Y <|
        some false
    else
      if (v146.length : Int) = 0 then
        (z8N v127).bind fun v149 =>
        if v149 = 1 then
          z0Z (IntKind.i64.wrap (w103 + 1))
        else
          z0Y <|
          some false
      else
        none
def z3F (v79 : Imgs × Int) (w103 : Int) (v127 : Int) (v128 : List Int) : Int × Int → Fr
  | (w134, w135) => ⟨122, [(5, .one (.a 5 [] (0))), (7, .one (.t none (.sc (.int .i64 w103)))), (8, .one (.t none (.sc (.int .i64 v127)))), (9, .one (.t none (.sc (.int .i64 w134)))), (35, .one (.t none (.sl v79.1.sets.length (v79.1.sets.map fun x0 => .sc (.int .i64 x0))))), (36, .one (.t none (.sc (.int .i64 (v79.1.sets.length : Int))))), (37, .one (.t none (.sc (.int .i64 w103)))), (46, .one (.t none (.sl v128.length (v128.map fun x0 => .sc (.int .i64 x0))))), (47, .one (.t none (.sc (.int .i64 (v128.length : Int))))), (48, .one (.t none (.sc (.int .i64 w135))))], [(5, .vr [.sl v79.1.sets.length (v79.1.sets.map fun x0 => .sc (.int .i64 x0)), .sl v79.1.class_.length (v79.1.class_.map fun x0 => .sc (.int .i64 x0)), .sl v79.1.height.length (v79.1.height.map fun x0 => .sc (.int .i64 x0)), .sl v79.1.tiles.length (v79.1.tiles.map fun x0 => .sl x0.length (x0.map fun x1 => .sc (.int .i64 x1))), .sl v79.1.words.length (v79.1.words.map fun x0 => .sc (.string x0)), .sl v79.1.back.length (v79.1.back.map fun x0 => .sc (.string x0))])]⟩
def z3V (v79 : Imgs × Int) : Int → Option (Int ⊕ Bool)
  | w103 =>
  if w103 < (v79.1.sets.length : Int) then
    (atI v79.1.sets w103).bind fun v127 =>
    (atI v79.1.tiles w103).bind fun v128 =>
    z1q (z3G v79 w103 v127 v128) LFm (0, 0)
  else
    z0Y <|
    (zjg).bind fun v150 =>
    some v150
def z3e (v79 : Imgs × Int) : Int → Fr
  | w103 => ⟨122, [(5, .one (.a 5 [] (0))), (35, .one (.t none (.sl v79.1.sets.length (v79.1.sets.map fun x0 => .sc (.int .i64 x0))))), (36, .one (.t none (.sc (.int .i64 (v79.1.sets.length : Int))))), (37, .one (.t none (.sc (.int .i64 w103))))], [(5, .vr [.sl v79.1.sets.length (v79.1.sets.map fun x0 => .sc (.int .i64 x0)), .sl v79.1.class_.length (v79.1.class_.map fun x0 => .sc (.int .i64 x0)), .sl v79.1.height.length (v79.1.height.map fun x0 => .sc (.int .i64 x0)), .sl v79.1.tiles.length (v79.1.tiles.map fun x0 => .sl x0.length (x0.map fun x1 => .sc (.int .i64 x1))), .sl v79.1.words.length (v79.1.words.map fun x0 => .sc (.string x0)), .sl v79.1.back.length (v79.1.back.map fun x0 => .sc (.string x0))])]⟩
def z4C (a0 : List Int) : Option (Bool) :=
  (z7B a0).bind fun v76 =>
  (z2D v76).bind fun v77 =>
  (z2M v77.2 v77.1 5).bind fun v78 =>
  (z6A v78.1).bind fun v79 =>
  if v79.2 = 0 then
    if (v79.1.tiles.length : Int) = (v79.1.sets.length : Int) then
      z1q (z3V v79) LFm 0
    else
      some false
  else
    some false
theorem z8Z {a0 : List Int} {r : Bool} (h0 : z4C a0 = some r) : L 4 [.sl a0.length (a0.map fun x0 => .sc (.int .i64 x0))] = some (.sc (.bool r), [.dead]) := by
  simp only [z4C] at h0
  refine z3M zvw fn4 (z1B bd4 ⟨of_decide_eq_true rfl, of_decide_eq_true rfl⟩ ?_)
  simp only [z1M, z1G, z1E, z1Q, z3Q]
  refine zq rfl (zr rfl rfl rfl (by simp; rfl) ?_)
  refine z0a (zq rfl ?_)
  obtain ⟨v76, f98, h1⟩ := z0c h0
  have f98k := z9K f98
  try simp at f98k
  refine zr rfl rfl rfl (by simp [f98k]; rfl) ?_
  refine z0a (zq rfl ?_)
  obtain ⟨v77, f99, h2⟩ := z0c h1
  have f99k := z4F f99
  try simp at f99k
  obtain ⟨v78, f100, h3⟩ := z0c h2
  have f100k := z5N f100
  try simp at f100k
  refine zr rfl rfl rfl (by simp [f99k, f100k]; rfl) ?_
  refine z0a (zq rfl (zlv rfl rfl (by simp; rfl) ?_))
  obtain ⟨v79, f101, h4⟩ := z0c h3
  have f101k := z8e f101
  try simp at f101k
  refine zr rfl rfl rfl (by simp [f101k]; rfl) ?_
  refine z0a (zq rfl (zq rfl ?_))
  by_cases c102 : v79.2 = 0
  ·rw [if_pos c102] at h4
   have c102e := eq_true c102
   refine zr rfl rfl rfl (by simp [c102e]; rfl) ?_
   refine z0a ?_
   by_cases c103 : (v79.1.tiles.length : Int) = (v79.1.sets.length : Int)
   ·rw [if_pos c103] at h4
    have c103e := eq_true c103
    refine z0t rfl (by simp [c103e]) (z0g rfl (z0a (zq rfl (zq rfl (zr rfl rfl rfl (by simp; rfl) ?_)))))
    refine z0a (zb rfl (z0X h4 (z3e v79) rfl rfl (by simp [z3e]) fun s o1 h5 hr1 => ?_))
    obtain ⟨w103, hs1⟩ : ∃ y, y = s := ⟨_, rfl⟩
    subst hs1
    simp only [z3V] at h5
    simp only [z3e]
    refine zq rfl (zr rfl rfl rfl (by simp; rfl) ?_)
    refine z0a (zq rfl ?_)
    by_cases c164 : w103 < (v79.1.sets.length : Int)
    ·rw [if_pos c164] at h5
     refine z0v rfl (by simp [c164]) (z0g rfl (z0a (zq rfl (zb rfl (zq rfl ?_)))))
     obtain ⟨v127, f165, h6⟩ := z1e h5
     refine zr rfl rfl rfl (by simp [f165]; rfl) ?_
     refine z0a (zq rfl (zr rfl rfl rfl (by simp; rfl) ?_))
     refine z0a (zq rfl (zq rfl ?_))
     obtain ⟨v128, f166, h7⟩ := z1e h6
     refine zr rfl rfl rfl (by simp [f166]; rfl) ?_
     refine z0a (zb rfl (z0X h7 (z3F v79 w103 v127 v128) rfl rfl (by simp [z3F]) fun s o2 h8 hr2 => ?_))
     obtain ⟨w134, w135⟩ := s
     simp only [z3G] at h8
     simp only [z3F]
     refine zq rfl (zr rfl rfl rfl (by simp; rfl) ?_)
     refine z0a (zq rfl ?_)
     by_cases c181 : w135 < (v128.length : Int)
     ·rw [if_pos c181] at h8
      refine z0v rfl (by simp [c181]) (z0g rfl (z0a (zq rfl (zb rfl (zq rfl ?_)))))
      obtain ⟨v141, f182, h9⟩ := z1e h8
      refine zr rfl rfl rfl (by simp [f182]; rfl) ?_
      refine z0a (zq rfl (zq rfl ?_))
      by_cases c183 : v141 ≤ w103
      ·rw [if_pos c183] at h9
       refine z1g rfl rfl rfl rfl ?_; repeat' (first | (refine z0p rfl rfl fun Q' hQ => ?_; simp [c183]; refine hQ.out _ ?_; clear hQ; clear Q') | (refine z1d rfl rfl fun Q1 Q2 h1 h2 => ?_; simp [c183, z1K]; (first | refine h1.out ?_ | refine h2.out ?_); clear h1 h2; clear Q1 Q2; intro Q' hQ; simp [c183]; refine hQ.out _ ?_; clear hQ; clear Q') | (refine z0m rfl fun Q' hQ => ?_; simp [c183]; refine hQ.out _ ?_; clear hQ; clear Q'))
       refine z0a (z0v rfl (by simp) (zq rfl (zr rfl rfl rfl (by simp; rfl) ?_)))
       refine z0a (z1o rfl (z0e (z0n (z0e ?_))))
       obtain ⟨rr2, h10, ho2⟩ := z0b h9
       have hs2 := hr2 _ ho2
       subst hs2
       refine z1n ho2 (z0n (z0e (z0n (z0e ?_))))
       obtain ⟨rr1, h11, ho1⟩ := z0b h10
       have hs1 := hr1 _ ho1
       subst hs1
       refine z1n ho1 (z0n (z0e ?_))
       cases h11
       simp
      ·rw [if_neg c183] at h9
       by_cases c184 : (v79.1.sets.length : Int) ≤ v141
       ·rw [if_pos c184] at h9
        refine z1g rfl rfl rfl rfl ?_; repeat' (first | (refine z0p rfl rfl fun Q' hQ => ?_; simp [c183, c184]; refine hQ.out _ ?_; clear hQ; clear Q') | (refine z1d rfl rfl fun Q1 Q2 h1 h2 => ?_; simp [c183, c184, z1K]; (first | refine h1.out ?_ | refine h2.out ?_); clear h1 h2; clear Q1 Q2; intro Q' hQ; simp [c183, c184]; refine hQ.out _ ?_; clear hQ; clear Q') | (refine z0m rfl fun Q' hQ => ?_; simp [c183, c184]; refine hQ.out _ ?_; clear hQ; clear Q'))
        refine z0a (z0v rfl (by simp) (zq rfl (zr rfl rfl rfl (by simp; rfl) ?_)))
        refine z0a (z1o rfl (z0e (z0n (z0e ?_))))
        obtain ⟨rr2, h10, ho2⟩ := z0b h9
        have hs2 := hr2 _ ho2
        subst hs2
        refine z1n ho2 (z0n (z0e (z0n (z0e ?_))))
        obtain ⟨rr1, h11, ho1⟩ := z0b h10
        have hs1 := hr1 _ ho1
        subst hs1
        refine z1n ho1 (z0n (z0e ?_))
        cases h11
        simp
       ·rw [if_neg c184] at h9
        obtain ⟨v142, f185, h10⟩ := z1e h9
        by_cases c186 : (z2x .i64 v142 v127) = v142
        ·rw [if_pos c186] at h10
         have c186e := eq_true c186
         refine z1g rfl rfl rfl rfl ?_; repeat' (first | (refine z0p rfl rfl fun Q' hQ => ?_; simp [c183, c184, f185, c186e]; refine hQ.out _ ?_; clear hQ; clear Q') | (refine z1d rfl rfl fun Q1 Q2 h1 h2 => ?_; simp [c183, c184, f185, c186e, z1K]; (first | refine h1.out ?_ | refine h2.out ?_); clear h1 h2; clear Q1 Q2; intro Q' hQ; simp [c183, c184, f185, c186e]; refine hQ.out _ ?_; clear hQ; clear Q') | (refine z0m rfl fun Q' hQ => ?_; simp [c183, c184, f185, c186e]; refine hQ.out _ ?_; clear hQ; clear Q'))
         refine z0a ?_
         by_cases c187 : v142 = v127
         ·rw [if_pos c187] at h10
          have c187e := eq_true c187
          refine z0v rfl (by simp [c187e]) (zq rfl (zr rfl rfl rfl (by simp; rfl) ?_))
          refine z0a (z1o rfl (z0e (z0n (z0e ?_))))
          obtain ⟨rr2, h11, ho2⟩ := z0b h10
          have hs2 := hr2 _ ho2
          subst hs2
          refine z1n ho2 (z0n (z0e (z0n (z0e ?_))))
          obtain ⟨rr1, h12, ho1⟩ := z0b h11
          have hs1 := hr1 _ ho1
          subst hs1
          refine z1n ho1 (z0n (z0e ?_))
          cases h12
          simp
         ·rw [if_neg c187] at h10
          have c187e := eq_false c187
          refine z0t rfl (by simp [c187e]) (z0g rfl (z0a (zr rfl rfl rfl (by simp [f185]; rfl) ?_)))
          refine z0l (z0a (zr rfl rfl rfl (by simp; rfl) ?_))
          have ho := z0d h10
          refine z0i ho ?_
          simp [z3F]
        ·rw [if_neg c186] at h10
         have c186e := eq_false c186
         refine z1g rfl rfl rfl rfl ?_; repeat' (first | (refine z0p rfl rfl fun Q' hQ => ?_; simp [c183, c184, f185, c186e]; refine hQ.out _ ?_; clear hQ; clear Q') | (refine z1d rfl rfl fun Q1 Q2 h1 h2 => ?_; simp [c183, c184, f185, c186e, z1K]; (first | refine h1.out ?_ | refine h2.out ?_); clear h1 h2; clear Q1 Q2; intro Q' hQ; simp [c183, c184, f185, c186e]; refine hQ.out _ ?_; clear hQ; clear Q') | (refine z0m rfl fun Q' hQ => ?_; simp [c183, c184, f185, c186e]; refine hQ.out _ ?_; clear hQ; clear Q'))
         refine z0a (z0v rfl (by simp) (zq rfl (zr rfl rfl rfl (by simp; rfl) ?_)))
         refine z0a (z1o rfl (z0e (z0n (z0e ?_))))
         obtain ⟨rr2, h11, ho2⟩ := z0b h10
         have hs2 := hr2 _ ho2
         subst hs2
         refine z1n ho2 (z0n (z0e (z0n (z0e ?_))))
         obtain ⟨rr1, h12, ho1⟩ := z0b h11
         have hs1 := hr1 _ ho1
         subst hs1
         refine z1n ho1 (z0n (z0e ?_))
         cases h12
         simp
     ·rw [if_neg c181] at h8
      refine z0t rfl (by simp [c181]) (z1t rfl (z0T ?_))
      obtain ⟨rr2, h9, ho2⟩ := z0b h8
      have hs2 := hr2 _ ho2
      subst hs2
      refine z0y ho2 (z0f rfl (z0a (zq rfl ?_)))
      obtain ⟨v146, f188, h10⟩ := z1e h9
      by_cases c189 : 0 < (v146.length : Int)
      ·rw [if_pos c189] at h10
       have c189s : v146 ≠ [] := by simpa [List.length_pos_iff] using c189
       have c189t := eq_true (show 0 < v146.length by omega)
       by_cases c190 : w134 = v127
       ·rw [if_pos c190] at h10
        have c190e := eq_true c190
        by_cases c191 : (v146.length : Int) = 0
        ·rw [if_pos c191] at h10
         have c191e := eq_true c191
         have c191s : v146 = [] := by simpa [List.length_pos_iff] using c191
         cases h10
        ·rw [if_neg c191] at h10
         have c191e := eq_false c191
         have c191s : v146 ≠ [] := by simpa [List.length_pos_iff] using c191
         refine zr rfl rfl rfl (by simp [f188, c189, c189s, c189t, c190e, c191e, c191s]; rfl) ?_
         refine z0a (z0t rfl (by simp) (z0g rfl (z0l (z0a (zr rfl rfl rfl (by simp; rfl) ?_)))))
         have ho := z0d h10
         refine z0i ho ?_
         simp [z3e]
       ·rw [if_neg c190] at h10
        have c190e := eq_false c190
        refine zr rfl rfl rfl (by simp [f188, c189, c189s, c189t, c190e]; rfl) ?_
        refine z0a (z0v rfl (by simp) (zq rfl (zr rfl rfl rfl (by simp; rfl) ?_)))
        refine z0a (z1o rfl (z0n (z0e ?_)))
        obtain ⟨rr1, h11, ho1⟩ := z0b h10
        have hs1 := hr1 _ ho1
        subst hs1
        refine z1n ho1 (z0n (z0e ?_))
        cases h11
        simp
      ·rw [if_neg c189] at h10
       have c189s : v146 = [] := by simpa [List.length_pos_iff] using c189
       have c189t := eq_false (show ¬0 < v146.length by omega)
       by_cases c192 : (v146.length : Int) = 0
       ·rw [if_pos c192] at h10
        have c192e := eq_true c192
        have c192s : v146 = [] := by simpa [List.length_pos_iff] using c192
        obtain ⟨v149, f193, h11⟩ := z0c h10
        have f193k := zfw f193
        try simp at f193k
        refine zr rfl rfl rfl (by simp [f188, c189, c189s, c189t, c192e, c192s, f193k]; rfl) ?_
        refine z0a ?_
        by_cases c194 : v149 = 1
        ·rw [if_pos c194] at h11
         have c194e := eq_true c194
         refine z0t rfl (by simp [c194e]) (z0g rfl (z0l (z0a (zr rfl rfl rfl (by simp; rfl) ?_))))
         have ho := z0d h11
         refine z0i ho ?_
         simp [z3e]
        ·rw [if_neg c194] at h11
         have c194e := eq_false c194
         refine z0v rfl (by simp [c194e]) (zq rfl (zr rfl rfl rfl (by simp; rfl) ?_))
         refine z0a (z1o rfl (z0n (z0e ?_)))
         obtain ⟨rr1, h12, ho1⟩ := z0b h11
         have hs1 := hr1 _ ho1
         subst hs1
         refine z1n ho1 (z0n (z0e ?_))
         cases h12
         simp
       ·rw [if_neg c192] at h10
        have c192e := eq_false c192
        have c192s : v146 ≠ [] := by simpa [List.length_pos_iff] using c192
        cases h10
    ·rw [if_neg c164] at h5
     refine z0t rfl (by simp [c164]) (z1t rfl (z0T ?_))
     obtain ⟨rr1, h6, ho1⟩ := z0b h5
     have hs1 := hr1 _ ho1
     subst hs1
     refine z0y ho1 (z0f rfl (z0a (zq rfl ?_)))
     obtain ⟨v150, f195, h7⟩ := z0c h6
     have f195k := zcc f195
     try simp at f195k
     refine zr rfl rfl rfl (by simp [f195k]; rfl) ?_
     refine z0a (z1o rfl ?_)
     cases h7
     simp
   ·rw [if_neg c103] at h4
    have c103e := eq_false c103
    refine z0v rfl (by simp [c103e]) (zq rfl (zr rfl rfl rfl (by simp; rfl) ?_))
    refine z0a (z1o rfl (z0e ?_))
    cases h4
    simp
  ·rw [if_neg c102] at h4
   have c102e := eq_false c102
   refine zr rfl rfl rfl (by simp [c102e]; rfl) ?_
   refine z0a (z0v rfl (by simp) (zq rfl (zr rfl rfl rfl (by simp; rfl) ?_)))
   refine z0a (z1o rfl (z0e ?_))
   cases h4
   simp
end
end Go.Proofs.Ytbnnipkanechoaa
end
section
namespace Go.Proofs.Ytbnnipkanechoaa
open Go
set_option maxRecDepth 100000
theorem zqx : ∀ s : Nat, s < 128 → z8N (s : Int) = some ((szN s : Nat) : Int) := by decide +kernel
def zoJ (S ts : List Nat) : Nat → Nat
  | 0 => 0
  | k + 1 => zoJ S ts k ||| S.getD (ts.getD k 0) 0
theorem zfz (S ts : List Nat) (q : Nat) : ∀ k, (zoJ S ts k).testBit q = true ↔ ∃ i, i < k ∧ (S.getD (ts.getD i 0) 0).testBit q = true
  | 0 => by simp [zoJ]
  | k + 1 => by
    simp only [zoJ, Nat.testBit_or, Bool.or_eq_true]
    rw [zfz S ts q k]
    constructor
    · rintro (⟨i, h1, h2⟩ | h)
      · exact ⟨i, by omega, h2⟩
      · exact ⟨k, by omega, h⟩
    · rintro ⟨i, h1, h2⟩
      by_cases e : i = k
      · subst e; exact .inr h2
      · exact .inl ⟨i, by omega, h2⟩
theorem zoP (l : List Int) (w0 : l.length ≤ maxLen) (z0 : ∀ x ∈ l, (Lit.int .i64 x).wf = true) : ∃ outs, L 4 [.sl l.length (l.map fun x => .sc (.int .i64 x))] = some (bT true, outs) := by
  obtain ⟨t0, e0, h0⟩ := zne l
  obtain ⟨m, t1, e1, m1, m2, h1⟩ := zbB h0
  obtain ⟨d, t2, n, e2, hd, hn, h2⟩ := zob h1 m 5 ⟨m1, m2⟩ (by omega)
  have h128 : 2 ^ n ≤ 128 := Nat.pow_le_pow_right (n := 2) (by omega) hn
  have hS := zdb hd
  have hSl := z1L hS.nd hS.lt
  have hpos0 : ∀ x ∈ z4q d m n, x ≠ 0 := fun x hx => zjx hd hx
  have key : z4C l = some true := by
    unfold z4C
    have e2' : z2M t1 (m : Int) 5 = some (d, t2) := e2
    rw [e0, Option.bind_some, e1, Option.bind_some]
    simp only
    rw [e2', Option.bind_some]
    simp only
    rw [zqy hd hn, Option.bind_some]
    generalize z4q d m n = S at *
    simp only [z5p]
    rw [if_pos trivial]
    refine (if_pos (by rw [z0G]; simp)).trans ?_
    refine z2f (s := (0 : Int)) S.length (fun i => (i : Int)) rfl (by simp only [LFm]; omega) (fun i hi => ?_) ?_
    · have hil := hS.lt _ (z1r hi)
      have htl : (z4U S i).length ≤ S.length := by
        have : ∀ t ∈ z4U S i, t < S.length := fun t ht => (z6s hn hS hi ht).2.1
        exact z1L (za8 S i) this
      simp only [z3V]
      rw [if_pos (by rw [z0G]; omega), z3z hi, Option.bind_some, z3k hi, Option.bind_some]
      have hor : ∀ k, k ≤ (z4U S i).length → z6D (zoJ S (z4U S i) k) (S.getD i 0) := fun k hk => z1Z.2 fun q hq => by
        obtain ⟨j, j1, j2⟩ := (zfz S _ q k).1 hq
        have := (z6s hn hS hi (z1r (show j < (z4U S i).length by omega))).2.2.1
        exact z1Z.1 this q j2
      have horl : ∀ k, k ≤ (z4U S i).length → zoJ S (z4U S i) k < 2 ^ 62 := fun k hk => by
        have h := hor k hk
        have : zoJ S (z4U S i) k ≤ S.getD i 0 := by
          unfold z6D at h
          rw [← h]; exact Nat.and_le_right
        omega
      refine z2f (s := ((0 : Int), (0 : Int))) (z4U S i).length (fun k => (((zoJ S (z4U S i) k : Nat) : Int), (k : Int))) rfl (by simp only [LFm]; omega) (fun k hk => ?_) ?_
      · obtain ⟨q1, q2, q3, q4⟩ := z6s hn hS hi (z1r hk)
        have hjl := hS.lt _ (z1r q2)
        simp only [z3G]
        rw [if_pos (by rw [z0G]; omega), z3z hk, Option.bind_some, if_neg (by omega), z0G, if_neg (by omega), z3z q2, Option.bind_some, zks (by omega) (by omega), if_pos (by rw [show S.getD ((z4U S i).getD k 0) 0 &&& S.getD i 0 = S.getD ((z4U S i).getD k 0) 0 from q3]), if_neg (by omega), zna (horl k (by omega)) (by omega), z3n (by omega)]
        rfl
      · have hfin : (z4U S i) ≠ [] → zoJ S (z4U S i) (z4U S i).length = S.getD i 0 := fun hne => by
          refine z6F (hor _ (Nat.le_refl _)) (z1Z.2 fun q hq => ?_)
          obtain ⟨x, hx⟩ := List.exists_mem_of_ne_nil _ hne
          have hz := (zd9 hx).2.2
          obtain ⟨t, h1, h2⟩ := zgZ hd hn hS hi hz hq
          obtain ⟨p, hp, rfl⟩ := List.getElem_of_mem h1
          refine (zfz S _ q _).2 ⟨p, hp, ?_⟩
          rw [List.getD_eq_getElem?_getD (l := z4U S i), List.getElem?_eq_getElem hp, Option.getD_some]
          exact h2
        have hemp : z4U S i = [] → szN (S.getD i 0) = 1 := fun he => by
          refine Classical.byContradiction fun hz => ?_
          obtain ⟨q, hq⟩ := Nat.exists_testBit_of_ne_zero (hpos0 _ (z1r hi))
          obtain ⟨t, h1, _⟩ := zgZ hd hn hS hi hz hq
          rw [he] at h1; simp at h1
        simp only [z3G]
        rw [if_neg (by rw [z0G]; omega), z3k hi, Option.bind_some, z0G, z3n (by omega)]
        by_cases hne : z4U S i = []
        · rw [if_neg (by rw [hne]; simp), if_pos (by rw [hne]; simp), zqx _ (by omega), Option.bind_some, if_pos (by rw [hemp hne]; rfl)]
        · have hl0 := List.length_pos_iff.2 hne
          rw [if_pos (by omega), if_pos (by rw [hfin hne]), if_neg (by omega)]
    · simp only [z3V]
      rw [if_neg (by rw [z0G]; omega)]
      rfl
  exact ⟨_, z8Z key⟩
end Go.Proofs.Ytbnnipkanechoaa
end
section
/- Proved here: the law ImagesCover returns true for every input, and its arguments read afterwards as before. No condition. -/
namespace Go.Proofs.Ytbnnipkanechoaa.imagesCover
open Go.ChangeShapes Go.WideShapes Go.ChangeAt Go.RowKit
open Go.ChangeMaps (open_string shut_string)
theorem own : ownKnob Try.prog.godebug = none := by kernel_rfl
set_option maxRecDepth 100000 in
theorem zau (H : Type) (enc : TypeId × Value → H) (W : World) (base : Nat) (args : Array Value) (ds gs : List (DataW H)) (before : List MemPlace)
    (hval0 : ∀ (j : Nat) t v, Try.f4.params[j]? = some t → args[j]? = some v → Value.okWide Try.prog W .any base t v)
    (hW : DataW.Whole enc Try.prog Try.f4.params.toList Rows.imagesCoverSpec.vars false W args.toList ds gs before) :
    Calls Try.prog 4 args W fun e W' => ∃ v, e = .returned v ∧ Rows.imagesCoverSpec.post enc Try.prog Try.f4 false true false false W args v W' := by
  have hW' := hW
  obtain ⟨p, q, hA0, hV, rfl, hfz, hnd⟩ := hW
  have hval := hval0
  have hA : DataW.TrodAll enc Try.prog W 0 (fun _ => true) true Try.f4.params.toList args.toList ds p := hA0
  rw [Try.params4] at hA hval
  obtain ⟨v0, vs0, d0, ds0, p0, q0, hargs, rfl, rfl, h0, r0⟩ := trodAll_cons hA
  obtain ⟨rfl, rfl, rfl⟩ := trodAll_nil r0
  obtain rfl : args = #[v0] := by cases args; simp_all
  obtain ⟨rfl, rfl⟩ := trodVars_none hV
  obtain ⟨a0, t0, w0, z0⟩ := zdl Try.underlying22 Try.underlying3 (by kernel_rfl) (hval 0 22 v0 rfl rfl) h0
  obtain ⟨outs, hlaw⟩ := zoP a0 w0 z0
  refine (zdp zcb (by kernel_rfl) zuh hlaw rfl W _ rfl (fun i t hi => ?_)).mono fun e W' ⟨he, bel⟩ => ?_
  · match i, hi with
    | 0, hi => cases hi; exact t0
  · subst he
    exact ⟨_, rfl, _, _, _, [], _, [], hW', trodAll_mk1 (shut_bool Try.underlying4 _), z5S 12 bel (by kernel_rfl) hA0, rfl, bel.frame _, fun h => by cases h⟩
theorem z3r {a b : Bool} (ha : a = true) (hb : b = true) : (a && b) = true := by rw [ha, hb]; rfl
set_option maxHeartbeats 4000000 in
theorem znL : joinedFacts Try.checked.prog 4 Try.f4 Rows.imagesCoverSpec Rows.imagesCoverRow = true :=
  (z3r (z3r (z3r (z3r (z3r (z3r (z3r (z3r (z3r (z3r (z3r (z3r (z3r (z3r (z3r (z3r (z3r (z3r (z3r (z3r (z3r (z3r (z3r (z3r (z3r (z3r (z3r (z3r (z3r (z3r (z3r (by as_aux_lemma => kernel_rfl)
    (by as_aux_lemma => kernel_rfl))
    (by as_aux_lemma => kernel_rfl))
    (by as_aux_lemma => kernel_rfl))
    (by as_aux_lemma => kernel_rfl))
    (by as_aux_lemma => kernel_rfl))
    (by as_aux_lemma => kernel_rfl))
    (by as_aux_lemma => kernel_rfl))
    (by as_aux_lemma => kernel_rfl))
    (by as_aux_lemma => kernel_rfl))
    (by as_aux_lemma => kernel_rfl))
    (by as_aux_lemma => kernel_rfl))
    (by as_aux_lemma => kernel_rfl))
    (by as_aux_lemma => kernel_rfl))
    (by as_aux_lemma => kernel_rfl))
    (by as_aux_lemma => kernel_rfl))
    (by as_aux_lemma => kernel_rfl))
    (by as_aux_lemma => kernel_rfl))
    (by as_aux_lemma => kernel_rfl))
    (by as_aux_lemma => kernel_rfl))
    (by as_aux_lemma => kernel_rfl))
    (by as_aux_lemma => kernel_rfl))
    (by as_aux_lemma => kernel_rfl))
    (by as_aux_lemma => kernel_rfl))
    (by as_aux_lemma => kernel_rfl))
    (by as_aux_lemma => kernel_rfl))
    (by as_aux_lemma => kernel_rfl))
    (by as_aux_lemma => kernel_rfl))
    (by as_aux_lemma => kernel_rfl))
    (by as_aux_lemma => kernel_rfl))
    (by as_aux_lemma => kernel_rfl))
    (by as_aux_lemma => kernel_rfl))
set_option maxRecDepth 100000 in
theorem zht (os : Os) (started : os.Started) (H : Type) (enc : TypeId × Value → H) :
    ReturnsInHanded {} Try.checked os 4 .any (Rows.imagesCoverSpec.pre6 enc Try.prog Try.f4 Rows.imagesCoverRow.domain false) (Rows.imagesCoverSpec.post enc Try.prog Try.f4 false true false false) := by
  refine returnsInHanded_of_change (C := Try.checked) (by kernel_rfl) started (by kernel_rfl) Try.func4
    (ChangeSpec.witness6 (enc := enc) (C := Try.checked) false ⟨#[], #[.slice none 0 0], []⟩ 8 (by kernel_rfl) (by kernel_rfl) (by kernel_rfl) (by kernel_rfl)) ?_
  intro W base args ds gs before hval0 hW hcnd _
  exact zau H enc W base args ds gs before hval0 hW
theorem zr4 : Rows.imagesCoverRow.holds Try.pinned (OpenSpec.ofChange Rows.imagesCoverSpec) :=
  OpenClaim.holds_of_wide 4 Try.f4 rfl rfl rfl rfl rfl rfl rfl ⟨rfl, rfl, rfl, rfl, rfl⟩ rfl rfl rfl rfl rfl (by kernel_rfl) Try.func4 znL
    (of_decide_eq_true (by kernel_rfl)) (by unfold Func.isWrapper; first | (rw [if_pos (by decide +kernel)]; kernel_rfl) | (rw [if_neg (by decide +kernel)]; exact ⟨rfl, rfl⟩))
    (fun os started H enc _ => zht os started H enc)
theorem proved : Rows.ImagesCoverSaid :=
  zr4
#print axioms proved
end Go.Proofs.Ytbnnipkanechoaa.imagesCover
end
