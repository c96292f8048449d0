/- Proved here: the law HolonomyOrdered returns true for every input, and its arguments read afterwards as before. No condition. -/
import Derived.Test.YtodliknibbafeaaMHD4
import Derived.KernelRfl
import Derived.WalkKit
import Derived.WalkSpells
import Derived.WalkLawsBesides
import Derived.Lib.Hide
import Derived.Deep.OwnRows
import Derived.Deep.RegionLaw
import Derived.Shelf.Small.Bits
import Derived.Shelf.Small.Wraps
import Derived.Shelf.Strconv.Itoa0
import Derived.Ground.SlsfProg
import Derived.Shelf.SlSortCmp.Insertion
import Derived.Shelf.SlSortCmp.SiftDown1
import Derived.Shelf.SlSortCmp.HeapSort1
import Derived.Shelf.SlSortCmp.Insertion1
import Derived.Shelf.SlSortCmp.Median1
import Derived.Shelf.SlSortCmp.Pivot1
import Derived.Shelf.SlSortCmp.ReverseRange1
import Derived.Shelf.SlSortCmp.PartialInsertion1
import Derived.Shelf.SlSortCmp.PartitionEqual1
import Derived.Shelf.SlSortCmp.Partition1
import Derived.Shelf.SlSortCmp.Pdq1
import Derived.Shelf.SlSortCmp.Whole1
import Derived.Test.YtodliknibbafeaaProg
import Derived.ChangeOld
import Derived.ChangeReads
import Derived.Below
import Derived.ChangeSlices
import Derived.Deep.Grids
import Derived.WideShapes
import Derived.ProofKit
import Derived.Test.YtodliknibbafeaaRows
import Derived.Test.YtodliknibbafeaaChecked
import Derived.OpenShut
import Derived.ShutString
import Derived.Deep.DeepHandedRow
set_option linter.unusedVariables false
set_option linter.unusedSimpArgs false
section
namespace Go.Proofs.Ytodliknibbafeaa
open Go
noncomputable section
set_option maxRecDepth 100000
set_option maxHeartbeats 6000000
def z4h (a0 : DFA) (v19 : Imgs × Int) (w22 : List (Int × Int)) (v25 : List Int × List (List Int)) : Int × List Hol → Option ((Int × List Hol) ⊕ (List Hol × Int))
  | (w29, w30) =>
  if w29 < (v25.1.length : Int) then
    (atI v25.1 w29).bind fun v34 =>
    (atI v25.2 v34).bind fun v35 =>
    (z3m a0 v19.1 w22 v35).bind fun v36 =>
    if v36.2 = 0 then
      chk (z2Q 80 (w30.length + 1)) <|
      z0n (IntKind.i64.wrap (w29 + 1), w30 ++ [v36.1])
    else
      z0A <|
      some ([], v36.2)
  else
    z0A <|
    some (w30, 0)
def z4g (a0 : DFA) (v19 : Imgs × Int) (w22 : List (Int × Int)) (v25 : List Int × List (List Int)) : Int × List Hol → Fr
  | (w29, w30) => ⟨74, [(1, .one (.a 1 [] (0))), (4, .one (.a 4 [] (0))), (6, .one (.t none (.mr (some .i64) (w22.map fun x0 => (.int .i64 x0.1, .int .i64 x0.2))))), (10, .one (.t none (.sl v25.2.length (v25.2.map fun x0 => .sl x0.length (x0.map fun x1 => .sc (.int .i64 x1)))))), (11, .one (.h 11 [])), (48, .one (.t none (.sl v25.1.length (v25.1.map fun x0 => .sc (.int .i64 x0))))), (49, .one (.t none (.sc (.int .i64 (v25.1.length : Int))))), (50, .one (.t none (.sc (.int .i64 w29))))], [(1, .vr [.sc (.int .i64 a0.letters), .sc (.int .i64 a0.start), .sl a0.final.length (a0.final.map fun x0 => .sc (.bool x0)), .sl a0.next.length (a0.next.map fun x0 => .sl x0.length (x0.map fun x1 => .sc (.int .i64 x1)))]), (4, .vr [.sl v19.1.sets.length (v19.1.sets.map fun x0 => .sc (.int .i64 x0)), .sl v19.1.class_.length (v19.1.class_.map fun x0 => .sc (.int .i64 x0)), .sl v19.1.height.length (v19.1.height.map fun x0 => .sc (.int .i64 x0)), .sl v19.1.tiles.length (v19.1.tiles.map fun x0 => .sl x0.length (x0.map fun x1 => .sc (.int .i64 x1))), .sl v19.1.words.length (v19.1.words.map fun x0 => .sc (.string x0)), .sl v19.1.back.length (v19.1.back.map fun x0 => .sc (.string x0))]), (11, .os 4 w30.length (w30.flatMap fun x0 => [.sc (.int .i64 x0.set), .sl x0.tiles.length (x0.tiles.map fun x1 => .sc (.int .i64 x1)), .sl x0.words.length (x0.words.map fun x1 => .sc (.string x1)), .sl x0.perms.length (x0.perms.map fun x1 => .sl x1.length (x1.map fun x2 => .sc (.int .i64 x2)))]))]⟩
def z4F (a0 : DFA) (v19 : Imgs × Int) : Int × (List (Int × Int)) → Option ((Int × (List (Int × Int))) ⊕ (List Hol × Int))
  | (w21, w22) =>
  if w21 < (v19.1.sets.length : Int) then
    (atI v19.1.sets w21).bind fun v24 =>
    z0n (IntKind.i64.wrap (w21 + 1), zfc v24 w21 w22)
  else
    z0A <|
    (z3n v19.1).bind fun v25 =>
    chk (z1L 80 (v25.1.length : Int)) <|
    z0u (z4h a0 v19 w22 v25) LFm (0, [])
def z4E (a0 : DFA) (v19 : Imgs × Int) : Int × (List (Int × Int)) → Fr
  | (w21, w22) => ⟨74, [(1, .one (.a 1 [] (0))), (4, .one (.a 4 [] (0))), (6, .one (.h 6 [])), (29, .one (.t none (.sl v19.1.sets.length (v19.1.sets.map fun x0 => .sc (.int .i64 x0))))), (30, .one (.t none (.sc (.int .i64 (v19.1.sets.length : Int))))), (31, .one (.t none (.sc (.int .i64 w21))))], [(1, .vr [.sc (.int .i64 a0.letters), .sc (.int .i64 a0.start), .sl a0.final.length (a0.final.map fun x0 => .sc (.bool x0)), .sl a0.next.length (a0.next.map fun x0 => .sl x0.length (x0.map fun x1 => .sc (.int .i64 x1)))]), (4, .vr [.sl v19.1.sets.length (v19.1.sets.map fun x0 => .sc (.int .i64 x0)), .sl v19.1.class_.length (v19.1.class_.map fun x0 => .sc (.int .i64 x0)), .sl v19.1.height.length (v19.1.height.map fun x0 => .sc (.int .i64 x0)), .sl v19.1.tiles.length (v19.1.tiles.map fun x0 => .sl x0.length (x0.map fun x1 => .sc (.int .i64 x1))), .sl v19.1.words.length (v19.1.words.map fun x0 => .sc (.string x0)), .sl v19.1.back.length (v19.1.back.map fun x0 => .sc (.string x0))]), (6, .mp (some .i64) (w22.map fun x0 => (.int .i64 x0.1, .int .i64 x0.2)))]⟩
def z5u (a0 : DFA) : Option (List Hol × Int) :=
  (z7i a0).bind fun v19 =>
  if v19.2 = 0 then
    z0u (z4F a0 v19) LFm (0, ([] : List (Int × Int)))
  else
    some ([], v19.2)
instance holonomy_Of_ok {a0 : DFA} : Ok (z5u a0) (fun r => L 9 [.agg [.sc (.int .i64 a0.letters), .sc (.int .i64 a0.start), .sl a0.final.length (a0.final.map fun x0 => .sc (.bool x0)), .sl a0.next.length (a0.next.map fun x0 => .sl x0.length (x0.map fun x1 => .sc (.int .i64 x1)))]] = some (.tup [.sl r.1.length (r.1.flatMap fun x0 => [.sc (.int .i64 x0.set), .sl x0.tiles.length (x0.tiles.map fun x1 => .sc (.int .i64 x1)), .sl x0.words.length (x0.words.map fun x1 => .sc (.string x1)), .sl x0.perms.length (x0.perms.map fun x1 => .sl x1.length (x1.map fun x2 => .sc (.int .i64 x2)))]), .sc (.int .i64 r.2)], [.dead])) := ⟨fun r h0 => by
  simp only [z5u] at h0
  refine zra zCJ fn9 (zcx bd9 ⟨of_decide_eq_true rfl, of_decide_eq_true rfl⟩ rfl ?_)
  simp only [z5v, z4Q, z4J, z6D, z4U]
  refine zq rfl (zr rfl rfl rfl (by simp; rfl) ?_)
  refine z0c (zq rfl ?_)
  obtain ⟨v19, f28, h1⟩ := z1y h0
  have f28k := Ok.ok _ f28
  try simp at f28k
  refine zr rfl rfl rfl (by simp [f28k]; rfl) ?_
  refine z0c (zq rfl (zq rfl (zr rfl rfl rfl (by simp; rfl) ?_)))
  refine z0c ?_
  by_cases c29 : v19.2 = 0
  ·rw [if_pos c29] at h1
   have c29e := eq_true c29
   refine z5A rfl (by simp [c29e]) (z3G rfl (z0c (zq rfl (zr rfl rfl rfl (by simp; rfl) ?_))))
   refine z0c (zq rfl (zq rfl (zr rfl rfl rfl (by simp; rfl) ?_)))
   refine z0c (zb rfl (z4a h1 (z4E a0 v19) rfl rfl (by simp [z4E]) fun s o1 h2 hr1 => ?_))
   obtain ⟨w21, w22⟩ := s
   simp only [z4F] at h2
   simp only [z4E]
   refine zq rfl (zr rfl rfl rfl (by simp; rfl) ?_)
   refine z0c (zq rfl ?_)
   by_cases c34 : w21 < (v19.1.sets.length : Int)
   ·rw [if_pos c34] at h2
    refine z5z rfl (by simp [c34]) (z3G rfl (z0c (zq rfl (zb rfl (zq rfl ?_)))))
    obtain ⟨v24, f35, h3⟩ := z3M h2
    refine zr rfl rfl rfl (by simp [f35]; rfl) ?_
    refine z0c (zr rfl rfl rfl (by simp; rfl) ?_)
    refine z2A (z0c (zr rfl rfl rfl (by simp; rfl) ?_))
    have ho := z1P h3
    refine z2z ho ?_
    simp [z4E]
   ·rw [if_neg c34] at h2
    refine z5A rfl (by simp [c34]) (z5q rfl (z3R ?_))
    obtain ⟨rr1, h3, ho1⟩ := z2d h2
    have hs1 := hr1 _ ho1
    subst hs1
    refine z3g ho1 (z1C rfl (z0c (zq rfl ?_)))
    obtain ⟨v25, f36, h4⟩ := z1y h3
    have f36k := Ok.ok _ f36
    try simp at f36k
    refine zr rfl rfl rfl (by simp [f36k]; rfl) ?_
    refine z0c (zq rfl (zsu rfl rfl (by simp; rfl) ?_))
    obtain ⟨f37, h5⟩ := zwM h4
    refine zr rfl rfl rfl (by simp [f37]; rfl) ?_
    refine z0c (zq rfl (zq rfl (zr rfl rfl rfl (by simp; rfl) ?_)))
    refine z0c (zb rfl (z4a h5 (z4g a0 v19 w22 v25) rfl rfl (by simp [z4g]) fun s o2 h6 hr2 => ?_))
    obtain ⟨w29, w30⟩ := s
    simp only [z4h] at h6
    simp only [z4g]
    refine zq rfl (zr rfl rfl rfl (by simp; rfl) ?_)
    refine z0c (zq rfl ?_)
    by_cases c49 : w29 < (v25.1.length : Int)
    ·rw [if_pos c49] at h6
     refine z5z rfl (by simp [c49]) (z3G rfl (z0c (zq rfl (zb rfl (zq rfl ?_)))))
     obtain ⟨v34, f50, h7⟩ := z3M h6
     refine zr rfl rfl rfl (by simp [f50]; rfl) ?_
     refine z0c (zq rfl ?_)
     obtain ⟨v35, f51, h8⟩ := z3M h7
     obtain ⟨v36, f52, h9⟩ := z1y h8
     have f52k := Ok.ok _ f52
     try simp at f52k
     refine zhf rfl rfl rfl rfl ?_
     refine z0P rfl rfl (by simp [z0d, z0f, f51, f52k]; rfl) ?_
     refine z0P rfl rfl (by simp [z0d, z0f, f51, f52k]; rfl) ?_
     refine z0P rfl rfl (by simp [z0d, z0f, f51, f52k]; rfl) ?_
     refine z0P rfl rfl (by simp [z0d, z0f, f51, f52k]; rfl) ?_
     refine z0P rfl rfl (by simp [z0d, z0f, f51, f52k]; rfl) ?_
     refine z0P rfl rfl (by simp [z0d, z0f, f51, f52k]; rfl) ?_
     refine z0P rfl rfl (by simp [z0d, z0f, f51, f52k]; rfl) ?_
     refine z5o ?_
     refine z0P rfl rfl (by simp [z0d, z0f, f51, f52k]; rfl) ?_
     refine z0P rfl rfl (by simp [z0d, z0f, f51, f52k]; rfl) ?_
     refine z0P rfl rfl (by simp [z0d, z0f, f51, f52k]; rfl) ?_
     refine z0P rfl rfl (by simp [z0d, z0f, f51, f52k]; rfl) ?_
     refine z0P rfl rfl (by simp [z0d, z0f, f51, f52k]; rfl) ?_
     refine z0P rfl rfl (by simp [z0d, z0f, f51, f52k]; rfl) ?_
     refine z0P rfl rfl (by simp [z0d, z0f, f51, f52k]; rfl) ?_
     refine z5n ?_
     refine ⟨?_, ?_⟩
     ·refine z0P rfl rfl (by simp [z0d, z0f, f51, f52k]; rfl) ?_
      refine z0P rfl rfl (by simp [z0d, z0f, f51, f52k]; rfl) ?_
      refine z0P rfl rfl (by simp [z0d, z0f, f51, f52k]; rfl) ?_
      refine z0P rfl rfl (by simp [z0d, z0f, f51, f52k]; rfl) ?_
      refine z0P rfl rfl (by simp [z0d, z0f, f51, f52k]; rfl) ?_
      refine z0P rfl rfl (by simp [z0d, z0f, f51, f52k]; rfl) ?_
      refine z0P rfl rfl (by simp [z0d, z0f, f51, f52k]; rfl) ?_
      refine z5n ?_
      simp [z5y, f51, f52k]
     refine zh7 rfl (by simp [f51, f52k]; rfl) ?_
     refine z0c (zq rfl (zq rfl (zr rfl rfl rfl (by simp; rfl) ?_)))
     refine z0c ?_
     by_cases c53 : v36.2 = 0
     ·rw [if_pos c53] at h9
      have c53e := eq_true c53
      refine z5A rfl (by simp [c53e]) (z3G rfl (z0c ?_))
      obtain ⟨f54, h10⟩ := ztx h9
      refine zr rfl rfl rfl (by simp [f54]; rfl) ?_
      refine z2A (z0c (zr rfl rfl rfl (by simp; rfl) ?_))
      have ho := z1P h10
      refine z2z ho ?_
      simp [z4g]
     ·rw [if_neg c53] at h9
      have c53e := eq_false c53
      refine z5z rfl (by simp [c53e]) (zq rfl (zr rfl rfl rfl (by simp; rfl) ?_))
      refine z0c (zhI rfl (z8T (zih (z8T ?_))))
      obtain ⟨rr2, h10, ho2⟩ := z2d h9
      have hs2 := hr2 _ ho2
      subst hs2
      refine znz ho2 (zih (z8T ?_))
      cases h10
      simp
    ·rw [if_neg c49] at h6
     refine z5A rfl (by simp [c49]) (z5q rfl (z3R ?_))
     obtain ⟨rr2, h7, ho2⟩ := z2d h6
     have hs2 := hr2 _ ho2
     subst hs2
     refine z3g ho2 (z1C rfl (z0c (zq rfl (zr rfl rfl rfl (by simp; rfl) ?_))))
     refine z0c (zhI rfl ?_)
     cases h7
     simp
  ·rw [if_neg c29] at h1
   have c29e := eq_false c29
   refine z5z rfl (by simp [c29e]) (zq rfl (zr rfl rfl rfl (by simp; rfl) ?_))
   refine z0c (zhI rfl (z8T ?_))
   cases h1
   simp⟩
end
end Go.Proofs.Ytodliknibbafeaa
end
section
namespace Go.Proofs.Ytodliknibbafeaa
open Go
set_option maxRecDepth 100000
def zcs : List (List Nat) → List (ByteArray × Bool) := List.foldl (fun mp q => zfc (z3S (zhx q)) true mp) []
theorem zsl (Q : List (List Nat)) (p : List Nat) : zcs (Q ++ [p]) = zfc (z3S (zhx p)) true (zcs Q) := by
  unfold zcs; rw [List.foldl_append]; rfl
theorem zue {L : Nat} {p : List Nat} (hp : p.length = L) (hb : ∀ k ∈ p, k < 65536) : ∀ {Q : List (List Nat)}, (∀ q ∈ Q, q.length = L ∧ ∀ k ∈ q, k < 65536) → (((zeP (z3S (zhx p)) (zcs Q)).getD false) = true ↔ p ∈ Q) := by
  have key : ∀ (Q : List (List Nat)) (mp : List (ByteArray × Bool)), (∀ q ∈ Q, q.length = L ∧ ∀ k ∈ q, k < 65536) → (((zeP (z3S (zhx p)) (Q.foldl (fun mp q => zfc (z3S (zhx q)) true mp) mp)).getD false) = true ↔ (p ∈ Q ∨ ((zeP (z3S (zhx p)) mp).getD false) = true)) := by
    intro Q
    induction Q with
    | nil => intro mp _; simp
    | cons q Q ih =>
      intro mp hQ
      rw [List.foldl_cons, ih _ (fun x hx => hQ x (List.mem_cons_of_mem _ hx)), zeO, List.mem_cons]
      have hq := hQ q (List.mem_cons_self ..)
      by_cases e : q = p
      · subst e
        rw [if_pos rfl]; simp
      · have : ¬ z3S (zhx q) = z3S (zhx p) := fun h => e (zvE hq.2 hb (by rw [hq.1, hp]) h)
        rw [if_neg this]
        constructor
        · rintro (h | h)
          · exact .inl (.inr h)
          · exact .inr h
        · rintro ((h | h) | h)
          · exact absurd h.symm e
          · exact .inl h
          · exact .inr h
  intro Q hQ
  have := key Q [] hQ
  rw [show zcs Q = Q.foldl (fun mp q => zfc (z3S (zhx q)) true mp) [] from rfl, this]
  simp [zeP]
def zuA (d : DFA) (m n : Nat) (S T : List Nat) (l : List Nat) : HS := l.foldl (fun st i => zl7 d m n S T i st m) ([], [])
theorem zwb (d : DFA) (m n : Nat) (S T : List Nat) (c k : Nat) : zuA d m n S T (z9m d m n S c k) = zv5 d m n S T c k := by
  unfold zuA z9m zv5
  rw [List.foldl_filter]
  congr 1
  funext st i
  by_cases h : clN d m n S i = c
  · rw [if_pos (by simpa using h), if_pos h]
  · rw [if_neg (by simpa using h), if_neg h]
theorem zuz (d : DFA) (m n : Nat) (S T l : List Nat) (i : Nat) : zuA d m n S T (l ++ [i]) = zl7 d m n S T i (zuA d m n S T l) m := by
  unfold zuA; rw [List.foldl_append]; rfl
section
variable {d : DFA} {m n : Nat} {S : List Nat} (hd : DfaOk d m n) (hn : n ≤ 7) (hS : SetsP d m n S)
include hd hn hS
theorem zsO {c k i : Nat} (h : i ∈ z9m d m n S c k) : i < k ∧ clN d m n S i = c := by
  have _u := hd
  have _v := hn
  have _w := hS
  unfold z9m at h
  rw [List.mem_filter, List.mem_range, decide_eq_true_eq] at h
  exact h
theorem zxD {c : Nat} : ∀ {l : List Nat}, (∀ i ∈ l, i < S.length ∧ clN d m n S i = c) → HInv d m n S c (l.length * m) (zuA d m n S (z4o S (z3x d m n S c)) l) := by
  have key : ∀ (l : List Nat) (st : HS) (B : Nat), HInv d m n S c B st → (∀ i ∈ l, i < S.length ∧ clN d m n S i = c) → HInv d m n S c (B + l.length * m) (l.foldl (fun st i => zl7 d m n S (z4o S (z3x d m n S c)) i st m) st) := by
    intro l
    induction l with
    | nil => intro st B h _; simpa using h
    | cons i l ih =>
      intro st B h hl
      have hi := hl i (List.mem_cons_self ..)
      have := ih _ _ (zsq hd hn hS h hi.1 hi.2 m (Nat.le_refl _)) (fun j hj => hl j (List.mem_cons_of_mem _ hj))
      rw [List.foldl_cons]
      have e : B + (i :: l).length * m = B + m + l.length * m := by rw [List.length_cons, Nat.add_mul]; omega
      rw [e]; exact this
  intro l hl
  have := key l ([], []) 0 ⟨rfl, by simp, fun j hj => by simp at hj⟩ hl
  rw [Nat.zero_add] at this
  exact this
theorem zwl {c B : Nat} {st : HS} (hc : c < (z6F d m n S).length) (h : HInv d m n S c B st) : ∀ q ∈ st.2, q.length = (z4o S (z3x d m n S c)).length ∧ ∀ k ∈ q, k < 65536 := fun q hq => by
  have hk := (z4y hd hn hS hc).2
  have htl := zvI hd hn hS hk
  refine ⟨zuJ h q hq, fun k hkq => ?_⟩
  obtain ⟨j, hj, rfl⟩ := List.getElem_of_mem hq
  obtain ⟨l1, l2, l3⟩ := zt5 h (j := j) (by rw [h.len]; exact hj)
  rw [List.getD, List.getElem?_eq_getElem hj, Option.getD_some] at l3
  rw [l3] at hkq
  have := (zhg hd hn hS hk l1).2.1 k hkq
  omega
theorem zmq {c i a : Nat} {st : HS} {B : Nat} {w : Int} (hB : B ≤ 10000) (h : HInv d m n S c B st) (hi : i < S.length) (ha : a < m) (hc : clN d m n S i = c) (hcl : c < (z6F d m n S).length) (z : Int) :
    z1K d (z3X d m n S) (zi1 S S.length) ((z3x d m n S c : Nat) : Int) (toI (z4o S (z3x d m n S c))) w (i : Int) z ((a : Int), st.1, st.2.map toI, zcs st.2) = z0n (((a + 1 : Nat) : Int), (zfg d m n S (z4o S (z3x d m n S c)) i st a).1, (zfg d m n S (z4o S (z3x d m n S c)) i st a).2.map toI, zcs (zfg d m n S (z4o S (z3x d m n S c)) i st a).2) := by
  have h128 : 2 ^ n ≤ 128 := Nat.pow_le_pow_right (n := 2) (by omega) hn
  have hm := hd.m6
  obtain ⟨j1, j2⟩ := zvq hd hn hS hi ha
  obtain ⟨f1, hk⟩ := z4y hd hn hS hcl
  have hsat : atI (z3X d m n S).sets (i : Int) = some ((S.getD i 0 : Nat) : Int) := z2C hi
  have hcat : ∀ i, i < S.length → atI (z3X d m n S).class_ (i : Int) = some ((clN d m n S i : Nat) : Int) := fun i hi => z2H hi
  have hwat : atI (z3X d m n S).words (i : Int) = some (ziv d m n S i) := z2H hi
  have hbat : ∀ i, i < S.length → atI (z3X d m n S).back (i : Int) = some (ztI d m n S i) := fun i hi => z2H hi
  have hix : (zeP ((mvN d (S.getD i 0) a : Nat) : Int) (zi1 S S.length)).getD 0 = ((ztW d S i a : Nat) : Int) := by
    rw [← j2, zi0 hS.nd _ (Nat.le_refl _) j1]; rfl
  have h26 : (UInt8.ofNat (97 + a)).toNat = 97 + a := zcB (by omega)
  have hlw : ztT m (zuB a).data.toList := fun c hc => by
    rw [z7e, List.mem_singleton] at hc
    subst hc; omega
  have hap : z2p (toI (zou d n (zuB a).data.toList)) ((S.getD i 0 : Nat) : Int) = some ((mvN d (S.getD i 0) a : Nat) : Int) := by
    rw [zl2 hd (by omega) hlw (hS.lt _ (z0F hi)), z7e, z4q, z4q, h26, Nat.add_sub_cancel_left]
  simp only [z1K]
  rw [hd.lt, if_pos (by omega), hsat, Option.bind_some, zmr (by omega), zl5 hd (by omega) hlw (by rw [z5r]; omega), Option.bind_some, hap, Option.bind_some, hix, hcat _ j1, Option.bind_some, hcat _ hk, Option.bind_some, f1]
  unfold zfg
  by_cases hj : clN d m n S (ztW d S i a) = clN d m n S i
  · obtain ⟨l1, l2⟩ := zmx hd hn hS hi ha hj
    have hf : z3x d m n S c = z5L d m n S i := by unfold z3x; rw [← hc]; rfl
    rw [← hf] at l1
    obtain ⟨_, w1⟩ := zmV hd hn hS hi
    obtain ⟨_, w2⟩ := zop hd hn hS j1
    have htl := zvI hd hn hS hk
    obtain ⟨t1, t2⟩ := za3 hd hn hS hk
    have hwd : (ziv d m n S i ++ zuB a ++ ztI d m n S (ztW d S i a)) = hwN d m n S i a := rfl
    have hbd := h.bd
    have hln := h.len
    have hpl := znB d (hwN d m n S i a).data.toList (z4o S (z3x d m n S c))
    have hpf := (zhg hd hn hS hk l1).2.1
    have hp6 : ∀ k ∈ z5J d (hwN d m n S i a).data.toList (z4o S (z3x d m n S c)), k < 65536 := fun k hk' => by have := hpf k hk'; omega
    have hsg := zue hpl hp6 (zwl hd hn hS hcl h)
    rw [if_pos (by omega), hwat, Option.bind_some, z0w _ (by unfold zap; rw [z5r]; omega), hbat _ j1, Option.bind_some, z0w _ (by unfold zap; rw [zcK, z5r]; omega), hwd,
      zl5 hd (by omega) l1.hw (by omega), Option.bind_some, zfj hd (by omega) t1 (by omega) (fun t ht => (t2 t ht).2.2) l1.hw (zrW hd hn hS hk l1), Option.bind_some, zkM (by omega), Option.bind_some, hpl, if_pos hj, z1O (by omega)]
    by_cases hid : z5J d (hwN d m n S i a).data.toList (z4o S (z3x d m n S c)) = List.range (z4o S (z3x d m n S c)).length
    · rw [if_pos (by simpa using hid), if_pos (.inl hid)]
    · rw [if_neg (by simpa using hid), zvK (by omega) hp6, Option.bind_some]
      by_cases hin : z5J d (hwN d m n S i a).data.toList (z4o S (z3x d m n S c)) ∈ st.2
      · rw [if_pos (hsg.2 hin), if_pos (.inr hin)]
      · rw [if_neg (fun e => hin (hsg.1 e)), if_neg (by omega), Option.bind_some, z0w _ (by unfold z2Q; omega), z0w _ (by unfold z2Q; rw [List.length_map]; omega), if_neg (fun e => e.elim hid hin)]
        simp only [zsl, List.map_append, List.map_cons, List.map_nil]
  · rw [if_neg (by omega), if_neg hj, z1O (by omega)]
theorem zqO {c i : Nat} {st : HS} {B : Nat} {w : Nat} (hB : B ≤ 9000) (h : HInv d m n S c B st) (hi : i < S.length) (hc : clN d m n S i = c) (hcl : c < (z6F d m n S).length) (hw : w < 1000) (z : Int) :
    z0u (z1K d (z3X d m n S) (zi1 S S.length) ((z3x d m n S c : Nat) : Int) (toI (z4o S (z3x d m n S c))) (w : Int) (i : Int) z) LFm (0, st.1, st.2.map toI, zcs st.2) = z0n (((w + 1 : Nat) : Int), (zl7 d m n S (z4o S (z3x d m n S c)) i st m).1, (zl7 d m n S (z4o S (z3x d m n S c)) i st m).2.map toI, zcs (zl7 d m n S (z4o S (z3x d m n S c)) i st m).2) := by
  have hm := hd.m6
  refine z1a (s := ((0 : Int), st.1, st.2.map toI, zcs st.2)) m (fun a => ((a : Int), (zl7 d m n S (z4o S (z3x d m n S c)) i st a).1, (zl7 d m n S (z4o S (z3x d m n S c)) i st a).2.map toI, zcs (zl7 d m n S (z4o S (z3x d m n S c)) i st a).2)) rfl (by simp only [LFm]; omega) (fun a ha => ?_) ?_
  · rw [zmq hd hn hS (B := B + a) (by omega) (zsq hd hn hS h hi hc a (by omega)) hi ha hc hcl, zhF]
  · simp only [z1K]
    rw [hd.lt, if_neg (by omega), z1O (by omega)]
theorem zqt {c : Nat} (hcl : c < (z6F d m n S).length) (hSl : S.length ≤ 128) : z3m d (z3X d m n S) (zi1 S S.length) (toI (z9m d m n S c S.length)) = some (zwk d m n S c, 0) := by
  have hm := hd.m6
  obtain ⟨f1, hk⟩ := z4y hd hn hS hcl
  obtain ⟨_, m2⟩ := znL hd hn hS hcl
  have hta : atI (z3X d m n S).tiles ((z3x d m n S c : Nat) : Int) = some (toI (zcr S (z3x d m n S c))) := z2H hk
  have hsat : atI (z3X d m n S).sets ((z3x d m n S c : Nat) : Int) = some ((S.getD (z3x d m n S c) 0 : Nat) : Int) := z2C hk
  have htl := zvI hd hn hS hk
  have hl := zvH (S := S) (k := z3x d m n S c)
  have hmf : ∀ i ∈ z9m d m n S c S.length, i < S.length ∧ clN d m n S i = c := fun i hi => zsO hd hn hS hi
  have hml : (z9m d m n S c S.length).length ≤ 128 := by
    unfold z9m
    exact Nat.le_trans (List.length_filter_le _ _) (by rw [List.length_range]; exact hSl)
  unfold z3m
  rw [m2, Option.bind_some, hsat, Option.bind_some, hta, Option.bind_some]
  refine z1a (s := ((0 : Int), ([] : List Int))) (zcr S (z3x d m n S c)).length (fun q => ((q : Int), toI ((z4o S (z3x d m n S c)).take q))) rfl (by simp only [LFm]; omega) (fun q hq => ?_) ?_
  · have hx : (zcr S (z3x d m n S c)).getD q 0 < S.length := zkL (zer (z0F hq)).1
    have e : (z4o S (z3x d m n S c)).getD q 0 = S.getD ((zcr S (z3x d m n S c)).getD q 0) 0 := by simp [z4o, List.getD, hq]
    have hsat : atI (z3X d m n S).sets (((zcr S (z3x d m n S c)).getD q 0 : Nat) : Int) = some ((S.getD ((zcr S (z3x d m n S c)).getD q 0) 0 : Nat) : Int) := z2C hx
    simp only [z3j]
    rw [if_pos (by rw [z0l]; omega), z2C hq, Option.bind_some, hsat, Option.bind_some, z0w _ (by unfold z2Q; rw [z0l, List.length_take]; omega), z1O (by omega), za4 (by omega), z4R, e]
  · simp only [z3j]
    rw [if_neg (by rw [z0l]; omega), ← hl, List.take_length]
    congr 1
    refine z1a (s := ((0 : Int), ([] : List ByteArray), ([] : List (List Int)), ([] : List (ByteArray × Bool)))) (z9m d m n S c S.length).length (fun k => ((k : Int), (zuA d m n S (z4o S (z3x d m n S c)) ((z9m d m n S c S.length).take k)).1, (zuA d m n S (z4o S (z3x d m n S c)) ((z9m d m n S c S.length).take k)).2.map toI, zcs (zuA d m n S (z4o S (z3x d m n S c)) ((z9m d m n S c S.length).take k)).2)) rfl (by simp only [LFm]; omega) (fun k hk' => ?_) ?_
    · have hmem := hmf _ (z0F hk')
      have hI := zxD hd hn hS (c := c) (l := (z9m d m n S c S.length).take k) (fun i hi => hmf i (List.mem_of_mem_take hi))
      have hB : ((z9m d m n S c S.length).take k).length * m ≤ 128 * 6 := Nat.mul_le_mul (by rw [List.length_take]; omega) hm
      simp only [z2Y]
      rw [if_pos (by rw [z0l]; omega), z2C hk', Option.bind_some, zqO hd hn hS (by omega) hI hmem.1 hmem.2 hcl (by omega), za4 hk', zuz]
    · simp only [z2Y]
      rw [if_neg (by rw [z0l]; omega), List.take_length, zwb]
      rfl
end
theorem zxK {d : DFA} {m n : Nat} (hd : DfaOk d m n) (hn : n ≤ 7) : ∃ O, z5u d = some (O.map (zwk d m n (z6W d m n)), 0) ∧ zBw (hC d m n (z6W d m n)) O ∧ O.Perm (znD d m n (z6W d m n) (z6W d m n).length) := by
  have h128 : 2 ^ n ≤ 128 := Nat.pow_le_pow_right (n := 2) (by omega) hn
  have hS := zm9 hd
  have hSl := z1E hS.nd hS.lt
  unfold z5u
  rw [zB4 hd hn, Option.bind_some, if_pos rfl]
  generalize z6W d m n = S at *
  obtain ⟨O, e, o1, o2⟩ := zmN hd hn hS (by omega)
  refine ⟨O, ?_, o1, o2⟩
  have hOc : ∀ c ∈ O, c < (z6F d m n S).length := fun c hc => by
    have := o2.mem_iff.1 hc
    unfold znD at this
    exact List.mem_range.1 (List.mem_filter.1 this).1
  have hOl : O.length ≤ 128 := by
    rw [o2.length_eq]; unfold znD
    refine Nat.le_trans (List.length_filter_le _ _) ?_
    rw [List.length_range]
    have := z7k (z1M d m n S) S.length
    omega
  have hsl : (z3X d m n S).sets.length = S.length := z0l _
  refine z1a (s := ((0 : Int), ([] : List (Int × Int)))) S.length (fun k => ((k : Int), zi1 S k)) rfl (by simp only [LFm]; omega) (fun k hk => ?_) ?_
  · have hsat : atI (z3X d m n S).sets (k : Int) = some ((S.getD k 0 : Nat) : Int) := z2C hk
    simp only [z4F]
    rw [hsl, if_pos (by omega), hsat, Option.bind_some, z1O (by omega)]
    rfl
  · simp only [z4F]
    rw [hsl, if_neg (by omega), e, Option.bind_some, z0w _ (by unfold z1L; rw [z0l]; omega)]
    congr 1
    refine z1a (s := ((0 : Int), ([] : List Hol))) O.length (fun t => ((t : Int), (O.take t).map (zwk d m n S))) rfl (by simp only [LFm]; omega) (fun t ht => ?_) ?_
    · have hc := hOc _ (z0F ht)
      have hma := (znL hd hn hS hc).1
      simp only [z4h]
      rw [if_pos (by rw [z0l]; omega), z2C ht, Option.bind_some, hma, Option.bind_some, zqt hd hn hS hc (by omega), Option.bind_some, if_pos rfl, z0w _ (by unfold z2Q; rw [List.length_map, List.length_take]; omega), z1O (by omega), za4 ht, List.map_append, List.map_cons, List.map_nil]
    · simp only [z4h]
      rw [if_neg (by rw [z0l]; omega), List.take_length]
end Go.Proofs.Ytodliknibbafeaa
end
section
namespace Go.Proofs.Ytodliknibbafeaa
open Go
noncomputable section
set_option maxRecDepth 100000
set_option maxHeartbeats 6000000
end
end Go.Proofs.Ytodliknibbafeaa
end
section
namespace Go.Proofs.Ytodliknibbafeaa
open Go
noncomputable section
set_option maxRecDepth 100000
set_option maxHeartbeats 6000000
end
end Go.Proofs.Ytodliknibbafeaa
end
section
namespace Go.Proofs.Ytodliknibbafeaa
open Go
set_option maxRecDepth 100000
end Go.Proofs.Ytodliknibbafeaa
end
section
namespace Go.Proofs.Ytodliknibbafeaa
open Go
set_option maxRecDepth 100000
def zB7 (n : Nat) (s : Int) : Bool := decide (0 ≤ s ∧ s < ((2 ^ n : Nat) : Int))
section
variable {d : DFA} {m n : Nat} (hd : DfaOk d m n) (hn : n ≤ 12) {h : Hol} (hs : zB7 n h.set = true) (hT : h.tiles.all (zB7 n) = true) (hl : h.tiles.length ≤ 32)
include hd hn hs hT hl
end
end Go.Proofs.Ytodliknibbafeaa
end
section
namespace Go.Proofs.Ytodliknibbafeaa
open Go
set_option maxRecDepth 100000
section
variable {d : DFA} {m n : Nat} (hd : DfaOk d m n) (hn : n ≤ 12) {h : Hol} (hw : h.words.length < 2 ^ 61) (hp : h.perms.length < 2 ^ 61)
include hd hn hw hp
end
end Go.Proofs.Ytodliknibbafeaa
end
section
namespace Go.Proofs.Ytodliknibbafeaa
open Go
set_option maxRecDepth 100000
end Go.Proofs.Ytodliknibbafeaa
end
section
namespace Go.Proofs.Ytodliknibbafeaa
open Go
set_option maxRecDepth 100000
end Go.Proofs.Ytodliknibbafeaa
end
section
namespace Go.Proofs.Ytodliknibbafeaa
open Go
set_option maxRecDepth 100000
structure HolOk (m n : Nat) (h : Hol) : Prop where
  t1 : 1 ≤ h.tiles.length
  t2 : h.tiles.length ≤ 32
  wp : h.words.length = h.perms.length
  wl : h.words.length ≤ 1000
  wb : ∀ w ∈ h.words, w.size ≤ 257
  pl : ∀ p ∈ h.perms, p.length = h.tiles.length
section
variable {d : DFA} {m n : Nat} {S : List Nat} (hd : DfaOk d m n) (hn : n ≤ 7) (hS : SetsP d m n S)
include hd hn hS
end
end Go.Proofs.Ytodliknibbafeaa
end
section
namespace Go.Proofs.Ytodliknibbafeaa
open Go
set_option maxRecDepth 100000
def zwD (k : Nat) (rs : List (List Int)) : Prop := ∀ p, p < k → ∀ x ∈ rs.getD p [], (p : Int) ≤ x
theorem zi3 {α : Type} {l : List α} {i p : Nat} {v z : α} (h : i < l.length) : (l.set i v).getD p z = if p = i then v else l.getD p z := by
  rw [List.getD, List.getD, List.getElem?_set]
  by_cases e : i = p
  · subst e; rw [if_pos rfl, if_pos rfl, if_pos h]; rfl
  · rw [if_neg e, if_neg (fun h => e h.symm)]
theorem zmh {t : Tape} (ht : TapeOk t) (m most : Nat) (hm : 1 ≤ m ∧ m ≤ 6) (hk : 1 ≤ most ∧ most ≤ 1000) : ∃ d t' n, z2r t m most = some (d, t') ∧ DfaOk d m n ∧ n ≤ most ∧ TapeOk t' ∧ zwD n d.next := by
  unfold z2r
  obtain ⟨d, t1, n, e1, hd, hn, ht1⟩ := zxT ht m most hm hk
  simp only [e1, Option.bind_some]
  refine Exists.elim (z3c (b := z2T (d, t1)) (fun z => 0 ≤ z.1 ∧ z.1 ≤ n ∧ z.2.length = n ∧ (∀ r ∈ z.2, zch m n r) ∧ zwD z.1.toNat z.2) (fun z => n + 1 - z.1.toNat) (fun r => DfaOk r.1 m n ∧ TapeOk r.2 ∧ zwD n r.1.next) ?_ LFm (0, d.next) ⟨by simp, by simp, hd.nl, hd.row, fun p hp => by simp at hp⟩ (by simp only [LFm]; omega)) fun r h => ⟨r.1, r.2, n, h.1, h.2.1, hn, h.2.2.1, h.2.2.2⟩
  rintro ⟨i, rs⟩ ⟨i0, i1, i2, i3, i4⟩
  simp only at i0 i1 i2 i3 i4 ⊢
  simp only [z2T, hd.nl]
  obtain ⟨i, rfl⟩ := Int.eq_ofNat_of_zero_le i0
  rw [Int.toNat_natCast] at i4
  by_cases hi : (i : Int) < n
  · left
    rw [if_pos hi, z2y (by omega)]
    simp only [Option.bind_some]
    have hri := zvc i3 (show i < rs.length by omega)
    refine Exists.elim (zsR (b := z2S (i : Int) rs[i] _) (fun z => 0 ≤ z.1 ∧ z.1 ≤ m ∧ z.2.length = n ∧ (∀ r ∈ z.2, zch m n r) ∧ zwD i z.2 ∧ ∀ b : Nat, (b : Int) < z.1 → (i : Int) ≤ (z.2.getD i []).getD b 0) (fun z => m + 1 - z.1.toNat) (fun z => z.1 = (i : Int) + 1 ∧ z.2.length = n ∧ (∀ r ∈ z.2, zch m n r) ∧ zwD (i + 1) z.2) (s := (0, rs)) ⟨by simp, by simp, i2, i3, i4, fun b hb => by simp only at hb; omega⟩ (by simp only [LFm]; omega) ?_) fun r h => ⟨_, h.1, ⟨by have := h.2.1; omega, by have := h.2.1; omega, h.2.2.1, h.2.2.2.1, by have := h.2.1; rw [this, show ((i : Int) + 1).toNat = i + 1 by omega]; exact h.2.2.2.2⟩, by have := h.2.1; omega⟩
    rintro ⟨j, us⟩ ⟨j0, j1, j2, j3, j4, j5⟩
    simp only at j0 j1 j2 j3 j4 j5 ⊢
    obtain ⟨j, rfl⟩ := Int.eq_ofNat_of_zero_le j0
    simp only [z2S, hri.1]
    rw [z2y (by omega)]
    simp only [Option.bind_some]
    have hui := zvc j3 (show i < us.length by omega)
    have hgi : us.getD i [] = us[i] := by rw [List.getD, List.getElem?_eq_getElem, Option.getD_some]
    by_cases hj : (j : Int) < m
    · left
      rw [if_pos hj, z2y (by rw [hui.1]; omega), z2B (by omega) (by omega)]
      simp only [Option.bind_some]
      refine ⟨_, rfl, ⟨by simp only; omega, by simp only; omega, by simp only [List.length_set]; exact j2, zui j3 (zvR hui ?_ _) _, fun p hp x hx => ?_, fun b hb => ?_⟩, by simp only; omega⟩
      · have := hui.2 _ (List.getElem_mem (show j < us[i].length by rw [hui.1]; omega))
        split <;> omega
      · simp only at hx
        rw [Int.toNat_natCast, zi3 (by omega), if_neg (by omega)] at hx
        exact j4 p hp x hx
      · simp only at hb ⊢
        rw [Int.toNat_natCast, zi3 (by omega), if_pos rfl, Int.toNat_natCast, zi3 (by rw [hui.1]; omega)]
        by_cases e : b = j
        · rw [if_pos e]; split <;> omega
        · rw [if_neg e, ← hgi]; exact j5 b (by omega)
    · right
      rw [if_neg hj, z2B (by omega) (by omega)]
      refine ⟨_, rfl, rfl, j2, j3, fun p hp x hx => ?_⟩
      by_cases e : p = i
      · subst e
        simp only at hx
        rw [hgi] at hx j5
        obtain ⟨b, hb, rfl⟩ := List.getElem_of_mem hx
        have := j5 b (by rw [hui.1] at hb; omega)
        rwa [List.getD, List.getElem?_eq_getElem hb, Option.getD_some] at this
      · exact j4 p (by omega) x hx
  · right
    rw [if_neg hi]
    have e : n = i := by omega
    exact ⟨_, rfl, ⟨hd.lt, hd.m1, hd.m6, hd.n1, hd.fin, by simp only; omega, by simp, by simp only; have := hd.n1; omega, i3⟩, ht1, by rw [e]; exact i4⟩
section
variable {d : DFA} {m n : Nat} (hd : DfaOk d m n) (hO : zwD n d.next)
include hd hO
theorem zxq {q a : Nat} (hq : q < n) (ha : a < m) : q ≤ nxN d q a := by
  obtain ⟨h1, h2, h3, h4, h5⟩ := zc0 hd hq ha
  have := hO q hq (d.next[q][a]) (by rw [List.getD, List.getElem?_eq_getElem h1, Option.getD_some]; exact List.getElem_mem h2)
  unfold nxN
  have e : d.next.getD q [] = d.next[q] := by rw [List.getD, List.getElem?_eq_getElem h1, Option.getD_some]
  rw [e, List.getD, List.getElem?_eq_getElem h2, Option.getD_some]
  omega
theorem zsD : ∀ {w : List UInt8} {q : Nat}, q < n → ztT m w → q ≤ zl6 d q w
  | [], q, _, _ => Nat.le_refl _
  | c :: w, q, hq, hw => by
    have h1 := zxq hd hO hq (z9a hw).2
    obtain ⟨_, _, _, h2⟩ := zur hd hq (z9a hw).2
    have := zsD (w := w) h2 (z9a hw).1
    rw [zl6]; omega
theorem zsB {K : Nat} {w : List UInt8} (h : Lead d m n K K w) : ∀ p, K.testBit p = true → zl6 d p w = p := by
  intro p
  induction p using Nat.strongRecOn with
  | _ p ih =>
    intro hp
    have hr : (z4q d K w).testBit p = true := by rw [h.run]; exact hp
    obtain ⟨i, i1, i2, i3⟩ := (zhD hd h.hw h.hK).1 hr
    have hle := zsD hd hO i1 h.hw
    rcases Nat.lt_or_ge i p with hlt | hge
    · have := ih i hlt i2; omega
    · have : i = p := by omega
      rw [← this]; rw [this] at i3 ⊢; exact i3
theorem zw1 {K t : Nat} {w : List UInt8} (h : Lead d m n K K w) (ht : z5H t K) (hlt : t < 2 ^ n) : z4q d t w = t := by
  refine Nat.eq_of_testBit_eq fun p => ?_
  rw [Bool.eq_iff_iff, zhD hd h.hw hlt]
  constructor
  · rintro ⟨i, i1, i2, i3⟩
    rw [zsB hd hO h i (z1I.1 ht i i2)] at i3
    rw [← i3]; exact i2
  · intro hp
    exact ⟨p, zvw hlt hp, hp, zsB hd hO h p (z1I.1 ht p hp)⟩
end
theorem zuI : ∀ {T : List Nat}, T.Nodup → T.map (fun t => T.idxOf t) = List.range T.length := fun {T} h => by
  refine List.ext_getElem (by simp) fun i h1 h2 => ?_
  have hi : i < T.length := by simpa using h1
  rw [List.getElem_map, List.getElem_range]
  have hm : T[i] ∈ T := List.getElem_mem hi
  have e := z3v hm
  have e2 : T.getD i 0 = T[i] := by rw [List.getD, List.getElem?_eq_getElem hi, Option.getD_some]
  exact z9f h (z6B hm) hi (by rw [e, e2])
section
variable {d : DFA} {m n : Nat} {S : List Nat} (hd : DfaOk d m n) (hn : n ≤ 7) (hS : SetsP d m n S) (hO : zwD n d.next)
include hd hn hS hO
theorem zuq {k : Nat} (hk : k < S.length) {w : List UInt8} (h : Lead d m n (S.getD k 0) (S.getD k 0) w) : z5J d w (z4o S k) = List.range (z4o S k).length := by
  obtain ⟨h1, h2⟩ := za3 hd hn hS hk
  rw [← zuI h1]
  exact List.map_congr_left fun t ht => by rw [zw1 hd hO h (h2 t ht).2.1 (h2 t ht).2.2]
theorem zup {c i a : Nat} (hcl : c < (z6F d m n S).length) (hi : i < S.length) (ha : a < m) (hc : clN d m n S i = c) : zfg d m n S (z4o S (z3x d m n S c)) i ([], []) a = ([], []) := by
  have hk : z3x d m n S c < S.length := (z4y hd hn hS hcl).2
  unfold zfg
  split
  · rename_i hj
    obtain ⟨l1, l2⟩ := zmx hd hn hS hi ha hj
    have hf : z3x d m n S c = z5L d m n S i := by unfold z3x; rw [← hc]; rfl
    rw [← hf] at l1
    rw [if_pos (.inl (zuq hd hn hS hO hk l1))]
  · rfl
theorem zsA {c i : Nat} (hcl : c < (z6F d m n S).length) (hi : i < S.length) (hc : clN d m n S i = c) : ∀ a, a ≤ m → zl7 d m n S (z4o S (z3x d m n S c)) i ([], []) a = ([], [])
  | 0, _ => rfl
  | a + 1, ha => by rw [zhF, zsA hcl hi hc a (by omega), zup hd hn hS hO hcl hi (by omega) hc]
theorem zsC {c : Nat} (hcl : c < (z6F d m n S).length) : ∀ k, k ≤ S.length → zv5 d m n S (z4o S (z3x d m n S c)) c k = ([], [])
  | 0, _ => rfl
  | k + 1, hk => by
    rw [zv4, zsC hcl k (by omega)]
    split
    · rename_i hc
      exact zsA hd hn hS hO hcl (by omega) hc m (Nat.le_refl _)
    · rfl
end
end Go.Proofs.Ytodliknibbafeaa
end
section
namespace Go.Proofs.Ytodliknibbafeaa
def Mo (C0 C1 : z0j) : Prop := ∀ f a o, C0 f a = some o → C1 f a = some o
section
variable {P : Program} {C0 C1 : z0j}
theorem zcL (hMo : Mo C0 C1) {wio : FuncId → Nat → Bool} {fr fr' : Fr} {f : FuncId} {args : List E} {dst : Option Nat} (h : zar C0 wio fr f args dst = some fr') : Ev fun m => zar C1 wio fr f args dst = some fr' := by
  unfold zar at h ⊢
  split at h
  · cases h
  · rename_i ts deps io ha
    split at h
    · cases h
    · rename_i r outs hc
      refine ⟨0, fun m _ => ?_⟩
      show (match C1 f ts with | none => none | some (r, outs) => _) = _
      rw [hMo _ _ _ hc]
      exact h
theorem zsG (hMo : Mo C0 C1) {wio : FuncId → Nat → Bool} {fr fr' : Fr} {o : Oper} (h : opF P C0 wio fr o = some fr') : Ev fun m => opF P C1 wio fr o = some fr' := by
  unfold opF at h ⊢
  split at h
  · exact .pure fun _ => h
  · split at h
    · exact zcL hMo h
    · cases h
  · exact .pure fun _ => h
  · exact .pure fun _ => h
theorem zoi (hMo : Mo C0 C1) {wio : FuncId → Nat → Bool} {fr fr' : Fr} {o : Oper} (h : z8q P C0 wio fr o = some fr') : Ev fun m => z8q P C1 wio fr o = some fr' := by
  unfold z8q at h ⊢
  split at h
  · split at h
    · split at h
      · exact zcL hMo h
      · cases h
    · cases h
  · exact .pure fun _ => h
theorem zv8 (hMo : Mo C0 C1) {wio : FuncId → Nat → Bool} {M : Nat → Bool} {fr fr' : Fr} {o : Oper} (h : wrF P C0 wio M fr o = some fr') : Ev fun m => wrF P C1 wio M fr o = some fr' := by
  unfold wrF at h ⊢
  split at h
  · split at h
    · cases h
    · split at h
      · exact zcL hMo h
      · split at h
        · rename_i hM
          simp only [hM, if_true]
          exact zcL hMo h
        · cases h
      · cases h
  · exact .pure fun _ => h
  · exact .pure fun _ => h
  · exact .pure fun _ => h
  · cases h
theorem zmc (hMo : Mo C0 C1) {wio : FuncId → Nat → Bool} {ops : Array Oper} : ∀ {l : List Oper} {fr fr' : Fr}, zmd P C0 wio ops l fr = some fr' → Ev fun m => zmd P C1 wio ops l fr = some fr'
  | [], fr, fr', h => .pure fun _ => h
  | o :: rest, fr, fr', h => by
    simp only [zmd] at h ⊢
    split at h
    · cases h
    · split at h
      · rename_i fr1 h1
        exact (zsG hMo h1).both (zmc hMo h) fun m a1 a2 => by rw [a1]; exact a2
      · cases h
    · split at h
      · rename_i fr1 h1
        exact (zmc hMo h)
      · cases h
theorem zcH (hMo : Mo C0 C1) {wio : FuncId → Nat → Bool} {same : Bool} {M : Nat → Bool} {ops : Array Oper} : ∀ {l : List (Nat × Oper × Nat)} {fr fr' : Fr}, z7p P C0 wio same M ops l fr = some fr' → Ev fun m => z7p P C1 wio same M ops l fr = some fr'
  | [], fr, fr', h => .pure fun _ => h
  | (k, o, mk) :: rest, fr, fr', h => by
    simp only [z7p] at h ⊢
    split at h
    · cases h
    · split at h
      · exact zcH hMo h
      · cases h
    · split at h
      · rename_i hm
        simp only [if_pos hm]
        split at h
        · split at h
          · exact zcH hMo h
          · cases h
        · cases h
      · rename_i hm
        simp only [if_neg hm]
        split at h
        · rename_i fr1 h1
          have h2 : Ev fun m => (if mk = 2 then opF P C1 wio fr o else if same = true then z8q P C1 wio fr o else wrF P C1 wio M fr o) = some fr1 := by
            by_cases e : mk = 2
            · simp only [if_pos e] at h1 ⊢; exact zsG hMo h1
            · simp only [if_neg e] at h1 ⊢
              by_cases e2 : same = true
              · simp only [if_pos e2] at h1 ⊢; exact zoi hMo h1
              · simp only [if_neg e2] at h1 ⊢; exact zv8 hMo h1
          exact h2.both (zcH hMo h) fun m a1 a2 => by rw [a1]; exact a2
        · cases h
theorem z8k (hMo : Mo C0 C1) {wio : FuncId → Nat → Bool} {same : Bool} {M : Nat → Bool} {ops : Array Oper} : ∀ {l : SchT} {fr fr' : Fr}, z4k P C0 wio same M ops l fr = some fr' → Ev fun m => z4k P C1 wio same M ops l fr = some fr'
  | .nil, fr, fr', h => .pure fun _ => h
  | .alt x y, fr, fr', h => by
    simp only [z4k] at h ⊢
    split at h
    · rename_i f1 f2 h1 h2
      obtain ⟨rfl, hs⟩ := zc3 h
      exact (z8k hMo h1).both (z8k hMo h2) fun m a1 a2 => by rw [a1, a2]; exact zcz hs
    · cases h
  | .op k mk rest, fr, fr', h => by
    simp only [z4k] at h ⊢
    split at h
    · cases h
    rename_i o ho
    try simp only [ho]
    split at h
    · cases h
    · split at h
      · exact z8k hMo h
      · cases h
    · split at h
      · rename_i hm
        simp only [if_pos hm]
        split at h
        · split at h
          · exact z8k hMo h
          · cases h
        · cases h
      · rename_i hm
        simp only [if_neg hm]
        split at h
        · rename_i fr1 h1
          have h2 : Ev fun m => (if mk = 2 then opF P C1 wio fr o else if same = true then z8q P C1 wio fr o else wrF P C1 wio M fr o) = some fr1 := by
            by_cases e : mk = 2
            · simp only [if_pos e] at h1 ⊢; exact zsG hMo h1
            · simp only [if_neg e] at h1 ⊢
              by_cases e2 : same = true
              · simp only [if_pos e2] at h1 ⊢; exact zoi hMo h1
              · simp only [if_neg e2] at h1 ⊢; exact zv8 hMo h1
          exact h2.both (z8k hMo h) fun m a1 a2 => by rw [a1]; exact a2
        · cases h
theorem zqW (hMo : Mo C0 C1) {c : Cfg} {id : Nat} {ops : Array Oper} {fr fr' : Fr} (h : z5N P C0 c id ops fr = some fr') : Ev fun m => z5N P C1 c id ops fr = some fr' := by
  unfold z5N at h ⊢
  split at h
  · exact z8k hMo h
  · split at h
    · exact zcH hMo h
    · cases h
theorem znS (hMo : Mo C0 C1) {B : z0j → Fr → Option (X × Fr)} {cn : Fr → Fr} (hB : ∀ fr o, B C0 fr = some o → Ev fun m => B C1 fr = some o) : ∀ {n : Nat} {fr : Fr} {o : X × Fr}, zaj (B C0) cn n fr = some o → Ev fun m => zaj (B C1) cn n fr = some o
  | 0, fr, o, h => by cases h
  | n + 1, fr, o, h => by
    simp only [zaj] at h ⊢
    split at h
    · rename_i fr1 h1
      exact (hB _ _ h1).both (znS hMo hB h) fun m a1 a2 => by rw [a1]; exact a2
    · rename_i x fr1 hne h1
      refine (hB _ _ h1).imp fun m a1 => ?_
      rw [a1]
      cases x with
      | n => exact absurd rfl hne
      | x i => exact h
      | r => exact h
    · cases h
theorem zog (hMo : Mo C0 C1) {c : Cfg} {LF : Nat} : ∀ (b : Code) {fr : Fr} {o : X × Fr}, z2e P C0 c LF b fr = some o → Ev fun m => z2e P C1 c LF b fr = some o := by
  intro b
  induction b with
  | skip => intro fr o h; exact .pure fun _ => h
  | label l => intro fr o h; exact .pure fun _ => h
  | exit id => intro fr o h; exact .pure fun _ => h
  | ret => intro fr o h; exact .pure fun _ => h
  | goto l => intro fr o h; cases h
  | scope c ih => intro fr o h; simp only [z2e] at h ⊢; exact ih h
  | refuse s => intro fr o h; cases h
  | rangeFunc => intro fr o h; cases h
  | region id ops draw =>
    intro fr o h
    simp only [z2e] at h ⊢
    split at h
    · rename_i hd
      simp only [hd, if_true]
      split at h
      · rename_i fr1 h1
        exact (zqW hMo h1).imp fun m a1 => by rw [a1]; exact h
      · cases h
    · rename_i hd
      simp only [hd, Bool.false_eq_true, if_false]
      split at h
      · rename_i fr1 h1
        exact (zmc hMo h1).imp fun m a1 => by rw [a1]; exact h
      · cases h
  | seq a b ih1 ih2 =>
    intro fr o h
    simp only [z2e] at h ⊢
    split at h
    · rename_i fr1 h1
      exact (ih1 h1).both (ih2 h) fun m a1 a2 => by rw [a1]; exact a2
    · rename_i hne
      refine (ih1 h).imp fun m a1 => ?_
      rw [a1]
      obtain ⟨x, fr1⟩ := o
      cases x with
      | n => exact absurd h (hne _)
      | x i => rfl
      | r => rfl
  | cond c x y ih1 ih2 =>
    intro fr o h
    simp only [z2e] at h ⊢
    split at h
    · exact ih1 h
    · exact ih2 h
    · cases h
  | block id c ih =>
    intro fr o h
    simp only [z2e] at h ⊢
    split at h
    · rename_i i fr1 h1
      exact (ih h1).imp fun m a1 => by rw [a1]; exact h
    · rename_i hne
      refine (ih h).imp fun m a1 => ?_
      rw [a1]
      obtain ⟨x, fr1⟩ := o
      cases x with
      | n => rfl
      | x i => exact absurd h (hne _ _)
      | r => rfl
  | loop b ih =>
    intro fr o h
    simp only [z2e] at h ⊢
    exact znS hMo (B := fun C fr => z2e P C c LF b fr) (fun fr o h => ih h) h
theorem zsp (hMo : Mo C0 C1) {c : Cfg} {LF : Nat} {fn : Func} {args : List T} {o : T × List T} (h : ziq P C0 c LF fn args = some o) : Ev fun m => ziq P C1 c LF fn args = some o := by
  unfold ziq at h ⊢
  split at h
  · rename_i hc
    simp only [if_pos hc]
    split at h
    · cases h
    · rename_i b hb
      split at h
      · rename_i fr h1
        exact (zog hMo _ h1).imp fun m a1 => by rw [a1]; exact h
      · rename_i fr h1
        exact (zog hMo _ h1).imp fun m a1 => by rw [a1]; exact h
      · cases h
  · cases h
end
theorem znO {P : Program} {X : z0j} {cf : FuncId → Option Cfg} : ∀ n, Mo (z2F P X cf n) (z2F P X cf (n + 1))
  | 0 => fun f a o h => by
    simp only [z2F] at h ⊢
    split at h
    · cases h
    · rename_i hc
      first
        | exact h
        | (rw [hc]; exact h)
  | n + 1 => fun f a o h => by
    simp only [z2F] at h
    split at h
    · rename_i c hc
      split at h
      · rename_i fn hfn
        obtain ⟨k, hk⟩ := zsp (znO n) h
        exact zkB hc hfn (hk k (Nat.le_refl _))
      · cases h
    · rename_i hc
      simp only [z2F, hc]
      exact h
theorem zaf {P : Program} {X : z0j} {cf : FuncId → Option Cfg} (n : Nat) {f : FuncId} {a : List T} {o : T × List T} (h : z2F P X cf n f a = some o) : Lim P X cf f a = some o := by
  refine zsT (d := n) fun m hm => ?_
  obtain ⟨k, rfl⟩ := Nat.exists_eq_add_of_le hm
  clear hm
  induction k with
  | zero => exact h
  | succ k ih => exact znO (n + k) f a o ih
def tab : List (FuncId × List T × T × List T) → z0j
  | [] => fun _ _ => none
  | (g, b, r, os) :: l => fun f a => if (Nat.beq g f && zod b a) = true then some (r, os) else tab l f a
theorem zva {C : z0j} : ∀ {l : List (FuncId × List T × T × List T)}, (∀ x ∈ l, C x.1 x.2.1 = some x.2.2) → Mo (tab l) C
  | [], _ => fun f a o h => by cases h
  | (g, b, r, os) :: l, hl => fun f a o h => by
    simp only [tab] at h
    split at h
    · rename_i hc
      simp only [Bool.and_eq_true] at hc
      cases h
      have := hl _ (List.mem_cons_self ..)
      rw [← Nat.eq_of_beq_eq_true hc.1, ← z5M hc.2]
      exact this
    · exact zva (fun x hx => hl x (List.mem_cons_of_mem _ hx)) f a o h
noncomputable def zkD (P : Program) (X : z0j) (cf : FuncId → Option Cfg) (S : z0j) : Nat → z0j
  | 0 => S
  | n + 1 => fun f a => match S f a with
    | some o => some o
    | none => match cf f with
      | some c => (match P.funcs[f]? with | some fn => ziq P (zkD P X cf S n) c LFm fn a | none => none)
      | none => X f a
theorem zkC {P : Program} {X : z0j} {cf : FuncId → Option Cfg} {S : z0j} (hS : Mo S (Lim P X cf)) : ∀ n, Mo (zkD P X cf S n) (Lim P X cf)
  | 0 => hS
  | n + 1 => fun f a o h => by
    simp only [zkD] at h
    split at h
    · rename_i o' ho
      cases h
      exact hS f a o ho
    · split at h
      · rename_i c hc
        split at h
        · rename_i fn hfn
          obtain ⟨k, hk⟩ := zsp (zkC hS n) h
          exact zsS hc hfn (hk k (Nat.le_refl _))
        · cases h
      · rename_i hc
        exact zsU hc h
theorem zwd {P : Program} {X : z0j} {cf : FuncId → Option Cfg} (l : List (FuncId × List T × T × List T)) (n : Nat) {f : FuncId} {a : List T} {o : T × List T} (h : zkD P X cf (tab l) n f a = some o) (hl : ∀ x ∈ l, Lim P X cf x.1 x.2.1 = some x.2.2) : Lim P X cf f a = some o :=
  zkC (zva hl) n f a o h
end Go.Proofs.Ytodliknibbafeaa
end
section
namespace Go.Proofs.Ytodliknibbafeaa
open Go
set_option maxRecDepth 100000
def exT : T := .agg [.sc (.int .i64 2), .sc (.int .i64 0), .sl 3 [.sc (.bool true), .sc (.bool false), .sc (.bool false)], .sl 3 [.sl 2 [.sc (.int .i64 1), .sc (.int .i64 0)], .sl 2 [.sc (.int .i64 2), .sc (.int .i64 0)], .sl 2 [.sc (.int .i64 0), .sc (.int .i64 2)]]]
def zoa : List T := [.sc (.int .i64 7), .sc (.int .i64 3), .sc (.int .i64 5), .sc (.int .i64 6), .sc (.int .i64 1), .sc (.int .i64 2), .sc (.int .i64 4)]
def dgT : T := .agg [.sl 7 [.sc (.int .i64 7), .sc (.int .i64 3), .sc (.int .i64 5), .sc (.int .i64 6), .sc (.int .i64 1), .sc (.int .i64 2), .sc (.int .i64 4)], .sl 7 [.sl 2 [.sc (.int .i64 0), .sc (.int .i64 2)], .sl 2 [.sc (.int .i64 3), .sc (.int .i64 4)], .sl 2 [.sc (.int .i64 1), .sc (.int .i64 2)], .sl 2 [.sc (.int .i64 2), .sc (.int .i64 2)], .sl 2 [.sc (.int .i64 5), .sc (.int .i64 4)], .sl 2 [.sc (.int .i64 6), .sc (.int .i64 4)], .sl 2 [.sc (.int .i64 4), .sc (.int .i64 6)]], .sl 7 [.sl 7 [.sc (.bool true), .sc (.bool false), .sc (.bool false), .sc (.bool false), .sc (.bool false), .sc (.bool false), .sc (.bool false)], .sl 7 [.sc (.bool true), .sc (.bool true), .sc (.bool true), .sc (.bool true), .sc (.bool false), .sc (.bool false), .sc (.bool false)], .sl 7 [.sc (.bool true), .sc (.bool true), .sc (.bool true), .sc (.bool true), .sc (.bool false), .sc (.bool false), .sc (.bool false)], .sl 7 [.sc (.bool true), .sc (.bool true), .sc (.bool true), .sc (.bool true), .sc (.bool false), .sc (.bool false), .sc (.bool false)], .sl 7 [.sc (.bool true), .sc (.bool true), .sc (.bool true), .sc (.bool true), .sc (.bool true), .sc (.bool true), .sc (.bool true)], .sl 7 [.sc (.bool true), .sc (.bool true), .sc (.bool true), .sc (.bool true), .sc (.bool true), .sc (.bool true), .sc (.bool true)], .sl 7 [.sc (.bool true), .sc (.bool true), .sc (.bool true), .sc (.bool true), .sc (.bool true), .sc (.bool true), .sc (.bool true)]]]
theorem e36 : z2F Try.prog xt z1J 10 46 [exT] = some (.os 1 7 zoa, [.dead]) := by kernel_rfl
theorem e37 : z2F Try.prog xt z1J 10 47 [exT, .sl 7 zoa] = some (.agg [.sl 7 [.sc (.int .i64 7), .sc (.int .i64 3), .sc (.int .i64 5), .sc (.int .i64 6), .sc (.int .i64 1), .sc (.int .i64 2), .sc (.int .i64 4)], .os 1 7 [.os 1 2 [.sc (.int .i64 0), .sc (.int .i64 2)], .os 1 2 [.sc (.int .i64 3), .sc (.int .i64 4)], .os 1 2 [.sc (.int .i64 1), .sc (.int .i64 2)], .os 1 2 [.sc (.int .i64 2), .sc (.int .i64 2)], .os 1 2 [.sc (.int .i64 5), .sc (.int .i64 4)], .os 1 2 [.sc (.int .i64 6), .sc (.int .i64 4)], .os 1 2 [.sc (.int .i64 4), .sc (.int .i64 6)]], .os 1 7 [.os 1 7 [.sc (.bool true), .sc (.bool false), .sc (.bool false), .sc (.bool false), .sc (.bool false), .sc (.bool false), .sc (.bool false)], .os 1 7 [.sc (.bool true), .sc (.bool true), .sc (.bool true), .sc (.bool true), .sc (.bool false), .sc (.bool false), .sc (.bool false)], .os 1 7 [.sc (.bool true), .sc (.bool true), .sc (.bool true), .sc (.bool true), .sc (.bool false), .sc (.bool false), .sc (.bool false)], .os 1 7 [.sc (.bool true), .sc (.bool true), .sc (.bool true), .sc (.bool true), .sc (.bool false), .sc (.bool false), .sc (.bool false)], .os 1 7 [.sc (.bool true), .sc (.bool true), .sc (.bool true), .sc (.bool true), .sc (.bool true), .sc (.bool true), .sc (.bool true)], .os 1 7 [.sc (.bool true), .sc (.bool true), .sc (.bool true), .sc (.bool true), .sc (.bool true), .sc (.bool true), .sc (.bool true)], .os 1 7 [.sc (.bool true), .sc (.bool true), .sc (.bool true), .sc (.bool true), .sc (.bool true), .sc (.bool true), .sc (.bool true)]]], [.dead, .dead]) := by kernel_rfl
def sr0 : T := .tup [.os 1 7 [.sc (.int .i64 0), .sc (.int .i64 2), .sc (.int .i64 1), .sc (.int .i64 3), .sc (.int .i64 4), .sc (.int .i64 5), .sc (.int .i64 6)], .os 1 7 [.sc (.string ByteArray.empty), .sc (.string ⟨#[98, 97]⟩), .sc (.string ⟨#[98]⟩), .sc (.string ⟨#[98, 97, 97]⟩), .sc (.string ⟨#[98, 97, 98]⟩), .sc (.string ⟨#[98, 97, 98, 97]⟩), .sc (.string ⟨#[98, 97, 98, 97, 97]⟩)]]
theorem zz5 : z2F Try.prog xt z1J 6 51 [dgT, .sc (.int .i64 0)] = some (sr0, [.dead, .dead]) := by kernel_rfl
def sr1 : T := .tup [.os 1 6 [.sc (.int .i64 1), .sc (.int .i64 3), .sc (.int .i64 4), .sc (.int .i64 2), .sc (.int .i64 5), .sc (.int .i64 6)], .os 1 7 [.sc (.string ByteArray.empty), .sc (.string ByteArray.empty), .sc (.string ⟨#[97, 97]⟩), .sc (.string ⟨#[97]⟩), .sc (.string ⟨#[98]⟩), .sc (.string ⟨#[98, 97]⟩), .sc (.string ⟨#[98, 97, 97]⟩)]]
theorem zz4 : z2F Try.prog xt z1J 6 51 [dgT, .sc (.int .i64 1)] = some (sr1, [.dead, .dead]) := by kernel_rfl
def sr2 : T := .tup [.os 1 6 [.sc (.int .i64 2), .sc (.int .i64 1), .sc (.int .i64 3), .sc (.int .i64 4), .sc (.int .i64 5), .sc (.int .i64 6)], .os 1 7 [.sc (.string ByteArray.empty), .sc (.string ⟨#[97]⟩), .sc (.string ByteArray.empty), .sc (.string ⟨#[97, 97]⟩), .sc (.string ⟨#[97, 98]⟩), .sc (.string ⟨#[97, 98, 97]⟩), .sc (.string ⟨#[97, 98, 97, 97]⟩)]]
theorem zz3 : z2F Try.prog xt z1J 6 51 [dgT, .sc (.int .i64 2)] = some (sr2, [.dead, .dead]) := by kernel_rfl
def sr3 : T := .tup [.os 1 6 [.sc (.int .i64 3), .sc (.int .i64 2), .sc (.int .i64 1), .sc (.int .i64 4), .sc (.int .i64 5), .sc (.int .i64 6)], .os 1 7 [.sc (.string ByteArray.empty), .sc (.string ⟨#[97, 97]⟩), .sc (.string ⟨#[97]⟩), .sc (.string ByteArray.empty), .sc (.string ⟨#[97, 97, 98]⟩), .sc (.string ⟨#[97, 97, 98, 97]⟩), .sc (.string ⟨#[97, 97, 98, 97, 97]⟩)]]
theorem zz2 : z2F Try.prog xt z1J 6 51 [dgT, .sc (.int .i64 3)] = some (sr3, [.dead, .dead]) := by kernel_rfl
def sr4 : T := .tup [.os 1 3 [.sc (.int .i64 4), .sc (.int .i64 5), .sc (.int .i64 6)], .os 1 7 [.sc (.string ByteArray.empty), .sc (.string ByteArray.empty), .sc (.string ByteArray.empty), .sc (.string ByteArray.empty), .sc (.string ByteArray.empty), .sc (.string ⟨#[97]⟩), .sc (.string ⟨#[97, 97]⟩)]]
theorem zz1 : z2F Try.prog xt z1J 6 51 [dgT, .sc (.int .i64 4)] = some (sr4, [.dead, .dead]) := by kernel_rfl
def sr5 : T := .tup [.os 1 3 [.sc (.int .i64 5), .sc (.int .i64 6), .sc (.int .i64 4)], .os 1 7 [.sc (.string ByteArray.empty), .sc (.string ByteArray.empty), .sc (.string ByteArray.empty), .sc (.string ByteArray.empty), .sc (.string ⟨#[98]⟩), .sc (.string ByteArray.empty), .sc (.string ⟨#[97]⟩)]]
theorem zz0 : z2F Try.prog xt z1J 6 51 [dgT, .sc (.int .i64 5)] = some (sr5, [.dead, .dead]) := by kernel_rfl
def sr6 : T := .tup [.os 1 3 [.sc (.int .i64 6), .sc (.int .i64 4), .sc (.int .i64 5)], .os 1 7 [.sc (.string ByteArray.empty), .sc (.string ByteArray.empty), .sc (.string ByteArray.empty), .sc (.string ByteArray.empty), .sc (.string ⟨#[97]⟩), .sc (.string ⟨#[97, 97]⟩), .sc (.string ByteArray.empty)]]
theorem zyZ : z2F Try.prog xt z1J 6 51 [dgT, .sc (.int .i64 6)] = some (sr6, [.dead, .dead]) := by kernel_rfl
def zuN : List (FuncId × List T × T × List T) := [(46, [exT], .os 1 7 zoa, [.dead]), (47, [exT, .sl 7 zoa], .agg [.sl 7 [.sc (.int .i64 7), .sc (.int .i64 3), .sc (.int .i64 5), .sc (.int .i64 6), .sc (.int .i64 1), .sc (.int .i64 2), .sc (.int .i64 4)], .os 1 7 [.os 1 2 [.sc (.int .i64 0), .sc (.int .i64 2)], .os 1 2 [.sc (.int .i64 3), .sc (.int .i64 4)], .os 1 2 [.sc (.int .i64 1), .sc (.int .i64 2)], .os 1 2 [.sc (.int .i64 2), .sc (.int .i64 2)], .os 1 2 [.sc (.int .i64 5), .sc (.int .i64 4)], .os 1 2 [.sc (.int .i64 6), .sc (.int .i64 4)], .os 1 2 [.sc (.int .i64 4), .sc (.int .i64 6)]], .os 1 7 [.os 1 7 [.sc (.bool true), .sc (.bool false), .sc (.bool false), .sc (.bool false), .sc (.bool false), .sc (.bool false), .sc (.bool false)], .os 1 7 [.sc (.bool true), .sc (.bool true), .sc (.bool true), .sc (.bool true), .sc (.bool false), .sc (.bool false), .sc (.bool false)], .os 1 7 [.sc (.bool true), .sc (.bool true), .sc (.bool true), .sc (.bool true), .sc (.bool false), .sc (.bool false), .sc (.bool false)], .os 1 7 [.sc (.bool true), .sc (.bool true), .sc (.bool true), .sc (.bool true), .sc (.bool false), .sc (.bool false), .sc (.bool false)], .os 1 7 [.sc (.bool true), .sc (.bool true), .sc (.bool true), .sc (.bool true), .sc (.bool true), .sc (.bool true), .sc (.bool true)], .os 1 7 [.sc (.bool true), .sc (.bool true), .sc (.bool true), .sc (.bool true), .sc (.bool true), .sc (.bool true), .sc (.bool true)], .os 1 7 [.sc (.bool true), .sc (.bool true), .sc (.bool true), .sc (.bool true), .sc (.bool true), .sc (.bool true), .sc (.bool true)]]], [.dead, .dead]), (51, [dgT, .sc (.int .i64 0)], sr0, [.dead, .dead]), (51, [dgT, .sc (.int .i64 1)], sr1, [.dead, .dead]), (51, [dgT, .sc (.int .i64 2)], sr2, [.dead, .dead]), (51, [dgT, .sc (.int .i64 3)], sr3, [.dead, .dead]), (51, [dgT, .sc (.int .i64 4)], sr4, [.dead, .dead]), (51, [dgT, .sc (.int .i64 5)], sr5, [.dead, .dead]), (51, [dgT, .sc (.int .i64 6)], sr6, [.dead, .dead])]
theorem zuM : ∀ x ∈ zuN, L x.1 x.2.1 = some x.2.2 := by
  simp only [zuN, List.forall_mem_cons]
  exact ⟨zaf 10 e36, zaf 10 e37, zaf 6 zz5, zaf 6 zz4, zaf 6 zz3, zaf 6 zz2, zaf 6 zz1, zaf 6 zz0, zaf 6 zyZ, fun x h => by cases h⟩
theorem cKl : zkD Try.prog xt z1J (tab zuN) 14 12 [] = some (.sc (.bool true), []) := by kernel_rfl
theorem cK : L 12 [] = some (.sc (.bool true), []) := zwd zuN 14 cKl zuM
def zv7 : Option Bool := some true
instance : Ok zv7 (fun r => L 12 [] = some (.sc (.bool r), [])) := ⟨fun r h => by cases h; exact cK⟩
end Go.Proofs.Ytodliknibbafeaa
end
section
namespace Go.Proofs.Ytodliknibbafeaa
open Go
noncomputable section
set_option maxRecDepth 100000
set_option maxHeartbeats 1000000
abbrev z2g (v14 : List Hol × Int) : Int → Option (Int ⊕ Bool)
  | w16 =>
  if w16 < (v14.1.length : Int) then
    (atI v14.1 w16).bind fun v18 =>
    if (v18.perms.length : Int) = 0 then
      if (v18.words.length : Int) = 0 then
        z0n (IntKind.i64.wrap (w16 + 1))
      else
        z0A <|
        some false
    else
      z0A <|
      some false
  else
    z0A <|
    (zv7).bind fun v19 =>
    if v19 = true then
      (z4M 1).bind fun v20 =>
      some v20
    else
      some false
instance {v14 : List Hol × Int} : Hd (z2g v14) := ⟨fun w16 => ([(22, xI w16)], [])⟩
def z2I (a0 : List Int) : Option (Bool) :=
  (zad a0).bind fun v11 =>
  (z3b v11).bind fun v12 =>
  (z2r v12.2 v12.1 5).bind fun v13 =>
  (z5u v13.1).bind fun v14 =>
  if v14.2 = 0 then
    z0u (z2g v14) LFm 0
  else
    some false
theorem z6d {a0 : List Int} {r : Bool} (h : z2I a0 = some r) : L 4 [.sl a0.length (a0.map fun x0 => .sc (.int .i64 x0))] = some (.sc (.bool r), [.dead]) := by
  have h := z5B h; unfold z2I at h; exact z5O zCM fn4 bd4
end
end Go.Proofs.Ytodliknibbafeaa
end
section
namespace Go.Proofs.Ytodliknibbafeaa
open Go
set_option maxRecDepth 100000
theorem zwf (l : List Int) (w0 : l.length ≤ maxLen) (z0 : ∀ x ∈ l, (Lit.int .i64 x).wf = true) : ∃ outs, L 4 [.sl l.length (l.map fun x => .sc (.int .i64 x))] = some (bT true, outs) := by
  obtain ⟨t0, e0, h0⟩ := zxv l
  obtain ⟨m, t1, e1, m1, m2, h1⟩ := zqz h0
  obtain ⟨d, t2, n, e2, hd, hn, h2, hO⟩ := zmh h1 m 5 (by omega) (by omega)
  have h128 : 2 ^ n ≤ 2 ^ 7 := Nat.pow_le_pow_right (n := 2) (by omega) (by omega)
  have hS := zm9 hd
  have hSl := z1E hS.nd hS.lt
  obtain ⟨O, x1, o1, o2⟩ := zxK hd (by omega)
  have e2' : z2r t1 (m : Int) 5 = some (d, t2) := e2
  have hOc : ∀ c ∈ O, c < (z6F d m n (z6W d m n)).length := fun c hc => by
    have := o2.mem_iff.1 hc
    unfold znD at this
    exact List.mem_range.1 (List.mem_filter.1 this).1
  have hOl : O.length ≤ 128 := by
    rw [o2.length_eq]; unfold znD
    refine Nat.le_trans (List.length_filter_le _ _) ?_
    rw [List.length_range]
    have := z7k (z1M d m n (z6W d m n)) (z6W d m n).length
    omega
  have key : z2I l = some true := by
    unfold z2I
    rw [e0, Option.bind_some, e1, Option.bind_some]
    simp only
    rw [e2', Option.bind_some]
    simp only
    rw [x1, Option.bind_some, if_pos rfl]
    refine z1a (s := (0 : Int)) O.length (fun k => (k : Int)) rfl (by simp only [LFm]; omega) (fun k hk => ?_) ?_
    · have hc := hOc _ (List.getElem_mem hk)
      have ha := zsC hd (by omega) hS hO hc (z6W d m n).length (Nat.le_refl _)
      have hat : atI (O.map (zwk d m n (z6W d m n))) (k : Int) = some (zwk d m n (z6W d m n) O[k]) := by
        rw [z2y (by simpa using hk)]; simp
      simp only [z2g]
      rw [if_pos (by rw [List.length_map]; omega), hat, Option.bind_some, if_pos (by simp only [zwk]; rw [ha]; simp), if_pos (by simp only [zwk]; rw [ha]; simp), z1O (by omega)]
    · simp only [z2g]
      rw [if_neg (by rw [List.length_map]; omega)]
      rfl
  exact ⟨_, z6d key⟩
end Go.Proofs.Ytodliknibbafeaa
end
section
namespace Go.Proofs.Ytodliknibbafeaa
open Go.RowKit
def Arr (w : World) (g n : Nat) (f : Nat → Value) : Prop :=
  ∀ i, i < n → w.cell? ⟨g, i, none⟩ = some (f i) ∧ w.frozen? ⟨g, i, none⟩ = false
theorem Arr.set {w : World} {g n : Nat} {f : Nat → Value} (h : Arr w g n f) (j : Nat) (hj : j < n) (c : Value) :
    Arr (w.setCell ⟨g, j, none⟩ c) g n (fun i => if i = j then c else f i) := by
  intro i hi
  refine ⟨?_, by rw [World.frozen?_setCell]; exact (h i hi).2⟩
  by_cases hij : i = j
  · subst hij
    rw [World.cell?_setCell_same _ _ _ (h i hi).1]; simp
  · rw [World.cell?_setCell_other _ _ _ _ (fun e => hij (by cases e; rfl)), (h i hi).1]; simp [hij]
theorem Arr.setOther {w : World} {g n : Nat} {f : Nat → Value} (h : Arr w g n f) {g' : Nat} (hg : g ≠ g') (j : Nat) (c : Value) : Arr (w.setCell ⟨g', j, none⟩ c) g n f := by
  intro i hi
  refine ⟨?_, by rw [World.frozen?_setCell]; exact (h i hi).2⟩
  rw [World.cell?_setCell_other _ _ _ _ (fun e => hg (by cases e; rfl))]; exact (h i hi).1
theorem Arr.drew {w : World} {g n : Nat} {f : Nat → Value} (h : Arr w g n f) : Arr w.drew g n f := h
theorem Arr.congr {w : World} {g n : Nat} {f f' : Nat → Value} (h : Arr w g n f) (e : ∀ i, i < n → f i = f' i) : Arr w g n f' :=
  fun i hi => by rw [← e i hi]; exact h i hi
theorem Arr.below {w w' : World} {g n B : Nat} {f : Nat → Value} (h : Arr w g n f) (hb : Below B w w') (hg : g < B) : Arr w' g n f :=
  fun i hi => ⟨(hb.cell (p := ⟨g, i, none⟩) hg).trans (h i hi).1, (hb.frozen (p := ⟨g, i, none⟩) hg).trans (h i hi).2⟩
theorem Arr.grown {w w' : World} {g n : Nat} {row : Option Nat} {f : Nat → Value} (h : Arr w g n f) (hb : w.grownBy w' row) (hg : some g ≠ row) : Arr w' g n f :=
  fun i hi => by
    have hlt := World.block_lt_of_cell? w _ (h i hi).1
    have e := hb.block g hlt hg
    exact ⟨(World.cell?_of_block (a := ⟨g, i, none⟩) e).trans (h i hi).1, (World.frozen?_of_block (a := ⟨g, i, none⟩) e).trans (h i hi).2⟩
theorem Arr.made (w : World) (z : Value) (n : Nat) (e : TypeId) : Arr (w.alloc (.cells (madeCells #[z] n) e)) w.heap.size n (fun _ => z) := by
  intro i hi
  refine ⟨?_, by rw [World.frozen?_alloc_new]⟩
  rw [World.cell?_alloc_new]
  simp [madeCells, hi, Nat.mod_one]
theorem Arr.lt {w : World} {g n : Nat} {f : Nat → Value} (h : Arr w g n f) (hn : 0 < n) : g < w.heap.size := World.block_lt_of_cell? w _ (h 0 hn).1
theorem Arr.get {w : World} {g n : Nat} {f : Nat → Value} (h : Arr w g n f) (i : Nat) (hi : i < n) {v : Value} (e : f i = v) : w.cell? ⟨g, i, none⟩ = some v := by rw [(h i hi).1, e]
theorem Arr.free {w : World} {g n : Nat} {f : Nat → Value} (h : Arr w g n f) (i : Nat) (hi : i < n) : w.frozen? ⟨g, i, none⟩ = false := (h i hi).2
end Go.Proofs.Ytodliknibbafeaa
end
section
namespace Go.Proofs
open Go.Shelf
def Try.lays128_ren : Go.Shelf.Ren := ⟨fun | 128 => 93 | n => n, fun | 51 => 111 | 3 => 3 | 4 => 4 | 46 => 92 | 5 => 5 | 9 => 9 | n => n, fun | n => n⟩
theorem Try.lays128 : Go.Proofs.Lays.n128 Try.prog Try.lays128_ren := {
  mixed := by kernel_rfl
  f128 := Try.func93.trans (congrArg some (by kernel_rfl))
  t3 := Try.underlying3
  a3 := Try.isAgg3
  z3 := Try.sizeOf3
  v3 := Try.zeroValue3
  t4 := Try.underlying4
  a4 := Try.isAgg4
  z4 := Try.sizeOf4
  v4 := Try.zeroValue4
  t5 := Try.underlying5
  a5 := Try.isAgg5
  z5 := Try.sizeOf5
  v5 := Try.zeroValue5
  t9 := Try.underlying9
  a9 := Try.isAgg9
  z9 := Try.sizeOf9
  v9 := Try.zeroValue9
  t46 := Try.underlying92
  a46 := Try.isAgg92
  z46 := Try.sizeOf92
  v46 := Try.zeroValue92
  t51 := Try.underlying111
  a51 := Try.isAgg111
  z51 := Try.sizeOf111
  v51 := Try.zeroValue111 }
theorem Try.bits_Len32 (x : Int) (w : World) (h0 : 0 ≤ x) (h1 : x ≤ 4294967295) :
    Calls Try.prog 93 #[.int .u32 x] w fun e w' => e = .returned (.int .i64 (Lib.bitLen x.toNat)) ∧ w' = w := Any.bits_Len32 Try.lays128 x w h0 h1
def Try.lays125_ren : Go.Shelf.Ren := ⟨fun | 125 => 82 | 128 => 93 | 129 => 94 | n => n, fun | 46 => 92 | 3 => 3 | 51 => 111 | 53 => 113 | 4 => 4 | 5 => 5 | 9 => 9 | n => n, fun | n => n⟩
theorem Try.lays125 : Go.Proofs.Lays.n125 Try.prog Try.lays125_ren := {
  mixed := by kernel_rfl
  f125 := Try.func82.trans (congrArg some (by kernel_rfl))
  f128 := Try.func93.trans (congrArg some (by kernel_rfl))
  f129 := Try.func94.trans (congrArg some (by kernel_rfl))
  t3 := Try.underlying3
  a3 := Try.isAgg3
  z3 := Try.sizeOf3
  v3 := Try.zeroValue3
  t4 := Try.underlying4
  a4 := Try.isAgg4
  z4 := Try.sizeOf4
  v4 := Try.zeroValue4
  t5 := Try.underlying5
  a5 := Try.isAgg5
  z5 := Try.sizeOf5
  v5 := Try.zeroValue5
  t9 := Try.underlying9
  a9 := Try.isAgg9
  z9 := Try.sizeOf9
  v9 := Try.zeroValue9
  t46 := Try.underlying92
  a46 := Try.isAgg92
  z46 := Try.sizeOf92
  v46 := Try.zeroValue92
  t51 := Try.underlying111
  a51 := Try.isAgg111
  z51 := Try.sizeOf111
  v51 := Try.zeroValue111
  t53 := Try.underlying113
  a53 := Try.isAgg113
  z53 := Try.sizeOf113
  v53 := Try.zeroValue113 }
theorem Try.bits_Len (x : Int) (w : World) (h0 : 0 ≤ x) (h1 : x ≤ 18446744073709551615) :
    Calls Try.prog 82 #[.int .u64 x] w fun e w' => e = .returned (.int .i64 (Lib.bitLen x.toNat)) ∧ w' = w := Any.bits_Len Try.lays125 x w h0 h1
def Try.lays215_ren : Go.Shelf.Ren := ⟨fun | 215 => 76 | n => n, fun | 3 => 3 | 4 => 4 | n => n, fun | n => n⟩
theorem Try.lays215 : Go.Proofs.Lays.n215 Try.prog Try.lays215_ren := {
  mixed := by kernel_rfl
  f215 := Try.func76.trans (congrArg some (by kernel_rfl))
  t3 := Try.underlying3
  a3 := Try.isAgg3
  z3 := Try.sizeOf3
  v3 := Try.zeroValue3
  t4 := Try.underlying4
  a4 := Try.isAgg4
  z4 := Try.sizeOf4
  v4 := Try.zeroValue4 }
open Go.RowKit in
theorem Try.cmp_isNaN_int (x : Int) (w : World) :
    Calls Try.prog 76 #[.int .i64 x] w fun e w' => e = .returned (.bool false) ∧ w' = w := Any.cmp_isNaN_int Try.lays215 x w
def Try.lays122_ren : Go.Shelf.Ren := ⟨fun | 122 => 54 | 215 => 76 | n => n, fun | 3 => 3 | 4 => 4 | n => n, fun | n => n⟩
theorem Try.lays122 : Go.Proofs.Lays.n122 Try.prog Try.lays122_ren := {
  mixed := by kernel_rfl
  f122 := Try.func54.trans (congrArg some (by kernel_rfl))
  f215 := Try.func76.trans (congrArg some (by kernel_rfl))
  t3 := Try.underlying3
  a3 := Try.isAgg3
  z3 := Try.sizeOf3
  v3 := Try.zeroValue3
  t4 := Try.underlying4
  a4 := Try.isAgg4
  z4 := Try.sizeOf4
  v4 := Try.zeroValue4 }
open Go.RowKit in
theorem Try.cmp_Compare_int (x y : Int) (w : World) :
    Calls Try.prog 54 #[.int .i64 x, .int .i64 y] w fun e w' => e = .returned (.int .i64 (Lib.compareInt x y)) ∧ w' = w := Any.cmp_Compare_int Try.lays122 x y w
def Try.lays129_ren : Go.Shelf.Ren := ⟨fun | 129 => 94 | n => n, fun | 53 => 113 | 3 => 3 | 4 => 4 | 46 => 92 | 5 => 5 | 9 => 9 | n => n, fun | n => n⟩
theorem Try.lays129 : Go.Proofs.Lays.n129 Try.prog Try.lays129_ren := {
  mixed := by kernel_rfl
  f129 := Try.func94.trans (congrArg some (by kernel_rfl))
  t3 := Try.underlying3
  a3 := Try.isAgg3
  z3 := Try.sizeOf3
  v3 := Try.zeroValue3
  t4 := Try.underlying4
  a4 := Try.isAgg4
  z4 := Try.sizeOf4
  v4 := Try.zeroValue4
  t5 := Try.underlying5
  a5 := Try.isAgg5
  z5 := Try.sizeOf5
  v5 := Try.zeroValue5
  t9 := Try.underlying9
  a9 := Try.isAgg9
  z9 := Try.sizeOf9
  v9 := Try.zeroValue9
  t46 := Try.underlying92
  a46 := Try.isAgg92
  z46 := Try.sizeOf92
  v46 := Try.zeroValue92
  t53 := Try.underlying113
  a53 := Try.isAgg113
  z53 := Try.sizeOf113
  v53 := Try.zeroValue113 }
theorem Try.bits_Len64 (x : Int) (w : World) (h0 : 0 ≤ x) (h1 : x ≤ 18446744073709551615) :
    Calls Try.prog 94 #[.int .u64 x] w fun e w' => e = .returned (.int .i64 (Lib.bitLen x.toNat)) ∧ w' = w := Any.bits_Len64 Try.lays129 x w h0 h1
def Try.laysSlF20_f84_ren : Go.Shelf.Ren := ⟨fun | 20 => 84 | n => n, fun | 24 => 3 | 22 => 22 | 3 => 3 | 25 => 42 | 4 => 4 | 0 => 0 | n => n, fun | n => n⟩
theorem Try.laysSlF20_f84 : Go.Proofs.SlLaysF.n20 Try.prog Try.laysSlF20_f84_ren := {
  mixed := by kernel_rfl
  f20 := ⟨Try.f84.name, by decide, Try.func84.trans (congrArg some (by kernel_rfl))⟩
  t0 := Try.underlying0
  a0 := Try.isAgg0
  z0 := Try.sizeOf0
  v0 := Try.zeroValue0
  t3 := Try.underlying3
  a3 := Try.isAgg3
  z3 := Try.sizeOf3
  v3 := Try.zeroValue3
  t4 := Try.underlying4
  a4 := Try.isAgg4
  z4 := Try.sizeOf4
  v4 := Try.zeroValue4
  t22 := Try.underlying22
  a22 := Try.isAgg22
  z22 := Try.sizeOf22
  v22 := Try.zeroValue22
  a24 := Try.isAgg3
  z24 := Try.sizeOf3
  t25 := Try.underlying42
  a25 := Try.isAgg42
  z25 := Try.sizeOf42
  v25 := Try.zeroValue42 }
open Go.RowKit Go.Lib Go.Sort in
theorem Try.insertionSortCmpFunc_one {α : Type} [Inhabited α] (enc : α → Value) (hO : OneCell enc) (cf : α → α → Int) (g : Nat) (cb : Array Value) (blk off cap a b : Nat) (d : Array α) (w : World) (eg : ∀ args w, (callFunc g args).run Try.prog w = .ok (.enter g args) w) (hcmp : CmpReads Try.prog g cb enc cf blk off d.size w) (hH : Holds enc w blk off d) (hab : a ≤ b) (hb : b ≤ d.size) (hsz : d.size < 4611686018427387904) :
    Calls Try.prog 84 #[.slice (some ⟨blk, off, none⟩) d.size cap, .int .i64 a, .int .i64 b, .func (.func g) #[] cb] w fun e w' =>
      e = .returned (.tuple #[]) ∧ ∃ n, w' = (putRow enc w blk off (Sort.insertionSort (ltOf cf) d a b)).drewN n := Any.insertionSortCmpFunc_one Try.laysSlF20_f84 enc hO cf g cb blk off cap a b d w eg hcmp hH hab hb hsz
def Try.laysSlF46_f98_ren : Go.Shelf.Ren := ⟨fun | 46 => 98 | n => n, fun | 24 => 3 | 22 => 22 | 3 => 3 | 25 => 42 | 4 => 4 | 0 => 0 | n => n, fun | n => n⟩
theorem Try.laysSlF46_f98 : Go.Proofs.SlLaysF.n46 Try.prog Try.laysSlF46_f98_ren := {
  mixed := by kernel_rfl
  f46 := ⟨Try.f98.name, by decide, Try.func98.trans (congrArg some (by kernel_rfl))⟩
  t0 := Try.underlying0
  a0 := Try.isAgg0
  z0 := Try.sizeOf0
  v0 := Try.zeroValue0
  t3 := Try.underlying3
  a3 := Try.isAgg3
  z3 := Try.sizeOf3
  v3 := Try.zeroValue3
  t4 := Try.underlying4
  a4 := Try.isAgg4
  z4 := Try.sizeOf4
  v4 := Try.zeroValue4
  t22 := Try.underlying22
  a22 := Try.isAgg22
  z22 := Try.sizeOf22
  v22 := Try.zeroValue22
  a24 := Try.isAgg3
  z24 := Try.sizeOf3
  t25 := Try.underlying42
  a25 := Try.isAgg42
  z25 := Try.sizeOf42
  v25 := Try.zeroValue42 }
open Go.RowKit Go.Lib Go.Sort in
theorem Try.siftDownCmpFunc {α : Type} [Inhabited α] (enc : α → Value) (cf : α → α → Int) (g : Nat) (cb : Array Value) (blk off cap lo hi first : Nat) (d0 d : Array α) (w0 w : World) (eg : ∀ args w, (callFunc g args).run Try.prog w = .ok (.enter g args) w) (hcmp : CmpLays1 Try.prog g cb enc cf blk off d0.size w0) (R : Row1 enc w0 blk off d0) (hs : d0.size = d.size) (S : SW enc w0 blk off d w) (hlo : lo ≤ hi) (hb : first + hi ≤ d.size) (hsz : d.size < 4611686018427387904) :
    Calls Try.prog 98 #[.slice (some ⟨blk, off, none⟩) d.size cap, .int .i64 lo, .int .i64 hi, .int .i64 first, .func (.func g) #[] cb] w fun e w' =>
      e = .returned (.tuple #[]) ∧ SW enc w0 blk off (siftDown (ltOf cf) hi first lo d) w' := Any.siftDownCmpFunc Try.laysSlF46_f98 enc cf g cb blk off cap lo hi first d0 d w0 w eg hcmp R hs S hlo hb hsz
def Try.laysSlF21_f86_ren : Go.Shelf.Ren := ⟨fun | 21 => 86 | 46 => 98 | n => n, fun | 24 => 3 | 22 => 22 | 3 => 3 | 25 => 42 | 4 => 4 | 0 => 0 | n => n, fun | n => n⟩
theorem Try.laysSlF21_f86 : Go.Proofs.SlLaysF.n21 Try.prog Try.laysSlF21_f86_ren := {
  mixed := by kernel_rfl
  f21 := ⟨Try.f86.name, by decide, Try.func86.trans (congrArg some (by kernel_rfl))⟩
  f46 := ⟨Try.f98.name, by decide, Try.func98.trans (congrArg some (by kernel_rfl))⟩
  t0 := Try.underlying0
  a0 := Try.isAgg0
  z0 := Try.sizeOf0
  v0 := Try.zeroValue0
  t3 := Try.underlying3
  a3 := Try.isAgg3
  z3 := Try.sizeOf3
  v3 := Try.zeroValue3
  t4 := Try.underlying4
  a4 := Try.isAgg4
  z4 := Try.sizeOf4
  v4 := Try.zeroValue4
  t22 := Try.underlying22
  a22 := Try.isAgg22
  z22 := Try.sizeOf22
  v22 := Try.zeroValue22
  a24 := Try.isAgg3
  z24 := Try.sizeOf3
  t25 := Try.underlying42
  a25 := Try.isAgg42
  z25 := Try.sizeOf42
  v25 := Try.zeroValue42 }
open Go.RowKit Go.Lib Go.Sort in
theorem Try.heapSortCmpFunc {α : Type} [Inhabited α] (enc : α → Value) (cf : α → α → Int) (g : Nat) (cb : Array Value) (blk off cap a b : Nat) (d0 d : Array α) (w0 w : World) (eg : ∀ args w, (callFunc g args).run Try.prog w = .ok (.enter g args) w) (hcmp : CmpLays1 Try.prog g cb enc cf blk off d0.size w0) (R : Row1 enc w0 blk off d0) (hs : d0.size = d.size) (S : SW enc w0 blk off d w) (hab : a ≤ b) (hb : b ≤ d.size) (hsz : d.size < 4611686018427387904) :
    Calls Try.prog 86 #[.slice (some ⟨blk, off, none⟩) d.size cap, .int .i64 a, .int .i64 b, .func (.func g) #[] cb] w fun e w' =>
      e = .returned (.tuple #[]) ∧ SW enc w0 blk off (heapSort (ltOf cf) d a b) w' := Any.heapSortCmpFunc Try.laysSlF21_f86 enc cf g cb blk off cap a b d0 d w0 w eg hcmp R hs S hab hb hsz
open Go.RowKit Go.Lib Go.Sort in
theorem Try.insertionSortCmpFunc_s {α : Type} [Inhabited α] (enc : α → Value) (cf : α → α → Int) (g : Nat) (cb : Array Value) (blk off cap a b : Nat) (d0 d : Array α) (w0 w : World) (eg : ∀ args w, (callFunc g args).run Try.prog w = .ok (.enter g args) w) (hcmp : CmpLays1 Try.prog g cb enc cf blk off d0.size w0) (R : Row1 enc w0 blk off d0) (hs : d0.size = d.size) (S : SW enc w0 blk off d w) (hab : a ≤ b) (hb : b ≤ d.size) (hsz : d.size < 4611686018427387904) :
    Calls Try.prog 84 #[.slice (some ⟨blk, off, none⟩) d.size cap, .int .i64 a, .int .i64 b, .func (.func g) #[] cb] w fun e w' => e = .returned (.tuple #[]) ∧ SW enc w0 blk off (Sort.insertionSort (ltOf cf) d a b) w' := Any.insertionSortCmpFunc_s Try.laysSlF20_f84 enc cf g cb blk off cap a b d0 d w0 w eg hcmp R hs S hab hb hsz
def Try.laysSlF57_f104_ren : Go.Shelf.Ren := ⟨fun | 57 => 104 | n => n, fun | 24 => 3 | 22 => 22 | 3 => 3 | 70 => 118 | 25 => 42 | 0 => 0 | 4 => 4 | n => n, fun | n => n⟩
theorem Try.laysSlF57_f104 : Go.Proofs.SlLaysF.n57 Try.prog Try.laysSlF57_f104_ren := {
  mixed := by kernel_rfl
  f57 := ⟨Try.f104.name, by decide, Try.func104.trans (congrArg some (by kernel_rfl))⟩
  t0 := Try.underlying0
  a0 := Try.isAgg0
  z0 := Try.sizeOf0
  v0 := Try.zeroValue0
  t3 := Try.underlying3
  a3 := Try.isAgg3
  z3 := Try.sizeOf3
  v3 := Try.zeroValue3
  t4 := Try.underlying4
  a4 := Try.isAgg4
  z4 := Try.sizeOf4
  v4 := Try.zeroValue4
  t22 := Try.underlying22
  a22 := Try.isAgg22
  z22 := Try.sizeOf22
  v22 := Try.zeroValue22
  a24 := Try.isAgg3
  z24 := Try.sizeOf3
  t25 := Try.underlying42
  a25 := Try.isAgg42
  z25 := Try.sizeOf42
  v25 := Try.zeroValue42
  t70 := Try.underlying118
  a70 := Try.isAgg118
  z70 := Try.sizeOf118
  v70 := Try.zeroValue118 }
open Go.RowKit Go.Lib Go.Sort in
theorem Try.order2CmpFunc {α : Type} [Inhabited α] (enc : α → Value) (cf : α → α → Int) (g : Nat) (cb : Array Value) (blk off cap a b c s : Nat) (d0 d : Array α) (w0 W : World) (eg : ∀ args w, (callFunc g args).run Try.prog w = .ok (.enter g args) w) (hcmp : CmpLays1 Try.prog g cb enc cf blk off d0.size w0) (R : Row1 enc w0 blk off d0) (hs : d0.size = d.size) (C : Cnt1 enc w0 blk off d c s W) (ha : a < d.size) (hb : b < d.size) (hsz : d.size < 4611686018427387904) (hss : s < 4611686018427387904) :
    Calls Try.prog 104 #[.slice (some ⟨blk, off, none⟩) d.size cap, .int .i64 a, .int .i64 b, .pointer (some ⟨c, 0, none⟩), .func (.func g) #[] cb] W fun e w' =>
      e = .returned (.tuple #[.int .i64 (order2 (ltOf cf) d a b s).1, .int .i64 (order2 (ltOf cf) d a b s).2.1]) ∧ Cnt1 enc w0 blk off d c (order2 (ltOf cf) d a b s).2.2 w' := Any.order2CmpFunc Try.laysSlF57_f104 enc cf g cb blk off cap a b c s d0 d w0 W eg hcmp R hs C ha hb hsz hss
def Try.laysSlF50_f102_ren : Go.Shelf.Ren := ⟨fun | 50 => 102 | 57 => 104 | n => n, fun | 24 => 3 | 22 => 22 | 3 => 3 | 70 => 118 | 25 => 42 | 77 => 121 | 0 => 0 | 4 => 4 | n => n, fun | n => n⟩
theorem Try.laysSlF50_f102 : Go.Proofs.SlLaysF.n50 Try.prog Try.laysSlF50_f102_ren := {
  mixed := by kernel_rfl
  f50 := ⟨Try.f102.name, by decide, Try.func102.trans (congrArg some (by kernel_rfl))⟩
  f57 := ⟨Try.f104.name, by decide, Try.func104.trans (congrArg some (by kernel_rfl))⟩
  t0 := Try.underlying0
  a0 := Try.isAgg0
  z0 := Try.sizeOf0
  v0 := Try.zeroValue0
  t3 := Try.underlying3
  a3 := Try.isAgg3
  z3 := Try.sizeOf3
  v3 := Try.zeroValue3
  t4 := Try.underlying4
  a4 := Try.isAgg4
  z4 := Try.sizeOf4
  v4 := Try.zeroValue4
  t22 := Try.underlying22
  a22 := Try.isAgg22
  z22 := Try.sizeOf22
  v22 := Try.zeroValue22
  a24 := Try.isAgg3
  z24 := Try.sizeOf3
  t25 := Try.underlying42
  a25 := Try.isAgg42
  z25 := Try.sizeOf42
  v25 := Try.zeroValue42
  t70 := Try.underlying118
  a70 := Try.isAgg118
  z70 := Try.sizeOf118
  v70 := Try.zeroValue118
  t77 := Try.underlying121
  a77 := Try.isAgg121
  z77 := Try.sizeOf121
  v77 := Try.zeroValue121 }
open Go.RowKit Go.Lib Go.Sort in
theorem Try.medianCmpFunc {α : Type} [Inhabited α] (enc : α → Value) (cf : α → α → Int) (g : Nat) (cb : Array Value) (blk off cap a b c' c s : Nat) (d0 d : Array α) (w0 W : World) (eg : ∀ args w, (callFunc g args).run Try.prog w = .ok (.enter g args) w) (hcmp : CmpLays1 Try.prog g cb enc cf blk off d0.size w0) (R : Row1 enc w0 blk off d0) (hs : d0.size = d.size) (C : Cnt1 enc w0 blk off d c s W) (ha : a < d.size) (hb : b < d.size) (hc : c' < d.size) (hsz : d.size < 4611686018427387904) (hss : s + 3 < 4611686018427387904) :
    Calls Try.prog 102 #[.slice (some ⟨blk, off, none⟩) d.size cap, .int .i64 a, .int .i64 b, .int .i64 c', .pointer (some ⟨c, 0, none⟩), .func (.func g) #[] cb] W fun e w' =>
      e = .returned (.int .i64 (median (ltOf cf) d a b c' s).1) ∧ Cnt1 enc w0 blk off d c (median (ltOf cf) d a b c' s).2 w' := Any.medianCmpFunc Try.laysSlF50_f102 enc cf g cb blk off cap a b c' c s d0 d w0 W eg hcmp R hs C ha hb hc hsz hss
def Try.laysSlF49_f101_ren : Go.Shelf.Ren := ⟨fun | 49 => 101 | 50 => 102 | 57 => 104 | n => n, fun | 24 => 3 | 22 => 22 | 3 => 3 | 70 => 118 | 25 => 42 | 77 => 121 | 0 => 0 | 4 => 4 | n => n, fun | n => n⟩
theorem Try.laysSlF49_f101 : Go.Proofs.SlLaysF.n49 Try.prog Try.laysSlF49_f101_ren := {
  mixed := by kernel_rfl
  f49 := ⟨Try.f101.name, by decide, Try.func101.trans (congrArg some (by kernel_rfl))⟩
  f50 := ⟨Try.f102.name, by decide, Try.func102.trans (congrArg some (by kernel_rfl))⟩
  f57 := ⟨Try.f104.name, by decide, Try.func104.trans (congrArg some (by kernel_rfl))⟩
  t0 := Try.underlying0
  a0 := Try.isAgg0
  z0 := Try.sizeOf0
  v0 := Try.zeroValue0
  t3 := Try.underlying3
  a3 := Try.isAgg3
  z3 := Try.sizeOf3
  v3 := Try.zeroValue3
  t4 := Try.underlying4
  a4 := Try.isAgg4
  z4 := Try.sizeOf4
  v4 := Try.zeroValue4
  t22 := Try.underlying22
  a22 := Try.isAgg22
  z22 := Try.sizeOf22
  v22 := Try.zeroValue22
  a24 := Try.isAgg3
  z24 := Try.sizeOf3
  t25 := Try.underlying42
  a25 := Try.isAgg42
  z25 := Try.sizeOf42
  v25 := Try.zeroValue42
  t70 := Try.underlying118
  a70 := Try.isAgg118
  z70 := Try.sizeOf118
  v70 := Try.zeroValue118
  t77 := Try.underlying121
  a77 := Try.isAgg121
  z77 := Try.sizeOf121
  v77 := Try.zeroValue121 }
open Go.RowKit Go.Lib Go.Sort in
theorem Try.medianAdjacentCmpFunc {α : Type} [Inhabited α] (enc : α → Value) (cf : α → α → Int) (g : Nat) (cb : Array Value) (blk off cap a c s : Nat) (d0 d : Array α) (w0 W : World) (eg : ∀ args w, (callFunc g args).run Try.prog w = .ok (.enter g args) w) (hcmp : CmpLays1 Try.prog g cb enc cf blk off d0.size w0) (R : Row1 enc w0 blk off d0) (hs : d0.size = d.size) (C : Cnt1 enc w0 blk off d c s W) (ha1 : 1 ≤ a) (ha2 : a + 1 < d.size) (hsz : d.size < 4611686018427387904) (hss : s + 3 < 4611686018427387904) :
    Calls Try.prog 101 #[.slice (some ⟨blk, off, none⟩) d.size cap, .int .i64 a, .pointer (some ⟨c, 0, none⟩), .func (.func g) #[] cb] W fun e w' =>
      e = .returned (.int .i64 (medianAdjacent (ltOf cf) d a s).1) ∧ Cnt1 enc w0 blk off d c (medianAdjacent (ltOf cf) d a s).2 w' := Any.medianAdjacentCmpFunc Try.laysSlF49_f101 enc cf g cb blk off cap a c s d0 d w0 W eg hcmp R hs C ha1 ha2 hsz hss
def Try.laysSlF23_f88_ren : Go.Shelf.Ren := ⟨fun | 23 => 88 | 49 => 101 | 50 => 102 | 57 => 104 | n => n, fun | 24 => 3 | 22 => 22 | 3 => 3 | 25 => 42 | 45 => 104 | 0 => 0 | 4 => 4 | 70 => 118 | 77 => 121 | n => n, fun | n => n⟩
theorem Try.laysSlF23_f88 : Go.Proofs.SlLaysF.n23 Try.prog Try.laysSlF23_f88_ren := {
  mixed := by kernel_rfl
  f23 := ⟨Try.f88.name, by decide, Try.func88.trans (congrArg some (by kernel_rfl))⟩
  f49 := ⟨Try.f101.name, by decide, Try.func101.trans (congrArg some (by kernel_rfl))⟩
  f50 := ⟨Try.f102.name, by decide, Try.func102.trans (congrArg some (by kernel_rfl))⟩
  f57 := ⟨Try.f104.name, by decide, Try.func104.trans (congrArg some (by kernel_rfl))⟩
  t0 := Try.underlying0
  a0 := Try.isAgg0
  z0 := Try.sizeOf0
  v0 := Try.zeroValue0
  t3 := Try.underlying3
  a3 := Try.isAgg3
  z3 := Try.sizeOf3
  v3 := Try.zeroValue3
  t4 := Try.underlying4
  a4 := Try.isAgg4
  z4 := Try.sizeOf4
  v4 := Try.zeroValue4
  t22 := Try.underlying22
  a22 := Try.isAgg22
  z22 := Try.sizeOf22
  v22 := Try.zeroValue22
  a24 := Try.isAgg3
  z24 := Try.sizeOf3
  t25 := Try.underlying42
  a25 := Try.isAgg42
  z25 := Try.sizeOf42
  v25 := Try.zeroValue42
  t45 := Try.underlying104
  a45 := Try.isAgg104
  z45 := Try.sizeOf104
  v45 := Try.zeroValue104
  t70 := Try.underlying118
  a70 := Try.isAgg118
  z70 := Try.sizeOf118
  v70 := Try.zeroValue118
  t77 := Try.underlying121
  a77 := Try.isAgg121
  z77 := Try.sizeOf121
  v77 := Try.zeroValue121 }
open Go.RowKit Go.Lib Go.Sort in
theorem Try.choosePivotCmpFunc {α : Type} [Inhabited α] (enc : α → Value) (cf : α → α → Int) (g : Nat) (cb : Array Value) (blk off cap a b : Nat) (d0 d : Array α) (w0 W : World) (eg : ∀ args w, (callFunc g args).run Try.prog w = .ok (.enter g args) w) (hcmp : CmpLays1 Try.prog g cb enc cf blk off d0.size w0) (R : Row1 enc w0 blk off d0) (hs : d0.size = d.size) (S : SW enc w0 blk off d W) (hab : a < b) (hb : b ≤ d.size) (hsz : d.size < 4611686018427387904) :
    Calls Try.prog 88 #[.slice (some ⟨blk, off, none⟩) d.size cap, .int .i64 a, .int .i64 b, .func (.func g) #[] cb] W fun e w' =>
      e = .returned (.tuple #[.int .i64 (choosePivot (ltOf cf) d a b).1, .int .i64 (hintCode (choosePivot (ltOf cf) d a b).2)]) ∧ SW enc w0 blk off d w' := Any.choosePivotCmpFunc Try.laysSlF23_f88 enc cf g cb blk off cap a b d0 d w0 W eg hcmp R hs S hab hb hsz
def Try.laysSlF24_f89_ren : Go.Shelf.Ren := ⟨fun | 24 => 89 | n => n, fun | 24 => 3 | 22 => 22 | 3 => 3 | 25 => 42 | 4 => 4 | 0 => 0 | n => n, fun | n => n⟩
theorem Try.laysSlF24_f89 : Go.Proofs.SlLaysF.n24 Try.prog Try.laysSlF24_f89_ren := {
  mixed := by kernel_rfl
  f24 := ⟨Try.f89.name, by decide, Try.func89.trans (congrArg some (by kernel_rfl))⟩
  t0 := Try.underlying0
  a0 := Try.isAgg0
  z0 := Try.sizeOf0
  v0 := Try.zeroValue0
  t3 := Try.underlying3
  a3 := Try.isAgg3
  z3 := Try.sizeOf3
  v3 := Try.zeroValue3
  t4 := Try.underlying4
  a4 := Try.isAgg4
  z4 := Try.sizeOf4
  v4 := Try.zeroValue4
  t22 := Try.underlying22
  a22 := Try.isAgg22
  z22 := Try.sizeOf22
  v22 := Try.zeroValue22
  a24 := Try.isAgg3
  z24 := Try.sizeOf3
  t25 := Try.underlying42
  a25 := Try.isAgg42
  z25 := Try.sizeOf42
  v25 := Try.zeroValue42 }
open Go.RowKit Go.Lib Go.Sort in
theorem Try.reverseRangeCmpFunc {α : Type} [Inhabited α] (enc : α → Value) (g : Nat) (cb : Array Value) (blk off cap a b : Nat) (d0 d : Array α) (w0 w : World) (R : Row1 enc w0 blk off d0) (hs : d0.size = d.size) (S : SW enc w0 blk off d w) (hab : a ≤ b) (hb : b ≤ d.size) (hsz : d.size < 4611686018427387904) :
    Calls Try.prog 89 #[.slice (some ⟨blk, off, none⟩) d.size cap, .int .i64 a, .int .i64 b, .func (.func g) #[] cb] w fun e w' => e = .returned (.tuple #[]) ∧ SW enc w0 blk off (reverseRange d a b) w' := Any.reverseRangeCmpFunc Try.laysSlF24_f89 enc g cb blk off cap a b d0 d w0 w R hs S hab hb hsz
def Try.laysSlF25_f90_ren : Go.Shelf.Ren := ⟨fun | 25 => 90 | n => n, fun | 24 => 3 | 22 => 22 | 3 => 3 | 25 => 42 | 4 => 4 | 0 => 0 | n => n, fun | n => n⟩
theorem Try.laysSlF25_f90 : Go.Proofs.SlLaysF.n25 Try.prog Try.laysSlF25_f90_ren := {
  mixed := by kernel_rfl
  f25 := ⟨Try.f90.name, by decide, Try.func90.trans (congrArg some (by kernel_rfl))⟩
  t0 := Try.underlying0
  a0 := Try.isAgg0
  z0 := Try.sizeOf0
  v0 := Try.zeroValue0
  t3 := Try.underlying3
  a3 := Try.isAgg3
  z3 := Try.sizeOf3
  v3 := Try.zeroValue3
  t4 := Try.underlying4
  a4 := Try.isAgg4
  z4 := Try.sizeOf4
  v4 := Try.zeroValue4
  t22 := Try.underlying22
  a22 := Try.isAgg22
  z22 := Try.sizeOf22
  v22 := Try.zeroValue22
  a24 := Try.isAgg3
  z24 := Try.sizeOf3
  t25 := Try.underlying42
  a25 := Try.isAgg42
  z25 := Try.sizeOf42
  v25 := Try.zeroValue42 }
open Go.RowKit Go.Lib Go.Sort in
theorem Try.partialInsertionSortCmpFunc {α : Type} [Inhabited α] (enc : α → Value) (cf : α → α → Int) (g : Nat) (cb : Array Value) (blk off cap a b : Nat) (d0 d : Array α) (w0 w : World) (eg : ∀ args w, (callFunc g args).run Try.prog w = .ok (.enter g args) w) (hcmp : CmpLays1 Try.prog g cb enc cf blk off d0.size w0) (R : Row1 enc w0 blk off d0) (hs : d0.size = d.size) (S : SW enc w0 blk off d w) (hab : a < b) (hb : b ≤ d.size) (hsz : d.size < 4611686018427387904) :
    Calls Try.prog 90 #[.slice (some ⟨blk, off, none⟩) d.size cap, .int .i64 a, .int .i64 b, .func (.func g) #[] cb] w fun e w' =>
      e = .returned (.bool (Sort.partialInsertionSort (ltOf cf) d a b).2) ∧ SW enc w0 blk off (Sort.partialInsertionSort (ltOf cf) d a b).1 w' := Any.partialInsertionSortCmpFunc Try.laysSlF25_f90 enc cf g cb blk off cap a b d0 d w0 w eg hcmp R hs S hab hb hsz
def Try.laysSlF26_f91_ren : Go.Shelf.Ren := ⟨fun | 26 => 91 | n => n, fun | 24 => 3 | 22 => 22 | 3 => 3 | 25 => 42 | 0 => 0 | 4 => 4 | n => n, fun | n => n⟩
theorem Try.laysSlF26_f91 : Go.Proofs.SlLaysF.n26 Try.prog Try.laysSlF26_f91_ren := {
  mixed := by kernel_rfl
  f26 := ⟨Try.f91.name, by decide, Try.func91.trans (congrArg some (by kernel_rfl))⟩
  t0 := Try.underlying0
  a0 := Try.isAgg0
  z0 := Try.sizeOf0
  v0 := Try.zeroValue0
  t3 := Try.underlying3
  a3 := Try.isAgg3
  z3 := Try.sizeOf3
  v3 := Try.zeroValue3
  t4 := Try.underlying4
  a4 := Try.isAgg4
  z4 := Try.sizeOf4
  v4 := Try.zeroValue4
  t22 := Try.underlying22
  a22 := Try.isAgg22
  z22 := Try.sizeOf22
  v22 := Try.zeroValue22
  a24 := Try.isAgg3
  z24 := Try.sizeOf3
  t25 := Try.underlying42
  a25 := Try.isAgg42
  z25 := Try.sizeOf42
  v25 := Try.zeroValue42 }
open Go.RowKit Go.Lib Go.Sort in
theorem Try.partitionEqualCmpFunc {α : Type} [Inhabited α] (enc : α → Value) (cf : α → α → Int) (g : Nat) (cb : Array Value) (blk off cap a b pivot : Nat) (d0 d : Array α) (w0 w : World) (eg : ∀ args w, (callFunc g args).run Try.prog w = .ok (.enter g args) w) (hcmp : CmpLays1 Try.prog g cb enc cf blk off d0.size w0) (R : Row1 enc w0 blk off d0) (hs : d0.size = d.size) (S : SW enc w0 blk off d w) (hap : a ≤ pivot) (hpb : pivot < b) (hb : b ≤ d.size) (hsz : d.size < 4611686018427387904) :
    Calls Try.prog 91 #[.slice (some ⟨blk, off, none⟩) d.size cap, .int .i64 a, .int .i64 b, .int .i64 pivot, .func (.func g) #[] cb] w fun e w' =>
      e = .returned (.int .i64 (Sort.partitionEqual (ltOf cf) d a b pivot).1) ∧ SW enc w0 blk off (Sort.partitionEqual (ltOf cf) d a b pivot).2 w' := Any.partitionEqualCmpFunc Try.laysSlF26_f91 enc cf g cb blk off cap a b pivot d0 d w0 w eg hcmp R hs S hap hpb hb hsz
def Try.laysSlF27_f92_ren : Go.Shelf.Ren := ⟨fun | 27 => 92 | n => n, fun | 24 => 3 | 22 => 22 | 3 => 3 | 25 => 42 | 4 => 4 | 0 => 0 | n => n, fun | n => n⟩
theorem Try.laysSlF27_f92 : Go.Proofs.SlLaysF.n27 Try.prog Try.laysSlF27_f92_ren := {
  mixed := by kernel_rfl
  f27 := ⟨Try.f92.name, by decide, Try.func92.trans (congrArg some (by kernel_rfl))⟩
  t0 := Try.underlying0
  a0 := Try.isAgg0
  z0 := Try.sizeOf0
  v0 := Try.zeroValue0
  t3 := Try.underlying3
  a3 := Try.isAgg3
  z3 := Try.sizeOf3
  v3 := Try.zeroValue3
  t4 := Try.underlying4
  a4 := Try.isAgg4
  z4 := Try.sizeOf4
  v4 := Try.zeroValue4
  t22 := Try.underlying22
  a22 := Try.isAgg22
  z22 := Try.sizeOf22
  v22 := Try.zeroValue22
  a24 := Try.isAgg3
  z24 := Try.sizeOf3
  t25 := Try.underlying42
  a25 := Try.isAgg42
  z25 := Try.sizeOf42
  v25 := Try.zeroValue42 }
open Go.RowKit Go.Lib Go.Sort in
theorem Try.partitionCmpFunc {α : Type} [Inhabited α] (enc : α → Value) (cf : α → α → Int) (g : Nat) (cb : Array Value) (blk off cap a b pivot : Nat) (d0 d : Array α) (w0 w : World) (eg : ∀ args w, (callFunc g args).run Try.prog w = .ok (.enter g args) w) (hcmp : CmpLays1 Try.prog g cb enc cf blk off d0.size w0) (R : Row1 enc w0 blk off d0) (hs : d0.size = d.size) (S : SW enc w0 blk off d w) (hap : a ≤ pivot) (hpb : pivot < b) (hb : b ≤ d.size) (hsz : d.size < 4611686018427387904) :
    Calls Try.prog 92 #[.slice (some ⟨blk, off, none⟩) d.size cap, .int .i64 a, .int .i64 b, .int .i64 pivot, .func (.func g) #[] cb] w fun e w' =>
      e = .returned (.tuple #[.int .i64 (Sort.partition (ltOf cf) d a b pivot).1, .bool (Sort.partition (ltOf cf) d a b pivot).2.1]) ∧ SW enc w0 blk off (Sort.partition (ltOf cf) d a b pivot).2.2 w' := Any.partitionCmpFunc Try.laysSlF27_f92 enc cf g cb blk off cap a b pivot d0 d w0 w eg hcmp R hs S hap hpb hb hsz
def Try.laysSlF14_f81_ren : Go.Shelf.Ren := ⟨fun | 14 => 81 | 20 => 84 | 21 => 86 | 22 => 87 | 23 => 88 | 24 => 89 | 25 => 90 | 26 => 91 | 27 => 92 | 46 => 98 | 47 => 99 | 48 => 100 | 49 => 101 | 50 => 102 | 15 => 82 | 57 => 104 | 28 => 93 | 29 => 94 | n => n, fun | 24 => 3 | 22 => 22 | 3 => 3 | 25 => 42 | 4 => 4 | 0 => 0 | 46 => 105 | 45 => 104 | 50 => 98 | 66 => 114 | 39 => 92 | 55 => 113 | 70 => 118 | 76 => 120 | 77 => 121 | 53 => 111 | 5 => 5 | 9 => 9 | n => n, fun | n => n⟩
theorem Try.laysSlF14_f81 : Go.Proofs.SlLaysF.n14 Try.prog Try.laysSlF14_f81_ren := {
  mixed := by kernel_rfl
  f14 := ⟨Try.f81.name, by decide, Try.func81.trans (congrArg some (by kernel_rfl))⟩
  f15 := Try.func82.trans (congrArg some (by kernel_rfl))
  f20 := ⟨Try.f84.name, by decide, Try.func84.trans (congrArg some (by kernel_rfl))⟩
  f21 := ⟨Try.f86.name, by decide, Try.func86.trans (congrArg some (by kernel_rfl))⟩
  f22 := ⟨Try.f87.name, by decide, Try.func87.trans (congrArg some (by kernel_rfl))⟩
  f23 := ⟨Try.f88.name, by decide, Try.func88.trans (congrArg some (by kernel_rfl))⟩
  f24 := ⟨Try.f89.name, by decide, Try.func89.trans (congrArg some (by kernel_rfl))⟩
  f25 := ⟨Try.f90.name, by decide, Try.func90.trans (congrArg some (by kernel_rfl))⟩
  f26 := ⟨Try.f91.name, by decide, Try.func91.trans (congrArg some (by kernel_rfl))⟩
  f27 := ⟨Try.f92.name, by decide, Try.func92.trans (congrArg some (by kernel_rfl))⟩
  f28 := Try.func93.trans (congrArg some (by kernel_rfl))
  f29 := Try.func94.trans (congrArg some (by kernel_rfl))
  f46 := ⟨Try.f98.name, by decide, Try.func98.trans (congrArg some (by kernel_rfl))⟩
  f47 := Try.func99.trans (congrArg some (by kernel_rfl))
  f48 := Try.func100.trans (congrArg some (by kernel_rfl))
  f49 := ⟨Try.f101.name, by decide, Try.func101.trans (congrArg some (by kernel_rfl))⟩
  f50 := ⟨Try.f102.name, by decide, Try.func102.trans (congrArg some (by kernel_rfl))⟩
  f57 := ⟨Try.f104.name, by decide, Try.func104.trans (congrArg some (by kernel_rfl))⟩
  t0 := Try.underlying0
  a0 := Try.isAgg0
  z0 := Try.sizeOf0
  v0 := Try.zeroValue0
  t3 := Try.underlying3
  a3 := Try.isAgg3
  z3 := Try.sizeOf3
  v3 := Try.zeroValue3
  t4 := Try.underlying4
  a4 := Try.isAgg4
  z4 := Try.sizeOf4
  v4 := Try.zeroValue4
  t5 := Try.underlying5
  a5 := Try.isAgg5
  z5 := Try.sizeOf5
  v5 := Try.zeroValue5
  t9 := Try.underlying9
  a9 := Try.isAgg9
  z9 := Try.sizeOf9
  v9 := Try.zeroValue9
  t22 := Try.underlying22
  a22 := Try.isAgg22
  z22 := Try.sizeOf22
  v22 := Try.zeroValue22
  a24 := Try.isAgg3
  z24 := Try.sizeOf3
  t25 := Try.underlying42
  a25 := Try.isAgg42
  z25 := Try.sizeOf42
  v25 := Try.zeroValue42
  t39 := Try.underlying92
  a39 := Try.isAgg92
  z39 := Try.sizeOf92
  v39 := Try.zeroValue92
  t45 := Try.underlying104
  a45 := Try.isAgg104
  z45 := Try.sizeOf104
  v45 := Try.zeroValue104
  t46 := Try.underlying105
  a46 := Try.isAgg105
  z46 := Try.sizeOf105
  v46 := Try.zeroValue105
  t50 := Try.underlying98
  a50 := Try.isAgg98
  z50 := Try.sizeOf98
  v50 := Try.zeroValue98
  t53 := Try.underlying111
  a53 := Try.isAgg111
  z53 := Try.sizeOf111
  v53 := Try.zeroValue111
  t55 := Try.underlying113
  a55 := Try.isAgg113
  z55 := Try.sizeOf113
  v55 := Try.zeroValue113
  t66 := Try.underlying114
  a66 := Try.isAgg114
  z66 := Try.sizeOf114
  v66 := Try.zeroValue114
  t70 := Try.underlying118
  a70 := Try.isAgg118
  z70 := Try.sizeOf118
  v70 := Try.zeroValue118
  t76 := Try.underlying120
  a76 := Try.isAgg120
  z76 := Try.sizeOf120
  v76 := Try.zeroValue120
  t77 := Try.underlying121
  a77 := Try.isAgg121
  z77 := Try.sizeOf121
  v77 := Try.zeroValue121 }
open Go.RowKit Go.Lib Go.Sort in
theorem Try.pdqsortCmpFunc_all {α : Type} [Inhabited α] (enc : α → Value) (cf : α → α → Int) (g : Nat) (cb : Array Value) (hO : SWO (ltOf cf)) (blk off cap : Nat) (d0 : Array α) (w0 : World) (eg : ∀ args w, (callFunc g args).run Try.prog w = .ok (.enter g args) w) (hcmp : CmpLays1 Try.prog g cb enc cf blk off d0.size w0) (R : Row1 enc w0 blk off d0) :
    ∀ (N a b limit : Nat) (d : Array α) (w : World), b - a < N → d0.size = d.size → SW enc w0 blk off d w → a ≤ b → b ≤ d.size → d.size < 4611686018427387904 → limit < 4611686018427387904 → Below (ltOf cf) a b d →
    Calls Try.prog 81 #[.slice (some ⟨blk, off, none⟩) d.size cap, .int .i64 a, .int .i64 b, .int .i64 limit, .func (.func g) #[] cb] w fun e w' => e = .returned (.tuple #[]) ∧ SW enc w0 blk off (pdq (ltOf cf) d a b limit true true) w' := Any.pdqsortCmpFunc_all Try.laysSlF14_f81 enc cf g cb hO blk off cap d0 w0 eg hcmp R
def Try.laysSlF6_f68_ren : Go.Shelf.Ren := ⟨fun | 6 => 68 | 15 => 82 | 14 => 81 | 28 => 93 | 29 => 94 | 20 => 84 | 21 => 86 | 22 => 87 | 23 => 88 | 24 => 89 | 25 => 90 | 26 => 91 | 27 => 92 | 46 => 98 | 47 => 99 | 48 => 100 | 49 => 101 | 50 => 102 | 57 => 104 | n => n, fun | 22 => 22 | 24 => 3 | 25 => 42 | 3 => 3 | 39 => 92 | 0 => 0 | 53 => 111 | 55 => 113 | 4 => 4 | 46 => 105 | 45 => 104 | 50 => 98 | 5 => 5 | 9 => 9 | 66 => 114 | 70 => 118 | 76 => 120 | 77 => 121 | n => n, fun | n => n⟩
theorem Try.laysSlF6_f68 : Go.Proofs.SlLaysF.n6 Try.prog Try.laysSlF6_f68_ren := {
  mixed := by kernel_rfl
  f6 := ⟨Try.f68.name, by decide, Try.func68.trans (congrArg some (by kernel_rfl))⟩
  f14 := ⟨Try.f81.name, by decide, Try.func81.trans (congrArg some (by kernel_rfl))⟩
  f15 := Try.func82.trans (congrArg some (by kernel_rfl))
  f20 := ⟨Try.f84.name, by decide, Try.func84.trans (congrArg some (by kernel_rfl))⟩
  f21 := ⟨Try.f86.name, by decide, Try.func86.trans (congrArg some (by kernel_rfl))⟩
  f22 := ⟨Try.f87.name, by decide, Try.func87.trans (congrArg some (by kernel_rfl))⟩
  f23 := ⟨Try.f88.name, by decide, Try.func88.trans (congrArg some (by kernel_rfl))⟩
  f24 := ⟨Try.f89.name, by decide, Try.func89.trans (congrArg some (by kernel_rfl))⟩
  f25 := ⟨Try.f90.name, by decide, Try.func90.trans (congrArg some (by kernel_rfl))⟩
  f26 := ⟨Try.f91.name, by decide, Try.func91.trans (congrArg some (by kernel_rfl))⟩
  f27 := ⟨Try.f92.name, by decide, Try.func92.trans (congrArg some (by kernel_rfl))⟩
  f28 := Try.func93.trans (congrArg some (by kernel_rfl))
  f29 := Try.func94.trans (congrArg some (by kernel_rfl))
  f46 := ⟨Try.f98.name, by decide, Try.func98.trans (congrArg some (by kernel_rfl))⟩
  f47 := Try.func99.trans (congrArg some (by kernel_rfl))
  f48 := Try.func100.trans (congrArg some (by kernel_rfl))
  f49 := ⟨Try.f101.name, by decide, Try.func101.trans (congrArg some (by kernel_rfl))⟩
  f50 := ⟨Try.f102.name, by decide, Try.func102.trans (congrArg some (by kernel_rfl))⟩
  f57 := ⟨Try.f104.name, by decide, Try.func104.trans (congrArg some (by kernel_rfl))⟩
  t0 := Try.underlying0
  a0 := Try.isAgg0
  z0 := Try.sizeOf0
  v0 := Try.zeroValue0
  t3 := Try.underlying3
  a3 := Try.isAgg3
  z3 := Try.sizeOf3
  v3 := Try.zeroValue3
  t4 := Try.underlying4
  a4 := Try.isAgg4
  z4 := Try.sizeOf4
  v4 := Try.zeroValue4
  t5 := Try.underlying5
  a5 := Try.isAgg5
  z5 := Try.sizeOf5
  v5 := Try.zeroValue5
  t9 := Try.underlying9
  a9 := Try.isAgg9
  z9 := Try.sizeOf9
  v9 := Try.zeroValue9
  t22 := Try.underlying22
  a22 := Try.isAgg22
  z22 := Try.sizeOf22
  v22 := Try.zeroValue22
  a24 := Try.isAgg3
  z24 := Try.sizeOf3
  t25 := Try.underlying42
  a25 := Try.isAgg42
  z25 := Try.sizeOf42
  v25 := Try.zeroValue42
  t39 := Try.underlying92
  a39 := Try.isAgg92
  z39 := Try.sizeOf92
  v39 := Try.zeroValue92
  t45 := Try.underlying104
  a45 := Try.isAgg104
  z45 := Try.sizeOf104
  v45 := Try.zeroValue104
  t46 := Try.underlying105
  a46 := Try.isAgg105
  z46 := Try.sizeOf105
  v46 := Try.zeroValue105
  t50 := Try.underlying98
  a50 := Try.isAgg98
  z50 := Try.sizeOf98
  v50 := Try.zeroValue98
  t53 := Try.underlying111
  a53 := Try.isAgg111
  z53 := Try.sizeOf111
  v53 := Try.zeroValue111
  t55 := Try.underlying113
  a55 := Try.isAgg113
  z55 := Try.sizeOf113
  v55 := Try.zeroValue113
  t66 := Try.underlying114
  a66 := Try.isAgg114
  z66 := Try.sizeOf114
  v66 := Try.zeroValue114
  t70 := Try.underlying118
  a70 := Try.isAgg118
  z70 := Try.sizeOf118
  v70 := Try.zeroValue118
  t76 := Try.underlying120
  a76 := Try.isAgg120
  z76 := Try.sizeOf120
  v76 := Try.zeroValue120
  t77 := Try.underlying121
  a77 := Try.isAgg121
  z77 := Try.sizeOf121
  v77 := Try.zeroValue121 }
open Go.RowKit Go.Lib Go.Sort in
theorem Try.slices_SortFunc_eq {α : Type} [Inhabited α] (enc : α → Value) (h1 : OneCell enc) (cf : α → α → Int) (hO : SWO (ltOf cf)) (g : Nat) (cb : Array Value) (blk off cap : Nat) (d : Array α) (w : World) (eg : ∀ args w, (callFunc g args).run Try.prog w = .ok (.enter g args) w) (hcmp : CmpLays1 Try.prog g cb enc cf blk off d.size w) (hH : Holds enc w blk off d) (hblk : blk < w.heap.size) (hsz : d.size < 4611686018427387904) :
    Calls Try.prog 68 #[.slice (some ⟨blk, off, none⟩) d.size cap, .func (.func g) #[] cb] w fun e w' =>
      e = .returned (.tuple #[]) ∧ ∃ n os, w' = sortWorld enc w blk off n (pdq (ltOf cf) d 0 d.size (Lib.bitLen d.size) true true) os := Any.slices_SortFunc_eq Try.laysSlF6_f68 enc h1 cf hO g cb blk off cap d w eg hcmp hH hblk hsz
open Go.RowKit Go.Lib Go.Sort in
theorem Try.slices_SortFunc {α : Type} [Inhabited α] (enc : α → Value) (h1 : OneCell enc) (cf : α → α → Int) (hO : SWO (ltOf cf)) (g : Nat) (cb : Array Value) (blk off cap : Nat) (d : Array α) (w : World) (eg : ∀ args w, (callFunc g args).run Try.prog w = .ok (.enter g args) w) (hcmp : CmpLays1 Try.prog g cb enc cf blk off d.size w) (hH : Holds enc w blk off d) (hblk : blk < w.heap.size) (hsz : d.size < 4611686018427387904) :
    Calls Try.prog 68 #[.slice (some ⟨blk, off, none⟩) d.size cap, .func (.func g) #[] cb] w fun e w' =>
      e = .returned (.tuple #[]) ∧ ∃ d' n os, PermIn 0 d.size d d' ∧ SortedIn (ltOf cf) 0 d.size d' ∧ w' = sortWorld enc w blk off n d' os := Any.slices_SortFunc Try.laysSlF6_f68 enc h1 cf hO g cb blk off cap d w eg hcmp hH hblk hsz
end Go.Proofs
end
section
namespace Go.Proofs.Ytodliknibbafeaa
open Go Go.RowKit Go.Sort
set_option maxRecDepth 100000
set_option maxHeartbeats 4000000
def zrd (x : Fin 128) : Value := .int .i64 ((x.val : Nat) : Int)
def cfS (p r : Fin 128) : Int := if Lib.compareInt (szN r.val) (szN p.val) ≠ 0 then Lib.compareInt (szN r.val) (szN p.val) else Lib.compareInt (p.val : Nat) (r.val : Nat)
theorem zyO (k : Nat) (W : World) (hk : k < 128) : Calls Try.prog 96 #[.int .u64 (k : Int)] W fun e w' => e = .returned (.int .i64 (szN k)) ∧ w' = W := by
  have h0 : (0 : Int) ≤ (k : Int) := by omega
  have h1 : (k : Int) < 128 := by omega
  go_enter Try.func96, Try.ntmps96
  go_wp2
  all_goals go_ret
  all_goals refine ⟨congrArg Ending.returned (congrArg (Value.int IntKind.i64) ?_), rfl⟩
  clear h0 h1
  revert k
  decide +kernel
theorem zxr (k : Nat) (W : World) (hk : k < 128) : Calls Try.prog 83 #[.int .u64 (k : Int)] W fun e w' => e = .returned (.int .i64 (szN k)) ∧ w' = W := by
  go_enter Try.func83, Try.ntmps83
  go_wp2_with (go_at_call 96; refine (zyO k _ hk).mono ?_; rintro e w' ⟨rfl, rfl⟩)
  go_ret
  exact ⟨rfl, rfl⟩
theorem zvb (k : Nat) (W : World) (hk : k < 128) : Calls Try.prog 71 #[.int .i64 (k : Int)] W fun e w' => e = .returned (.int .i64 (szN k)) ∧ w' = W := by
  have hw : IntKind.u64.wrap (k : Int) = (k : Int) := by rw [IntKind.wrap_u64]; omega
  go_enter Try.func71, Try.ntmps71
  go_wp2_with (go_at_call 83; refine (zxr k _ hk).mono ?_; rintro e w' ⟨rfl, rfl⟩)
  go_ret
  exact ⟨rfl, rfl⟩
theorem or2 (a b : Int) (g : Nat) (W : World) (ha : W.cell? ⟨g, 0, none⟩ = some (.int .i64 a)) (hb : W.cell? ⟨g, 1, none⟩ = some (.int .i64 b)) : Calls Try.prog 70 #[.slice (some ⟨g, 0, none⟩) 2 2] W fun e w' => e = .returned (.int .i64 (if a ≠ 0 then a else b)) ∧ w' = W := by
  go_enter Try.func70, Try.ntmps70
  go_wp2
  go_loop [8] (fun vi => ∃ k : Nat, k ≤ 2 ∧ vi = .int .i64 k ∧ (0 < k → a = 0) ∧ (1 < k → b = 0)) (fun vi => 2 - (intOf vi).toNat)
  case atStart => exact ⟨0, by omega, rfl, by omega, by omega⟩
  case round =>
    obtain ⟨k, hk, rfl, h1, h2⟩ := hrel
    rcases (by omega : k = 0 ∨ k = 1 ∨ k = 2) with rfl | rfl | rfl
    · clear h1 h2
      by_cases h : a = 0
      · subst h
        go_wp2
        go_round
        case rel => exact ⟨1, by omega, by go_num, by simp, by simp⟩
        case measure => simp [intOf]
      · go_wp2
        go_ret
        simp [h]
    · have h1 := h1 (by omega)
      clear h2
      subst h1
      by_cases h : b = 0
      · subst h
        go_wp2
        go_round
        case rel => exact ⟨2, by omega, by go_num, by simp, by simp⟩
        case measure => simp [intOf]
      · go_wp2
        go_ret
        simp
    · have h1 := h1 (by omega)
      have h2 := h2 (by omega)
      subst h1 h2
      go_wp2
      go_ret
      simp
theorem zAr (x y : Fin 128) (W : World) : Calls Try.prog 69 #[zrd x, zrd y] W fun e w' => e = .returned (.int .i64 (cfS x y)) ∧ ∃ q os', w' = grow (W.drewN q) os' := by
  obtain ⟨x, hx⟩ := x
  obtain ⟨y, hy⟩ := y
  unfold cfS zrd
  simp only
  generalize hc1 : Lib.compareInt (szN y) (szN x) = c1
  generalize hc2 : Lib.compareInt (x : Int) (y : Int) = c2
  have H1 := Lib.hid hc1
  have H2 := Lib.hid hc2
  clear hc1 hc2
  go_enter Try.func69, Try.ntmps69
  go_wp2_with (first | (go_at_call 71; first | (refine (zvb y _ hy).mono ?_; rintro e w' ⟨rfl, rfl⟩) | (refine (zvb x _ hx).mono ?_; rintro e w' ⟨rfl, rfl⟩)) | (go_at_call 54; refine (Try.cmp_Compare_int _ _ _).mono ?_; rintro e w' ⟨rfl, rfl⟩; first | rw [H1.out] | rw [H2.out]) | (go_at_call 70; refine (or2 c1 c2 _ _ ?_ ?_).mono ?_))
  · simp
  · simp
  all_goals go_ret
  all_goals exact ⟨rfl, 0, #[_], alloc_eq_grow _ _⟩
theorem ztt (a b : Int) : Lib.compareInt a b < 0 ↔ a < b := by unfold Lib.compareInt; split <;> (try split) <;> omega
theorem zvs (a b : Int) : Lib.compareInt a b = 0 ↔ a = b := by unfold Lib.compareInt; split <;> (try split) <;> omega
theorem zvi (p r : Fin 128) : ltOf cfS p r = true ↔ (szN r.val < szN p.val ∨ (szN r.val = szN p.val ∧ p.val < r.val)) := by
  unfold ltOf cfS
  rw [decide_eq_true_iff]
  split
  · rename_i h
    have := (not_congr (zvs (szN r.val) (szN p.val))).1 h
    rw [ztt]
    omega
  · rename_i h
    have := (zvs (szN r.val) (szN p.val)).1 (by simpa using h)
    rw [ztt]
    omega
theorem zsQ (p r : Fin 128) : ltOf cfS p r = false ↔ ¬ (szN r.val < szN p.val ∨ (szN r.val = szN p.val ∧ p.val < r.val)) := by
  rw [← zvi]; simp
theorem zBz : SWO (ltOf cfS) where
  irrefl x := by rw [zsQ]; omega
  trans x y z h1 h2 := by rw [zvi] at *; omega
  ntrans x y z h1 h2 := by rw [zsQ] at *; omega
theorem zhW (a b : Int) : leI a b = true ↔ (szN b.toNat < szN a.toNat ∨ (szN a.toNat = szN b.toNat ∧ a.toNat ≤ b.toNat)) := by
  unfold leI zvy; simp
theorem zeM (x : Int) : ∀ l : List Int, (zuF x l).Perm (x :: l)
  | [] => .refl _
  | y :: l => by
    unfold zuF
    split
    · exact .refl _
    · exact ((zeM x l).cons y).trans (.swap x y l)
theorem zbZ : ∀ l : List Int, (za7 l).Perm l
  | [] => .refl _
  | x :: l => (zeM x (za7 l)).trans ((zbZ l).cons x)
theorem zeL (x : Int) : ∀ l : List Int, l.Pairwise (fun a b => leI a b = true) → (zuF x l).Pairwise (fun a b => leI a b = true)
  | [], _ => by simp [zuF]
  | y :: l, h => by
    unfold zuF
    rw [List.pairwise_cons] at h
    split
    · rename_i hxy
      refine List.pairwise_cons.2 ⟨fun z hz => ?_, List.pairwise_cons.2 h⟩
      rcases List.mem_cons.1 hz with rfl | hz
      · exact hxy
      · have := h.1 z hz
        rw [zhW] at *
        omega
    · rename_i hxy
      refine List.pairwise_cons.2 ⟨fun z hz => ?_, zeL x l h.2⟩
      rcases List.mem_cons.1 ((zeM x l).mem_iff.1 hz) with rfl | hz
      · rw [zhW] at *
        omega
      · exact h.1 z hz
theorem zck : ∀ l : List Int, (za7 l).Pairwise (fun a b => leI a b = true)
  | [] => by simp [za7]
  | x :: l => zeL x _ (zck l)
theorem z8s : ∀ {l1 l2 : List Int}, l1.Perm l2 → (∀ x ∈ l1, 0 ≤ x) → l1.Pairwise (fun a b => leI a b = true) → l2.Pairwise (fun a b => leI a b = true) → l1 = l2
  | [], l2, h, _, _, _ => by rw [List.nil_perm] at h; exact h.symm
  | a :: l1, [], h, _, _, _ => by simp at h
  | a :: l1, b :: l2, h, h0, h1, h2 => by
    have hab : a = b := by
      rcases List.mem_cons.1 (h.mem_iff.1 (List.mem_cons_self ..)) with e | ha
      · exact e
      · rcases List.mem_cons.1 (h.mem_iff.2 (List.mem_cons_self ..)) with e | hb
        · exact e.symm
        · have e1 := (List.pairwise_cons.1 h2).1 a ha
          have e2 := (List.pairwise_cons.1 h1).1 b hb
          have p1 := h0 a (List.mem_cons_self ..)
          have p2 := h0 b (h.mem_iff.2 (List.mem_cons_self ..))
          rw [zhW] at e1 e2
          omega
    subst hab
    rw [z8s (List.perm_cons a |>.1 h) (fun x hx => h0 x (List.mem_cons_of_mem _ hx)) (List.pairwise_cons.1 h1).2 (List.pairwise_cons.1 h2).2]
def toF (x : Int) : Fin 128 := ⟨x.toNat % 128, Nat.mod_lt _ (by decide)⟩
def ofF (f : Fin 128) : Int := (f.val : Int)
theorem zv9 {x : Int} (h : 0 ≤ x ∧ x < 128) : ofF (toF x) = x := by simp only [ofF, toF]; omega
def zyP (B : Nat) (K : Nat → z0b) (b : Nat) : z0b := if B ≤ b then [0] else K b
theorem zm8 {xs : List Int} (hx : ∀ x ∈ xs, 0 ≤ x ∧ x < 128) {d' : Array (Fin 128)} (hp : PermIn 0 (xs.map toF).toArray.size (xs.map toF).toArray d') (hs : SortedIn (ltOf cfS) 0 (xs.map toF).toArray.size d') : d'.toList.map ofF = za7 xs := by
  obtain ⟨h1, _, h3⟩ := hp
  have hsz : d'.size = xs.length := by simpa using h1
  have e1 : (xs.map toF).map ofF = xs := by
    rw [List.map_map]
    conv => rhs; rw [← List.map_id xs]
    exact List.map_congr_left fun x hxm => zv9 (hx x hxm)
  have hp2 : d'.toList.Perm (xs.map toF) := by
    have : (d'.extract 0 (xs.map toF).toArray.size).toList = d'.toList := by
      rw [← h1]; simp
    rw [this] at h3
    simp at h3
    rwa [List.take_of_length_le (by simp)] at h3
  have hp3 : (d'.toList.map ofF).Perm xs := by
    have := hp2.map ofF
    rwa [e1] at this
  refine z8s (hp3.trans (zbZ xs).symm) (fun x hxm => (hx x (hp3.mem_iff.1 hxm)).1) ?_ (zck xs)
  rw [List.pairwise_iff_getElem]
  intro i j hi hj hij
  simp only [List.length_map, Array.length_toList] at hi hj
  have := hs i j (by omega) hij (by simp; omega)
  rw [zsQ, getElem!_pos d' i hi, getElem!_pos d' j hj] at this
  rw [zhW]
  simp only [List.getElem_map, Array.getElem_toList, ofF, Int.toNat_natCast]
  omega
theorem znX {w : World} {g n : Nat} {os : Array Obj} {cur : Array Value} {e : TypeId} {fr : Nat × Nat} (d : Array (Fin 128)) (hb : w.heap[g]? = some (.cells cur e fr)) : (sortWorld zrd w g 0 n d os).heap[g]? = some (.cells (putCells zrd 0 d cur) e fr) := by
  unfold sortWorld
  rw [heap_grow_old _ _ (by rw [size_putRow]; exact z1Z hb)]
  simp [putRow, mapBlock, Sort.ahead, Array.getElem?_modify, hb, onCells]
theorem zhp {w : World} {g n : Nat} {os : Array Obj} (d : Array (Fin 128)) {b : Nat} (hb : b < w.heap.size) (hne : b ≠ g) : (sortWorld zrd w g 0 n d os).heap[b]? = w.heap[b]? := by
  unfold sortWorld
  rw [heap_grow_old _ _ (by rw [size_putRow]; exact hb)]
  simp [putRow, mapBlock, Sort.ahead, Array.getElem?_modify, Ne.symm hne]
theorem zub {w : World} {g n : Nat} {os : Array Obj} (d : Array (Fin 128)) : w.heap.size ≤ (sortWorld zrd w g 0 n d os).heap.size := by
  unfold sortWorld
  rw [size_grow, size_putRow]
  show w.heap.size ≤ w.heap.size + _
  omega
theorem zrh {I : World → (Nat → z0b) → Prop} : z9l Try.prog I xtC := by
  intro f args r outs h
  unfold xtC at h
  split at h
  case isFalse => cases h
  rename_i hf
  subst hf
  unfold zvz at h
  split at h
  case h_2 => cases h
  rename_i n cs f fs gs
  split at h
  case isFalse => cases h
  rename_i hfg
  obtain ⟨rfl, hfs, hgs⟩ := hfg
  simp only [Array.isEmpty_iff] at hfs hgs
  subst hfs hgs
  split at h
  case h_2 => cases h
  rename_i xs hxs
  split at h
  case isFalse => cases h
  rename_i hn
  subst hn
  unfold zld at h
  split at h
  case isFalse => cases h
  rename_i hc
  obtain ⟨hne, hlen, hall⟩ := hc
  have hx : ∀ x ∈ xs, 0 ≤ x ∧ x < 128 := by simpa using hall
  obtain ⟨rfl, rfl⟩ : T.tup [] = r ∧ [T.os 1 (za7 xs).length ((za7 xs).map fun x => .sc (.int .i64 x)), .dead] = outs := by simpa using h
  have hcs := zkK hxs
  subst hcs
  clear h hxs hall
  refine ⟨fun vals w => ?_, fun w K vals hs ha hI => ?_⟩
  · have hb : ∃ c, Try.f68.body = some c := ⟨_, rfl⟩
    obtain ⟨c, hb⟩ := hb
    have hname : Try.f68.name ≠ "runtime.NumGoroutine" := by decide
    simp [callFunc, program, Sem.run, Try.func68, hname, hb]
  · obtain ⟨v, u, rfl⟩ : ∃ v u, vals = #[v, u] := by
      obtain ⟨l⟩ := vals
      match l, hs with
      | [v, u], _ => exact ⟨v, u, rfl⟩
    have hv : TRep w K (col 0) v (.os 1 xs.length (xs.map fun x => .sc (.int .i64 x))) := ha 0 _ rfl
    have hu : TRep w K [] u (.sc (.func (.func 69) #[] #[])) := ha 1 _ rfl
    rw [hu.sc_eq]
    clear hu ha
    have hl0 : 0 < xs.length := List.length_pos_iff.2 hne
    generalize hT : T.os 1 xs.length (xs.map fun x => T.sc (.int .i64 x)) = t at hv
    cases hv with
    | nil => injection hT with _ e _; omega
    | own c g n cap size cs arr e fz F hfz hc0 hK hg hsz hl hz hn hcap hF hh =>
      injection hT with e1 e2 e3
      subst e1 e2 e3
      have hcell : ∀ j (hj : j < xs.length), arr[j]? = some (.int .i64 xs[j]) := fun j hj => by
        rw [hF j (by simpa using hj)]
        have := hh j (.sc (.int .i64 xs[j])) (by simp [hj])
        rw [this.sc_eq]
      have hH : Holds zrd w g 0 (xs.map toF).toArray := fun j hj => by
        have hj' : j < xs.length := by simpa using hj
        constructor
        · rw [Nat.zero_add, z3l hg, hcell j hj', getElem!_pos _ j hj]
          simp only [zrd, List.getElem_toArray, List.getElem_map]
          have := zv9 (hx _ (List.getElem_mem hj'))
          unfold ofF at this
          rw [this]
        · unfold World.frozen?
          rw [Nat.zero_add]
          simp only [hg]
          have := hfz j (by omega)
          obtain ⟨lo, hi⟩ := fz
          simp only at this ⊢
          simp only [Bool.and_eq_false_iff, decide_eq_false_iff_not]
          omega
      have eg : ∀ args w, (callFunc 69 args).run Try.prog w = .ok (.enter 69 args) w := enters_of Try.func69 (by kernel_rfl) rfl
      have hcmp : CmpLays1 Try.prog 69 #[] zrd cfS g 0 (xs.map toF).toArray.size w := fun m os dk _ x y => zAr x y _
      have hcon := Try.slices_SortFunc zrd (fun _ => rfl) cfS zBz 69 #[] g 0 cap (xs.map toF).toArray w eg hcmp hH (z1Z hg) (by simpa using hlen)
      have hsize : (xs.map toF).toArray.size = xs.length := by simp
      rw [hsize] at hcon
      refine hcon.mono fun e' w' ⟨he, d', m, os, hp, hso, hw⟩ => ?_
      subst hw
      have hsort := zm8 hx (by rw [hsize]; exact hp) (by rw [hsize]; exact hso)
      have hd : d'.size = xs.length := by have := hp.1; simpa using this
      have hys : (za7 xs).length = xs.length := (zbZ xs).length_eq
      refine ⟨.tuple #[], zyP w.heap.size K, he, ?_, fun i t hi hio => ?_, rfl, rfl, rfl, zub d', fun b hb hcb => ⟨by unfold zyP; rw [if_neg (by omega)], zhp d' hb ?_⟩, ?_⟩
      · exact .tup _ #[] [] (fun _ => undef) rfl (fun j hj => by simp at hj) (fun j t ht => by simp at ht)
      · match i, hi with
        | 0, hi =>
          refine ⟨_, rfl, ?_⟩
          show TRep _ _ (col 0) (.slice (some ⟨g, 0, none⟩) xs.length cap) _
          rw [← hys]
          refine .own (col 0) g _ cap 1 _ (putCells zrd 0 d' arr) e fz (fun j => .int .i64 ((za7 xs).getD j 0)) (fun i hi => hfz i (by simpa [putCells] using hi)) (by simp [col]) (by unfold zyP; rw [if_neg (by have := z1Z hg; omega)]; exact hK) (znX d' hg) (by simpa [putCells] using hsz) (by simp) (by omega) (by omega) hcap (fun j hj => ?_) (fun j t ht => ?_)
          · have hj' : j < xs.length := by simpa [hys] using hj
            have hja : j < arr.size := (Array.getElem?_eq_some_iff.1 (hcell j hj')).1
            have hjd : j < d'.size := by omega
            simp only [putCells, Array.getElem?_mapIdx, hcell j hj', Option.map_some]
            rw [if_pos (by omega), Nat.sub_zero, getElem!_pos d' j hjd]
            have : (za7 xs).getD j 0 = ofF d'[j] := by
              rw [← hsort]; simp [List.getD, hjd]
            rw [this]; rfl
          · simp only [List.getElem?_map, Option.map_eq_some_iff] at ht
            obtain ⟨x, hx', rfl⟩ := ht
            simp only [List.getD, hx']
            exact .sc _ _ rfl
        | 1, hi => cases hi; cases hio
      · rintro rfl
        rw [hK] at hcb
        simp [col] at hcb
      · intro b arr0 e0 fz0 hb0
        by_cases hbg : b = g
        · subst hbg
          rw [hg] at hb0
          cases hb0
          exact ⟨_, _, _, znX d' hg, by simp [putCells]⟩
        · exact ⟨_, _, _, (zhp d' (z1Z hb0) hbg).trans hb0, rfl⟩
    | _ => cases hT
end Go.Proofs.Ytodliknibbafeaa
end
section
namespace Go.Proofs.Ytodliknibbafeaa
structure StOk (ops : Array Oper) (t : SchT) (L : Array Bool) (d : Nat) (ns : List Nat) : Prop where
  ord : z2R .any ops true t L = true
  dep : t.depth = d
  nx : ∀ z ∈ t.nexts, z ∈ ns
structure BrOk (ops : Array Oper) (t : SchT) (L : Array Bool) (d : Nat) (ns hs : List Nat) : Prop where
  ord : z2R .any ops false t L = true
  dep : t.depth = d
  nx : ∀ z ∈ t.nexts, z ∈ ns
  hd : ∀ i ∈ hs, i ∈ t.heads
theorem za5 {ops : Array Oper} {L : Array Bool} (h : decide (Region.ready .any ops L = []) = true) : StOk ops .nil L 0 [] := ⟨by simp only [z2R, h, Bool.and_true], rfl, fun z hz => by simp [SchT.nexts] at hz⟩
theorem zBA {ops : Array Oper} {k m : Nat} {rest : SchT} {L L' : Array Bool} {d : Nat} {ns : List Nat} (h : StOk ops rest L' d ns) (hL : L.setIfInBounds k true = L')
    (hc : ((m == 0 || m == 3) && (Region.ready .any ops L).contains k && Region.free .any ops L k && !(ns.contains k) && (m == 3 || ns.all fun z => (zwC .any ops ops.size [z]).contains k)) = true) : StOk ops (.op k m rest) L (d + 1) ns := by
  simp only [Bool.and_eq_true, Bool.or_eq_true, Bool.not_eq_true', beq_iff_eq] at hc
  obtain ⟨⟨⟨⟨h1, h2⟩, h3⟩, h4⟩, h5⟩ := hc
  have hm2 : ¬ m = 2 := by omega
  have hk : k ∉ ns := by simpa using h4
  refine ⟨?_, by simp only [SchT.depth, h.dep], fun z hz => h.nx z (by simpa only [SchT.nexts, if_neg hm2] using hz)⟩
  simp only [z2R]
  rw [if_pos (by simpa using h1), hL, h.ord, h2, h3]
  have h6 : rest.nexts.contains k = false := by
    rw [Bool.eq_false_iff]
    intro hh
    exact hk (h.nx k (by simpa using hh))
  rw [h6]
  simp only [Bool.not_false, Bool.and_self, Bool.true_and, Bool.and_true, Bool.or_eq_true, beq_iff_eq]
  rcases h5 with h5 | h5
  · exact .inl h5
  · exact .inr (List.all_eq_true.2 fun z hz => List.all_eq_true.1 h5 z (h.nx z hz))
theorem zBB {ops : Array Oper} {k m : Nat} {rest : SchT} {L L' : Array Bool} {d : Nat} {ns ns' : List Nat} (h : StOk ops rest L' d ns) (hL : L.setIfInBounds k true = L')
    (hc : ((m == 1 || m == 2) && decide (Region.ready .any ops L = [k])) = true) (hn : (if m = 2 then [k] else ns) = ns') : StOk ops (.op k m rest) L (d + 1) ns' := by
  subst hn
  simp only [Bool.and_eq_true, Bool.or_eq_true, beq_iff_eq] at hc
  obtain ⟨h1, h2⟩ := hc
  refine ⟨?_, by simp only [SchT.depth, h.dep], fun z hz => ?_⟩
  · simp only [z2R]
    rw [if_neg (by omega), hL, h.ord, h2]
    simp [h1]
  · simp only [SchT.nexts] at hz
    split at hz
    · rename_i e; rw [if_pos e]; exact hz
    · rename_i e; rw [if_neg e]; exact h.nx z hz
theorem zDp {ops : Array Oper} {k m : Nat} {rest : SchT} {L L' : Array Bool} {d : Nat} {ns ns' : List Nat} (h : StOk ops rest L' d ns) (hL : L.setIfInBounds k true = L')
    (hc : ((m == 1 || m == 2) && (Region.ready .any ops L).contains k) = true) (hn : (if m = 2 then [k] else ns) = ns') : BrOk ops (.op k m rest) L (d + 1) ns' [k] := by
  subst hn
  simp only [Bool.and_eq_true, Bool.or_eq_true, beq_iff_eq] at hc
  obtain ⟨h1, h2⟩ := hc
  refine ⟨?_, by simp only [SchT.depth, h.dep], fun z hz => ?_, fun i hi => by simpa [SchT.heads] using hi⟩
  · simp only [z2R]
    rw [if_neg (by simp), hL, h.ord, h2]
    simp [h1]
  · simp only [SchT.nexts] at hz
    split at hz
    · rename_i e; rw [if_pos e]; exact hz
    · rename_i e; rw [if_neg e]; exact h.nx z hz
theorem z0a {ops : Array Oper} {a b : SchT} {L : Array Bool} {d : Nat} {n1 n2 h1 h2 : List Nat} (ha : BrOk ops a L d n1 h1) (hb : BrOk ops b L d n2 h2) : BrOk ops (.alt a b) L d (n1 ++ n2) (h1 ++ h2) := by
  refine ⟨?_, by simp only [SchT.depth, ha.dep], fun z hz => ?_, fun i hi => ?_⟩
  · simp only [z2R, ha.ord, hb.ord, ha.dep, hb.dep]; simp
  · simp only [SchT.nexts, List.mem_append] at hz ⊢
    exact hz.imp (ha.nx z) (hb.nx z)
  · simp only [SchT.heads, List.mem_append] at hi ⊢
    exact hi.imp (ha.hd i) (hb.hd i)
theorem zx6 {ops : Array Oper} {a b : SchT} {L : Array Bool} {d : Nat} {ns ns' hs : List Nat} (h : BrOk ops (.alt a b) L d ns hs) (hc : ((Region.ready .any ops L).all fun i => hs.contains i) = true) (hn : (ns.all fun z => ns'.contains z) = true) : StOk ops (.alt a b) L d ns' := by
  refine ⟨?_, h.dep, fun z hz => by simpa using List.all_eq_true.1 hn z (h.nx z hz)⟩
  have := h.ord
  simp only [z2R, Bool.and_eq_true, decide_eq_true_eq] at this ⊢
  obtain ⟨⟨⟨h1, h2⟩, h3⟩, h4⟩ := this
  refine ⟨⟨⟨?_, h2⟩, h3⟩, h4⟩
  simp only [Bool.not_true, Bool.false_or, decide_eq_true_eq]
  intro i hi
  have := List.all_eq_true.1 hc i hi
  exact h.hd i (by simpa using this)
def zf6 : Nat → Nat → List Bool
  | 0, _ => []
  | n + 1, k => (k % 2 == 1) :: zf6 n (k / 2)
def mB (n k : Nat) : Array Bool := ⟨zf6 n k⟩
theorem zol : ∀ n k, (zf6 n k).length = n
  | 0, _ => rfl
  | n + 1, k => by simp [zf6, zol n]
theorem zik : ∀ n k i (h : i < (zf6 n k).length), (zf6 n k)[i] = k.testBit i
  | 0, k, i, h => by simp [zf6] at h
  | n + 1, k, 0, h => by simp only [zf6, List.getElem_cons_zero, Nat.testBit_zero]; rfl
  | n + 1, k, i + 1, h => by
    simp only [zf6, List.getElem_cons_succ]
    rw [zik n (k / 2) i, Nat.testBit_succ]
theorem zsg {n a k : Nat} : (mB n a).setIfInBounds k true = mB n (a ||| 2 ^ k) := by
  apply Array.ext
  · simp [mB, zol]
  · intro i h1 h2
    have e1 : i < (zf6 n a).length := by simpa [mB] using h1
    have e2 : i < (zf6 n (a ||| 2 ^ k)).length := by simpa [mB] using h2
    have b1 := zik n a i e1
    have b2 := zik n (a ||| 2 ^ k) i e2
    rw [Array.getElem_setIfInBounds]
    simp only [mB, List.getElem_toArray] at b1 b2 ⊢
    rw [b1, b2, Nat.testBit_or, Nat.testBit_two_pow]
    · by_cases h : k = i
      · simp [h]
      · simp [h]
    · simpa [mB] using e1
theorem sq {ops : Array Oper} {k m n a : Nat} {rest : SchT} {d : Nat} {ns : List Nat} (h : StOk ops rest (mB n (a ||| 2 ^ k)) d ns)
    (hc : ((m == 0 || m == 3) && (Region.ready .any ops (mB n a)).contains k && Region.free .any ops (mB n a) k && !(ns.contains k) && (m == 3 || ns.all fun z => (zwC .any ops ops.size [z]).contains k)) = true := by kernel_rfl) : StOk ops (.op k m rest) (mB n a) (d + 1) ns := zBA h zsg hc
theorem se {ops : Array Oper} {k m n a : Nat} {rest : SchT} {d : Nat} {ns ns' : List Nat} (h : StOk ops rest (mB n (a ||| 2 ^ k)) d ns)
    (hc : ((m == 1 || m == 2) && decide (Region.ready .any ops (mB n a) = [k])) = true := by kernel_rfl) (hn : (if m = 2 then [k] else ns) = ns' := by rfl) : StOk ops (.op k m rest) (mB n a) (d + 1) ns' := zBB h zsg hc hn
theorem be {ops : Array Oper} {k m n a : Nat} {rest : SchT} {d : Nat} {ns ns' : List Nat} (h : StOk ops rest (mB n (a ||| 2 ^ k)) d ns)
    (hc : ((m == 1 || m == 2) && (Region.ready .any ops (mB n a)).contains k) = true := by kernel_rfl) (hn : (if m = 2 then [k] else ns) = ns' := by rfl) : BrOk ops (.op k m rest) (mB n a) (d + 1) ns' [k] := zDp h zsg hc hn
theorem sa {ops : Array Oper} {a b : SchT} {L : Array Bool} {d : Nat} {ns ns' hs : List Nat} (h : BrOk ops (.alt a b) L d ns hs) (hc : ((Region.ready .any ops L).all fun i => hs.contains i) = true := by kernel_rfl) (hn : (ns.all fun z => ns'.contains z) = true := by rfl) : StOk ops (.alt a b) L d ns' := zx6 h hc hn
def zmj (cf : Cfg) (sk : Nat → Bool) : Code → Bool
  | .region id ops draw => sk id || (!draw || (match cf.dt id with | some t => z8Z ops t | none => (match cf.dr id with | some sch => zsH ops sch | none => true)))
  | .seq a b => zmj cf sk a && zmj cf sk b
  | .cond _ x y => zmj cf sk x && zmj cf sk y
  | .block _ c => zmj cf sk c
  | .loop c => zmj cf sk c
  | .scope c => zmj cf sk c
  | _ => true
def z3J (i : Nat) : Code → List (Array Oper)
  | .region id ops _ => if Nat.beq id i then [ops] else []
  | .seq a b => z3J i a ++ z3J i b
  | .cond _ x y => z3J i x ++ z3J i y
  | .block _ c => z3J i c
  | .loop c => z3J i c
  | .scope c => z3J i c
  | _ => []
noncomputable def z8W (i : Nat) (c : Code) : Array Oper := match z3J i c with | x :: _ => x | [] => #[]
theorem zcn {cf : Cfg} {sk : Nat → Bool} : ∀ (c : Code), zmj cf sk c = true → (∀ i, sk i = true → ∃ t, cf.dt i = some t ∧ ∀ o ∈ z3J i c, z8Z o t = true) → okC cf c = true
  | .region id ops draw, h, hs => by
    simp only [zmj, Bool.or_eq_true] at h
    simp only [okC, Bool.or_eq_true]
    rcases h with h | h
    · right
      obtain ⟨t, h1, h2⟩ := hs id h
      rw [h1]
      exact h2 ops (by simp [z3J])
    · exact h
  | .seq a b, h, hs => by
    simp only [zmj, Bool.and_eq_true] at h
    simp only [okC, Bool.and_eq_true]
    exact ⟨zcn a h.1 fun i hi => by obtain ⟨t, h1, h2⟩ := hs i hi; exact ⟨t, h1, fun o ho => h2 o (by simp only [z3J, List.mem_append]; exact .inl ho)⟩,
      zcn b h.2 fun i hi => by obtain ⟨t, h1, h2⟩ := hs i hi; exact ⟨t, h1, fun o ho => h2 o (by simp only [z3J, List.mem_append]; exact .inr ho)⟩⟩
  | .cond _ a b, h, hs => by
    simp only [zmj, Bool.and_eq_true] at h
    simp only [okC, Bool.and_eq_true]
    exact ⟨zcn a h.1 fun i hi => by obtain ⟨t, h1, h2⟩ := hs i hi; exact ⟨t, h1, fun o ho => h2 o (by simp only [z3J, List.mem_append]; exact .inl ho)⟩,
      zcn b h.2 fun i hi => by obtain ⟨t, h1, h2⟩ := hs i hi; exact ⟨t, h1, fun o ho => h2 o (by simp only [z3J, List.mem_append]; exact .inr ho)⟩⟩
  | .block _ c, h, hs => by simp only [okC]; exact zcn c (by simpa only [zmj] using h) (by simpa only [z3J] using hs)
  | .loop c, h, hs => by simp only [okC]; exact zcn c (by simpa only [zmj] using h) (by simpa only [z3J] using hs)
  | .scope c, h, hs => by simp only [okC]; exact zcn c (by simpa only [zmj] using h) (by simpa only [z3J] using hs)
  | .skip, _, _ => rfl
  | .label .., _, _ => rfl
  | .exit .., _, _ => rfl
  | .ret, _, _ => rfl
  | .rangeFunc .., _, _ => rfl
  | .goto _, _, _ => rfl
  | .refuse _, _, _ => rfl
theorem z6u {c : Code} {i : Nat} {t : SchT} {n : Nat} {ns : List Nat} {L : Array Bool} (hr : (z3J i c).length = 1) (hs : StOk (z8W i c) t L n ns) (hL : L = Array.replicate (z8W i c).toList.length false) (hd : (decide (n = (z8W i c).toList.length) && Region.noSelect (z8W i c)) = true) : ∀ o ∈ z3J i c, z8Z o t = true := by
  intro o ho
  obtain ⟨x, hx⟩ : ∃ x, z3J i c = [x] := List.length_eq_one_iff.1 hr
  have e : z8W i c = x := by unfold z8W; rw [hx]
  rw [hx] at ho
  obtain rfl : o = x := by simpa using ho
  rw [e] at hs hL hd
  subst hL
  simp only [Bool.and_eq_true, decide_eq_true_eq] at hd
  unfold z8Z
  simp only [Bool.and_eq_true, decide_eq_true_eq]
  exact ⟨⟨hs.dep.trans hd.1, hd.2⟩, hs.ord⟩
theorem z8Y {P : Program} {f : FuncId} {cf : Cfg} {fn : Func} {c : Code} (l : List Nat) (hf : P.funcs[f]? = some fn) (hb : fn.body = some c) (hn : (fn.name != "runtime.NumGoroutine") = true) (h2 : zmj cf l.contains c = true)
    (ht : ∀ i ∈ l, ∃ t, cf.dt i = some t ∧ ∀ o ∈ z3J i c, z8Z o t = true) : z2s P f cf = true := by
  unfold z2s
  simp only [hf, hb, hn, Bool.true_and]
  exact zcn c h2 fun j hj => ht j (by simpa using hj)
end Go.Proofs.Ytodliknibbafeaa
end
section
namespace Go.Proofs.Ytodliknibbafeaa
open Go
set_option maxRecDepth 100000
theorem zCI : z2s Try.prog 3 cf3 = true := by kernel_rfl
theorem zCH : z2s Try.prog 4 cf4 = true := by kernel_rfl
noncomputable abbrev z0L : Array Oper := (z8W 11 cd5)
theorem zoN : StOk z0L ziL (mB 17 131071) 0 [] := za5 (by kernel_rfl)
theorem zoO : StOk z0L ziM (mB 17 65535) 1 [16] := se zoN
theorem zoP : StOk z0L ziN (mB 17 32767) 2 [16] := sq zoO
theorem zoQ : StOk z0L ziO (mB 17 16383) 3 [14] := se zoP
theorem zoR : StOk z0L ziP (mB 17 8191) 4 [14] := sq zoQ
theorem zoS : StOk z0L ziQ (mB 17 4095) 5 [12] := se zoR
theorem zfK : StOk z0L zd7 (mB 17 3071) 6 [12] := se zoS
theorem zfL : StOk z0L zd8 (mB 17 2943) 7 [7] := se zfK
theorem zoT : StOk z0L ziR (mB 17 1023) 7 [12] := sq zfK
theorem zoU : StOk z0L ziS (mB 17 2927) 8 [7] := se zfL
theorem zaO : StOk z0L z9J (mB 17 895) 8 [7] := sq zfL
theorem zoV : StOk z0L ziT (mB 17 511) 8 [12] := se zoT
theorem z7E : StOk z0L z6P (mB 17 887) 9 [3] := se zaO
theorem zaP : StOk z0L z9K (mB 17 879) 9 [7] := sq zoU
theorem zaQ : StOk z0L z9L (mB 17 831) 9 [7] := se zaO
theorem zaR : StOk z0L z9M (mB 17 383) 9 [7] := sa (z0a (be zoV) (be zaO))
theorem zaS : StOk z0L z9N (mB 17 886) 10 [3] := se z7E
theorem zaT : StOk z0L z9O (mB 17 871) 10 [3] := sa (z0a (be zaP) (be z7E))
theorem zaU : StOk z0L z9P (mB 17 823) 10 [3] := sa (z0a (be zaQ) (be z7E))
theorem zaV : StOk z0L z9Q (mB 17 375) 10 [3] := sa (z0a (be zaR) (be z7E))
theorem zfM : StOk z0L zd9 (mB 17 815) 10 [7] := sa (z0a (be zaQ) (be zaP))
theorem zfN : StOk z0L zda (mB 17 367) 10 [7] := sa (z0a (be zaR) (be zaP))
theorem zfO : StOk z0L zdb (mB 17 319) 10 [7] := sa (z0a (be zaR) (be zaQ))
theorem zfP : StOk z0L zdc (mB 17 870) 11 [3] := sa (z0a (be zaT) (be zaS))
theorem zfQ : StOk z0L zdd (mB 17 822) 11 [3] := sa (z0a (be zaU) (be zaS))
theorem zfR : StOk z0L zde (mB 17 374) 11 [3] := sa (z0a (be zaV) (be zaS))
theorem zfS : StOk z0L zdf (mB 17 807) 11 [3] := sa (z0a (be zfM) (z0a (be zaU) (be zaT)))
theorem zfT : StOk z0L zdg (mB 17 359) 11 [3] := sa (z0a (be zfN) (z0a (be zaV) (be zaT)))
theorem zfU : StOk z0L zdh (mB 17 311) 11 [3] := sa (z0a (be zfO) (z0a (be zaV) (be zaU)))
theorem zrA : StOk z0L zn6 (mB 17 303) 11 [7] := sa (z0a (be zfO) (z0a (be zfN) (be zfM)))
theorem zrB : StOk z0L zn7 (mB 17 806) 12 [3] := sa (z0a (be zfS) (z0a (be zfQ) (be zfP)))
theorem zrC : StOk z0L zn8 (mB 17 358) 12 [3] := sa (z0a (be zfT) (z0a (be zfR) (be zfP)))
theorem zrD : StOk z0L zn9 (mB 17 310) 12 [3] := sa (z0a (be zfU) (z0a (be zfR) (be zfQ)))
theorem zrE : StOk z0L zna (mB 17 295) 12 [3] := sa (z0a (be zrA) (z0a (be zfU) (z0a (be zfT) (be zfS))))
theorem zrF : StOk z0L znb (mB 17 294) 13 [3] := sa (z0a (be zrE) (z0a (be zrD) (z0a (be zrC) (be zrB))))
theorem zrG : StOk z0L znc (mB 17 38) 14 [3] := sq zrF
theorem zrH : StOk z0L znd (mB 17 6) 15 [3] := sq zrG
theorem zrI : StOk z0L zne (mB 17 2) 16 [3] := sq zrH
theorem zrJ : StOk z0L znf (mB 17 0) 17 [3] := sq zrI
noncomputable abbrev z0h : Array Oper := (z8W 21 cd5)
theorem zoA : StOk z0h ziy (mB 20 1048575) 0 [] := za5 (by kernel_rfl)
theorem zoB : StOk z0h ziz (mB 20 524287) 1 [19] := se zoA
theorem zoC : StOk z0h ziA (mB 20 262143) 2 [19] := sq zoB
theorem zoD : StOk z0h ziB (mB 20 131071) 3 [17] := se zoC
theorem zfq : StOk z0h zcN (mB 20 98303) 4 [15] := se zoD
theorem zfr : StOk z0h zcO (mB 20 81919) 5 [15] := se zfq
theorem zoE : StOk z0h ziC (mB 20 32767) 5 [15] := sq zfq
theorem zoF : StOk z0h ziD (mB 20 32255) 6 [15] := se zoE
theorem zfs : StOk z0h zcP (mB 20 73727) 6 [13] := se zfr
theorem zoG : StOk z0h ziE (mB 20 16383) 6 [15] := sq zfr
theorem zoH : StOk z0h ziF (mB 20 15871) 7 [15] := sa (z0a (be zoG) (be zoF))
theorem zoI : StOk z0h ziG (mB 20 72703) 7 [13] := se zfs
theorem zau : StOk z0h z9p (mB 20 8191) 7 [13] := sq zfs
theorem z5Q : StOk z0h z5S (mB 20 8063) 8 [7] := se zau
theorem zav : StOk z0h z9q (mB 20 7679) 8 [13] := sa (z0a (be zau) (be zoH))
theorem zaw : StOk z0h z9r (mB 20 7167) 8 [13] := sq zoI
theorem zax : StOk z0h z9s (mB 20 4095) 8 [13] := se zau
theorem z7v : StOk z0h z6G (mB 20 8061) 9 [7] := se z5Q
theorem z5R : StOk z0h z5T (mB 20 7999) 9 [7] := se z5Q
theorem z7w : StOk z0h z6H (mB 20 7551) 9 [7] := sa (z0a (be zav) (be z5Q))
theorem z7x : StOk z0h z6I (mB 20 7039) 9 [7] := sa (z0a (be zaw) (be z5Q))
theorem z7y : StOk z0h z6J (mB 20 3967) 9 [7] := sa (z0a (be zax) (be z5Q))
theorem zft : StOk z0h zcQ (mB 20 6655) 9 [13] := sa (z0a (be zaw) (be zav))
theorem zfu : StOk z0h zcR (mB 20 3583) 9 [13] := sa (z0a (be zax) (be zav))
theorem zfv : StOk z0h zcS (mB 20 3071) 9 [13] := sa (z0a (be zax) (be zaw))
theorem z7z : StOk z0h z6K (mB 20 7997) 10 [7] := sa (z0a (be z5R) (be z7v))
theorem zay : StOk z0h z9t (mB 20 7549) 10 [7] := sa (z0a (be z7w) (be z7v))
theorem zaz : StOk z0h z9u (mB 20 7037) 10 [7] := sa (z0a (be z7x) (be z7v))
theorem zaA : StOk z0h z9v (mB 20 3965) 10 [7] := sa (z0a (be z7y) (be z7v))
theorem z7A : StOk z0h z6L (mB 20 7967) 10 [5] := se z5R
theorem z7B : StOk z0h z6M (mB 20 7487) 10 [7] := sa (z0a (be z7w) (be z5R))
theorem z7C : StOk z0h z6N (mB 20 6975) 10 [7] := sa (z0a (be z7x) (be z5R))
theorem z7D : StOk z0h z6O (mB 20 3903) 10 [7] := sa (z0a (be z7y) (be z5R))
theorem zaB : StOk z0h z9w (mB 20 6527) 10 [7] := sa (z0a (be zft) (z0a (be z7x) (be z7w)))
theorem zaC : StOk z0h z9x (mB 20 3455) 10 [7] := sa (z0a (be zfu) (z0a (be z7y) (be z7w)))
theorem zaD : StOk z0h z9y (mB 20 2943) 10 [7] := sa (z0a (be zfv) (z0a (be z7y) (be z7x)))
theorem zoJ : StOk z0h ziH (mB 20 2559) 10 [13] := sa (z0a (be zfv) (z0a (be zfu) (be zft)))
theorem zaE : StOk z0h z9z (mB 20 7965) 11 [5] := sa (z0a (be z7A) (be z7z))
theorem zaF : StOk z0h z9A (mB 20 7485) 11 [7] := sa (z0a (be z7B) (z0a (be zay) (be z7z)))
theorem zaG : StOk z0h z9B (mB 20 6973) 11 [7] := sa (z0a (be z7C) (z0a (be zaz) (be z7z)))
theorem zaH : StOk z0h z9C (mB 20 3901) 11 [7] := sa (z0a (be z7D) (z0a (be zaA) (be z7z)))
theorem zfw : StOk z0h zcT (mB 20 6525) 11 [7] := sa (z0a (be zaB) (z0a (be zaz) (be zay)))
theorem zfx : StOk z0h zcU (mB 20 3453) 11 [7] := sa (z0a (be zaC) (z0a (be zaA) (be zay)))
theorem zfy : StOk z0h zcV (mB 20 2941) 11 [7] := sa (z0a (be zaD) (z0a (be zaA) (be zaz)))
theorem zaI : StOk z0h z9D (mB 20 7455) 11 [5] := sa (z0a (be z7B) (be z7A))
theorem zaJ : StOk z0h z9E (mB 20 6943) 11 [5] := sa (z0a (be z7C) (be z7A))
theorem zaK : StOk z0h z9F (mB 20 3871) 11 [5] := sa (z0a (be z7D) (be z7A))
theorem zaL : StOk z0h z9G (mB 20 6463) 11 [7] := sa (z0a (be zaB) (z0a (be z7C) (be z7B)))
theorem zaM : StOk z0h z9H (mB 20 3391) 11 [7] := sa (z0a (be zaC) (z0a (be z7D) (be z7B)))
theorem zaN : StOk z0h z9I (mB 20 2879) 11 [7] := sa (z0a (be zaD) (z0a (be z7D) (be z7C)))
theorem zfz : StOk z0h zcW (mB 20 2431) 11 [7] := sa (z0a (be zoJ) (z0a (be zaD) (z0a (be zaC) (be zaB))))
theorem zfA : StOk z0h zcX (mB 20 7453) 12 [5] := sa (z0a (be zaI) (z0a (be zaF) (be zaE)))
theorem zfB : StOk z0h zcY (mB 20 6941) 12 [5] := sa (z0a (be zaJ) (z0a (be zaG) (be zaE)))
theorem zfC : StOk z0h zcZ (mB 20 3869) 12 [5] := sa (z0a (be zaK) (z0a (be zaH) (be zaE)))
theorem zfD : StOk z0h zd0 (mB 20 6461) 12 [7] := sa (z0a (be zaL) (z0a (be zfw) (z0a (be zaG) (be zaF))))
theorem zfE : StOk z0h zd1 (mB 20 3389) 12 [7] := sa (z0a (be zaM) (z0a (be zfx) (z0a (be zaH) (be zaF))))
theorem zfF : StOk z0h zd2 (mB 20 2877) 12 [7] := sa (z0a (be zaN) (z0a (be zfy) (z0a (be zaH) (be zaG))))
theorem zoK : StOk z0h ziI (mB 20 2429) 12 [7] := sa (z0a (be zfz) (z0a (be zfy) (z0a (be zfx) (be zfw))))
theorem zfG : StOk z0h zd3 (mB 20 6431) 12 [5] := sa (z0a (be zaL) (z0a (be zaJ) (be zaI)))
theorem zfH : StOk z0h zd4 (mB 20 3359) 12 [5] := sa (z0a (be zaM) (z0a (be zaK) (be zaI)))
theorem zfI : StOk z0h zd5 (mB 20 2847) 12 [5] := sa (z0a (be zaN) (z0a (be zaK) (be zaJ)))
theorem zfJ : StOk z0h zd6 (mB 20 2367) 12 [7] := sa (z0a (be zfz) (z0a (be zaN) (z0a (be zaM) (be zaL))))
theorem zoL : StOk z0h ziJ (mB 20 6429) 13 [5] := sa (z0a (be zfG) (z0a (be zfD) (z0a (be zfB) (be zfA))))
theorem zoM : StOk z0h ziK (mB 20 3357) 13 [5] := sa (z0a (be zfH) (z0a (be zfE) (z0a (be zfC) (be zfA))))
theorem zrq : StOk z0h zmW (mB 20 2845) 13 [5] := sa (z0a (be zfI) (z0a (be zfF) (z0a (be zfC) (be zfB))))
theorem zrr : StOk z0h zmX (mB 20 2365) 13 [7] := sa (z0a (be zfJ) (z0a (be zoK) (z0a (be zfF) (z0a (be zfE) (be zfD)))))
theorem zrs : StOk z0h zmY (mB 20 2335) 13 [5] := sa (z0a (be zfJ) (z0a (be zfI) (z0a (be zfH) (be zfG))))
theorem zrt : StOk z0h zmZ (mB 20 2333) 14 [5] := sa (z0a (be zrs) (z0a (be zrr) (z0a (be zrq) (z0a (be zoM) (be zoL)))))
theorem zru : StOk z0h zn0 (mB 20 285) 15 [5] := sq zrt
theorem zrv : StOk z0h zn1 (mB 20 29) 16 [5] := sq zru
theorem zrw : StOk z0h zn2 (mB 20 13) 17 [5] := sq zrv
theorem zrx : StOk z0h zn3 (mB 20 5) 18 [5] := sq zrw
theorem zry : StOk z0h zn4 (mB 20 1) 19 [5] := sq zrx
theorem zrz : StOk z0h zn5 (mB 20 0) 20 [5] := sq zry
set_option maxHeartbeats 0 in
theorem zCG : z2s Try.prog 5 cf5 = true := z8Y [11, 21] fn5 bd5 rfl (by kernel_rfl) (by simp only [List.forall_mem_cons]; exact ⟨⟨_, rfl, z6u (by kernel_rfl) zrJ (by kernel_rfl) (by kernel_rfl)⟩, ⟨_, rfl, z6u (by kernel_rfl) zrz (by kernel_rfl) (by kernel_rfl)⟩, fun _ h => by cases h⟩)
theorem zCF : z2s Try.prog 6 cf6 = true := by kernel_rfl
theorem zCE : z2s Try.prog 7 cf7 = true := by kernel_rfl
theorem zCD : z2s Try.prog 8 cf8 = true := by kernel_rfl
theorem zCC : z2s Try.prog 9 cf9 = true := by kernel_rfl
noncomputable abbrev z1l : Array Oper := (z8W 51 zBp)
theorem zm1 : StOk z1l zh2 (mB 14 16383) 0 [] := za5 (by kernel_rfl)
theorem zm2 : StOk z1l zh3 (mB 14 8191) 1 [13] := se zm1
theorem zm3 : StOk z1l zh4 (mB 14 4095) 2 [13] := sq zm2
theorem zm4 : StOk z1l zh5 (mB 14 2047) 3 [11] := se zm3
theorem zek : StOk z1l zbQ (mB 14 1535) 4 [9] := se zm4
theorem zm5 : StOk z1l zh6 (mB 14 1279) 5 [9] := se zek
theorem zel : StOk z1l zbR (mB 14 511) 5 [9] := sq zek
theorem z8S : StOk z1l z8b (mB 14 495) 6 [4] := se zel
theorem zem : StOk z1l zbS (mB 14 447) 6 [9] := se zel
theorem zen : StOk z1l zbT (mB 14 255) 6 [9] := sq zm5
theorem zeo : StOk z1l zbU (mB 14 487) 7 [4] := se z8S
theorem zep : StOk z1l zbV (mB 14 431) 7 [4] := sa (z0a (be zem) (be z8S))
theorem zeq : StOk z1l zbW (mB 14 239) 7 [4] := sa (z0a (be zen) (be z8S))
theorem zq3 : StOk z1l zk1 (mB 14 191) 7 [9] := sa (z0a (be zen) (be zem))
theorem zq4 : StOk z1l zk2 (mB 14 423) 8 [4] := sa (z0a (be zep) (be zeo))
theorem zq5 : StOk z1l zk3 (mB 14 231) 8 [4] := sa (z0a (be zeq) (be zeo))
theorem zq6 : StOk z1l zk4 (mB 14 175) 8 [4] := sa (z0a (be zq3) (z0a (be zeq) (be zep)))
theorem zq7 : StOk z1l zk5 (mB 14 167) 9 [4] := sa (z0a (be zq6) (z0a (be zq5) (be zq4)))
theorem zq8 : StOk z1l zk6 (mB 14 39) 10 [4] := sq zq7
theorem zq9 : StOk z1l zk7 (mB 14 7) 11 [4] := sq zq8
theorem zqa : StOk z1l zk8 (mB 14 3) 12 [4] := sq zq9
theorem zqb : StOk z1l zk9 (mB 14 1) 13 [4] := sq zqa
theorem zqc : StOk z1l zka (mB 14 0) 14 [4] := sq zqb
set_option maxHeartbeats 0 in
theorem zAq : z2s Try.prog 10 cf10 = true := z8Y [51] zCB zE1 rfl (by kernel_rfl) (by simp only [List.forall_mem_cons]; exact ⟨⟨_, rfl, z6u (by kernel_rfl) zqc (by kernel_rfl) (by kernel_rfl)⟩, fun _ h => by cases h⟩)
theorem zAp : z2s Try.prog 11 cf11 = true := by kernel_rfl
theorem zAo : z2s Try.prog 12 cf12 = true := by kernel_rfl
theorem zAn : z2s Try.prog 13 cf13 = true := by kernel_rfl
theorem zAm : z2s Try.prog 14 cf14 = true := by kernel_rfl
theorem zAl : z2s Try.prog 15 cf15 = true := by kernel_rfl
theorem zAk : z2s Try.prog 16 cf16 = true := by kernel_rfl
theorem zAj : z2s Try.prog 17 cf17 = true := by kernel_rfl
theorem zAi : z2s Try.prog 18 cf18 = true := by kernel_rfl
theorem zAh : z2s Try.prog 19 cf19 = true := by kernel_rfl
theorem zAg : z2s Try.prog 20 cf20 = true := by kernel_rfl
noncomputable abbrev z0m : Array Oper := (z8W 7 zBo)
theorem zpK : StOk z0m zjI (mB 17 131071) 0 [] := za5 (by kernel_rfl)
theorem zpL : StOk z0m zjJ (mB 17 65535) 1 [16] := se zpK
theorem zpM : StOk z0m zjK (mB 17 32767) 2 [16] := sq zpL
theorem zpN : StOk z0m zjL (mB 17 16383) 3 [14] := se zpM
theorem zgI : StOk z0m ze0 (mB 17 12287) 4 [12] := se zpN
theorem zgJ : StOk z0m ze1 (mB 17 10239) 5 [12] := se zgI
theorem zgK : StOk z0m ze2 (mB 17 4095) 5 [12] := sq zgI
theorem z7X : StOk z0m z6Q (mB 17 4031) 6 [6] := se zgK
theorem zgL : StOk z0m ze3 (mB 17 3839) 6 [8] := se zgK
theorem zpO : StOk z0m zjM (mB 17 9215) 6 [12] := se zgJ
theorem zgM : StOk z0m ze4 (mB 17 2047) 6 [12] := sq zgJ
theorem zbE : StOk z0m z9R (mB 17 4029) 7 [1] := se z7X
theorem z7Y : StOk z0m z6R (mB 17 3999) 7 [6] := se z7X
theorem zbF : StOk z0m z9S (mB 17 3775) 7 [6, 8] := sa (z0a (be zgL) (be z7X))
theorem z7Z : StOk z0m z6S (mB 17 1983) 7 [6] := sa (z0a (be zgM) (be z7X))
theorem zgN : StOk z0m ze5 (mB 17 1791) 7 [8] := sa (z0a (be zgM) (be zgL))
theorem zgO : StOk z0m ze6 (mB 17 1023) 7 [12] := sq zpO
theorem zbG : StOk z0m z9T (mB 17 3997) 8 [1] := sa (z0a (be z7Y) (be zbE))
theorem zgP : StOk z0m ze7 (mB 17 3773) 8 [1, 8] := sa (z0a (be zbF) (be zbE))
theorem zbH : StOk z0m z9U (mB 17 1981) 8 [1] := sa (z0a (be z7Z) (be zbE))
theorem zpP : StOk z0m zjN (mB 17 3983) 8 [6] := sq z7Y
theorem zbI : StOk z0m z9V (mB 17 3743) 8 [6, 8] := sa (z0a (be zbF) (be z7Y))
theorem z8a : StOk z0m z6T (mB 17 1951) 8 [6] := sa (z0a (be z7Z) (be z7Y))
theorem zbJ : StOk z0m z9W (mB 17 1727) 8 [6, 8] := sa (z0a (be zgN) (z0a (be z7Z) (be zbF)))
theorem zbK : StOk z0m z9X (mB 17 959) 8 [6] := sa (z0a (be zgO) (be z7Z))
theorem zpQ : StOk z0m zjO (mB 17 767) 8 [8] := sa (z0a (be zgO) (be zgN))
theorem zpR : StOk z0m zjP (mB 17 3981) 9 [1] := sq zbG
theorem zgQ : StOk z0m ze8 (mB 17 3741) 9 [1, 8] := sa (z0a (be zbI) (z0a (be zgP) (be zbG)))
theorem zbL : StOk z0m z9Y (mB 17 1949) 9 [1] := sa (z0a (be z8a) (z0a (be zbH) (be zbG)))
theorem zgR : StOk z0m ze9 (mB 17 1725) 9 [1, 8] := sa (z0a (be zbJ) (z0a (be zbH) (be zgP)))
theorem zgS : StOk z0m zea (mB 17 957) 9 [1] := sa (z0a (be zbK) (be zbH))
theorem zbM : StOk z0m z9Z (mB 17 3975) 9 [6] := se zpP
theorem zpS : StOk z0m zjQ (mB 17 3727) 9 [6, 8] := sq zbI
theorem zpT : StOk z0m zjR (mB 17 1935) 9 [6] := sq z8a
theorem zbN : StOk z0m za0 (mB 17 1695) 9 [6, 8] := sa (z0a (be zbJ) (z0a (be z8a) (be zbI)))
theorem zbO : StOk z0m za1 (mB 17 927) 9 [6] := sa (z0a (be zbK) (be z8a))
theorem zgT : StOk z0m zeb (mB 17 703) 9 [6, 8] := sa (z0a (be zpQ) (z0a (be zbK) (be zbJ)))
theorem zgU : StOk z0m zec (mB 17 3973) 10 [1] := sa (z0a (be zbM) (be zpR))
theorem zpU : StOk z0m zjS (mB 17 3725) 10 [1, 8] := sq zgQ
theorem zpV : StOk z0m zjT (mB 17 1933) 10 [1] := sq zbL
theorem zgV : StOk z0m zed (mB 17 1693) 10 [1, 8] := sa (z0a (be zbN) (z0a (be zgR) (z0a (be zbL) (be zgQ))))
theorem zgW : StOk z0m zee (mB 17 925) 10 [1] := sa (z0a (be zbO) (z0a (be zgS) (be zbL)))
theorem zpW : StOk z0m zjU (mB 17 701) 10 [1, 8] := sa (z0a (be zgT) (z0a (be zgS) (be zgR)))
theorem zgX : StOk z0m zef (mB 17 3719) 10 [6, 8] := sa (z0a (be zpS) (be zbM))
theorem zbP : StOk z0m za2 (mB 17 1927) 10 [6] := sa (z0a (be zpT) (be zbM))
theorem zpX : StOk z0m zjV (mB 17 1679) 10 [6, 8] := sq zbN
theorem zpY : StOk z0m zjW (mB 17 911) 10 [6] := sq zbO
theorem zgY : StOk z0m zeg (mB 17 671) 10 [6, 8] := sa (z0a (be zgT) (z0a (be zbO) (be zbN)))
theorem zpZ : StOk z0m zjX (mB 17 3717) 11 [1, 8] := sa (z0a (be zgX) (z0a (be zpU) (be zgU)))
theorem zgZ : StOk z0m zeh (mB 17 1925) 11 [1] := sa (z0a (be zbP) (z0a (be zpV) (be zgU)))
theorem zq0 : StOk z0m zjY (mB 17 1677) 11 [1, 8] := sq zgV
theorem zq1 : StOk z0m zjZ (mB 17 909) 11 [1] := sq zgW
theorem zq2 : StOk z0m zk0 (mB 17 669) 11 [1, 8] := sa (z0a (be zgY) (z0a (be zpW) (z0a (be zgW) (be zgV))))
theorem zh0 : StOk z0m zei (mB 17 1671) 11 [6, 8] := sa (z0a (be zpX) (z0a (be zbP) (be zgX)))
theorem zh1 : StOk z0m zej (mB 17 903) 11 [6] := sa (z0a (be zpY) (be zbP))
theorem zrK : StOk z0m zng (mB 17 655) 11 [6, 8] := sq zgY
theorem zrL : StOk z0m znh (mB 17 1669) 12 [1, 8] := sa (z0a (be zh0) (z0a (be zq0) (z0a (be zgZ) (be zpZ))))
theorem zrM : StOk z0m zni (mB 17 901) 12 [1] := sa (z0a (be zh1) (z0a (be zq1) (be zgZ)))
theorem zrN : StOk z0m znj (mB 17 653) 12 [1, 8] := sq zq2
theorem zrO : StOk z0m znk (mB 17 647) 12 [6, 8] := sa (z0a (be zrK) (z0a (be zh1) (be zh0)))
theorem zrP : StOk z0m znl (mB 17 645) 13 [1, 8] := sa (z0a (be zrO) (z0a (be zrN) (z0a (be zrM) (be zrL))))
theorem zrQ : StOk z0m znm (mB 17 133) 14 [1, 8] := sq zrP
theorem zrR : StOk z0m znn (mB 17 5) 15 [1, 8] := sq zrQ
theorem zrS : StOk z0m zno (mB 17 1) 16 [1, 8] := sq zrR
theorem zrT : StOk z0m znp (mB 17 0) 17 [1, 8] := sq zrS
set_option maxHeartbeats 0 in
theorem zAf : z2s Try.prog 21 cf21 = true := z8Y [7] zCw zDW rfl (by kernel_rfl) (by simp only [List.forall_mem_cons]; exact ⟨⟨_, rfl, z6u (by kernel_rfl) zrT (by kernel_rfl) (by kernel_rfl)⟩, fun _ h => by cases h⟩)
theorem zAe : z2s Try.prog 22 cf22 = true := by kernel_rfl
theorem zAd : z2s Try.prog 23 cf23 = true := by kernel_rfl
noncomputable abbrev z0s : Array Oper := (z8W 10 zBn)
theorem zlW : StOk z0s zgD (mB 14 16383) 0 [] := za5 (by kernel_rfl)
theorem zdP : StOk z0s zbt (mB 14 8191) 1 [13] := se zlW
theorem z6n : StOk z0s z5V (mB 14 6143) 2 [13] := sq zdP
theorem zlX : StOk z0s zgE (mB 14 4095) 2 [13] := se zdP
theorem z6o : StOk z0s z5W (mB 14 6127) 3 [13] := se z6n
theorem z6p : StOk z0s z5X (mB 14 6079) 3 [13] := se z6n
theorem z6q : StOk z0s z5Y (mB 14 5887) 3 [13] := se z6n
theorem z6r : StOk z0s z5Z (mB 14 5119) 3 [13] := se z6n
theorem z6s : StOk z0s z6a (mB 14 2047) 3 [13] := sq zlX
theorem z8I : StOk z0s z7N (mB 14 6063) 4 [13] := sa (z0a (be z6p) (be z6o))
theorem z8J : StOk z0s z7O (mB 14 5871) 4 [13] := sa (z0a (be z6q) (be z6o))
theorem z8K : StOk z0s z7P (mB 14 5103) 4 [13] := sa (z0a (be z6r) (be z6o))
theorem z8L : StOk z0s z7Q (mB 14 2031) 4 [13] := sa (z0a (be z6s) (be z6o))
theorem z8M : StOk z0s z7R (mB 14 5823) 4 [13] := sa (z0a (be z6q) (be z6p))
theorem z8N : StOk z0s z7S (mB 14 5055) 4 [13] := sa (z0a (be z6r) (be z6p))
theorem z8O : StOk z0s z7T (mB 14 1983) 4 [13] := sa (z0a (be z6s) (be z6p))
theorem z8P : StOk z0s z7U (mB 14 4863) 4 [13] := sa (z0a (be z6r) (be z6q))
theorem z8Q : StOk z0s z7V (mB 14 1791) 4 [13] := sa (z0a (be z6s) (be z6q))
theorem z8R : StOk z0s z7W (mB 14 1023) 4 [13] := sa (z0a (be z6s) (be z6r))
theorem zdQ : StOk z0s zbu (mB 14 5807) 5 [13] := sa (z0a (be z8M) (z0a (be z8J) (be z8I)))
theorem zdR : StOk z0s zbv (mB 14 5039) 5 [13] := sa (z0a (be z8N) (z0a (be z8K) (be z8I)))
theorem zdS : StOk z0s zbw (mB 14 1967) 5 [13] := sa (z0a (be z8O) (z0a (be z8L) (be z8I)))
theorem zdT : StOk z0s zbx (mB 14 4847) 5 [13] := sa (z0a (be z8P) (z0a (be z8K) (be z8J)))
theorem zdU : StOk z0s zby (mB 14 1775) 5 [13] := sa (z0a (be z8Q) (z0a (be z8L) (be z8J)))
theorem zdV : StOk z0s zbz (mB 14 1007) 5 [13] := sa (z0a (be z8R) (z0a (be z8L) (be z8K)))
theorem zdW : StOk z0s zbA (mB 14 4799) 5 [13] := sa (z0a (be z8P) (z0a (be z8N) (be z8M)))
theorem zdX : StOk z0s zbB (mB 14 1727) 5 [13] := sa (z0a (be z8Q) (z0a (be z8O) (be z8M)))
theorem zdY : StOk z0s zbC (mB 14 959) 5 [13] := sa (z0a (be z8R) (z0a (be z8O) (be z8N)))
theorem zdZ : StOk z0s zbD (mB 14 767) 5 [13] := sa (z0a (be z8R) (z0a (be z8Q) (be z8P)))
theorem zlY : StOk z0s zgF (mB 14 4783) 6 [13] := sa (z0a (be zdW) (z0a (be zdT) (z0a (be zdR) (be zdQ))))
theorem zlZ : StOk z0s zgG (mB 14 1711) 6 [13] := sa (z0a (be zdX) (z0a (be zdU) (z0a (be zdS) (be zdQ))))
theorem zm0 : StOk z0s zgH (mB 14 943) 6 [13] := sa (z0a (be zdY) (z0a (be zdV) (z0a (be zdS) (be zdR))))
theorem zpA : StOk z0s zjy (mB 14 751) 6 [13] := sa (z0a (be zdZ) (z0a (be zdV) (z0a (be zdU) (be zdT))))
theorem zpB : StOk z0s zjz (mB 14 703) 6 [13] := sa (z0a (be zdZ) (z0a (be zdY) (z0a (be zdX) (be zdW))))
theorem zpC : StOk z0s zjA (mB 14 687) 7 [13] := sa (z0a (be zpB) (z0a (be zpA) (z0a (be zm0) (z0a (be zlZ) (be zlY)))))
theorem zpD : StOk z0s zjB (mB 14 175) 8 [13] := sq zpC
theorem zpE : StOk z0s zjC (mB 14 47) 9 [13] := sq zpD
theorem zpF : StOk z0s zjD (mB 14 15) 10 [13] := sq zpE
theorem zpG : StOk z0s zjE (mB 14 7) 11 [13] := sq zpF
theorem zpH : StOk z0s zjF (mB 14 3) 12 [13] := sq zpG
theorem zpI : StOk z0s zjG (mB 14 1) 13 [13] := sq zpH
theorem zpJ : StOk z0s zjH (mB 14 0) 14 [13] := sq zpI
set_option maxHeartbeats 0 in
theorem zAc : z2s Try.prog 24 cf24 = true := z8Y [10] zBj zBv rfl (by kernel_rfl) (by simp only [List.forall_mem_cons]; exact ⟨⟨_, rfl, z6u (by kernel_rfl) zpJ (by kernel_rfl) (by kernel_rfl)⟩, fun _ h => by cases h⟩)
theorem zAb : z2s Try.prog 25 cf25 = true := by kernel_rfl
theorem zAa : z2s Try.prog 26 cf26 = true := by kernel_rfl
noncomputable abbrev z0o : Array Oper := (z8W 47 zB0)
theorem zlI : StOk z0o zgp (mB 16 65535) 0 [] := za5 (by kernel_rfl)
theorem zlJ : StOk z0o zgq (mB 16 32767) 1 [15] := se zlI
theorem zdw : StOk z0o zba (mB 16 16383) 2 [15] := sq zlJ
theorem zlK : StOk z0o zgr (mB 16 16255) 3 [15] := se zdw
theorem zdx : StOk z0o zbb (mB 16 8191) 3 [13] := se zdw
theorem zlL : StOk z0o zgs (mB 16 8063) 4 [13] := sa (z0a (be zdx) (be zlK))
theorem zdy : StOk z0o zbc (mB 16 4095) 4 [13] := sq zdx
theorem zdz : StOk z0o zbd (mB 16 4063) 5 [13] := se zdy
theorem zdA : StOk z0o zbe (mB 16 3967) 5 [13] := sq zlL
theorem z8C : StOk z0o z7H (mB 16 2047) 5 [11] := se zdy
theorem zlM : StOk z0o zgt (mB 16 3935) 6 [13] := sa (z0a (be zdA) (be zdz))
theorem zdB : StOk z0o zbf (mB 16 2015) 6 [11] := sa (z0a (be z8C) (be zdz))
theorem zdC : StOk z0o zbg (mB 16 1919) 6 [11] := sa (z0a (be z8C) (be zdA))
theorem zdD : StOk z0o zbh (mB 16 1023) 6 [11] := sq z8C
theorem z8D : StOk z0o z7I (mB 16 1015) 7 [11] := se zdD
theorem zlN : StOk z0o zgu (mB 16 1887) 7 [11] := sa (z0a (be zdC) (z0a (be zdB) (be zlM)))
theorem zdE : StOk z0o zbi (mB 16 991) 7 [11] := sq zdB
theorem zdF : StOk z0o zbj (mB 16 895) 7 [11] := sq zdC
theorem z6m : StOk z0o z5U (mB 16 511) 7 [9] := se zdD
theorem zdG : StOk z0o zbk (mB 16 983) 8 [11] := sa (z0a (be zdE) (be z8D))
theorem zdH : StOk z0o zbl (mB 16 887) 8 [11] := sa (z0a (be zdF) (be z8D))
theorem z8E : StOk z0o z7J (mB 16 503) 8 [9] := sa (z0a (be z6m) (be z8D))
theorem zdI : StOk z0o zbm (mB 16 863) 8 [11] := sq zlN
theorem z8F : StOk z0o z7K (mB 16 479) 8 [9] := sa (z0a (be z6m) (be zdE))
theorem z8G : StOk z0o z7L (mB 16 383) 8 [9] := sa (z0a (be z6m) (be zdF))
theorem zlO : StOk z0o zgv (mB 16 255) 8 [9] := sq z6m
theorem z8H : StOk z0o z7M (mB 16 253) 9 [9] := se zlO
theorem zlP : StOk z0o zgw (mB 16 855) 9 [11] := sa (z0a (be zdI) (z0a (be zdH) (be zdG)))
theorem zdJ : StOk z0o zbn (mB 16 471) 9 [9] := sa (z0a (be z8F) (z0a (be z8E) (be zdG)))
theorem zdK : StOk z0o zbo (mB 16 375) 9 [9] := sa (z0a (be z8G) (z0a (be z8E) (be zdH)))
theorem zlQ : StOk z0o zgx (mB 16 247) 9 [9] := sq z8E
theorem zdL : StOk z0o zbp (mB 16 351) 9 [9] := sa (z0a (be z8G) (z0a (be z8F) (be zdI)))
theorem zlR : StOk z0o zgy (mB 16 223) 9 [9] := sq z8F
theorem zlS : StOk z0o zgz (mB 16 127) 9 [9] := sq z8G
theorem zdM : StOk z0o zbq (mB 16 245) 10 [9] := sa (z0a (be zlQ) (be z8H))
theorem zdN : StOk z0o zbr (mB 16 221) 10 [9] := sa (z0a (be zlR) (be z8H))
theorem zdO : StOk z0o zbs (mB 16 125) 10 [9] := sa (z0a (be zlS) (be z8H))
theorem zlT : StOk z0o zgA (mB 16 343) 10 [9] := sa (z0a (be zdL) (z0a (be zdK) (z0a (be zdJ) (be zlP))))
theorem zlU : StOk z0o zgB (mB 16 215) 10 [9] := sq zdJ
theorem zlV : StOk z0o zgC (mB 16 119) 10 [9] := sq zdK
theorem zpq : StOk z0o zjo (mB 16 95) 10 [9] := sq zdL
theorem zpr : StOk z0o zjp (mB 16 213) 11 [9] := sa (z0a (be zlU) (z0a (be zdN) (be zdM)))
theorem zps : StOk z0o zjq (mB 16 117) 11 [9] := sa (z0a (be zlV) (z0a (be zdO) (be zdM)))
theorem zpt : StOk z0o zjr (mB 16 93) 11 [9] := sa (z0a (be zpq) (z0a (be zdO) (be zdN)))
theorem zpu : StOk z0o zjs (mB 16 87) 11 [9] := sq zlT
theorem zpv : StOk z0o zjt (mB 16 85) 12 [9] := sa (z0a (be zpu) (z0a (be zpt) (z0a (be zps) (be zpr))))
theorem zpw : StOk z0o zju (mB 16 21) 13 [9] := sq zpv
theorem zpx : StOk z0o zjv (mB 16 5) 14 [9] := sq zpw
theorem zpy : StOk z0o zjw (mB 16 1) 15 [9] := sq zpx
theorem zpz : StOk z0o zjx (mB 16 0) 16 [9] := sq zpy
noncomputable abbrev z0V : Array Oper := (z8W 77 zB0)
theorem zlB : StOk z0V zgi (mB 13 8191) 0 [] := za5 (by kernel_rfl)
theorem zlC : StOk z0V zgj (mB 13 4095) 1 [12] := se zlB
theorem zdq : StOk z0V zb4 (mB 13 2047) 2 [12] := sq zlC
theorem zlD : StOk z0V zgk (mB 13 2045) 3 [1] := se zdq
theorem z8A : StOk z0V z7F (mB 13 1023) 3 [10] := se zdq
theorem zdr : StOk z0V zb5 (mB 13 1021) 4 [1, 10] := sa (z0a (be z8A) (be zlD))
theorem z8B : StOk z0V z7G (mB 13 895) 4 [7] := se z8A
theorem zds : StOk z0V zb6 (mB 13 511) 4 [10] := se z8A
theorem zdt : StOk z0V zb7 (mB 13 893) 5 [1, 7] := sa (z0a (be z8B) (be zdr))
theorem zlE : StOk z0V zgl (mB 13 509) 5 [1, 10] := sa (z0a (be zds) (be zdr))
theorem zlF : StOk z0V zgm (mB 13 831) 5 [7] := sq z8B
theorem zdu : StOk z0V zb8 (mB 13 383) 5 [7] := sa (z0a (be zds) (be z8B))
theorem zlG : StOk z0V zgn (mB 13 829) 6 [1, 7] := sq zdt
theorem zlH : StOk z0V zgo (mB 13 381) 6 [1, 7] := sa (z0a (be zdu) (z0a (be zlE) (be zdt)))
theorem zdv : StOk z0V zb9 (mB 13 815) 6 [4] := se zlF
theorem zpg : StOk z0V zje (mB 13 319) 6 [7] := sq zdu
theorem zph : StOk z0V zjf (mB 13 813) 7 [1, 4] := sa (z0a (be zdv) (be zlG))
theorem zpi : StOk z0V zjg (mB 13 317) 7 [1, 7] := sq zlH
theorem zpj : StOk z0V zjh (mB 13 303) 7 [4] := sa (z0a (be zpg) (be zdv))
theorem zpk : StOk z0V zji (mB 13 301) 8 [1, 4] := sa (z0a (be zpj) (z0a (be zpi) (be zph)))
theorem zpl : StOk z0V zjj (mB 13 45) 9 [1, 4] := sq zpk
theorem zpm : StOk z0V zjk (mB 13 13) 10 [1, 4] := sq zpl
theorem zpn : StOk z0V zjl (mB 13 5) 11 [1, 4] := sq zpm
theorem zpo : StOk z0V zjm (mB 13 1) 12 [1, 4] := sq zpn
theorem zpp : StOk z0V zjn (mB 13 0) 13 [1, 4] := sq zpo
set_option maxHeartbeats 0 in
theorem zA9 : z2s Try.prog 27 cf27 = true := z8Y [47, 77] zCs zDS rfl (by kernel_rfl) (by simp only [List.forall_mem_cons]; exact ⟨⟨_, rfl, z6u (by kernel_rfl) zpz (by kernel_rfl) (by kernel_rfl)⟩, ⟨_, rfl, z6u (by kernel_rfl) zpp (by kernel_rfl) (by kernel_rfl)⟩, fun _ h => by cases h⟩)
noncomputable abbrev z1k : Array Oper := (z8W 12 zBm)
theorem zls : StOk z1k zg9 (mB 14 16383) 0 [] := za5 (by kernel_rfl)
theorem zlt : StOk z1k zga (mB 14 8191) 1 [] := sq zls
theorem zlu : StOk z1k zgb (mB 14 4095) 2 [] := sq zlt
theorem zdm : StOk z1k zb0 (mB 14 2047) 3 [11] := se zlu
theorem zdn : StOk z1k zb1 (mB 14 2039) 4 [3] := se zdm
theorem zdo : StOk z1k zb2 (mB 14 1023) 4 [11] := se zdm
theorem zlv : StOk z1k zgc (mB 14 2035) 5 [3] := se zdn
theorem zdp : StOk z1k zb3 (mB 14 1015) 5 [3] := sa (z0a (be zdo) (be zdn))
theorem zlw : StOk z1k zgd (mB 14 511) 5 [11] := sq zdo
theorem zlx : StOk z1k zge (mB 14 1011) 6 [3] := sa (z0a (be zdp) (be zlv))
theorem zly : StOk z1k zgf (mB 14 503) 6 [3] := sq zdp
theorem zlz : StOk z1k zgg (mB 14 255) 6 [11] := sq zlw
theorem zlA : StOk z1k zgh (mB 14 499) 7 [3] := sq zlx
theorem zp6 : StOk z1k zj4 (mB 14 247) 7 [3] := sq zly
theorem zp7 : StOk z1k zj5 (mB 14 191) 7 [11] := se zlz
theorem zp8 : StOk z1k zj6 (mB 14 243) 8 [3] := sq zlA
theorem zp9 : StOk z1k zj7 (mB 14 183) 8 [3] := sa (z0a (be zp7) (be zp6))
theorem zpa : StOk z1k zj8 (mB 14 179) 9 [3] := sa (z0a (be zp9) (be zp8))
theorem zpb : StOk z1k zj9 (mB 14 51) 10 [3] := sq zpa
theorem zpc : StOk z1k zja (mB 14 19) 11 [3] := sq zpb
theorem zpd : StOk z1k zjb (mB 14 3) 12 [3] := sq zpc
theorem zpe : StOk z1k zjc (mB 14 1) 13 [3] := sq zpd
theorem zpf : StOk z1k zjd (mB 14 0) 14 [3] := sq zpe
set_option maxHeartbeats 0 in
theorem zA8 : z2s Try.prog 28 cf28 = true := z8Y [12] zCr zDR rfl (by kernel_rfl) (by simp only [List.forall_mem_cons]; exact ⟨⟨_, rfl, z6u (by kernel_rfl) zpf (by kernel_rfl) (by kernel_rfl)⟩, fun _ h => by cases h⟩)
theorem zA7 : z2s Try.prog 29 cf29 = true := by kernel_rfl
theorem zA6 : z2s Try.prog 30 cf30 = true := by kernel_rfl
theorem zA5 : z2s Try.prog 31 cf31 = true := by kernel_rfl
theorem zA4 : z2s Try.prog 32 cf32 = true := by kernel_rfl
theorem zA3 : z2s Try.prog 33 cf33 = true := by kernel_rfl
theorem zA2 : z2s Try.prog 34 cf34 = true := by kernel_rfl
theorem zA1 : z2s Try.prog 35 cf35 = true := by kernel_rfl
theorem zA0 : z2s Try.prog 36 cf36 = true := by kernel_rfl
theorem zzZ : z2s Try.prog 37 cf37 = true := by kernel_rfl
theorem zzY : z2s Try.prog 38 cf38 = true := by kernel_rfl
theorem zzX : z2s Try.prog 39 cf39 = true := by kernel_rfl
theorem zzW : z2s Try.prog 40 cf40 = true := by kernel_rfl
theorem zzV : z2s Try.prog 41 cf41 = true := by kernel_rfl
theorem zzU : z2s Try.prog 42 cf42 = true := by kernel_rfl
theorem zzT : z2s Try.prog 43 cf43 = true := by kernel_rfl
theorem zzS : z2s Try.prog 44 cf44 = true := by kernel_rfl
theorem zzR : z2s Try.prog 45 cf45 = true := by kernel_rfl
theorem zzQ : z2s Try.prog 46 cf46 = true := by kernel_rfl
theorem zzP : z2s Try.prog 47 cf47 = true := by kernel_rfl
theorem zzO : z2s Try.prog 48 cf48 = true := by kernel_rfl
theorem zzN : z2s Try.prog 49 cf49 = true := by kernel_rfl
theorem zzM : z2s Try.prog 50 cf50 = true := by kernel_rfl
theorem zzL : z2s Try.prog 51 cf51 = true := by kernel_rfl
theorem zzK : z2s Try.prog 52 cf52 = true := by kernel_rfl
theorem zzJ : z2s Try.prog 53 cf53 = true := by kernel_rfl
theorem zzI : z2s Try.prog 54 cf54 = true := by kernel_rfl
theorem zzH : z2s Try.prog 55 cf55 = true := by kernel_rfl
theorem zzG : z2s Try.prog 56 cf56 = true := by kernel_rfl
theorem zzF : z2s Try.prog 57 cf57 = true := by kernel_rfl
theorem zzE : z2s Try.prog 58 cf58 = true := by kernel_rfl
noncomputable abbrev z0R : Array Oper := (z8W 12 zBl)
theorem zle : StOk z0R zfV (mB 19 524287) 0 [] := za5 (by kernel_rfl)
theorem zlf : StOk z0R zfW (mB 19 262143) 1 [] := sq zle
theorem zlg : StOk z0R zfX (mB 19 131071) 2 [] := sq zlf
theorem zdi : StOk z0R zaW (mB 19 65535) 3 [16] := se zlg
theorem zdj : StOk z0R zaX (mB 19 65527) 4 [16] := se zdi
theorem zdk : StOk z0R zaY (mB 19 32767) 4 [16] := se zdi
theorem zlh : StOk z0R zfY (mB 19 65523) 5 [16] := se zdj
theorem zdl : StOk z0R zaZ (mB 19 32759) 5 [16] := sa (z0a (be zdk) (be zdj))
theorem zli : StOk z0R zfZ (mB 19 16383) 5 [16] := sq zdk
theorem zlj : StOk z0R zg0 (mB 19 32755) 6 [16] := sa (z0a (be zdl) (be zlh))
theorem zlk : StOk z0R zg1 (mB 19 16375) 6 [16] := sq zdl
theorem zll : StOk z0R zg2 (mB 19 8191) 6 [16] := sq zli
theorem zlm : StOk z0R zg3 (mB 19 16371) 7 [16] := sq zlj
theorem zln : StOk z0R zg4 (mB 19 8183) 7 [16] := sq zlk
theorem zlo : StOk z0R zg5 (mB 19 4095) 7 [16] := se zll
theorem zlp : StOk z0R zg6 (mB 19 8179) 8 [16] := sq zlm
theorem zlq : StOk z0R zg7 (mB 19 4087) 8 [16] := sa (z0a (be zlo) (be zln))
theorem zlr : StOk z0R zg8 (mB 19 4083) 9 [16] := sa (z0a (be zlq) (be zlp))
theorem zoW : StOk z0R ziU (mB 19 2035) 10 [16] := sq zlr
theorem zoX : StOk z0R ziV (mB 19 1011) 11 [16] := sq zoW
theorem zoY : StOk z0R ziW (mB 19 499) 12 [16] := sq zoX
theorem zoZ : StOk z0R ziX (mB 19 243) 13 [16] := sq zoY
theorem zp0 : StOk z0R ziY (mB 19 115) 14 [16] := sq zoZ
theorem zp1 : StOk z0R ziZ (mB 19 51) 15 [16] := sq zp0
theorem zp2 : StOk z0R zj0 (mB 19 19) 16 [16] := sq zp1
theorem zp3 : StOk z0R zj1 (mB 19 3) 17 [16] := sq zp2
theorem zp4 : StOk z0R zj2 (mB 19 1) 18 [16] := sq zp3
theorem zp5 : StOk z0R zj3 (mB 19 0) 19 [16] := sq zp4
set_option maxHeartbeats 0 in
theorem zzD : z2s Try.prog 59 cf59 = true := z8Y [12] zCb zDB rfl (by kernel_rfl) (by simp only [List.forall_mem_cons]; exact ⟨⟨_, rfl, z6u (by kernel_rfl) zp5 (by kernel_rfl) (by kernel_rfl)⟩, fun _ h => by cases h⟩)
theorem zzC : z2s Try.prog 60 cf60 = true := by kernel_rfl
theorem zzB : z2s Try.prog 61 cf61 = true := by kernel_rfl
theorem zzA : z2s Try.prog 62 cf62 = true := by kernel_rfl
theorem zzz : z2s Try.prog 63 cf63 = true := by kernel_rfl
theorem zzy : z2s Try.prog 64 cf64 = true := by kernel_rfl
theorem zzx : z2s Try.prog 65 cf65 = true := by kernel_rfl
theorem zzw : z2s Try.prog 66 cf66 = true := by kernel_rfl
theorem zzv : z2s Try.prog 67 cf67 = true := by kernel_rfl
theorem zzu : z2s Try.prog 69 cf69 = true := by kernel_rfl
theorem zzt : z2s Try.prog 70 cf70 = true := by kernel_rfl
theorem zzs : z2s Try.prog 71 cf71 = true := by kernel_rfl
theorem zzr : z2s Try.prog 72 cf72 = true := by kernel_rfl
theorem zzq : z2s Try.prog 73 cf73 = true := by kernel_rfl
theorem zzp : z2s Try.prog 74 cf74 = true := by kernel_rfl
theorem zzo : z2s Try.prog 75 cf75 = true := by kernel_rfl
theorem zzn : z2s Try.prog 76 cf76 = true := by kernel_rfl
theorem zzm : z2s Try.prog 77 cf77 = true := by kernel_rfl
theorem zzl : z2s Try.prog 78 cf78 = true := by kernel_rfl
theorem zzk : z2s Try.prog 79 cf79 = true := by kernel_rfl
theorem zzj : z2s Try.prog 80 cf80 = true := by kernel_rfl
theorem zzi : z2s Try.prog 82 cf82 = true := by kernel_rfl
theorem zzh : z2s Try.prog 83 cf83 = true := by kernel_rfl
theorem zzg : z2s Try.prog 84 cf84 = true := by kernel_rfl
theorem zzf : z2s Try.prog 85 cf85 = true := by kernel_rfl
theorem zze : z2s Try.prog 93 cf93 = true := by kernel_rfl
theorem zzd : z2s Try.prog 94 cf94 = true := by kernel_rfl
theorem zzc : z2s Try.prog 95 cf95 = true := by kernel_rfl
theorem zzb : z2s Try.prog 96 cf96 = true := by kernel_rfl
theorem zza : z2s Try.prog 97 cf97 = true := by kernel_rfl
theorem zxU : z2s Try.prog 103 cf103 = true := by kernel_rfl
theorem z0Q {p : Prop} [Decidable p] {a c : Cfg} {r : Option Cfg} {G : Prop} (h : (if p then some a else r) = some c) (h1 : p → a = c → G) (h2 : r = some c → G) : G := by
  split at h
  · rename_i hp; exact h1 hp (Option.some.inj h)
  · exact h2 h
theorem zCN : ∀ f c, z1J f = some c → z2s Try.prog f c = true := by
  intro f c h
  unfold z1J at h
  refine z0Q h (fun e h => by rw [e, ← h]; exact zCI) fun h => ?_
  refine z0Q h (fun e h => by rw [e, ← h]; exact zCH) fun h => ?_
  refine z0Q h (fun e h => by rw [e, ← h]; exact zCG) fun h => ?_
  refine z0Q h (fun e h => by rw [e, ← h]; exact zCF) fun h => ?_
  refine z0Q h (fun e h => by rw [e, ← h]; exact zCE) fun h => ?_
  refine z0Q h (fun e h => by rw [e, ← h]; exact zCD) fun h => ?_
  refine z0Q h (fun e h => by rw [e, ← h]; exact zCC) fun h => ?_
  refine z0Q h (fun e h => by rw [e, ← h]; exact zAq) fun h => ?_
  refine z0Q h (fun e h => by rw [e, ← h]; exact zAp) fun h => ?_
  refine z0Q h (fun e h => by rw [e, ← h]; exact zAo) fun h => ?_
  refine z0Q h (fun e h => by rw [e, ← h]; exact zAn) fun h => ?_
  refine z0Q h (fun e h => by rw [e, ← h]; exact zAm) fun h => ?_
  refine z0Q h (fun e h => by rw [e, ← h]; exact zAl) fun h => ?_
  refine z0Q h (fun e h => by rw [e, ← h]; exact zAk) fun h => ?_
  refine z0Q h (fun e h => by rw [e, ← h]; exact zAj) fun h => ?_
  refine z0Q h (fun e h => by rw [e, ← h]; exact zAi) fun h => ?_
  refine z0Q h (fun e h => by rw [e, ← h]; exact zAh) fun h => ?_
  refine z0Q h (fun e h => by rw [e, ← h]; exact zAg) fun h => ?_
  refine z0Q h (fun e h => by rw [e, ← h]; exact zAf) fun h => ?_
  refine z0Q h (fun e h => by rw [e, ← h]; exact zAe) fun h => ?_
  refine z0Q h (fun e h => by rw [e, ← h]; exact zAd) fun h => ?_
  refine z0Q h (fun e h => by rw [e, ← h]; exact zAc) fun h => ?_
  refine z0Q h (fun e h => by rw [e, ← h]; exact zAb) fun h => ?_
  refine z0Q h (fun e h => by rw [e, ← h]; exact zAa) fun h => ?_
  refine z0Q h (fun e h => by rw [e, ← h]; exact zA9) fun h => ?_
  refine z0Q h (fun e h => by rw [e, ← h]; exact zA8) fun h => ?_
  refine z0Q h (fun e h => by rw [e, ← h]; exact zA7) fun h => ?_
  refine z0Q h (fun e h => by rw [e, ← h]; exact zA6) fun h => ?_
  refine z0Q h (fun e h => by rw [e, ← h]; exact zA5) fun h => ?_
  refine z0Q h (fun e h => by rw [e, ← h]; exact zA4) fun h => ?_
  refine z0Q h (fun e h => by rw [e, ← h]; exact zA3) fun h => ?_
  refine z0Q h (fun e h => by rw [e, ← h]; exact zA2) fun h => ?_
  refine z0Q h (fun e h => by rw [e, ← h]; exact zA1) fun h => ?_
  refine z0Q h (fun e h => by rw [e, ← h]; exact zA0) fun h => ?_
  refine z0Q h (fun e h => by rw [e, ← h]; exact zzZ) fun h => ?_
  refine z0Q h (fun e h => by rw [e, ← h]; exact zzY) fun h => ?_
  refine z0Q h (fun e h => by rw [e, ← h]; exact zzX) fun h => ?_
  refine z0Q h (fun e h => by rw [e, ← h]; exact zzW) fun h => ?_
  refine z0Q h (fun e h => by rw [e, ← h]; exact zzV) fun h => ?_
  refine z0Q h (fun e h => by rw [e, ← h]; exact zzU) fun h => ?_
  refine z0Q h (fun e h => by rw [e, ← h]; exact zzT) fun h => ?_
  refine z0Q h (fun e h => by rw [e, ← h]; exact zzS) fun h => ?_
  refine z0Q h (fun e h => by rw [e, ← h]; exact zzR) fun h => ?_
  refine z0Q h (fun e h => by rw [e, ← h]; exact zzQ) fun h => ?_
  refine z0Q h (fun e h => by rw [e, ← h]; exact zzP) fun h => ?_
  refine z0Q h (fun e h => by rw [e, ← h]; exact zzO) fun h => ?_
  refine z0Q h (fun e h => by rw [e, ← h]; exact zzN) fun h => ?_
  refine z0Q h (fun e h => by rw [e, ← h]; exact zzM) fun h => ?_
  refine z0Q h (fun e h => by rw [e, ← h]; exact zzL) fun h => ?_
  refine z0Q h (fun e h => by rw [e, ← h]; exact zzK) fun h => ?_
  refine z0Q h (fun e h => by rw [e, ← h]; exact zzJ) fun h => ?_
  refine z0Q h (fun e h => by rw [e, ← h]; exact zzI) fun h => ?_
  refine z0Q h (fun e h => by rw [e, ← h]; exact zzH) fun h => ?_
  refine z0Q h (fun e h => by rw [e, ← h]; exact zzG) fun h => ?_
  refine z0Q h (fun e h => by rw [e, ← h]; exact zzF) fun h => ?_
  refine z0Q h (fun e h => by rw [e, ← h]; exact zzE) fun h => ?_
  refine z0Q h (fun e h => by rw [e, ← h]; exact zzD) fun h => ?_
  refine z0Q h (fun e h => by rw [e, ← h]; exact zzC) fun h => ?_
  refine z0Q h (fun e h => by rw [e, ← h]; exact zzB) fun h => ?_
  refine z0Q h (fun e h => by rw [e, ← h]; exact zzA) fun h => ?_
  refine z0Q h (fun e h => by rw [e, ← h]; exact zzz) fun h => ?_
  refine z0Q h (fun e h => by rw [e, ← h]; exact zzy) fun h => ?_
  refine z0Q h (fun e h => by rw [e, ← h]; exact zzx) fun h => ?_
  refine z0Q h (fun e h => by rw [e, ← h]; exact zzw) fun h => ?_
  refine z0Q h (fun e h => by rw [e, ← h]; exact zzv) fun h => ?_
  refine z0Q h (fun e h => by rw [e, ← h]; exact zzu) fun h => ?_
  refine z0Q h (fun e h => by rw [e, ← h]; exact zzt) fun h => ?_
  refine z0Q h (fun e h => by rw [e, ← h]; exact zzs) fun h => ?_
  refine z0Q h (fun e h => by rw [e, ← h]; exact zzr) fun h => ?_
  refine z0Q h (fun e h => by rw [e, ← h]; exact zzq) fun h => ?_
  refine z0Q h (fun e h => by rw [e, ← h]; exact zzp) fun h => ?_
  refine z0Q h (fun e h => by rw [e, ← h]; exact zzo) fun h => ?_
  refine z0Q h (fun e h => by rw [e, ← h]; exact zzn) fun h => ?_
  refine z0Q h (fun e h => by rw [e, ← h]; exact zzm) fun h => ?_
  refine z0Q h (fun e h => by rw [e, ← h]; exact zzl) fun h => ?_
  refine z0Q h (fun e h => by rw [e, ← h]; exact zzk) fun h => ?_
  refine z0Q h (fun e h => by rw [e, ← h]; exact zzj) fun h => ?_
  refine z0Q h (fun e h => by rw [e, ← h]; exact zzi) fun h => ?_
  refine z0Q h (fun e h => by rw [e, ← h]; exact zzh) fun h => ?_
  refine z0Q h (fun e h => by rw [e, ← h]; exact zzg) fun h => ?_
  refine z0Q h (fun e h => by rw [e, ← h]; exact zzf) fun h => ?_
  refine z0Q h (fun e h => by rw [e, ← h]; exact zze) fun h => ?_
  refine z0Q h (fun e h => by rw [e, ← h]; exact zzd) fun h => ?_
  refine z0Q h (fun e h => by rw [e, ← h]; exact zzc) fun h => ?_
  refine z0Q h (fun e h => by rw [e, ← h]; exact zzb) fun h => ?_
  refine z0Q h (fun e h => by rw [e, ← h]; exact zza) fun h => ?_
  refine z0Q h (fun e h => by rw [e, ← h]; exact zxU) fun h => ?_
  cases h
end Go.Proofs.Ytodliknibbafeaa
end
section
namespace Go.Proofs.Ytodliknibbafeaa
open Go.RowKit
def zeZ (P : Program) : Nat → TypeId → Bool
  | 0, _ => false
  | m + 1, t =>
    match P.underlying t with
    | some (.slice e) => P.cellsOf e != 0 && zeZ P m e
    | some (.pointer e) => zeZ P m e
    | some (.struct fs) => fs.toList.all fun f => zeZ P m f.type
    | some (.array _ e) => zeZ P m e
    | some (.map _ e) => zeZ P m e
    | _ => true
section
variable {H : Type} {enc : TypeId × Value → H} {P : Program} {w : World} {base : Nat}
theorem zfe {m : Nat} {r r' : TypeId → List Value → Option (DataW H × List MemPlace)}
    (hr : ∀ t cs x, zeZ P m t = true → r t cs = some x → r' t cs = some x) {t : TypeId} {cs : List Value} {x : DataW H × List MemPlace} (hf : zeZ P (m + 1) t = true)
    (h : DataW.trodStep enc P w base (fun _ => true) true r t cs = some x) : DataW.trodStep enc P w base (fun b => decide (b < w.heap.size)) true r' t cs = some x := by
  unfold DataW.trodStep at h ⊢
  unfold zeZ at hf
  split at h
  case h_1 => exact h
  case h_2 => exact h
  case h_3 => exact h
  case h_4 => exact h
  case h_5 => exact h
  case h_6 e a hu =>
    rw [hu] at hf
    simp only [Option.map_eq_some_iff, Option.bind_eq_some_iff] at h ⊢
    obtain ⟨y, ⟨cs', hc, hy⟩, rfl⟩ := h
    exact ⟨y, ⟨cs', hc, hr _ _ _ hf hy⟩, rfl⟩
  case h_7 => exact h
  case h_8 e a len cap hu =>
    rw [hu] at hf
    simp only [Bool.and_eq_true, bne_iff_ne, ne_eq] at hf
    obtain ⟨hcell, hfe⟩ := hf
    simp only at h ⊢
    split at h
    · rename_i hc
      rw [if_pos hc]
      simp only [Option.map_eq_some_iff, Option.bind_eq_some_iff, if_true] at h ⊢
      obtain ⟨elems, he, rest, hrest, rfl⟩ := h
      have one : ∀ (i : Nat) (y : DataW H × List MemPlace), (w.cells? base (a.add (i * P.cellsOf e)) (P.cellsOf e)).bind (r e) = some y → (w.cells? base (a.add (i * P.cellsOf e)) (P.cellsOf e)).bind (r' e) = some y := by
        intro i y hv
        simp only [Option.bind_eq_some_iff] at hv ⊢
        obtain ⟨cs', hc', hy'⟩ := hv
        exact ⟨cs', hc', hr _ _ _ hfe hy'⟩
      refine ⟨elems, mapM_carry he (fun i y _ _ hy => one i y hy), rest, ?_, rfl⟩
      by_cases hb : a.block < w.heap.size
      · rw [if_pos (by simpa using hb)]
        exact mapM_carry hrest (fun j y _ _ hy => one (len + j) y hy)
      · rw [if_neg (by simpa using hb)]
        have hz : cap - len = 0 := by
          rcases Nat.eq_zero_or_pos (cap - len) with h0 | h0
          · exact h0
          · exfalso
            have hl : rest.length = cap - len := by simpa using mapM_some_length hrest
            have h1 := mapM_some_get hrest 0 0 (by simp [h0])
            obtain ⟨y, hy⟩ : ∃ y, rest[0]? = some y := ⟨rest[0], List.getElem?_eq_getElem (by omega)⟩
            rw [hy] at h1
            simp only [Option.bind_eq_some_iff] at h1
            obtain ⟨cs', hc', _⟩ := h1
            have h2 := World.cells?_block hc' (by omega)
            have h3 : (a.add ((len + 0) * P.cellsOf e)).block = a.block := by unfold Addr.add; split <;> rfl
            omega
        rw [hz] at hrest
        simpa using hrest
    · cases h
  case h_9 fs _ hu =>
    rw [hu] at hf
    split at h
    · rename_i hc
      rw [if_pos hc]
      simp only [Option.map_eq_some_iff] at h ⊢
      obtain ⟨xs, hx, rfl⟩ := h
      exact ⟨xs, mapM_carry hx (fun f y hin _ hv => hr _ _ _ (List.all_eq_true.1 hf f hin) hv), rfl⟩
    · cases h
  case h_10 n e _ hu =>
    rw [hu] at hf
    split at h
    · rename_i hc
      rw [if_pos hc]
      simp only [Option.map_eq_some_iff] at h ⊢
      obtain ⟨xs, hx, rfl⟩ := h
      exact ⟨xs, mapM_carry hx (fun f y _ _ hv => hr _ _ _ hf hv), rfl⟩
    · cases h
  case h_11 => exact h
  case h_12 => exact h
  case h_13 => exact h
  case h_14 k e b hu =>
    rw [hu] at hf
    split at h
    · rename_i es clock hb
      split at h
      · rename_i hc
        simp only [Option.bind_eq_some_iff] at h
        obtain ⟨entries, he, hd⟩ := h
        split at hd
        · rename_i hris
          have hx := Option.some.inj hd
          subst hx
          simp only [if_pos hc, Option.bind_eq_some_iff]
          refine ⟨entries, mapM_carry he (fun x y _ hy hv => ?_), by simp [hris]⟩
          simp only [Option.bind_eq_some_iff] at hv ⊢
          obtain ⟨key, hk, hz⟩ := hv
          refine ⟨key, hk, ?_⟩
          split at hz
          · rename_i hfm
            rw [if_pos hfm]
            simp only [Option.map_eq_some_iff] at hz ⊢
            obtain ⟨q, hq, rfl⟩ := hz
            exact ⟨q, hr _ _ _ hf hq, rfl⟩
          · cases hz
        · cases hd
      · cases h
    · cases h
  case h_15 => exact h
  case h_16 => exact h
  case h_17 => exact h
  case h_18 => exact h
  case h_19 => exact h
  case h_20 => exact h
  case h_21 => cases h
theorem zoz : ∀ (n m : Nat) (t : TypeId) (cs : List Value) (x : DataW H × List MemPlace), zeZ P m t = true →
    DataW.trod enc P w base (fun _ => true) true n t cs = some x → DataW.trod enc P w base (fun b => decide (b < w.heap.size)) true n t cs = some x := by
  intro n
  induction n with
  | zero => intro m t cs x _ h; simp [DataW.trod] at h
  | succ n ih =>
    intro m t cs x hf h
    cases m with
    | zero => simp [zeZ] at hf
    | succ m =>
      rw [DataW.trod_step] at h ⊢
      exact zfe (m := m) (fun t cs x hf hx => ih m t cs x hf hx) hf h
theorem zkl {w' : World} (hb : Below w.heap.size w w') {p : MemPlace} (hp : p.block < w.heap.size) : w.sameAt w' p := by
  cases p with
  | cell b off => exact hb.cell (p := ⟨b, off, none⟩) hp
  | map b => exact hb.block b hp
theorem z9o {w' : World} (m : Nat) (hb : Below w.heap.size w w') : ∀ {ts : List TypeId} {vs : List Value} {ds : List (DataW H)} {ps : List MemPlace}, (ts.all (zeZ P m)) = true →
    DataW.TrodAll enc P w 0 (fun _ => true) true ts vs ds ps → DataW.TrodAll enc P w' 0 (fun b => decide (b < w.heap.size)) true ts vs ds ps
  | [], [], [], ps, _, h => h
  | t :: ts, v :: vs, d :: ds, ps, hf, ⟨p, q, ⟨n, h1⟩, h2, e⟩ => by
    simp only [List.all_cons, Bool.and_eq_true] at hf
    have h3 := zoz n m t _ _ hf.1 h1
    exact ⟨p, q, ⟨n, DataW.trod_carry n _ _ _ h3 (fun z hz => zkl hb (DataW.trod_lt n _ _ _ h3 z hz))⟩, z9o m hb hf.2 h2, e⟩
  | [], _ :: _, _, _, _, h => by cases h
  | [], [], _ :: _, _, _, h => by cases h
  | _ :: _, [], _, _, _, h => by cases h
  | _ :: _, _ :: _, [], _, _, h => by cases h
end
section
variable {H : Type} {enc : TypeId × Value → H} {P : Program} {w : World} {r : Reach} {b0 : Nat}
open Go.ChangeShapes Go.WideShapes
open Go.Deep (open_bools)
theorem ztP (a : Addr) (j : Nat) : (a.add j).block = a.block := by unfold Addr.add; split <;> rfl
end
end Go.Proofs.Ytodliknibbafeaa
end
section
namespace Go.Proofs.Ytodliknibbafeaa
open Go.ChangeShapes Go.WideShapes Go.RowKit
def KZ : Nat → z0b := fun _ => []
theorem zsV {P : Program} {Xc : z0j} {cf : FuncId → Option Cfg} {f : FuncId} {args : List T} {outs : List T} (hX : z9l P (fun _ _ => True) Xc) (hm : P.follows .mixedOrders = true) (hf : ∀ f c, cf f = some c → z2s P f c = true)
    (h : Lim P Xc cf f args = some (.sc (.bool true), outs)) (hio : args.all (fun t => !z4U t) = true) (W : World) (vals : Array Value) (hs : vals.size = args.length)
    (ha : ∀ i t, args[i]? = some t → TRep W KZ [] (vals.getD i undef) t) : Calls P f vals W fun e W' => e = .returned (.bool true) ∧ Below W.heap.size W W' := by
  have hc := zxE (I := fun _ _ => True) EnvS.none hX hm hf h
  refine (hc.calls W KZ vals hs (fun i t hi => ?_) trivial).mono fun e W' ⟨v, K', he, hv, _, hst⟩ => ?_
  · have h1 := List.all_eq_true.1 hio t (List.mem_of_getElem? hi)
    unfold zhv
    rw [if_neg (by simpa using h1)]
    exact ha i t hi
  · generalize hT : T.sc (.bool true) = t at hv
    cases hv with
    | sc c v hb => cases hT; exact ⟨he, hst.os, hst.tape, hst.output, hst.size, fun b hb => (hst.old b hb (.inl rfl)).2⟩
    | _ => cases hT
section
variable {H : Type} {enc : TypeId × Value → H} {P : Program} {w : World} {r : Reach} {b0 : Nat}
theorem zsF {t e : TypeId} {v : Value} {d : DataW H} {ps : List MemPlace} (ht : P.underlying t = some (.slice e)) (he : P.underlying e = some (.int .i64)) (hc : P.cellsOf e = 1)
    (hval : Value.okWide P w r b0 t v) (hd : DataW.Trod enc P w 0 (fun _ => true) true t v d ps) :
    ∃ xs : List Int, TRep w KZ [] v (.sl xs.length (xs.map fun x => .sc (.int .i64 x))) ∧ xs.length ≤ maxLen ∧ ∀ x ∈ xs, (Lit.int .i64 x).wf = true := by
  obtain ⟨ga, n, cap, rfl⟩ := okWide_slice ht hval
  obtain ⟨fuel, hf⟩ := hd
  rcases open_ints ht he hc hf with ⟨hcs, _⟩ | ⟨a, len', cap', zs, hcs, _, hl, hm, hz, _, hcell, hwz⟩
  · simp [Value.cells] at hcs
    obtain ⟨rfl, rfl, rfl⟩ := hcs
    exact ⟨[], .emp _ _ _ (by decide), by decide, fun x hx => by cases hx⟩
  · simp [Value.cells] at hcs
    obtain ⟨rfl, rfl, rfl⟩ := hcs
    simp only [if_true] at hz
    refine ⟨zs.take n, ?_, by simp; omega, fun x hx => hwz x (List.mem_of_mem_take hx)⟩
    have hln : (zs.take n).length = n := by simp; omega
    rw [hln]
    by_cases h0 : n = 0
    · subst h0
      simp only [List.take_zero, List.map_nil]
      exact .emp _ _ _ hm
    · have hc0 := hcell 0 (by omega)
      have hb := World.block_lt_of_cell? w _ hc0
      rw [ztP] at hb
      have hsp : a.spot = none := by
        have : a.add 0 = a := by simp [Addr.add]
        rw [this] at hc0
        unfold World.cell? at hc0
        split at hc0
        · split at hc0
          · cases hc0
          · rename_i hh
            simpa using hh
        · cases hc0
      obtain ⟨g, o, sp⟩ := a
      simp only at hsp
      subst hsp
      refine .fro [] g o n cap _ (fun j => .int .i64 (zs.getD j 0)) rfl hb hl hm (fun j hj => ?_) (fun j t hj => ?_)
      · have h1 := hcell j (by simp at hj; omega)
        have e : (⟨g, o, none⟩ : Addr).add j = ⟨g, o + j, none⟩ := by
          unfold Addr.add
          split
          · rename_i h; subst h; rfl
          · rfl
        rw [e] at h1
        exact h1
      · simp only [List.getElem?_map, Option.map_eq_some_iff] at hj
        obtain ⟨x, hx, rfl⟩ := hj
        have hjn : j < n := by
          have := (List.getElem?_eq_some_iff.1 hx).1
          simp at this; omega
        rw [List.getElem?_take_of_lt hjn] at hx
        simp only [List.getD, hx]
        exact .sc _ _ rfl
end
end Go.Proofs.Ytodliknibbafeaa
end
section
/- Proved here: the law HolonomyOrdered returns true for every input, and its arguments read afterwards as before. No condition. -/
namespace Go.Proofs.Ytodliknibbafeaa.holonomyOrdered
open Go.ChangeShapes Go.WideShapes Go.ChangeAt Go.RowKit
open Go.ChangeMaps (open_string shut_string)
theorem own : ownKnob Try.prog.godebug = none := by kernel_rfl
set_option maxRecDepth 100000 in
theorem zuT (H : Type) (enc : TypeId × Value → H) (W : World) (base : Nat) (args : Array Value) (ds gs : List (DataW H)) (before : List MemPlace)
    (hval0 : ∀ (j : Nat) t v, Try.f4.params[j]? = some t → args[j]? = some v → Value.okWide Try.prog W .any base t v)
    (hW : DataW.Whole enc Try.prog Try.f4.params.toList Rows.holonomyOrderedSpec.vars false W args.toList ds gs before) :
    Calls Try.prog 4 args W fun e W' => ∃ v, e = .returned v ∧ Rows.holonomyOrderedSpec.post enc Try.prog Try.f4 false true false false W args v W' := by
  have hW' := hW
  obtain ⟨p, q, hA0, hV, rfl, hfz, hnd⟩ := hW
  have hval := hval0
  have hA : DataW.TrodAll enc Try.prog W 0 (fun _ => true) true Try.f4.params.toList args.toList ds p := hA0
  rw [Try.params4] at hA hval
  obtain ⟨v0, vs0, d0, ds0, p0, q0, hargs, rfl, rfl, h0, r0⟩ := trodAll_cons hA
  obtain ⟨rfl, rfl, rfl⟩ := trodAll_nil r0
  obtain rfl : args = #[v0] := by cases args; simp_all
  obtain ⟨rfl, rfl⟩ := trodVars_none hV
  obtain ⟨a0, t0, w0, z0⟩ := zsF Try.underlying22 Try.underlying3 (by kernel_rfl) (hval 0 22 v0 rfl rfl) h0
  obtain ⟨outs, hlaw⟩ := zwf a0 w0 z0
  refine (zsV zrh (by kernel_rfl) zCN hlaw rfl W _ rfl (fun i t hi => ?_)).mono fun e W' ⟨he, bel⟩ => ?_
  · match i, hi with
    | 0, hi => cases hi; exact t0
  · subst he
    exact ⟨_, rfl, _, _, _, [], _, [], hW', trodAll_mk1 (shut_bool Try.underlying4 _), z9o 12 bel (by kernel_rfl) hA0, rfl, bel.frame _, fun h => by cases h⟩
theorem z9j {a b : Bool} (ha : a = true) (hb : b = true) : (a && b) = true := by rw [ha, hb]; rfl
set_option maxHeartbeats 4000000 in
theorem zyY : joinedFacts Try.checked.prog 4 Try.f4 Rows.holonomyOrderedSpec Rows.holonomyOrderedRow = true :=
  (z9j (z9j (z9j (z9j (z9j (z9j (z9j (z9j (z9j (z9j (z9j (z9j (z9j (z9j (z9j (z9j (z9j (z9j (z9j (z9j (z9j (z9j (z9j (z9j (z9j (z9j (z9j (z9j (z9j (z9j (z9j (by as_aux_lemma => kernel_rfl)
    (by as_aux_lemma => kernel_rfl))
    (by as_aux_lemma => kernel_rfl))
    (by as_aux_lemma => kernel_rfl))
    (by as_aux_lemma => kernel_rfl))
    (by as_aux_lemma => kernel_rfl))
    (by as_aux_lemma => kernel_rfl))
    (by as_aux_lemma => kernel_rfl))
    (by as_aux_lemma => kernel_rfl))
    (by as_aux_lemma => kernel_rfl))
    (by as_aux_lemma => kernel_rfl))
    (by as_aux_lemma => kernel_rfl))
    (by as_aux_lemma => kernel_rfl))
    (by as_aux_lemma => kernel_rfl))
    (by as_aux_lemma => kernel_rfl))
    (by as_aux_lemma => kernel_rfl))
    (by as_aux_lemma => kernel_rfl))
    (by as_aux_lemma => kernel_rfl))
    (by as_aux_lemma => kernel_rfl))
    (by as_aux_lemma => kernel_rfl))
    (by as_aux_lemma => kernel_rfl))
    (by as_aux_lemma => kernel_rfl))
    (by as_aux_lemma => kernel_rfl))
    (by as_aux_lemma => kernel_rfl))
    (by as_aux_lemma => kernel_rfl))
    (by as_aux_lemma => kernel_rfl))
    (by as_aux_lemma => kernel_rfl))
    (by as_aux_lemma => kernel_rfl))
    (by as_aux_lemma => kernel_rfl))
    (by as_aux_lemma => kernel_rfl))
    (by as_aux_lemma => kernel_rfl))
    (by as_aux_lemma => kernel_rfl))
set_option maxRecDepth 100000 in
theorem zxF (os : Os) (started : os.Started) (H : Type) (enc : TypeId × Value → H) :
    ReturnsInHanded {} Try.checked os 4 .any (Rows.holonomyOrderedSpec.pre6 enc Try.prog Try.f4 Rows.holonomyOrderedRow.domain false) (Rows.holonomyOrderedSpec.post enc Try.prog Try.f4 false true false false) := by
  refine returnsInHanded_of_change (C := Try.checked) (by kernel_rfl) started (by kernel_rfl) Try.func4
    (ChangeSpec.witness6 (enc := enc) (C := Try.checked) false ⟨#[], #[.slice none 0 0], []⟩ 8 (by kernel_rfl) (by kernel_rfl) (by kernel_rfl) (by kernel_rfl)) ?_
  intro W base args ds gs before hval0 hW hcnd _
  exact zuT H enc W base args ds gs before hval0 hW
theorem zBP : Rows.holonomyOrderedRow.holds Try.pinned (OpenSpec.ofChange Rows.holonomyOrderedSpec) :=
  OpenClaim.holds_of_wide 4 Try.f4 rfl rfl rfl rfl rfl rfl rfl ⟨rfl, rfl, rfl, rfl, rfl⟩ rfl rfl rfl rfl rfl (by kernel_rfl) Try.func4 zyY
    (of_decide_eq_true (by kernel_rfl)) (by unfold Func.isWrapper; first | (rw [if_pos (by decide +kernel)]; kernel_rfl) | (rw [if_neg (by decide +kernel)]; exact ⟨rfl, rfl⟩))
    (fun os started H enc _ => zxF os started H enc)
theorem proved : Rows.HolonomyOrderedSaid :=
  zBP
#print axioms proved
end Go.Proofs.Ytodliknibbafeaa.holonomyOrdered
end
