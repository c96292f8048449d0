/- Proved here: a part of the proof of the law at hand, in one text: no condition. -/
import Derived.Test.YtbnnipkanechoaaTImagesHeights4
import Derived.KernelRfl
import Derived.WalkKit
import Derived.WalkSpells
import Derived.WalkLawsBesides
import Derived.Lib.Hide
import Derived.Deep.OwnRows
import Derived.Deep.RegionLaw
import Derived.Shelf.Small.Bits
import Derived.Shelf.Strconv.Itoa0
import Derived.Ground.Names2Prog
import Derived.Shelf.Slices.SearchI
import Derived.Ground.SlgcProg
import Derived.Shelf.SlicesG.Cmp
import Derived.Ground.SlsfProg
import Derived.Shelf.SlSortCmp.Insertion
import Derived.Shelf.SlSortCmp.SiftDown1
import Derived.Shelf.SlSortCmp.HeapSort1
import Derived.Shelf.SlSortCmp.Insertion1
import Derived.Shelf.SlSortCmp.Median1
import Derived.Shelf.SlSortCmp.Pivot1
import Derived.Shelf.SlSortCmp.ReverseRange1
import Derived.Shelf.SlSortCmp.PartialInsertion1
import Derived.Shelf.SlSortCmp.PartitionEqual1
import Derived.Shelf.SlSortCmp.Partition1
import Derived.Shelf.SlSortCmp.Pdq1
import Derived.Shelf.SlSortCmp.Whole1
import Derived.Test.YtbnnipkanechoaaProg
set_option linter.unusedVariables false
set_option linter.unusedSimpArgs false
section
namespace Go.Proofs.Ytbnnipkanechoaa
open Go
set_option maxRecDepth 100000
theorem zrT (i j : Nat) (h : i + j < 4611686018427387904) : IntKind.i64.wrap (z0X .u64 (IntKind.u64.wrap (IntKind.i64.wrap ((i : Int) + j))) 1) = (((i + j) / 2 : Nat) : Int) := by
  have e1 : IntKind.u64.wrap (IntKind.i64.wrap ((i : Int) + j)) = (((i + j : Nat)) : Int) := by
    rw [z2m (by omega) (by omega), IntKind.wrap_u64]; omega
  have e2 : z0X .u64 (((i + j : Nat)) : Int) 1 = (((i + j) / 2 : Nat) : Int) := by
    unfold z0X
    have : min ((1 : Int).toNat) IntKind.u64.bits = 1 := by decide
    rw [this, Int.fdiv_eq_ediv_of_nonneg _ (by decide)]
    omega
  rw [e1, e2, z2m (by omega) (by omega)]
theorem at0 {α : Type} (A : List α) (x : α) (B : List α) {i : Nat} (h : i = A.length) : atI (A ++ x :: B) (i : Int) = some x := by
  subst h
  rw [z2V (by simp)]; simp
theorem at1 {α : Type} (A : List α) (x y : α) (B : List α) {i : Nat} (h : i = A.length + 1) : atI (A ++ x :: y :: B) (i : Int) = some y := by
  have : A ++ x :: y :: B = (A ++ [x]) ++ y :: B := by simp
  rw [this]
  exact at0 _ _ _ (by simpa using h)
theorem zrh {α : Type} (A : List α) (x z : α) (B : List α) {i : Nat} (h : i = A.length) : (A ++ x :: B).set i z = A ++ z :: B := by
  subst h; simp
theorem zsH {α : Type} (A : List α) (x y z : α) (B : List α) {i : Nat} (h : i = A.length + 1) : (A ++ x :: y :: B).set i z = A ++ x :: z :: B := by
  have : A ++ x :: y :: B = (A ++ [x]) ++ y :: B := by simp
  rw [this, zrh _ _ _ _ (by simpa using h)]; simp
def kv (K : List Int) (x : Int) : Int := K.getD x.toNat 0
def zpZ (K : List Int) (x : Int) : Prop := 0 ≤ x ∧ x < K.length
abbrev zeF (K : List Int) (l : List Int) : Prop := ∀ x ∈ l, zpZ K x
abbrev z8I (K : List Int) (l : List Int) : Prop := l.Pairwise fun x y => kv K x ≤ kv K y
theorem zsx {K : List Int} {x y : Int} (hx : zpZ K x) (hy : zpZ K y) : ∃ c, z1v x y K = some c ∧ (c < 0 ↔ kv K x < kv K y) := by
  obtain ⟨i, rfl⟩ := Int.eq_ofNat_of_zero_le hx.1
  obtain ⟨j, rfl⟩ := Int.eq_ofNat_of_zero_le hy.1
  have hi : i < K.length := by have := hx.2; omega
  have hj : j < K.length := by have := hy.2; omega
  unfold z1v
  rw [z2V hi, Option.bind_some, z2V hj, Option.bind_some]
  have e1 : kv K (i : Int) = K[i] := by simp [kv, List.getD, hi]
  have e2 : kv K (j : Int) = K[j] := by simp [kv, List.getD, hj]
  rw [e1, e2]
  simp only [cmp_Compare_int, cmp_isNaN_int, decide_true, Bool.not_true, Option.bind_some, Bool.false_eq_true, if_false]
  by_cases h1 : K[i] < K[j]
  · rw [if_pos h1]; exact ⟨_, rfl, by omega⟩
  · rw [if_neg h1]
    by_cases h2 : K[j] < K[i]
    · rw [if_pos h2]; exact ⟨_, rfl, by omega⟩
    · rw [if_neg h2]; exact ⟨_, rfl, by omega⟩
theorem zqS {K : List Int} {P S R : List Int} {x : Int} (hv : zeF K (S ++ [x])) (hs : z8I K S) (hl : P.length + S.length < 2 ^ 40) {w : Nat} (hw : w = P.length + S.length) :
    ∃ S', z1j (z0y (P.length : Int) K (w : Int)) LFm ((w : Int), P ++ S ++ x :: R) = some (.inl (((w + 1 : Nat) : Int), P ++ S' ++ R)) ∧ z8I K S' ∧ S'.Perm (S ++ [x]) := by
  refine Exists.elim (z2x (b := z0y (P.length : Int) K (w : Int)) (fun z => ∃ S1 S2, S1 ++ S2 = S ∧ z = (((P.length + S1.length : Nat) : Int), P ++ S1 ++ x :: (S2 ++ R)) ∧ ∀ y ∈ S2, kv K x < kv K y) (fun z => z.1.toNat)
    (fun r => ∃ S', r = .inl (((w + 1 : Nat) : Int), P ++ S' ++ R) ∧ z8I K S' ∧ S'.Perm (S ++ [x])) ?_ LFm ((w : Int), P ++ S ++ x :: R) ⟨S, [], by simp, by rw [hw]; simp, by simp⟩ (by simp only [LFm]; omega)) fun r h => by
      obtain ⟨h1, S', rfl, h2, h3⟩ := h
      exact ⟨S', h1, h2, h3⟩
  rintro z ⟨S1, S2, rfl, rfl, h2⟩
  have hlen : S1.length + S2.length < 2 ^ 40 := by rw [List.length_append] at hl; omega
  have fin : (∀ y ∈ S1, kv K y ≤ kv K x) → z8I K (S1 ++ x :: S2) ∧ (S1 ++ x :: S2).Perm (S1 ++ S2 ++ [x]) := fun hle => by
    refine ⟨?_, ?_⟩
    · rw [z8I, List.pairwise_append] at hs ⊢
      refine ⟨hs.1, List.pairwise_cons.2 ⟨fun y hy => by have := h2 y hy; omega, hs.2.1⟩, fun a ha b hb => ?_⟩
      rcases List.mem_cons.1 hb with rfl | hb
      · exact hle a ha
      · exact hs.2.2 a ha b hb
    · rw [List.append_assoc]
      exact List.Perm.append_left _ (List.perm_append_singleton x S2).symm
  simp only [z0y]
  rcases List.eq_nil_or_concat S1 with rfl | ⟨S0, y, rfl⟩
  · right
    rw [if_neg (by simp)]
    obtain ⟨f1, f2⟩ := fin (fun y hy => by simp at hy)
    refine ⟨_, rfl, x :: S2, ?_, by simpa using f1, by simpa using f2⟩
    have : IntKind.i64.wrap ((w : Int) + 1) = ((w + 1 : Nat) : Int) := by rw [z2m (by omega) (by omega)]; omega
    rw [this]; simp
  · simp only [List.concat_eq_append] at *
    have hy : zpZ K y := hv y (by simp)
    have hx : zpZ K x := hv x (by simp)
    have e1 : P ++ (S0 ++ [y]) ++ x :: (S2 ++ R) = (P ++ S0) ++ y :: x :: (S2 ++ R) := by simp
    have hn : (P.length + (S0 ++ [y]).length : Nat) = (P ++ S0).length + 1 := by simp; omega
    have hj : IntKind.i64.wrap ((((P ++ S0).length + 1 : Nat) : Int) - 1) = (((P ++ S0).length : Nat) : Int) := by
      rw [z2m (by simp at hlen ⊢; omega) (by simp at hlen ⊢; simp at hl; omega)]; omega
    rw [e1, hn, if_pos (by simp; omega), at1 _ _ _ _ rfl, Option.bind_some, hj, at0 _ _ _ rfl, Option.bind_some]
    obtain ⟨c, hc, hc2⟩ := zsx hx hy
    rw [hc, Option.bind_some]
    by_cases hlt : c < 0
    · left
      rw [if_pos hlt, Int.toNat_natCast, zsH _ _ _ _ _ rfl, at0 _ _ _ rfl, Option.bind_some, Int.toNat_natCast, zrh _ _ _ _ rfl]
      refine ⟨_, rfl, ⟨S0, y :: S2, by simp, ?_, fun z hz => ?_⟩, by simp only; omega⟩
      · simp
      · rcases List.mem_cons.1 hz with rfl | hz
        · exact hc2.1 hlt
        · exact h2 z hz
    · right
      rw [if_neg hlt]
      have hyx : kv K y ≤ kv K x := by have := (not_congr hc2).1 hlt; omega
      obtain ⟨f1, f2⟩ := fin (fun z hz => by
        rcases List.mem_append.1 hz with hz | hz
        · rw [z8I, List.pairwise_append, List.pairwise_append] at hs
          have := hs.1.2.2 z hz y (by simp)
          omega
        · obtain rfl := List.mem_singleton.1 hz; exact hyx)
      refine ⟨_, rfl, S0 ++ [y] ++ x :: S2, ?_, f1, f2⟩
      have : IntKind.i64.wrap ((w : Int) + 1) = ((w + 1 : Nat) : Int) := by rw [z2m (by omega) (by omega)]; omega
      rw [this]; simp
theorem zkm {K : List Int} {P X R : List Int} (hv : zeF K X) (hl : P.length + X.length < 2 ^ 40) {a b : Nat} (ha : a = P.length) (hb : b = P.length + X.length) :
    ∃ S, z0u (P ++ X ++ R) (a : Int) (b : Int) K = some (P ++ S ++ R) ∧ z8I K S ∧ S.Perm X := by
  subst ha hb
  unfold z0u
  rw [z3f (by omega)]
  cases X with
  | nil =>
    refine ⟨[], ?_, by simp, .refl _⟩
    rw [show LFm = (LFm - 1) + 1 from rfl, z1j]
    simp only [z0z]
    rw [if_neg (by simp; omega)]
    rfl
  | cons x X =>
    refine Exists.elim (z2x (b := z0z (P.length : Int) ((P.length + (x :: X).length : Nat) : Int) K) (fun z => ∃ S U, S ≠ [] ∧ z = (((P.length + S.length : Nat) : Int), P ++ S ++ (U ++ R)) ∧ z8I K S ∧ (S ++ U).Perm (x :: X)) (fun z => P.length + (x :: X).length + 1 - z.1.toNat)
      (fun r => ∃ S, r = P ++ S ++ R ∧ z8I K S ∧ S.Perm (x :: X)) ?_ LFm ((P.length + 1 : Nat), P ++ x :: X ++ R) ⟨[x], X, by simp, by simp, by simp, .refl _⟩ (by simp only [LFm]; omega)) fun r h => by
        obtain ⟨h1, S, rfl, h2, h3⟩ := h
        exact ⟨S, h1, h2, h3⟩
    rintro z ⟨S, U, h0, rfl, h1, h2⟩
    have hlen := h2.length_eq
    rw [List.length_append] at hlen
    simp only [z0z]
    cases U with
    | nil =>
      right
      rw [if_neg (by simp at hlen ⊢; omega)]
      exact ⟨_, rfl, S, by simp, h1, by simpa using h2⟩
    | cons u U =>
      left
      rw [if_pos (by simp at hlen ⊢; omega)]
      have hvS : zeF K (S ++ [u]) := fun y hy => hv y (h2.mem_iff.1 (by
        rcases List.mem_append.1 hy with hy | hy
        · exact List.mem_append.2 (.inl hy)
        · obtain rfl := List.mem_singleton.1 hy; simp))
      obtain ⟨S', e, s1, s2⟩ := zqS (P := P) (S := S) (R := U ++ R) (x := u) hvS h1 (by simp at hlen hl ⊢; omega) rfl
      have e' : P ++ S ++ (u :: U ++ R) = P ++ S ++ u :: (U ++ R) := rfl
      rw [e', e]
      have hS' := s2.length_eq
      simp at hS'
      refine ⟨_, rfl, ⟨S', U, fun h => by rw [h] at hS'; simp at hS', ?_, s1, ?_⟩, ?_⟩
      · simp only [hS']
        congr 1
      · refine List.Perm.trans ?_ h2
        have : S ++ u :: U = S ++ [u] ++ U := by simp
        rw [this]
        exact s2.append_right U
      · simp at hlen ⊢; omega
theorem zoZ {P V R : List Int} {x : Int} (hl : P.length + V.length < 2 ^ 40) {w : Nat} (hw : w = P.length + V.length + 1) :
    z1j (z0M (w : Int)) LFm ((P.length : Int), P ++ x :: (V ++ R)) = some (P ++ V ++ x :: R) := by
  refine z2j (s := ((P.length : Int), P ++ x :: (V ++ R))) V.length (fun k => (((P.length + k : Nat) : Int), (P ++ V.take k) ++ x :: (V.drop k ++ R))) (by simp) (by simp only [LFm]; omega) (fun k hk => ?_) ?_
  · have hlk : P.length + k = (P ++ V.take k).length := by rw [List.length_append, List.length_take]; omega
    simp only [z0M]
    rw [z2m (x := (w : Int) - 1) (by omega) (by omega), if_pos (by omega)]
    have hj : IntKind.i64.wrap (((P.length + k : Nat) : Int) + 1) = ((P.length + k + 1 : Nat) : Int) := by rw [z2m (by omega) (by omega)]; omega
    rw [hj, List.drop_eq_getElem_cons hk, List.cons_append, hlk, at1 _ _ _ _ rfl, Option.bind_some, at0 _ _ _ rfl, Option.bind_some, Int.toNat_natCast, zrh _ _ _ _ rfl, at1 _ _ _ _ rfl, Option.bind_some, Int.toNat_natCast, zsH _ _ _ _ _ rfl]
    rw [List.take_succ_eq_append_getElem hk]
    have e2 : P.length + (k + 1) = (P ++ V.take k).length + 1 := by omega
    rw [e2]
    simp only [List.append_assoc, List.cons_append, List.nil_append]
  · simp only [z0M]
    rw [z2m (x := (w : Int) - 1) (by omega) (by omega), if_neg (by omega)]
    simp
theorem zmC {P V R : List Int} {x : Int} (hl : P.length + V.length < 2 ^ 40) :
    z1j (z0I (P.length : Int)) LFm (((P.length + V.length : Nat) : Int), P ++ V ++ x :: R) = some (P ++ x :: (V ++ R)) := by
  refine z2j (s := (((P.length + V.length : Nat) : Int), P ++ V ++ x :: R)) V.length (fun k => (((P.length + (V.length - k) : Nat) : Int), (P ++ V.take (V.length - k)) ++ x :: (V.drop (V.length - k) ++ R))) (by simp) (by simp only [LFm]; omega) (fun k hk => ?_) ?_
  · obtain ⟨j, hj⟩ : ∃ j, V.length - k = j + 1 := ⟨V.length - k - 1, by omega⟩
    have hjl : j < V.length := by omega
    have e3 : V.length - (k + 1) = j := by omega
    have hlk : P.length + j = (P ++ V.take j).length := by rw [List.length_append, List.length_take]; omega
    rw [hj, e3]
    simp only [z0I]
    rw [if_pos (by omega)]
    have hw : IntKind.i64.wrap (((P.length + (j + 1) : Nat) : Int) - 1) = ((P.length + j : Nat) : Int) := by rw [z2m (by omega) (by omega)]; omega
    have e1 : (P ++ V.take (j + 1)) ++ x :: (V.drop (j + 1) ++ R) = (P ++ V.take j) ++ V[j] :: x :: (V.drop (j + 1) ++ R) := by
      rw [List.take_succ_eq_append_getElem hjl]; simp only [List.append_assoc, List.cons_append, List.nil_append]
    have e2 : P.length + (j + 1) = (P ++ V.take j).length + 1 := by omega
    rw [hw, e1, hlk, e2, at0 _ _ _ rfl, Option.bind_some, at1 _ _ _ _ rfl, Option.bind_some, Int.toNat_natCast, zsH _ _ _ _ _ rfl, at0 _ _ _ rfl, Option.bind_some, Int.toNat_natCast, zrh _ _ _ _ rfl, List.drop_eq_getElem_cons hjl]
    rfl
  · simp only [z0I]
    rw [if_neg (by omega)]
    simp
end Go.Proofs.Ytbnnipkanechoaa
end
section
namespace Go.Proofs.Ytbnnipkanechoaa
open Go
set_option maxRecDepth 100000
theorem zbS {P X M Y R : List Int} (K : List Int) (hxy : X.length = Y.length) (hl : P.length + X.length + M.length + Y.length < 2 ^ 40) {a b n : Nat} (ha : a = P.length) (hb : b = P.length + X.length + M.length) (hn : n = X.length) :
    z0q (P ++ (X ++ (M ++ (Y ++ R)))) (a : Int) (b : Int) (n : Int) K = some (P ++ (Y ++ (M ++ (X ++ R)))) := by
  subst ha hb hn
  unfold z0q
  refine z2j (s := ((0 : Int), P ++ (X ++ (M ++ (Y ++ R))))) X.length (fun k => ((k : Int), P ++ (Y.take k ++ (X.drop k ++ (M ++ (X.take k ++ (Y.drop k ++ R))))))) (by simp) (by simp only [LFm]; omega) (fun k hk => ?_) ?_
  · have hk' : k < Y.length := by omega
    simp only [z1b]
    have e1 : IntKind.i64.wrap ((((P.length + X.length + M.length : Nat)) : Int) + (k : Int)) = ((P.length + X.length + M.length + k : Nat) : Int) := by rw [z2m (by omega) (by omega)]; omega
    have e2 : IntKind.i64.wrap ((P.length : Int) + (k : Int)) = ((P.length + k : Nat) : Int) := by rw [z2m (by omega) (by omega)]; omega
    rw [if_pos (by omega), e1, e2, z3f (by omega), List.drop_eq_getElem_cons hk, List.drop_eq_getElem_cons hk']
    have f1 : P ++ (Y.take k ++ (X[k] :: X.drop (k + 1) ++ (M ++ (X.take k ++ (Y[k] :: Y.drop (k + 1) ++ R))))) = (P ++ Y.take k) ++ X[k] :: (X.drop (k + 1) ++ (M ++ (X.take k ++ Y[k] :: (Y.drop (k + 1) ++ R)))) := by simp only [List.append_assoc, List.cons_append]
    have l1 : P.length + k = (P ++ Y.take k).length := by rw [List.length_append, List.length_take]; omega
    have g : ∀ z : Int, (P ++ Y.take k) ++ z :: (X.drop (k + 1) ++ (M ++ (X.take k ++ Y[k] :: (Y.drop (k + 1) ++ R)))) = ((P ++ Y.take k) ++ z :: (X.drop (k + 1) ++ (M ++ X.take k))) ++ Y[k] :: (Y.drop (k + 1) ++ R) := fun z => by simp only [List.append_assoc, List.cons_append]
    have l2 : ∀ z : Int, P.length + X.length + M.length + k = ((P ++ Y.take k) ++ z :: (X.drop (k + 1) ++ (M ++ X.take k))).length := fun z => by
      simp only [List.length_append, List.length_cons, List.length_take, List.length_drop]; omega
    rw [f1, l1]
    conv => lhs; rw [show (P ++ List.take k Y ++ X[k] :: (List.drop (k + 1) X ++ (M ++ (List.take k X ++ Y[k] :: (List.drop (k + 1) Y ++ R))))) = _ from g X[k]]
    rw [at0 _ _ _ (l2 X[k]), Option.bind_some, ← g, at0 _ _ _ rfl, Option.bind_some, Int.toNat_natCast, zrh _ _ _ _ rfl, g, at0 _ _ _ (l2 Y[k]), Option.bind_some, Int.toNat_natCast, zrh _ _ _ _ (l2 Y[k])]
    rw [List.take_succ_eq_append_getElem hk, List.take_succ_eq_append_getElem hk']
    simp only [List.append_assoc, List.cons_append, List.nil_append]
  · simp only [z1b]
    rw [if_neg (by omega)]
    have e3 : Y.take X.length = Y := List.take_of_length_le (by omega)
    have e4 : Y.drop X.length = [] := List.drop_of_length_le (by omega)
    simp [e3, e4]
theorem rotate {P U V R : List Int} (K : List Int) (hU : U ≠ []) (hV : V ≠ []) (hl : P.length + U.length + V.length < 2 ^ 40) {a m b : Nat} (ha : a = P.length) (hm : m = P.length + U.length) (hb : b = P.length + U.length + V.length) :
    z0v (P ++ (U ++ (V ++ R))) (a : Int) (m : Int) (b : Int) K = some (P ++ (V ++ (U ++ R))) := by
  subst ha hm hb
  unfold z0v
  have e1 : IntKind.i64.wrap (((P.length + U.length : Nat) : Int) - (P.length : Int)) = (U.length : Int) := by rw [z2m (by omega) (by omega)]; omega
  have e2 : IntKind.i64.wrap (((P.length + U.length + V.length : Nat) : Int) - ((P.length + U.length : Nat) : Int)) = (V.length : Int) := by rw [z2m (by omega) (by omega)]; omega
  rw [e1, e2]
  refine zcD (s := ((U.length : Int), (V.length : Int), P ++ (U ++ (V ++ R)))) (fun z => ∃ (A X Y B : List Int), X ≠ [] ∧ Y ≠ [] ∧ A.length + X.length = P.length + U.length ∧ A.length + X.length + Y.length ≤ P.length + U.length + V.length ∧ z = ((X.length : Int), (Y.length : Int), A ++ (X ++ (Y ++ B))) ∧ A ++ (Y ++ (X ++ B)) = P ++ (V ++ (U ++ R))) (fun z => z.1.toNat + z.2.1.toNat) ⟨P, U, V, R, hU, hV, rfl, by omega, rfl, rfl⟩ (by simp only [LFm]; omega) ?_
  rintro z ⟨A, X, Y, B, hX, hY, hm, hb, rfl, hfin⟩
  have x0 := List.length_pos_iff.2 hX
  have y0 := List.length_pos_iff.2 hY
  have hmi : IntKind.i64.wrap (((P.length + U.length : Nat) : Int) - (X.length : Int)) = (A.length : Int) := by rw [z2m (by omega) (by omega)]; omega
  simp only [z1B]
  by_cases h1 : (X.length : Int) = (Y.length : Int)
  · right
    rw [if_pos h1, hmi]
    have := zbS (P := A) (X := X) (M := []) (Y := Y) (R := B) K (by omega) (by simp; omega) rfl (b := P.length + U.length) (by simp; omega) rfl
    rw [List.nil_append, List.nil_append] at this
    rw [this, Option.bind_some, hfin]
  · left
    rw [if_neg h1]
    by_cases h2 : (Y.length : Int) < (X.length : Int)
    · rw [if_pos h2, hmi]
      have hx1 : (X.take Y.length).length = Y.length := by rw [List.length_take]; omega
      have := zbS (P := A) (X := X.take Y.length) (M := X.drop Y.length) (Y := Y) (R := B) K hx1 (by simp only [List.length_take, List.length_drop]; omega) rfl (b := P.length + U.length) (by simp only [List.length_take, List.length_drop]; omega) (n := Y.length) hx1.symm
      have e : A ++ (X.take Y.length ++ (X.drop Y.length ++ (Y ++ B))) = A ++ (X ++ (Y ++ B)) := by
        rw [← List.append_assoc (X.take Y.length), List.take_append_drop]
      rw [e] at this
      rw [this, Option.bind_some]
      have hw : IntKind.i64.wrap ((X.length : Int) - (Y.length : Int)) = ((X.drop Y.length).length : Int) := by rw [z2m (by omega) (by omega), List.length_drop]; omega
      refine ⟨_, rfl, ⟨A ++ Y, X.drop Y.length, X.take Y.length, B, ?_, ?_, ?_, ?_, ?_, ?_⟩, ?_⟩
      · intro h; have := congrArg List.length h; simp at this; omega
      · intro h; rw [h] at hx1; simp at hx1; omega
      · rw [List.length_append, List.length_drop]; omega
      · rw [List.length_append, List.length_drop, hx1]; omega
      · rw [hw, hx1]; simp only [List.append_assoc]
      · rw [← hfin, List.append_assoc, ← List.append_assoc (X.take Y.length), List.take_append_drop]
      · simp only [hw, List.length_drop, Int.toNat_natCast]; omega
    · rw [if_neg h2, hmi]
      have hlt : X.length < Y.length := by omega
      have hb1 : IntKind.i64.wrap (IntKind.i64.wrap (((P.length + U.length : Nat) : Int) + (Y.length : Int)) - (X.length : Int)) = ((P.length + U.length + Y.length - X.length : Nat) : Int) := by
        rw [z2m (x := ((P.length + U.length : Nat) : Int) + (Y.length : Int)) (by omega) (by omega), z2m (by omega) (by omega)]; omega
      have hy1 : (Y.drop (Y.length - X.length)).length = X.length := by rw [List.length_drop]; omega
      have := zbS (P := A) (X := X) (M := Y.take (Y.length - X.length)) (Y := Y.drop (Y.length - X.length)) (R := B) K hy1.symm (by simp only [List.length_take, List.length_drop]; omega) rfl (b := P.length + U.length + Y.length - X.length) (by simp only [List.length_take]; omega) rfl
      have e : A ++ (X ++ (Y.take (Y.length - X.length) ++ (Y.drop (Y.length - X.length) ++ B))) = A ++ (X ++ (Y ++ B)) := by
        rw [← List.append_assoc (Y.take (Y.length - X.length)), List.take_append_drop]
      rw [e] at this
      rw [hb1, this, Option.bind_some]
      have hw : IntKind.i64.wrap ((Y.length : Int) - (X.length : Int)) = ((Y.take (Y.length - X.length)).length : Int) := by rw [z2m (by omega) (by omega), List.length_take]; omega
      refine ⟨_, rfl, ⟨A, Y.drop (Y.length - X.length), Y.take (Y.length - X.length), X ++ B, ?_, ?_, ?_, ?_, ?_, ?_⟩, ?_⟩
      · intro h; rw [h] at hy1; simp at hy1; omega
      · intro h; have := congrArg List.length h; simp at this; omega
      · rw [hy1]; exact hm
      · rw [hy1, List.length_take]; omega
      · rw [hw, hy1]
      · rw [← hfin, ← List.append_assoc (Y.take (Y.length - X.length)), List.take_append_drop]
      · simp only [hw, List.length_take, Int.toNat_natCast]; omega
theorem zob {ρ : Type} {b : Int × Int → Option ((Int × Int) ⊕ ρ)} {p : Nat → Bool} {lo hi : Nat} {Post : ρ → Prop} (hlh : lo ≤ hi) (h40 : hi < 2 ^ 40) (hmono : ∀ i j, lo ≤ i → i < j → j < hi → p j = true → p i = true)
    (step : ∀ i j : Nat, lo ≤ i → i < j → j ≤ hi → b ((i : Int), (j : Int)) = if p ((i + j) / 2) = true then z0Y ((((i + j) / 2 + 1 : Nat) : Int), (j : Int)) else z0Y ((i : Int), (((i + j) / 2 : Nat) : Int)))
    (last : ∀ s, lo ≤ s → s ≤ hi → (∀ k, lo ≤ k → k < s → p k = true) → (∀ k, s ≤ k → k < hi → p k = false) → ∃ r, b ((s : Int), (s : Int)) = some (.inr r) ∧ Post r) :
    ∃ r, z1j b LFm ((lo : Int), (hi : Int)) = some r ∧ Post r := by
  refine z2x (fun z => ∃ i j : Nat, lo ≤ i ∧ i ≤ j ∧ j ≤ hi ∧ z = ((i : Int), (j : Int)) ∧ (∀ k, lo ≤ k → k < i → p k = true) ∧ (∀ k, j ≤ k → k < hi → p k = false)) (fun z => (z.2 - z.1).toNat) Post ?_ LFm _ ⟨lo, hi, by omega, hlh, by omega, rfl, fun k h1 h2 => by omega, fun k h1 h2 => by omega⟩ (by simp only [LFm]; omega)
  rintro z ⟨i, j, h1, h2, h3, rfl, h4, h5⟩
  by_cases hij : i < j
  · left
    rw [step i j h1 hij h3]
    by_cases hp : p ((i + j) / 2) = true
    · rw [if_pos hp]
      refine ⟨_, rfl, ⟨(i + j) / 2 + 1, j, by omega, by omega, h3, rfl, fun k k1 k2 => ?_, h5⟩, by simp only; omega⟩
      by_cases e : k = (i + j) / 2
      · rw [e]; exact hp
      · exact hmono k ((i + j) / 2) k1 (by omega) (by omega) hp
    · rw [if_neg hp]
      refine ⟨_, rfl, ⟨i, (i + j) / 2, h1, by omega, by omega, rfl, h4, fun k k1 k2 => ?_⟩, by simp only; omega⟩
      by_cases e : k = (i + j) / 2
      · rw [e]; simpa using hp
      · cases hk : p k with
        | false => rfl
        | true => exact absurd (hmono ((i + j) / 2) k (by omega) (by omega) k2 hk) hp
  · right
    obtain rfl : i = j := by omega
    exact last i h1 h3 h4 h5
end Go.Proofs.Ytbnnipkanechoaa
end
section
namespace Go.Proofs.Ytbnnipkanechoaa
open Go
set_option maxRecDepth 100000
theorem atM {A V B : List Int} {t i : Nat} (h : t < V.length) (hi : i = A.length + t) : atI (A ++ (V ++ B)) (i : Int) = some (V.getD t 0) := by
  subst hi
  rw [z2V (by simp; omega)]
  congr 1
  rw [List.getElem_append_right (by omega)]
  have : A.length + t - A.length = t := by omega
  simp only [this]
  rw [List.getElem_append_left h, List.getD, List.getElem?_eq_getElem h, Option.getD_some]
theorem zsr {K V : List Int} (hv : zeF K V) {t : Nat} (h : t < V.length) : zpZ K (V.getD t 0) := by
  rw [List.getD, List.getElem?_eq_getElem h, Option.getD_some]; exact hv _ (List.getElem_mem h)
theorem z5W {K V : List Int} (hs : z8I K V) {i j : Nat} (hij : i ≤ j) (hj : j < V.length) : kv K (V.getD i 0) ≤ kv K (V.getD j 0) := by
  rw [List.getD, List.getD, List.getElem?_eq_getElem hj, List.getElem?_eq_getElem (show i < V.length by omega), Option.getD_some, Option.getD_some]
  by_cases e : i = j
  · subst e; omega
  · exact List.pairwise_iff_getElem.1 hs i j (by omega) hj (by omega)
theorem z6d {V : List Int} {k : Nat} {x : Int} (h : x ∈ V.take k) : ∃ i, i < k ∧ i < V.length ∧ x = V.getD i 0 := by
  obtain ⟨i, hi, rfl⟩ := List.getElem_of_mem h
  have hi' : i < k ∧ i < V.length := by rw [List.length_take] at hi; omega
  refine ⟨i, hi'.1, hi'.2, ?_⟩
  rw [List.getElem_take, List.getD, List.getElem?_eq_getElem hi'.2, Option.getD_some]
theorem z6e {V : List Int} {k : Nat} {x : Int} (h : x ∈ V.drop k) : ∃ i, k ≤ i ∧ i < V.length ∧ x = V.getD i 0 := by
  obtain ⟨i, hi, rfl⟩ := List.getElem_of_mem h
  have hi' : k + i < V.length := by rw [List.length_drop] at hi; omega
  refine ⟨k + i, by omega, hi', ?_⟩
  rw [List.getElem_drop, List.getD, List.getElem?_eq_getElem hi', Option.getD_some]
theorem znn {K V1 V2 : List Int} {x : Int} (hs : z8I K (V1 ++ V2)) (h1 : ∀ y ∈ V1, kv K y ≤ kv K x) (h2 : ∀ y ∈ V2, kv K x ≤ kv K y) : z8I K (V1 ++ x :: V2) := by
  rw [z8I, List.pairwise_append] at hs ⊢
  refine ⟨hs.1, List.pairwise_cons.2 ⟨h2, hs.2.1⟩, fun a ha b hb => ?_⟩
  rcases List.mem_cons.1 hb with rfl | hb
  · exact h1 a ha
  · exact hs.2.2 a ha b hb
def tl3 (rf : List Int → Int → Int → Int → List Int → Option (List Int)) (K : List Int) (M E b : Int) (v : List Int) : Option (List Int) :=
  if M < E then (if E < b then (rf v M E b K).bind fun r => some r else some v) else some v
def tl2 (rf : List Int → Int → Int → Int → List Int → Option (List Int)) (K : List Int) (a s M E b : Int) (v : List Int) : Option (List Int) :=
  if a < s then (if s < M then (rf v a s M K).bind fun r => tl3 rf K M E b r else tl3 rf K M E b v) else tl3 rf K M E b v
def tl1 (rf : List Int → Int → Int → Int → List Int → Option (List Int)) (K : List Int) (a m s M E b : Int) (v : List Int) : Option (List Int) :=
  if s < m then (if m < E then (z0v v s m E K).bind fun r => tl2 rf K a s M E b r else tl2 rf K a s M E b v) else tl2 rf K a s M E b v
def zgu (rf : List Int → Int → Int → Int → List Int → Option (List Int)) (K : List Int) (N : Nat) : Prop :=
  ∀ {P U V R : List Int} {a m b : Nat}, U ≠ [] → V ≠ [] → zeF K (U ++ V) → z8I K U → z8I K V → P.length + U.length + V.length < 2 ^ 40 → U.length + V.length ≤ N → a = P.length → m = P.length + U.length → b = P.length + U.length + V.length →
    ∃ W, rf (P ++ (U ++ (V ++ R))) (a : Int) (m : Int) (b : Int) K = some (P ++ (W ++ R)) ∧ z8I K W ∧ W.Perm (U ++ V)
theorem zhS {rf : List Int → Int → Int → Int → List Int → Option (List Int)} {K : List Int} {N : Nat} (hrf : zgu rf K N) {P U V R : List Int} {a m b : Nat} (hv : zeF K (U ++ V)) (hsU : z8I K U) (hsV : z8I K V) (hl : P.length + U.length + V.length < 2 ^ 40) (hN : U.length + V.length ≤ N) (ha : a = P.length) (hm : m = P.length + U.length) (hb : b = P.length + U.length + V.length)
    (f : List Int → Option (List Int)) :
    ∃ W, (if (a : Int) < (m : Int) then (if (m : Int) < (b : Int) then (rf (P ++ (U ++ (V ++ R))) (a : Int) (m : Int) (b : Int) K).bind f else f (P ++ (U ++ (V ++ R)))) else f (P ++ (U ++ (V ++ R)))) = f (P ++ (W ++ R)) ∧ z8I K W ∧ W.Perm (U ++ V) := by
  by_cases h1 : U = []
  · subst h1
    rw [if_neg (by simp at hm; omega)]
    exact ⟨V, by simp, hsV, .refl _⟩
  · have h1' := List.length_pos_iff.2 h1
    rw [if_pos (by omega)]
    by_cases h2 : V = []
    · subst h2
      rw [if_neg (by simp at hb; omega)]
      exact ⟨U, by simp, hsU, by simp⟩
    · have h2' := List.length_pos_iff.2 h2
      rw [if_pos (by omega)]
      obtain ⟨W, e, w1, w2⟩ := hrf h1 h2 hv hsU hsV hl hN ha hm hb (R := R)
      exact ⟨W, by rw [e, Option.bind_some], w1, w2⟩
theorem zrw {rf : List Int → Int → Int → Int → List Int → Option (List Int)} {K : List Int} {N : Nat} (hrf : zgu rf K N) {P U1 U2 V1 V2 R : List Int} {a m b s M E : Nat} (hv : zeF K (U1 ++ U2 ++ (V1 ++ V2))) (hsU : z8I K (U1 ++ U2)) (hsV : z8I K (V1 ++ V2)) (hl : P.length + U1.length + U2.length + V1.length + V2.length < 2 ^ 40)
    (h1 : U1.length + V1.length ≤ N) (h2 : U2.length + V2.length ≤ N) (ha : a = P.length) (hs : s = a + U1.length) (hm : m = s + U2.length) (hE : E = m + V1.length) (hb : b = E + V2.length) (hM : M = s + V1.length)
    (c1 : ∀ x ∈ U1, ∀ y ∈ V2, kv K x ≤ kv K y) (c2 : ∀ x ∈ V1, ∀ y ∈ U2, kv K x ≤ kv K y) :
    ∃ W, tl1 rf K (a : Int) (m : Int) (s : Int) (M : Int) (E : Int) (b : Int) (P ++ (U1 ++ U2 ++ (V1 ++ V2 ++ R))) = some (P ++ (W ++ R)) ∧ z8I K W ∧ W.Perm (U1 ++ U2 ++ (V1 ++ V2)) := by
  have e0 : tl1 rf K (a : Int) (m : Int) (s : Int) (M : Int) (E : Int) (b : Int) (P ++ (U1 ++ U2 ++ (V1 ++ V2 ++ R))) = tl2 rf K (a : Int) (s : Int) (M : Int) (E : Int) (b : Int) (P ++ (U1 ++ (V1 ++ (U2 ++ (V2 ++ R))))) := by
    unfold tl1
    by_cases hu : U2 = []
    · subst hu
      rw [if_neg (by simp at hm; omega)]; simp
    · have hu' := List.length_pos_iff.2 hu
      rw [if_pos (by omega)]
      by_cases hw : V1 = []
      · subst hw
        rw [if_neg (by simp at hE; omega)]; simp
      · have hw' := List.length_pos_iff.2 hw
        rw [if_pos (by omega)]
        have := rotate (P := P ++ U1) (U := U2) (V := V1) (R := V2 ++ R) K hu hw (by simp; omega) (a := s) (m := m) (b := E) (by simp; omega) (by simp; omega) (by simp; omega)
        have e : P ++ U1 ++ (U2 ++ (V1 ++ (V2 ++ R))) = P ++ (U1 ++ U2 ++ (V1 ++ V2 ++ R)) := by simp only [List.append_assoc]
        rw [e] at this
        rw [this, Option.bind_some]
        simp only [List.append_assoc]
  rw [e0]
  have q1 := List.pairwise_append.1 hsU
  have q2 := List.pairwise_append.1 hsV
  have m1 : ∀ x ∈ U1 ++ V1, x ∈ U1 ++ U2 ++ (V1 ++ V2) := fun x hx => by
    simp only [List.mem_append] at *
    rcases hx with h | h
    · exact .inl (.inl h)
    · exact .inr (.inl h)
  have m2 : ∀ x ∈ U2 ++ V2, x ∈ U1 ++ U2 ++ (V1 ++ V2) := fun x hx => by
    simp only [List.mem_append] at *
    rcases hx with h | h
    · exact .inl (.inr h)
    · exact .inr (.inr h)
  obtain ⟨L, e1, l1, l2⟩ := zhS (R := U2 ++ (V2 ++ R)) hrf (P := P) (U := U1) (V := V1) (fun x hx => hv x (m1 x hx)) q1.1 q2.1 (by omega) h1 ha (m := s) (by omega) (b := M) (by omega) (tl3 rf K (M : Int) (E : Int) (b : Int))
  have hL := l2.length_eq
  rw [List.length_append] at hL
  unfold tl2
  rw [e1]
  obtain ⟨Rw, e2, r1, r2⟩ := zhS (R := R) hrf (P := P ++ L) (U := U2) (V := V2) (fun x hx => hv x (m2 x hx)) q1.2.1 q2.2.1 (by rw [List.length_append]; omega) h2 (a := M) (by rw [List.length_append]; omega) (m := E) (by rw [List.length_append]; omega) (b := b) (by rw [List.length_append]; omega) (fun r => some r)
  unfold tl3
  have e : P ++ (L ++ (U2 ++ (V2 ++ R))) = P ++ L ++ (U2 ++ (V2 ++ R)) := by simp only [List.append_assoc]
  rw [e, e2]
  refine ⟨L ++ Rw, by simp only [List.append_assoc], ?_, ?_⟩
  · refine List.pairwise_append.2 ⟨l1, r1, fun x hx y hy => ?_⟩
    have hx' := l2.mem_iff.1 hx
    have hy' := r2.mem_iff.1 hy
    rcases List.mem_append.1 hx' with hx' | hx' <;> rcases List.mem_append.1 hy' with hy' | hy'
    · exact q1.2.2 x hx' y hy'
    · exact c1 x hx' y hy'
    · exact c2 x hx' y hy'
    · exact q2.2.2 x hx' y hy'
  · refine (l2.append r2).trans ?_
    have : (U1 ++ V1 ++ (U2 ++ V2)).Perm (U1 ++ U2 ++ (V1 ++ V2)) := by
      simp only [List.append_assoc]
      refine List.Perm.append_left U1 ?_
      rw [← List.append_assoc, ← List.append_assoc]
      exact List.perm_append_comm.append_right V2
    exact this
theorem zpR : @z1t = @z0o := rfl
theorem zhy {rf : List Int → Int → Int → Int → List Int → Option (List Int)} {K : List Int} {N : Nat} (hrf : zgu rf K N) {P U V R : List Int} (hv : zeF K (U ++ V)) (hsU : z8I K U) (hsV : z8I K V) (hl : P.length + U.length + V.length < 2 ^ 40) {a m b M lo hi : Nat} (ha : a = P.length) (hm : m = P.length + U.length) (hb : b = P.length + U.length + V.length)
    (hU2 : 2 ≤ U.length) (hV2 : 2 ≤ V.length) (hN : U.length + V.length ≤ N + 1) (hM : M = (a + b) / 2) (hlo : (lo = a ∧ m ≤ M) ∨ (lo = M + m - b ∧ M < m)) (hhi : (hi = m ∧ m ≤ M) ∨ (hi = M ∧ M < m)) :
    ∃ r, z1j (z0o (P ++ (U ++ (V ++ R))) (a : Int) (m : Int) (b : Int) K rf) LFm ((lo : Int), (hi : Int)) = some r ∧ ∃ W, r = P ++ (W ++ R) ∧ z8I K W ∧ W.Perm (U ++ V) := by
  have hvU : zeF K U := fun x hx => hv x (List.mem_append.2 (.inl hx))
  have hvV : zeF K V := fun x hx => hv x (List.mem_append.2 (.inr hx))
  have cM : IntKind.i64.wrap (z0X .u64 (IntKind.u64.wrap (IntKind.i64.wrap ((a : Int) + b))) 1) = (M : Int) := by rw [zrT _ _ (by omega), hM]
  have cN : IntKind.i64.wrap ((M : Int) + (m : Int)) = ((M + m : Nat) : Int) := by rw [z2m (by omega) (by omega)]; omega
  have cP : IntKind.i64.wrap (((M + m : Nat) : Int) - 1) = ((M + m - 1 : Nat) : Int) := by rw [z2m (by omega) (by omega)]; omega
  refine zob (p := fun c => decide (kv K (U.getD (c - a) 0) ≤ kv K (V.getD (M + m - 1 - c - m) 0))) (by omega) (by omega) (fun i j h1 h2 h3 hp => ?_) (fun i j h1 h2 h3 => ?_) (fun s h1 h2 h3 h4 => ?_)
  · simp only [decide_eq_true_eq] at hp ⊢
    have k1 := z5W hsU (i := i - a) (j := j - a) (by omega) (by omega)
    have k2 := z5W hsV (i := M + m - 1 - j - m) (j := M + m - 1 - i - m) (by omega) (by omega)
    omega
  · simp only [z0o]
    rw [if_pos (by omega), z1i _ (by omega), cM, zrT i j (by omega), cN, cP]
    have hc : (i + j) / 2 < hi ∧ lo ≤ (i + j) / 2 := by omega
    have w1 : IntKind.i64.wrap (((M + m - 1 : Nat) : Int) - (((i + j) / 2 : Nat) : Int)) = ((M + m - 1 - (i + j) / 2 : Nat) : Int) := by rw [z2m (by omega) (by omega)]; omega
    have e1 : P ++ (U ++ (V ++ R)) = (P ++ U) ++ (V ++ R) := by simp only [List.append_assoc]
    have g1 : atI (P ++ (U ++ (V ++ R))) ((M + m - 1 - (i + j) / 2 : Nat) : Int) = some (V.getD (M + m - 1 - (i + j) / 2 - m) 0) := by
      rw [e1]; exact atM (by omega) (by rw [List.length_append]; omega)
    have g2 : atI (P ++ (U ++ (V ++ R))) (((i + j) / 2 : Nat) : Int) = some (U.getD ((i + j) / 2 - a) 0) := atM (by omega) (by omega)
    rw [w1, g1, Option.bind_some, g2, Option.bind_some]
    obtain ⟨c, hc1, hc2⟩ := zsx (zsr hvV (t := M + m - 1 - (i + j) / 2 - m) (by omega)) (zsr hvU (t := (i + j) / 2 - a) (by omega))
    rw [hc1, Option.bind_some]
    simp only [decide_eq_true_eq]
    by_cases h : c < 0
    · have := hc2.1 h
      rw [if_pos h, if_neg (by omega)]
    · have := (not_congr hc2).1 h
      rw [if_neg h, if_pos (by omega), z3f (by omega)]
  · have wE : IntKind.i64.wrap (((M + m : Nat) : Int) - (s : Int)) = ((M + m - s : Nat) : Int) := by rw [z2m (by omega) (by omega)]; omega
    have hx : (z0o (P ++ (U ++ (V ++ R))) (a : Int) (m : Int) (b : Int) K rf) ((s : Int), (s : Int)) = z1n (tl1 rf K (a : Int) (m : Int) (s : Int) (M : Int) ((M + m - s : Nat) : Int) (b : Int) (P ++ (U ++ (V ++ R)))) := by
      simp only [z0o]
      rw [if_neg (by omega), cM, cN, wE]
      rfl
    have hsa : a ≤ s ∧ s ≤ m ∧ s ≤ M := by omega
    have tU : U.take (s - a) ++ U.drop (s - a) = U := List.take_append_drop ..
    have tV : V.take (M - s) ++ V.drop (M - s) = V := List.take_append_drop ..
    have lU1 : (U.take (s - a)).length = s - a := by rw [List.length_take]; omega
    have lU2 : (U.drop (s - a)).length = m - s := by rw [List.length_drop]; omega
    have lV1 : (V.take (M - s)).length = M - s := by rw [List.length_take]; omega
    have lV2 : (V.drop (M - s)).length = b - (M + m - s) := by rw [List.length_drop]; omega
    have c1 : ∀ x ∈ U.take (s - a), ∀ y ∈ V.drop (M - s), kv K x ≤ kv K y := fun x hx y hy => by
      obtain ⟨i, i1, i2, rfl⟩ := z6d hx
      obtain ⟨j, j1, j2, rfl⟩ := z6e hy
      have hs1 : lo ≤ s - 1 ∧ s - 1 < s := by omega
      have := h3 (s - 1) hs1.1 hs1.2
      simp only [decide_eq_true_eq] at this
      have k1 := z5W hsU (i := i) (j := s - 1 - a) (by omega) (by omega)
      have k2 := z5W hsV (i := M + m - 1 - (s - 1) - m) (j := j) (by omega) (by omega)
      omega
    have c2 : ∀ x ∈ V.take (M - s), ∀ y ∈ U.drop (s - a), kv K x ≤ kv K y := fun x hx y hy => by
      obtain ⟨i, i1, i2, rfl⟩ := z6d hx
      obtain ⟨j, j1, j2, rfl⟩ := z6e hy
      have hs1 : s ≤ s ∧ s < hi := by omega
      have := h4 s hs1.1 hs1.2
      simp only [decide_eq_false_iff_not] at this
      have k1 := z5W hsU (i := s - a) (j := j) (by omega) (by omega)
      have k2 := z5W hsV (i := i) (j := M + m - 1 - s - m) (by omega) (by omega)
      omega
    obtain ⟨W, e, w1, w2⟩ := zrw (P := P) (U1 := U.take (s - a)) (U2 := U.drop (s - a)) (V1 := V.take (M - s)) (V2 := V.drop (M - s)) (R := R) hrf (a := a) (m := m) (b := b) (s := s) (M := M) (E := M + m - s) (by rw [tU, tV]; exact hv) (by rw [tU]; exact hsU) (by rw [tV]; exact hsV) (by omega) (by omega) (by omega) ha (by omega) (by omega) (by omega) (by omega) (by omega) c1 c2
    rw [tU, tV] at e w2
    rw [hx, e]
    exact ⟨_, rfl, W, rfl, w1, w2⟩
theorem zdG {K : List Int} : ∀ (k : Nat) {P U V R : List Int} {a m b : Nat}, U ≠ [] → V ≠ [] → zeF K (U ++ V) → z8I K U → z8I K V → P.length + U.length + V.length < 2 ^ 40 → U.length + V.length ≤ k → a = P.length → m = P.length + U.length → b = P.length + U.length + V.length →
    ∃ W, z0s k (P ++ (U ++ (V ++ R))) (a : Int) (m : Int) (b : Int) K = some (P ++ (W ++ R)) ∧ z8I K W ∧ W.Perm (U ++ V)
  | 0, P, U, V, R, a, m, b, hU, _, _, _, _, _, hk, _, _, _ => by
    have := List.length_pos_iff.2 hU
    omega
  | k + 1, P, U, V, R, a, m, b, hU, hV, hv, hsU, hsV, hl, hk, ha, hm, hb => by
    have u0 := List.length_pos_iff.2 hU
    have v0 := List.length_pos_iff.2 hV
    have hvU : zeF K U := fun x hx => hv x (List.mem_append.2 (.inl hx))
    have hvV : zeF K V := fun x hx => hv x (List.mem_append.2 (.inr hx))
    have cU : IntKind.i64.wrap ((m : Int) - (a : Int)) = (U.length : Int) := by rw [z2m (by omega) (by omega)]; omega
    have cV : IntKind.i64.wrap ((b : Int) - (m : Int)) = (V.length : Int) := by rw [z2m (by omega) (by omega)]; omega
    show ∃ W, z0O (z0s k) (P ++ (U ++ (V ++ R))) (a : Int) (m : Int) (b : Int) K = _ ∧ _
    unfold z0O
    rw [cU, cV]
    by_cases h1 : U.length = 1
    · obtain ⟨x, rfl⟩ := List.length_eq_one_iff.1 h1
      rw [if_pos (by simp)]
      have hx : zpZ K x := hvU x (by simp)
      have := zob (b := z0N (P ++ ([x] ++ (V ++ R))) (a : Int) K) (p := fun h => decide (kv K (V.getD (h - m) 0) < kv K x)) (lo := m) (hi := b) (Post := fun r => ∃ W, r = P ++ (W ++ R) ∧ z8I K W ∧ W.Perm ([x] ++ V)) (by omega) (by omega) (fun i j q1 q2 q3 hp => ?_) (fun i j q1 q2 q3 => ?_) (fun s q1 q2 q3 q4 => ?_)
      · obtain ⟨r, e, W, rfl, w1, w2⟩ := this
        exact ⟨W, e, w1, w2⟩
      · simp only [decide_eq_true_eq] at hp ⊢
        have k1 := z5W hsV (i := i - m) (j := j - m) (by omega) (by omega)
        omega
      · simp only [z0N]
        rw [if_pos (by omega), z1i _ (by omega), zrT _ _ (by omega)]
        have e1 : P ++ ([x] ++ (V ++ R)) = (P ++ [x]) ++ (V ++ R) := by simp only [List.append_assoc]
        have g1 : atI (P ++ ([x] ++ (V ++ R))) (((i + j) / 2 : Nat) : Int) = some (V.getD ((i + j) / 2 - m) 0) := by
          rw [e1]; exact atM (by omega) (by rw [List.length_append]; simp at hm ⊢; omega)
        rw [g1, Option.bind_some, show P ++ ([x] ++ (V ++ R)) = P ++ x :: (V ++ R) from rfl, at0 _ _ _ ha, Option.bind_some]
        obtain ⟨c, hc1, hc2⟩ := zsx (zsr hvV (t := (i + j) / 2 - m) (by omega)) hx
        rw [hc1, Option.bind_some]
        simp only [decide_eq_true_eq]
        by_cases h : c < 0
        · rw [if_pos h, if_pos (hc2.1 h), z3f (by omega)]
        · rw [if_neg h, if_neg ((not_congr hc2).1 h)]
      · simp only [z0N]
        rw [if_neg (by omega)]
        have lV1 : (V.take (s - m)).length = s - m := by rw [List.length_take]; omega
        simp only [List.length_singleton] at *
        have := zoZ (P := P) (V := V.take (s - m)) (R := V.drop (s - m) ++ R) (x := x) (by omega) (w := s) (by omega)
        rw [← List.append_assoc (V.take (s - m)), List.take_append_drop] at this
        rw [show P ++ ([x] ++ (V ++ R)) = P ++ x :: (V ++ R) from rfl, ha, this]
        refine ⟨_, rfl, V.take (s - m) ++ x :: V.drop (s - m), by simp only [List.append_assoc, List.cons_append], ?_, ?_⟩
        · refine znn (by rw [List.take_append_drop]; exact hsV) (fun y hy => ?_) (fun y hy => ?_)
          · obtain ⟨i, i1, i2, rfl⟩ := z6d hy
            have := q3 (m + i) (by omega) (by omega)
            simp only [decide_eq_true_eq, Nat.add_sub_cancel_left] at this
            omega
          · obtain ⟨i, i1, i2, rfl⟩ := z6e hy
            have := q4 (m + i) (by omega) (by omega)
            simp only [decide_eq_false_iff_not, Nat.add_sub_cancel_left] at this
            omega
        · refine List.perm_middle.trans ?_
          rw [List.take_append_drop]
          exact .refl _
    · rw [if_neg (by omega)]
      by_cases h2 : V.length = 1
      · obtain ⟨x, rfl⟩ := List.length_eq_one_iff.1 h2
        rw [if_pos (by simp)]
        have hx : zpZ K x := hvV x (by simp)
        have := zob (b := z0J (P ++ (U ++ ([x] ++ R))) (m : Int) K) (p := fun h => decide (kv K (U.getD (h - a) 0) ≤ kv K x)) (lo := a) (hi := m) (Post := fun r => ∃ W, r = P ++ (W ++ R) ∧ z8I K W ∧ W.Perm (U ++ [x])) (by omega) (by omega) (fun i j q1 q2 q3 hp => ?_) (fun i j q1 q2 q3 => ?_) (fun s q1 q2 q3 q4 => ?_)
        · obtain ⟨r, e, W, rfl, w1, w2⟩ := this
          exact ⟨W, e, w1, w2⟩
        · simp only [decide_eq_true_eq] at hp ⊢
          have k1 := z5W hsU (i := i - a) (j := j - a) (by omega) (by omega)
          omega
        · simp only [z0J]
          have e1 : P ++ (U ++ ([x] ++ R)) = (P ++ U) ++ x :: R := by simp only [List.append_assoc, List.cons_append, List.nil_append]
          have g1 : atI (P ++ (U ++ ([x] ++ R))) (((i + j) / 2 : Nat) : Int) = some (U.getD ((i + j) / 2 - a) 0) := atM (by omega) (by omega)
          have g2 : atI (P ++ (U ++ ([x] ++ R))) (m : Int) = some x := by rw [e1]; exact at0 _ _ _ (by rw [List.length_append]; omega)
          rw [if_pos (by omega), z1i _ (by omega), zrT _ _ (by omega), g2, Option.bind_some, g1, Option.bind_some]
          obtain ⟨c, hc1, hc2⟩ := zsx hx (zsr hvU (t := (i + j) / 2 - a) (by omega))
          rw [hc1, Option.bind_some]
          simp only [decide_eq_true_eq]
          by_cases h : c < 0
          · have := hc2.1 h
            rw [if_pos h, if_neg (by omega)]
          · have := (not_congr hc2).1 h
            rw [if_neg h, if_pos (by omega), z3f (by omega)]
        · simp only [z0J]
          rw [if_neg (by omega)]
          have lU1 : (U.take (s - a)).length = s - a := by rw [List.length_take]; omega
          have lU2 : (U.drop (s - a)).length = m - s := by rw [List.length_drop]; omega
          simp only [List.length_singleton] at *
          have := zmC (P := P ++ U.take (s - a)) (V := U.drop (s - a)) (R := R) (x := x) (by rw [List.length_append]; omega)
          have e2 : (P ++ U.take (s - a)).length = s := by rw [List.length_append]; omega
          have e3 : (P ++ U.take (s - a)).length + (U.drop (s - a)).length = m := by rw [e2, lU2]; omega
          have e4 : P ++ U.take (s - a) ++ U.drop (s - a) ++ x :: R = P ++ (U ++ ([x] ++ R)) := by
            rw [List.append_assoc P, List.take_append_drop]; simp only [List.append_assoc, List.cons_append, List.nil_append]
          rw [e3, e4, e2] at this
          rw [this]
          refine ⟨_, rfl, U.take (s - a) ++ x :: U.drop (s - a), by simp only [List.append_assoc, List.cons_append], ?_, ?_⟩
          · refine znn (by rw [List.take_append_drop]; exact hsU) (fun y hy => ?_) (fun y hy => ?_)
            · obtain ⟨i, i1, i2, rfl⟩ := z6d hy
              have := q3 (a + i) (by omega) (by omega)
              simp only [decide_eq_true_eq, Nat.add_sub_cancel_left] at this
              omega
            · obtain ⟨i, i1, i2, rfl⟩ := z6e hy
              have := q4 (a + i) (by omega) (by omega)
              simp only [decide_eq_false_iff_not, Nat.add_sub_cancel_left] at this
              omega
          · refine List.perm_middle.trans ?_
            rw [List.take_append_drop]
            exact (List.perm_append_singleton x U).symm
      · rw [if_neg (by omega)]
        have hrf : zgu (z0s k) K k := fun {P' U' V' R' a' m' b'} g1 g2 g3 g4 g5 g6 g7 g8 g9 g10 => zdG k g1 g2 g3 g4 g5 g6 g7 g8 g9 g10
        have cM : IntKind.i64.wrap (z0X .u64 (IntKind.u64.wrap (IntKind.i64.wrap ((a : Int) + b))) 1) = (((a + b) / 2 : Nat) : Int) := zrT _ _ (by omega)
        have cN : IntKind.i64.wrap ((((a + b) / 2 : Nat) : Int) + (m : Int)) = (((a + b) / 2 + m : Nat) : Int) := by rw [z2m (by omega) (by omega)]; omega
        rw [z1i _ (by omega), cM, cN]
        by_cases hMm : (a + b) / 2 < m
        · have cB : IntKind.i64.wrap ((((a + b) / 2 + m : Nat) : Int) - (b : Int)) = (((a + b) / 2 + m - b : Nat) : Int) := by rw [z2m (by omega) (by omega)]; omega
          rw [if_pos (by omega), cB]
          obtain ⟨r, e, W, rfl, w1, w2⟩ := zhy (R := R) hrf hv hsU hsV hl (M := (a + b) / 2) (lo := (a + b) / 2 + m - b) (hi := (a + b) / 2) ha hm hb (by omega) (by omega) (by omega) rfl (.inr ⟨rfl, hMm⟩) (.inr ⟨rfl, hMm⟩)
          exact ⟨W, e, w1, w2⟩
        · rw [if_neg (by omega), zpR]
          obtain ⟨r, e, W, rfl, w1, w2⟩ := zhy (R := R) hrf hv hsU hsV hl (M := (a + b) / 2) (lo := a) (hi := m) ha hm hb (by omega) (by omega) (by omega) rfl (.inl ⟨rfl, by omega⟩) (.inl ⟨rfl, by omega⟩)
          exact ⟨W, e, w1, w2⟩
end Go.Proofs.Ytbnnipkanechoaa
end
section
namespace Go.Proofs.Ytbnnipkanechoaa
open Go
set_option maxRecDepth 100000
def ziq (K : List Int) (B : Nat) (l : List Int) : Prop := ∀ i j, i < j → j < l.length → i / B = j / B → kv K (l.getD i 0) ≤ kv K (l.getD j 0)
theorem zry {K l : List Int} (h : ∀ i j, i < j → j < l.length → kv K (l.getD i 0) ≤ kv K (l.getD j 0)) : z8I K l := by
  refine List.pairwise_iff_getElem.2 fun i j hi hj hij => ?_
  have := h i j hij hj
  rwa [List.getD, List.getD, List.getElem?_eq_getElem hj, List.getElem?_eq_getElem hi, Option.getD_some, Option.getD_some] at this
theorem zkv {A X : List Int} {i : Nat} (h : i < A.length) : (A ++ X).getD i 0 = A.getD i 0 := by
  rw [List.getD, List.getD, List.getElem?_append_left h]
theorem zku {A X : List Int} {i : Nat} : (A ++ X).getD (A.length + i) 0 = X.getD i 0 := by
  rw [List.getD, List.getD, List.getElem?_append_right (by omega), Nat.add_sub_cancel_left]
theorem zgp {K A X : List Int} {B q : Nat} (hB : 0 < B) (hA : A.length = q * B) (h : ziq K B (A ++ X)) : ziq K B X := fun i j hij hj hb => by
  have := h (A.length + i) (A.length + j) (by omega) (by rw [List.length_append]; omega) (by rw [hA, Nat.add_comm, Nat.add_mul_div_right _ _ hB, Nat.add_comm, Nat.add_comm (q * B), Nat.add_mul_div_right _ _ hB, hb, Nat.add_comm])
  rwa [zku, zku] at this
theorem zcd {K U X : List Int} {B : Nat} (hU : U.length ≤ B) (h : ziq K B (U ++ X)) : z8I K U := zry fun i j hij hj => by
  have := h i j hij (by rw [List.length_append]; omega) (by rw [Nat.div_eq_of_lt (by omega), Nat.div_eq_of_lt (by omega)])
  rwa [zkv (by omega), zkv hj] at this
theorem zb0 {K D W : List Int} {B q : Nat} (hB : 0 < B) (hD : D.length = q * B) (h : ziq K B D) (hW : z8I K W) : ziq K B (D ++ W) := fun i j hij hj hb => by
  by_cases h1 : j < D.length
  · rw [zkv (by omega), zkv h1]
    exact h i j hij h1 hb
  · have h2 : D.length ≤ i := by
      rcases Nat.lt_or_ge i D.length with h2 | h2
      · exfalso
        have a1 : i / B < q := by rw [Nat.div_lt_iff_lt_mul hB, ← hD]; exact h2
        have a2 : q ≤ j / B := by rw [Nat.le_div_iff_mul_le hB, ← hD]; omega
        omega
      · exact h2
    obtain ⟨i', rfl⟩ := Nat.exists_eq_add_of_le h2
    obtain ⟨j', rfl⟩ := Nat.exists_eq_add_of_le (show D.length ≤ j by omega)
    rw [zku, zku]
    exact z5W hW (by omega) (by rw [List.length_append] at hj; omega)
theorem zoD (K : List Int) (B : Nat) : ziq K B [] := fun i j _ hj => by simp at hj
theorem allK_perm {K l r : List Int} (h : l.Perm r) (hr : zeF K r) : zeF K l := fun x hx => hr x (h.mem_iff.1 hx)
theorem zpK {K l0 : List Int} (hv : zeF K l0) (hn : l0.length < 2 ^ 38) (Post : List Int → Prop) (k : ∀ D, ziq K 20 D → D.Perm l0 → ∃ r, z1j (z1g ((l0.length : Nat) : Int) K) LFm (20, D) = some r ∧ Post r) :
    ∃ r, z1j (z1h ((l0.length : Nat) : Int) K) LFm (0, 20, l0) = some r ∧ Post r := by
  refine z2x (fun z => ∃ (D X : List Int) (q : Nat), D.length = q * 20 ∧ z = ((D.length : Int), ((D.length + 20 : Nat) : Int), D ++ X) ∧ ziq K 20 D ∧ (D ++ X).Perm l0) (fun z => l0.length + 1 - z.1.toNat) Post ?_ LFm _ ⟨[], l0, 0, rfl, rfl, zoD K 20, .refl _⟩ (by simp only [LFm]; omega)
  rintro z ⟨D, X, q, hq, rfl, hD, hp⟩
  have hlen := hp.length_eq
  rw [List.length_append] at hlen
  have hvX : zeF K X := fun x hx => hv x (hp.mem_iff.1 (List.mem_append.2 (.inr hx)))
  simp only [z1h]
  by_cases h : D.length + 20 ≤ l0.length
  · left
    rw [if_pos (by omega)]
    have t1 : X.take 20 ++ X.drop 20 = X := List.take_append_drop ..
    have t2 : (X.take 20).length = 20 := by rw [List.length_take]; omega
    obtain ⟨S, e, s1, s2⟩ := zkm (P := D) (X := X.take 20) (R := X.drop 20) (fun x hx => hvX x (List.mem_of_mem_take hx)) (by omega) (a := D.length) (b := D.length + 20) rfl (by omega)
    have hS := s2.length_eq
    rw [t2] at hS
    rw [List.append_assoc, t1] at e
    rw [e, Option.bind_some, z2m (by omega) (by omega)]
    refine ⟨_, rfl, ⟨D ++ S, X.drop 20, q + 1, by rw [List.length_append]; omega, ?_, zb0 (by omega) hq hD s1, ?_⟩, by simp only; omega⟩
    · rw [List.length_append, hS]
      congr 2
    · refine List.Perm.trans ?_ hp
      rw [List.append_assoc]
      refine List.Perm.append_left D ?_
      have := s2.append_right (X.drop 20)
      rwa [t1] at this
  · right
    rw [if_neg (by omega)]
    obtain ⟨S, e, s1, s2⟩ := zkm (P := D) (X := X) (R := []) hvX (by omega) (a := D.length) (b := l0.length) rfl (by omega)
    rw [List.append_nil, List.append_nil] at e
    rw [e, Option.bind_some]
    obtain ⟨r, e2, hr⟩ := k (D ++ S) (zb0 (by omega) hq hD s1) ((s2.append_left D).trans hp)
    exact ⟨r, by rw [e2]; rfl, hr⟩
theorem zrV {K l0 : List Int} (hv : zeF K l0) (hn : l0.length ≤ 5000) {B : Nat} (hB0 : 0 < B) (hB : B < 5000) {l : List Int} (hb : ziq K B l) (hp : l.Perm l0) :
    ∃ S, z1j (z0Q ((l0.length : Nat) : Int) K (B : Int)) LFm (0, ((2 * B : Nat) : Int), l) = some (.inl (((B * 2 : Nat) : Int), S)) ∧ ziq K (B * 2) S ∧ S.Perm l0 := by
  refine Exists.elim (z2x (b := z0Q ((l0.length : Nat) : Int) K (B : Int)) (fun z => ∃ (D X : List Int) (q : Nat), D.length = q * (B * 2) ∧ z = ((D.length : Int), ((D.length + 2 * B : Nat) : Int), D ++ X) ∧ ziq K (B * 2) D ∧ ziq K B X ∧ (D ++ X).Perm l0) (fun z => l0.length + 1 - z.1.toNat)
    (fun r => ∃ S, r = .inl (((B * 2 : Nat) : Int), S) ∧ ziq K (B * 2) S ∧ S.Perm l0) ?_ LFm (0, ((2 * B : Nat) : Int), l) ⟨[], l, 0, by simp, by simp, zoD K _, hb, hp⟩ (by simp only [LFm]; omega)) fun r h => by
      obtain ⟨h1, S, rfl, h2, h3⟩ := h
      exact ⟨S, h1, h2, h3⟩
  rintro z ⟨D, X, q, hq, rfl, hD, hX, hp2⟩
  have hlen := hp2.length_eq
  rw [List.length_append] at hlen
  have hvX : zeF K X := fun x hx => hv x (hp2.mem_iff.1 (List.mem_append.2 (.inr hx)))
  have wB : IntKind.i64.wrap (2 * (B : Int)) = ((2 * B : Nat) : Int) := by rw [z2m (by omega) (by omega)]; omega
  have wB2 : IntKind.i64.wrap ((B : Int) * 2) = ((B * 2 : Nat) : Int) := by rw [z2m (by omega) (by omega)]; omega
  have wa : IntKind.i64.wrap ((D.length : Int) + (B : Int)) = ((D.length + B : Nat) : Int) := by rw [z2m (by omega) (by omega)]; omega
  simp only [z0Q]
  rw [wa, wB, wB2]
  have t1 : X.take B ++ X.drop B = X := List.take_append_drop ..
  by_cases h : D.length + 2 * B ≤ l0.length
  · left
    rw [if_pos (by omega)]
    have t2 : (X.take B).length = B := by rw [List.length_take]; omega
    have hX2 : ziq K B (X.drop B) := zgp (A := X.take B) (q := 1) hB0 (by omega) (by rw [t1]; exact hX)
    have t3 : (X.drop B).take B ++ (X.drop B).drop B = X.drop B := List.take_append_drop ..
    have t4 : ((X.drop B).take B).length = B := by rw [List.length_take, List.length_drop]; omega
    obtain ⟨W, e, w1, w2⟩ := zdG (K := K) 5000 (P := D) (U := X.take B) (V := (X.drop B).take B) (R := (X.drop B).drop B) (a := D.length) (m := D.length + B) (b := D.length + 2 * B) (fun h => by rw [h] at t2; simp at t2; omega) (fun h => by rw [h] at t4; simp at t4; omega)
      (fun x hx => hvX x (by
        rcases List.mem_append.1 hx with hx | hx
        · exact List.mem_of_mem_take hx
        · exact List.mem_of_mem_drop (List.mem_of_mem_take hx)))
      (zcd (B := B) (X := X.drop B) (by omega) (by rw [t1]; exact hX)) (zcd (B := B) (X := (X.drop B).drop B) (by omega) (by rw [t3]; exact hX2)) (by omega) (by omega) rfl (by omega) (by omega)
    have hW := w2.length_eq
    rw [List.length_append, t2, t4] at hW
    rw [t3, t1] at e
    have hX3 : ziq K B ((X.drop B).drop B) := zgp (A := (X.drop B).take B) (q := 1) hB0 (by omega) (by rw [t3]; exact hX2)
    have ws : IntKind.i64.wrap (((D.length + 2 * B : Nat) : Int) + ((2 * B : Nat) : Int)) = ((D.length + 2 * B + 2 * B : Nat) : Int) := by rw [z2m (by omega) (by omega)]; omega
    rw [e, Option.bind_some, ws]
    refine ⟨_, rfl, ⟨D ++ W, (X.drop B).drop B, q + 1, ?_, ?_, zb0 (by omega) hq hD w1, hX3, ?_⟩, by simp only; omega⟩
    · rw [List.length_append, hW, Nat.add_mul, hq]; omega
    · rw [List.length_append, hW]
      refine Prod.ext ?_ (Prod.ext ?_ ?_)
      · simp only; omega
      · simp only; omega
      · simp only [List.append_assoc]
    · refine List.Perm.trans ?_ hp2
      rw [List.append_assoc]
      refine List.Perm.append_left D ?_
      have := w2.append_right ((X.drop B).drop B)
      rwa [List.append_assoc, t3, t1] at this
  · right
    rw [if_neg (by omega)]
    by_cases h2 : D.length + B < l0.length
    · have t2 : (X.take B).length = B := by rw [List.length_take]; omega
      have hX2 : ziq K B (X.drop B) := zgp (A := X.take B) (q := 1) hB0 (by omega) (by rw [t1]; exact hX)
      have t4 : (X.drop B).length = l0.length - D.length - B := by rw [List.length_drop]; omega
      obtain ⟨W, e, w1, w2⟩ := zdG (K := K) 5000 (P := D) (U := X.take B) (V := X.drop B) (R := []) (a := D.length) (m := D.length + B) (b := l0.length) (fun h => by rw [h] at t2; simp at t2; omega) (fun h => by rw [h] at t4; simp at t4; omega)
        (fun x hx => hvX x (by rw [t1] at hx; exact hx))
        (zcd (B := B) (X := X.drop B) (by omega) (by rw [t1]; exact hX)) (zcd (B := B) (X := []) (by omega) (by rw [List.append_nil]; exact hX2)) (by omega) (by omega) rfl (by omega) (by omega)
      rw [List.append_nil, List.append_nil, t1] at e
      rw [if_pos (by omega), e, Option.bind_some]
      refine ⟨_, rfl, D ++ W, rfl, zb0 (by omega) hq hD w1, ?_⟩
      have := w2.append_left D
      rw [t1] at this
      exact this.trans hp2
    · rw [if_neg (by omega)]
      refine ⟨_, rfl, D ++ X, rfl, ?_, hp2⟩
      exact zb0 (by omega) hq hD (zcd (B := B) (X := []) (by omega) (by rw [List.append_nil]; exact hX))
theorem znm {K l : List Int} (hv : zeF K l) (hn : l.length ≤ 5000) : ∃ S, z0K l K = some S ∧ z8I K S ∧ S.Perm l := by
  unfold z0K z1o
  obtain ⟨r, e, h⟩ := zpK (Post := fun r => z8I K r ∧ r.Perm l) hv (by omega) fun D hD hp => by
    refine z2x (fun z => ∃ (B : Nat) (S : List Int), 0 < B ∧ B < 10000 ∧ z = ((B : Int), S) ∧ ziq K B S ∧ S.Perm l) (fun z => 10000 - z.1.toNat) _ ?_ LFm _ ⟨20, D, by omega, by omega, rfl, hD, hp⟩ (by simp only [LFm]; omega)
    rintro z ⟨B, S, hB0, hB1, rfl, hS, hp2⟩
    have hlen := hp2.length_eq
    simp only [z1g]
    by_cases h : B < l.length
    · left
      have wB : IntKind.i64.wrap (2 * (B : Int)) = ((2 * B : Nat) : Int) := by rw [z2m (by omega) (by omega)]; omega
      obtain ⟨S', e, s1, s2⟩ := zrV hv hn hB0 (by omega) hS hp2
      rw [if_pos (by omega), wB, e]
      exact ⟨_, rfl, ⟨B * 2, S', by omega, by omega, rfl, s1, s2⟩, by simp only; omega⟩
    · right
      rw [if_neg (by omega)]
      exact ⟨_, rfl, zcd (B := B) (X := []) (by omega) (by rw [List.append_nil]; exact hS), hp2⟩
  exact ⟨r, by rw [e]; rfl, h⟩
end Go.Proofs.Ytbnnipkanechoaa
end
section
namespace Go.Proofs.Ytbnnipkanechoaa
open Go
set_option maxRecDepth 100000
structure EqvN (N : Nat) (e : Nat → Nat → Bool) : Prop where
  refl : ∀ i, i < N → e i i = true
  symm : ∀ i j, i < N → j < N → e i j = true → e j i = true
  trans : ∀ i j k, i < N → j < N → k < N → e i j = true → e j k = true → e i k = true
def z1R (e : Nat → Nat → Bool) : Nat → List Nat
  | 0 => []
  | i + 1 => if (z1R e i).any (e i) = true then z1R e i else z1R e i ++ [i]
def z9p (e : Nat → Nat → Bool) (N i : Nat) : Nat := (z1R e N).findIdx (e i)
theorem zjo (e : Nat → Nat → Bool) {i : Nat} : ∀ j, i ≤ j → ∃ R, z1R e j = z1R e i ++ R
  | 0, h => by
    obtain rfl : i = 0 := by omega
    exact ⟨[], by simp⟩
  | j + 1, h => by
    by_cases e0 : i = j + 1
    · subst e0; exact ⟨[], by simp⟩
    · obtain ⟨R, hR⟩ := zjo e (i := i) j (by omega)
      rw [show z1R e (j + 1) = if (z1R e j).any (e j) = true then z1R e j else z1R e j ++ [j] from rfl]
      split
      · exact ⟨R, hR⟩
      · exact ⟨R ++ [j], by rw [hR, List.append_assoc]⟩
theorem zfI (e : Nat → Nat → Bool) : ∀ i, ∀ f ∈ z1R e i, f < i
  | 0, f, h => by simp [z1R] at h
  | i + 1, f, h => by
    unfold z1R at h
    split at h
    · have := zfI e i f h; omega
    · rcases List.mem_append.1 h with h | h
      · have := zfI e i f h; omega
      · have := List.mem_singleton.1 h; omega
theorem zgh (e : Nat → Nat → Bool) : ∀ i, (z1R e i).length ≤ i
  | 0 => by simp [z1R]
  | i + 1 => by
    have := zgh e i
    unfold z1R
    split
    · omega
    · rw [List.length_append, List.length_singleton]; omega
theorem ze4 {N : Nat} {e : Nat → Nat → Bool} (he : EqvN N e) : ∀ i, i ≤ N → (z1R e i).Pairwise fun f g => e f g = false ∧ e g f = false
  | 0, _ => by simp [z1R]
  | i + 1, hi => by
    have ih := ze4 he i (by omega)
    unfold z1R
    split
    · exact ih
    · rename_i h
      refine List.pairwise_append.2 ⟨ih, by simp, fun a ha b hb => ?_⟩
      obtain rfl := List.mem_singleton.1 hb
      have hlt := zfI e b a ha
      have h1 : e b a = false := by
        cases hh : e b a with
        | false => rfl
        | true => exact absurd (List.any_eq_true.2 ⟨a, ha, hh⟩) h
      refine ⟨?_, h1⟩
      cases hh : e a b with
      | false => rfl
      | true => rw [he.symm a b (by omega) (by omega) hh] at h1; cases h1
theorem zog {N : Nat} {e : Nat → Nat → Bool} (he : EqvN N e) {i c c' : Nat} {l : List Nat} (hl : l.Pairwise fun f g => e f g = false ∧ e g f = false) (hlt : ∀ f ∈ l, f < N) (hi : i < N) (hc : c < l.length) (hc' : c' < l.length) (h : e i (l.getD c 0) = true) (h' : e i (l.getD c' 0) = true) : c = c' := by
  have m1 : l.getD c 0 < N := hlt _ (z1J hc)
  have m2 : l.getD c' 0 < N := hlt _ (z1J hc')
  have hcc := he.trans _ _ _ m1 hi m2 (he.symm _ _ hi m1 h) h'
  rcases Nat.lt_trichotomy c c' with hlt' | rfl | hlt'
  · have := (List.pairwise_iff_getElem.1 hl c c' hc hc' hlt').1
    rw [List.getD, List.getD, List.getElem?_eq_getElem hc, List.getElem?_eq_getElem hc', Option.getD_some, Option.getD_some, this] at hcc
    cases hcc
  · rfl
  · have := (List.pairwise_iff_getElem.1 hl c' c hc' hc hlt').2
    rw [List.getD, List.getD, List.getElem?_eq_getElem hc, List.getElem?_eq_getElem hc', Option.getD_some, Option.getD_some, this] at hcc
    cases hcc
theorem zsd {N : Nat} {e : Nat → Nat → Bool} (he : EqvN N e) {i : Nat} (hi : i < N) : (z1R e i).findIdx (e i) = z9p e N i := by
  unfold z9p
  obtain ⟨R, hR⟩ := zjo e (i := i + 1) N (by omega)
  rw [hR]
  by_cases h : (z1R e i).any (e i) = true
  · have : z1R e (i + 1) = z1R e i := by rw [z1R, if_pos h]
    rw [this, List.findIdx_append, if_pos]
    obtain ⟨x, hx, hp⟩ := List.any_eq_true.1 h
    exact List.findIdx_lt_length_of_exists ⟨x, hx, hp⟩
  · have e1 : z1R e (i + 1) = z1R e i ++ [i] := by rw [z1R, if_neg h]
    have e2 : (z1R e i).findIdx (e i) = (z1R e i).length := List.findIdx_eq_length.2 fun x hx => by
      cases hh : e i x with
      | false => rfl
      | true => exact absurd (List.any_eq_true.2 ⟨x, hx, hh⟩) h
    rw [e1, List.append_assoc, List.findIdx_append, if_neg (by rw [e2]; omega), List.singleton_append, List.findIdx_cons, he.refl i hi, e2]
    simp
theorem zgo {N : Nat} {e : Nat → Nat → Bool} (he : EqvN N e) {i : Nat} (hi : i < N) : z9p e N i < (z1R e N).length ∧ e i ((z1R e N).getD (z9p e N i) 0) = true := by
  have hex : ∃ x ∈ z1R e N, e i x = true := by
    obtain ⟨R, hR⟩ := zjo e (i := i + 1) N (by omega)
    by_cases h : (z1R e i).any (e i) = true
    · obtain ⟨x, hx, hp⟩ := List.any_eq_true.1 h
      refine ⟨x, ?_, hp⟩
      rw [hR, z1R, if_pos h]
      exact List.mem_append.2 (.inl hx)
    · refine ⟨i, ?_, he.refl i hi⟩
      rw [hR, z1R, if_neg h]; simp
  have hlt : z9p e N i < (z1R e N).length := List.findIdx_lt_length_of_exists hex
  refine ⟨hlt, ?_⟩
  rw [List.getD, List.getElem?_eq_getElem hlt, Option.getD_some]
  exact List.findIdx_getElem (w := hlt)
theorem zr3 {N : Nat} {e : Nat → Nat → Bool} (he : EqvN N e) {i j : Nat} (hi : i < N) (hj : j < N) : z9p e N i = z9p e N j ↔ e i j = true := by
  obtain ⟨a1, a2⟩ := zgo he hi
  obtain ⟨b1, b2⟩ := zgo he hj
  have hF := zfI e N
  have m1 := hF _ (z1J a1)
  constructor
  · intro h
    rw [← h] at b2
    exact he.trans _ _ _ hi m1 hj a2 (he.symm _ _ hj m1 b2)
  · intro h
    exact zog he (ze4 he N (Nat.le_refl _)) hF hj a1 b1 (he.trans _ _ _ hj hi m1 (he.symm _ _ hi hj h) a2) b2
def z3n (d : DFA) (m n : Nat) (S : List Nat) (i j : Nat) : Bool := z6u d m n S i j && z6u d m n S j i
theorem zkI {d : DFA} {m n : Nat} (hd : DfaOk d m n) {S : List Nat} (hS : SetsP d m n S) : EqvN S.length (z3n d m n S) where
  refl i hi := by
    have := (z4u hd hS hi (i := i)).2 (zkU d m _)
    simp [z3n, this]
  symm i j hi hj h := by
    simp only [z3n, Bool.and_eq_true] at h ⊢
    exact ⟨h.2, h.1⟩
  trans i j k hi hj hk h1 h2 := by
    simp only [z3n, Bool.and_eq_true] at h1 h2 ⊢
    exact ⟨(z4u hd hS hk).2 (zei hd ((z4u hd hS hj).1 h1.1) ((z4u hd hS hk).1 h2.1)), (z4u hd hS hi).2 (zei hd ((z4u hd hS hj).1 h2.2) ((z4u hd hS hi).1 h1.2))⟩
theorem zkV {d : DFA} {m n : Nat} {S : List Nat} {i : Nat} (hi : i < S.length) : atI (zpN d m n S) (i : Int) = some ((List.range S.length).map (z6u d m n S i)) := z4d hi
def zql (d : DFA) (m n : Nat) (S : List Nat) : List Int := (List.range S.length).map fun i => ((z9p (z3n d m n S) S.length i : Nat) : Int)
def zjp (d : DFA) (m n : Nat) (S : List Nat) : List Nat := z1R (z3n d m n S) S.length
theorem zmI {d : DFA} {m n : Nat} (hd : DfaOk d m n) (hn : n ≤ 12) {S : List Nat} (hS : SetsP d m n S) : z2w (dgm d m n S) = some (zql d m n S, toI (zjp d m n S)) := by
  have h12 := za4 hn
  have hSl := z1O hS.nd hS.lt
  have he := zkI hd hS
  unfold z2w
  have ed : (dgm d m n S).sets = toI S := rfl
  have eb : (dgm d m n S).below = zpN d m n S := rfl
  rw [ed, z0W, z1i _ (by unfold z3l; omega), Int.toNat_natCast]
  have f1 : List.replicate S.length (0 : Int) = z2y S.length (fun i => ((z9p (z3n d m n S) S.length i : Nat) : Int)) 0 0 := (zaT _ _ _).symm
  rw [f1]
  refine z2j (s := ((0 : Int), z2y S.length (fun i => ((z9p (z3n d m n S) S.length i : Nat) : Int)) 0 0, ([] : List Int))) S.length (fun k => ((k : Int), z2y S.length (fun i => ((z9p (z3n d m n S) S.length i : Nat) : Int)) 0 k, toI (z1R (z3n d m n S) k))) rfl (by simp only [LFm]; omega) (fun i hi => ?_) ?_
  · have hF := zgh (z3n d m n S) i
    have hFl := zfI (z3n d m n S) i
    have hap := ze4 he i (by omega)
    have hcl := zsd he hi
    simp only [z2H]
    rw [ed, if_pos (by rw [z0W]; omega), z8C hi, Option.bind_some, z0W, Int.toNat_natCast]
    generalize hL : z2y S.length (fun i => ((z9p (z3n d m n S) S.length i : Nat) : Int)) 0 i = L at *
    have hLl : L.length = S.length := by rw [← hL, zcF]
    have hstep : ∀ c, c < (z1R (z3n d m n S) i).length → (z3n d m n S i ((z1R (z3n d m n S) i).getD c 0) = true ↔ (z1R (z3n d m n S) i).findIdx (z3n d m n S i) = c) := fun c hc => by
      constructor
      · intro h
        have hex : (z1R (z3n d m n S) i).findIdx (z3n d m n S i) < (z1R (z3n d m n S) i).length := List.findIdx_lt_length_of_exists ⟨_, z1J hc, h⟩
        have hp : z3n d m n S i ((z1R (z3n d m n S) i).getD ((z1R (z3n d m n S) i).findIdx (z3n d m n S i)) 0) = true := by
          rw [List.getD, List.getElem?_eq_getElem hex, Option.getD_some]
          exact List.findIdx_getElem (w := hex)
        exact zog he hap (fun f hf => by have := hFl f hf; omega) hi hex hc hp h
      · intro h
        have hex : (z1R (z3n d m n S) i).findIdx (z3n d m n S i) < (z1R (z3n d m n S) i).length := by omega
        have hp : z3n d m n S i ((z1R (z3n d m n S) i)[(z1R (z3n d m n S) i).findIdx (z3n d m n S i)]) = true := List.findIdx_getElem (w := hex)
        rw [← h, List.getD, List.getElem?_eq_getElem hex, Option.getD_some]
        exact hp
    refine z2j (s := ((0 : Int), L.set i (((z1R (z3n d m n S) i).length : Nat) : Int))) (z1R (z3n d m n S) i).length (fun c => ((c : Int), L.set i (((if (z1R (z3n d m n S) i).findIdx (z3n d m n S i) < c then (z1R (z3n d m n S) i).findIdx (z3n d m n S i) else (z1R (z3n d m n S) i).length : Nat)) : Int))) (by simp) (by simp only [LFm]; omega) (fun c hc => ?_) ?_
    · have hf := hFl _ (z1J hc)
      simp only [z2G]
      rw [eb, if_pos (by rw [z0W]; omega), z3V hc, Option.bind_some, zkV hi, Option.bind_some, z4d (by omega), Option.bind_some, z3f (by omega)]
      by_cases h1 : z6u d m n S i ((z1R (z3n d m n S) i).getD c 0) = true
      · rw [if_pos h1, zkV (by omega), Option.bind_some, z4d hi, Option.bind_some]
        by_cases h2 : z6u d m n S ((z1R (z3n d m n S) i).getD c 0) i = true
        · have := (hstep c hc).1 ((Bool.and_eq_true _ _).mpr ⟨h1, h2⟩)
          rw [if_pos h2, zjY (by omega), Option.bind_some, Int.toNat_natCast, zj1, this, if_pos (by omega)]
        · have : ¬ (z1R (z3n d m n S) i).findIdx (z3n d m n S i) = c := fun h => by
            have := (hstep c hc).2 h
            simp only [z3n, Bool.and_eq_true] at this
            exact h2 this.2
          rw [if_neg h2]
          congr 3
          by_cases h3 : (z1R (z3n d m n S) i).findIdx (z3n d m n S i) < c
          · rw [if_pos h3, if_pos (by omega)]
          · rw [if_neg h3, if_neg (by omega)]
      · have : ¬ (z1R (z3n d m n S) i).findIdx (z3n d m n S i) = c := fun h => by
          have := (hstep c hc).2 h
          simp only [z3n, Bool.and_eq_true] at this
          exact h1 this.1
        rw [if_neg h1]
        congr 3
        by_cases h3 : (z1R (z3n d m n S) i).findIdx (z3n d m n S i) < c
        · rw [if_pos h3, if_pos (by omega)]
        · rw [if_neg h3, if_neg (by omega)]
    · have hle : (z1R (z3n d m n S) i).findIdx (z3n d m n S i) ≤ (z1R (z3n d m n S) i).length := List.findIdx_le_length
      have hv : (if (z1R (z3n d m n S) i).findIdx (z3n d m n S i) < (z1R (z3n d m n S) i).length then (z1R (z3n d m n S) i).findIdx (z3n d m n S i) else (z1R (z3n d m n S) i).length) = (z1R (z3n d m n S) i).findIdx (z3n d m n S i) := by split <;> omega
      have hset : L.set i ((z9p (z3n d m n S) S.length i : Nat) : Int) = z2y S.length (fun i => ((z9p (z3n d m n S) S.length i : Nat) : Int)) 0 (i + 1) := by
        rw [← hL]; exact z6n (f := fun i => ((z9p (z3n d m n S) S.length i : Nat) : Int)) (z := 0) hi
      simp only [z2G]
      rw [if_neg (by rw [z0W]; omega), hv, zjY (by omega), Option.bind_some, hcl, hset, z3f (by omega), z0W, z1R]
      by_cases h : (z1R (z3n d m n S) i).any (z3n d m n S i) = true
      · obtain ⟨x, hx, hpx⟩ := List.any_eq_true.1 h
        have := List.findIdx_lt_length_of_exists ⟨x, hx, hpx⟩
        rw [if_pos h, if_neg (by omega)]
      · have e2 : (z1R (z3n d m n S) i).findIdx (z3n d m n S i) = (z1R (z3n d m n S) i).length := List.findIdx_eq_length.2 fun x hx => by
          cases hh : z3n d m n S i x with
          | false => rfl
          | true => exact absurd (List.any_eq_true.2 ⟨x, hx, hh⟩) h
        rw [if_neg h, if_pos (by omega), z1i _ (by unfold z3i; omega), z7H]
  · simp only [z2H]
    rw [ed, if_neg (by rw [z0W]; omega), zaS]
    rfl
end Go.Proofs.Ytbnnipkanechoaa
end
section
namespace Go.Proofs.Ytbnnipkanechoaa
open Go
set_option maxRecDepth 100000
def z6J (g : Nat → Nat) : Nat → Nat
  | 0 => 0
  | k + 1 => max (z6J g k) (g k)
theorem zpj {g : Nat → Nat} {k j : Nat} (h : j < k) : g j ≤ z6J g k := by
  induction k with
  | zero => omega
  | succ k ih =>
    simp only [z6J]
    by_cases e : j = k
    · subst e; omega
    · have := ih (by omega); omega
theorem za8 {g : Nat → Nat} {k b : Nat} (h : ∀ j, j < k → g j ≤ b) : z6J g k ≤ b := by
  induction k with
  | zero => simp [z6J]
  | succ k ih =>
    have := ih fun j hj => h j (by omega)
    have := h k (by omega)
    simp only [z6J]; omega
theorem zdQ {g g' : Nat → Nat} {k : Nat} (h : ∀ j, j < k → g j = g' j) : z6J g k = z6J g' k := by
  induction k with
  | zero => rfl
  | succ k ih => simp only [z6J]; rw [ih fun j hj => h j (by omega), h k (by omega)]
def z5z (p : Nat → Bool) : Nat → Nat
  | 0 => 0
  | k + 1 => z5z p k + (if p k = true then 1 else 0)
theorem zkP (p : Nat → Bool) (k : Nat) : z5z p k ≤ k := by
  induction k with
  | zero => simp [z5z]
  | succ k ih => simp only [z5z]; split <;> omega
theorem zkO {p q : Nat → Bool} {k : Nat} (h : ∀ j, j < k → p j = true → q j = true) : z5z p k ≤ z5z q k := by
  induction k with
  | zero => simp [z5z]
  | succ k ih =>
    have := ih fun j hj => h j (by omega)
    have := h k (by omega)
    simp only [z5z]
    by_cases h1 : p k = true
    · rw [if_pos h1, if_pos (this h1)]; omega
    · rw [if_neg h1]; split <;> omega
theorem zed {p q : Nat → Bool} {k i : Nat} (h : ∀ j, j < k → p j = true → q j = true) (hi : i < k) (hp : p i = false) (hq : q i = true) : z5z p k < z5z q k := by
  induction k with
  | zero => omega
  | succ k ih =>
    simp only [z5z]
    by_cases e : i = k
    · subst e
      have := zkO (p := p) (q := q) (k := i) fun j hj => h j (by omega)
      rw [hp, hq]; simp; omega
    · have h1 := ih (fun j hj => h j (by omega)) (by omega)
      have := h k (by omega)
      by_cases h2 : p k = true
      · rw [if_pos h2, if_pos (this h2)]; omega
      · rw [if_neg h2]; split <;> omega
structure BelN (N : Nat) (b : Nat → Nat → Bool) : Prop where
  refl : ∀ i, i < N → b i i = true
  trans : ∀ i j k, i < N → j < N → k < N → b i j = true → b j k = true → b i k = true
def zex (N : Nat) (b : Nat → Nat → Bool) (i : Nat) : Nat := z5z (fun j => b j i) N
def sbN (b : Nat → Nat → Bool) (j i : Nat) : Bool := b j i && !b i j
theorem zkh {N : Nat} {b : Nat → Nat → Bool} (hb : BelN N b) {i j : Nat} (hi : i < N) (hj : j < N) (h : sbN b j i = true) : zex N b j < zex N b i := by
  simp only [sbN, Bool.and_eq_true, Bool.not_eq_true'] at h
  exact zed (fun k hk hkj => hb.trans k j i hk hj hi hkj h.1) hi h.2 (hb.refl i hi)
def zrd (N : Nat) (b : Nat → Nat → Bool) (z : Nat → Bool) (h : Nat → Nat) : Prop := ∀ i, i < N → h i = if z i = true then 0 else z6J (fun j => if sbN b j i = true then h j + 1 else 0) N
theorem hgt_unique {N : Nat} {b : Nat → Nat → Bool} (hb : BelN N b) {z : Nat → Bool} {h h' : Nat → Nat} (h1 : zrd N b z h) (h2 : zrd N b z h') : ∀ i, i < N → h i = h' i := by
  have : ∀ L i, i < N → zex N b i ≤ L → h i = h' i := by
    intro L
    induction L with
    | zero =>
      intro i hi hl
      exfalso
      have := zed (p := fun _ => false) (q := fun j => b j i) (k := N) (i := i) (fun j _ hf => by simp at hf) hi rfl (hb.refl i hi)
      unfold zex at hl; omega
    | succ L ih =>
      intro i hi hl
      rw [h1 i hi, h2 i hi]
      split
      · rfl
      · refine zdQ fun j hj => ?_
        by_cases hs : sbN b j i = true
        · have := zkh hb hi hj hs
          rw [if_pos hs, if_pos hs, ih j hj (by omega)]
        · rw [if_neg hs, if_neg hs]
  exact fun i hi => this _ i hi (Nat.le_refl _)
def zs5 (N : Nat) (b : Nat → Nat → Bool) (z : Nat → Bool) : Nat → Nat → Nat
  | 0, _ => 0
  | f + 1, i => if z i = true then 0 else z6J (fun j => if sbN b j i = true then zs5 N b z f j + 1 else 0) N
def zqf (N : Nat) (b : Nat → Nat → Bool) (z : Nat → Bool) (i : Nat) : Nat := zs5 N b z N i
theorem zfG {N : Nat} {b : Nat → Nat → Bool} (hb : BelN N b) (z : Nat → Bool) : ∀ f i, i < N → zex N b i ≤ f → ∀ g, zex N b i ≤ g → zs5 N b z f i = zs5 N b z g i
  | 0, i, hi, hl, g, hg => by
    exfalso
    have := zed (p := fun _ => false) (q := fun j => b j i) (k := N) (i := i) (fun j _ hf => by simp at hf) hi rfl (hb.refl i hi)
    unfold zex at hl; omega
  | f + 1, i, hi, hl, 0, hg => by
    exfalso
    have := zed (p := fun _ => false) (q := fun j => b j i) (k := N) (i := i) (fun j _ hf => by simp at hf) hi rfl (hb.refl i hi)
    unfold zex at hg; omega
  | f + 1, i, hi, hl, g + 1, hg => by
    simp only [zs5]
    split
    · rfl
    · refine zdQ fun j hj => ?_
      by_cases hs : sbN b j i = true
      · have := zkh hb hi hj hs
        rw [if_pos hs, if_pos hs, zfG hb z f j hj (by omega) g (by omega)]
      · rw [if_neg hs, if_neg hs]
theorem zkp {N : Nat} {b : Nat → Nat → Bool} (hb : BelN N b) (z : Nat → Bool) : zrd N b z (zqf N b z) := fun i hi => by
  have hl : zex N b i ≤ N := zkP _ _
  unfold zqf
  rw [zfG hb z N i hi hl (N + 1) (by omega)]
  rfl
theorem zqe {N : Nat} {b : Nat → Nat → Bool} (hb : BelN N b) (z : Nat → Bool) {i : Nat} (hi : i < N) : zqf N b z i ≤ N := by
  have : ∀ L i, i < N → zex N b i ≤ L → zqf N b z i ≤ L := by
    intro L
    induction L with
    | zero =>
      intro i hi hl
      exfalso
      have := zed (p := fun _ => false) (q := fun j => b j i) (k := N) (i := i) (fun j _ hf => by simp at hf) hi rfl (hb.refl i hi)
      unfold zex at hl; omega
    | succ L ih =>
      intro i hi hl
      rw [zkp hb z i hi]
      split
      · omega
      · refine za8 fun j hj => ?_
        by_cases hs : sbN b j i = true
        · have := zkh hb hi hj hs
          have := ih j hj (by omega)
          rw [if_pos hs]; omega
        · rw [if_neg hs]; omega
  exact this N i hi (zkP _ _)
theorem zoG {d : DFA} {m n : Nat} (hd : DfaOk d m n) {S : List Nat} (hS : SetsP d m n S) : BelN S.length (z6u d m n S) where
  refl i hi := (z4u hd hS hi).2 (zkU d m _)
  trans i j k hi hj hk h1 h2 := (z4u hd hS hk).2 (zei hd ((z4u hd hS hj).1 h1) ((z4u hd hS hk).1 h2))
theorem znp {s : Nat} (h : s < 128) : z5w (s : Int) = some ((szN s : Nat) : Int) := by
  unfold z5w z3R
  rw [zoU (by omega)]
  have : z2I (s : Int) = some ((szN s : Nat) : Int) := by
    unfold z2I
    rw [z1i _ (by omega), z1i _ (by omega), z1i _ (by omega), z1i _ (by omega), z1i _ (by omega), z1i _ (by omega)]
    congr 1
    revert s
    decide +kernel
  rw [this]; rfl
def zpJ (S : List Nat) (i : Nat) : Bool := decide (szN (S.getD i 0) = 1)
def zb3 (d : DFA) (m n : Nat) (S : List Nat) (i : Nat) : Nat := zqf S.length (z6u d m n S) (zpJ S) i
def zs4 (d : DFA) (m n : Nat) (S : List Nat) : List Int := (List.range S.length).map fun i => ((zb3 d m n S i : Nat) : Int)
theorem zng (N : Nat) : toI (List.range N) = (List.range N).map fun i => ((i : Nat) : Int) := rfl
theorem zme {d : DFA} {m n : Nat} {S : List Nat} (hl : S.length < 4611686018427387904) {i : Nat} (hi : i < S.length) (C O : List Int) (L : List Int) (hL : L.length = S.length) (h0 : L.getD i 0 = 0) :
    z1j (z1Y (dgm d m n S) (i : Int) O) LFm (0, L) = z0Y (((i + 1 : Nat) : Int), L.set i ((zex S.length (z6u d m n S) i : Nat) : Int), O.set i (i : Int)) := by
  refine z2j (s := ((0 : Int), L)) S.length (fun k => ((k : Int), L.set i ((z5z (fun j => z6u d m n S j i) k : Nat) : Int))) ?_ (by simp only [LFm]; omega) (fun k hk => ?_) ?_
  · refine Prod.ext rfl ?_
    show L = L.set i 0
    apply List.ext_getElem (by simp)
    intro j h1 h2
    rw [List.getElem_set]
    by_cases e : i = j
    · subst e
      rw [if_pos rfl]
      rw [List.getD, List.getElem?_eq_getElem h1, Option.getD_some] at h0
      exact h0
    · rw [if_neg e]
  · have hc := zkP (fun j => z6u d m n S j i) k
    have ed : (dgm d m n S).sets = toI S := rfl
    have eb : (dgm d m n S).below = zpN d m n S := rfl
    simp only [z1Y]
    rw [ed, eb, if_pos (by rw [z0W]; omega), zkV hk, Option.bind_some, z4d hi, Option.bind_some, z3f (by omega)]
    simp only [z5z]
    by_cases h : z6u d m n S k i = true
    · rw [if_pos h, if_pos h, zjY (by omega), Option.bind_some, Int.toNat_natCast, zj1, z3f (by omega)]
    · rw [if_neg h, if_neg h]; rfl
  · have ed : (dgm d m n S).sets = toI S := rfl
    simp only [z1Y]
    rw [ed, if_neg (by rw [z0W]; omega), z3f (by omega), Int.toNat_natCast]
    rfl
theorem zoa {d : DFA} {m n : Nat} (hd : DfaOk d m n) {S : List Nat} (hS : SetsP d m n S) (hl : S.length < 100000) (k : Int) {i : Nat} (hi : i < S.length) {H : Nat → Nat} (h0 : H i = 0) (hlow : ∀ j, j < S.length → sbN (z6u d m n S) j i = true → H j = zb3 d m n S j) :
    z1j (z1U (dgm d m n S) (zql d m n S) k (i : Int)) LFm (0, (List.range S.length).map fun j => ((H j : Nat) : Int)) = z0Y (IntKind.i64.wrap (k + 1), (List.range S.length).map fun j => (((if j = i then z6J (fun j => if sbN (z6u d m n S) j i = true then zb3 d m n S j + 1 else 0) S.length else H j) : Nat) : Int)) := by
  have he := zkI hd hS
  have hb := zoG hd hS
  have ed : (dgm d m n S).sets = toI S := rfl
  have eb : (dgm d m n S).below = zpN d m n S := rfl
  refine z2j (s := ((0 : Int), (List.range S.length).map fun j => ((H j : Nat) : Int))) S.length (fun q => ((q : Int), (List.range S.length).map fun j => (((if j = i then z6J (fun j => if sbN (z6u d m n S) j i = true then zb3 d m n S j + 1 else 0) q else H j) : Nat) : Int))) ?_ (by simp only [LFm]; omega) (fun q hq => ?_) ?_
  · refine Prod.ext rfl ?_
    refine List.map_congr_left fun j hj => ?_
    by_cases e : j = i
    · subst e; simp [z6J, h0]
    · rw [if_neg e]
  · have hle := zqe hb (zpJ S) hq
    have hmx : z6J (fun j => if sbN (z6u d m n S) j i = true then zb3 d m n S j + 1 else 0) q ≤ S.length + 1 := za8 fun j hj => by
      have := zqe hb (zpJ S) (i := j) (by omega)
      unfold zb3; split <;> omega
    have hse : z6u d m n S q i = true → (sbN (z6u d m n S) q i = true ↔ ¬ z9p (z3n d m n S) S.length q = z9p (z3n d m n S) S.length i) := fun h => by
      rw [zr3 he hq hi]
      simp only [sbN, z3n, h, Bool.true_and, Bool.not_eq_true', Bool.not_eq_true]
    have hfin : ∀ v : Nat, v = (if sbN (z6u d m n S) q i = true then max (z6J (fun j => if sbN (z6u d m n S) j i = true then zb3 d m n S j + 1 else 0) q) (zb3 d m n S q + 1) else z6J (fun j => if sbN (z6u d m n S) j i = true then zb3 d m n S j + 1 else 0) q) → ((List.range S.length).map fun j => (((if j = i then v else H j) : Nat) : Int)) = (List.range S.length).map fun j => (((if j = i then z6J (fun j => if sbN (z6u d m n S) j i = true then zb3 d m n S j + 1 else 0) (q + 1) else H j) : Nat) : Int) := fun v hv => by
      refine List.map_congr_left fun j hj => ?_
      by_cases e : j = i
      · rw [if_pos e, if_pos e, hv]
        simp only [z6J]
        by_cases h : sbN (z6u d m n S) q i = true
        · rw [if_pos h, if_pos h]
        · rw [if_neg h, if_neg h]; congr 1; omega
      · rw [if_neg e, if_neg e]
    simp only [z1U]
    rw [ed, eb, if_pos (by rw [z0W]; omega), zkV hq, Option.bind_some, z4d hi, Option.bind_some, z3f (by omega)]
    by_cases h : z6u d m n S q i = true
    · rw [if_pos h, zql, z4d hq, Option.bind_some, z4d hi, Option.bind_some]
      by_cases hc : z9p (z3n d m n S) S.length q = z9p (z3n d m n S) S.length i
      · have hs : ¬ sbN (z6u d m n S) q i = true := fun hh => (hse h).1 hh hc
        rw [if_pos (by rw [hc]), hfin _ (by rw [if_neg hs])]
      · have hs := (hse h).2 hc
        have hqi : q ≠ i := fun e => by subst e; exact hc rfl
        rw [if_neg (by omega), z4d hi, Option.bind_some, z4d hq, Option.bind_some, if_pos rfl, if_neg hqi, hlow q hq hs, z3f (by unfold zb3; omega), Int.toNat_natCast]
        have hset : ∀ v : Nat, ((List.range S.length).map fun j => (((if j = i then z6J (fun j => if sbN (z6u d m n S) j i = true then zb3 d m n S j + 1 else 0) q else H j) : Nat) : Int)).set i (v : Int) = (List.range S.length).map fun j => (((if j = i then v else H j) : Nat) : Int) := fun v => by
          apply List.ext_getElem (by simp)
          intro j h1 h2
          simp only [List.getElem_set, List.getElem_map, List.getElem_range]
          by_cases e : i = j
          · subst e; rw [if_pos rfl, if_pos rfl]
          · rw [if_neg e, if_neg (fun hh => e hh.symm), if_neg (fun hh => e hh.symm)]
        by_cases hlt : ((z6J (fun j => if sbN (z6u d m n S) j i = true then zb3 d m n S j + 1 else 0) q : Nat) : Int) < ((zb3 d m n S q + 1 : Nat) : Int)
        · rw [if_pos hlt, hset, hfin _ (by rw [if_pos hs]; omega)]
        · rw [if_neg hlt, hset, hfin _ (by rw [if_pos hs]; omega)]
    · have hs : ¬ sbN (z6u d m n S) q i = true := fun hh => by simp only [sbN, Bool.and_eq_true] at hh; exact h hh.1
      rw [if_neg h, hfin _ (by rw [if_neg hs])]
  · simp only [z1U]
    rw [ed, if_neg (by rw [z0W]; omega)]
theorem zmt {d : DFA} {m n : Nat} (hd : DfaOk d m n) (hn : n ≤ 7) {S : List Nat} (hS : SetsP d m n S) : z2v (dgm d m n S) (zql d m n S) = some (zs4 d m n S) := by
  have h128 : 2 ^ n ≤ 128 := Nat.pow_le_pow_right (n := 2) (by omega) hn
  have hSl := z1O hS.nd hS.lt
  have hb := zoG hd hS
  have he := zkI hd hS
  have ed : (dgm d m n S).sets = toI S := rfl
  unfold z2v
  rw [ed, z0W, z1i _ (by unfold z3l; omega), Int.toNat_natCast]
  have f1 : List.replicate S.length (0 : Int) = z2y S.length (fun i => ((zex S.length (z6u d m n S) i : Nat) : Int)) 0 0 := (zaT _ _ _).symm
  have f2 : (List.replicate S.length (0 : Int)) = z2y S.length (fun i => ((i : Nat) : Int)) 0 0 := (zaT _ _ _).symm
  conv => lhs; arg 3; rw [show ((0 : Int), List.replicate S.length (0 : Int), List.replicate S.length (0 : Int)) = ((0 : Int), z2y S.length (fun i => ((zex S.length (z6u d m n S) i : Nat) : Int)) 0 0, z2y S.length (fun i => ((i : Nat) : Int)) 0 0) by rw [← f1, ← f2]]
  refine z2j (s := ((0 : Int), z2y S.length (fun i => ((zex S.length (z6u d m n S) i : Nat) : Int)) 0 0, z2y S.length (fun i => ((i : Nat) : Int)) 0 0)) S.length (fun k => ((k : Int), z2y S.length (fun i => ((zex S.length (z6u d m n S) i : Nat) : Int)) 0 k, z2y S.length (fun i => ((i : Nat) : Int)) 0 k)) rfl (by simp only [LFm]; omega) (fun i hi => ?_) ?_
  · simp only [z2F]
    rw [ed, if_pos (by rw [z0W]; omega), z8C hi, Option.bind_some, zme (by omega) hi [] _ _ (zcF _ _ _ _) (by simp [z2y, List.getD, hi])]
    have e1 := z6n (f := fun i => ((zex S.length (z6u d m n S) i : Nat) : Int)) (z := 0) hi
    have e2 := z6n (f := fun i => ((i : Nat) : Int)) (z := 0) hi
    rw [e1, e2]
  · simp only [z2F]
    rw [ed, if_neg (by rw [z0W]; omega), zaS, zaS]
    have hK : ((List.range S.length).map fun i => ((zex S.length (z6u d m n S) i : Nat) : Int)).length = S.length := by simp
    have hv : zeF ((List.range S.length).map fun i => ((zex S.length (z6u d m n S) i : Nat) : Int)) (toI (List.range S.length)) := fun x hx => by
      simp only [toI, List.mem_map, List.mem_range] at hx
      obtain ⟨i, hi, rfl⟩ := hx
      exact ⟨by omega, by rw [hK]; omega⟩
    obtain ⟨O, hO, hs, hp⟩ := znm hv (by rw [z0W, List.length_range]; omega)
    rw [← zng, hO, Option.bind_some, z0W, z1i _ (by unfold z3l; omega), Int.toNat_natCast]
    have hOl : O.length = S.length := by rw [hp.length_eq, z0W, List.length_range]
    have hOn : O.Nodup := hp.nodup_iff.2 (by
      unfold toI
      exact List.Pairwise.map _ (fun a b h e => h (by omega)) List.nodup_range)
    have hmem : ∀ x, x ∈ O ↔ ∃ i, i < S.length ∧ x = (i : Int) := fun x => by
      rw [hp.mem_iff]; simp only [toI, List.mem_map, List.mem_range]
      constructor
      · rintro ⟨i, hi, rfl⟩; exact ⟨i, hi, rfl⟩
      · rintro ⟨i, hi, rfl⟩; exact ⟨i, hi, rfl⟩
    have hkv : ∀ i, i < S.length → kv ((List.range S.length).map fun i => ((zex S.length (z6u d m n S) i : Nat) : Int)) (i : Int) = ((zex S.length (z6u d m n S) i : Nat) : Int) := fun i hi => by
      simp [kv, List.getD, hi]
    congr 1
    have f3 : List.replicate S.length (0 : Int) = (List.range S.length).map fun (j : Nat) => (((if (j : Int) ∈ O.take 0 then zb3 d m n S j else 0) : Nat) : Int) := by
      apply List.ext_getElem (by simp); intro i h1 h2; simp
    rw [f3]
    refine z2j (s := ((0 : Int), (List.range S.length).map fun (j : Nat) => (((if (j : Int) ∈ O.take 0 then zb3 d m n S j else 0) : Nat) : Int))) S.length (fun k => ((k : Int), (List.range S.length).map fun (j : Nat) => (((if (j : Int) ∈ O.take k then zb3 d m n S j else 0) : Nat) : Int))) rfl (by simp only [LFm]; omega) (fun k hk => ?_) ?_
    · have hkO : k < O.length := by omega
      obtain ⟨i, hi, hOk⟩ := (hmem O[k]).1 (List.getElem_mem hkO)
      have hnot : (i : Int) ∉ O.take k := fun h => by
        obtain ⟨j, hj, hji⟩ := List.getElem_of_mem h
        rw [List.length_take] at hj
        rw [List.getElem_take, ← hOk] at hji
        have := (List.getElem_inj hOn).1 hji
        omega
      have htake : ∀ j : Nat, (j : Int) ∈ O.take (k + 1) ↔ (j = i ∨ (j : Int) ∈ O.take k) := fun j => by
        rw [List.take_succ_eq_append_getElem hkO, List.mem_append, List.mem_singleton, hOk]
        constructor
        · rintro (h | h)
          · exact .inr h
          · exact .inl (by omega)
        · rintro (h | h)
          · exact .inr (by omega)
          · exact .inl h
      have hupd : ((List.range S.length).map fun (j : Nat) => (((if j = i then zb3 d m n S i else if (j : Int) ∈ O.take k then zb3 d m n S j else 0) : Nat) : Int)) = (List.range S.length).map fun (j : Nat) => (((if (j : Int) ∈ O.take (k + 1) then zb3 d m n S j else 0) : Nat) : Int) := by
        refine List.map_congr_left fun j hj => ?_
        by_cases e : j = i
        · subst e; rw [if_pos rfl, if_pos ((htake j).2 (.inl rfl))]
        · rw [if_neg e]
          by_cases h : (j : Int) ∈ O.take k
          · rw [if_pos h, if_pos ((htake j).2 (.inr h))]
          · rw [if_neg h, if_neg (fun hh => ((htake j).1 hh).elim e h)]
      have hlt128 : S.getD i 0 < 2 ^ n := hS.lt _ (z1J hi)
      simp only [z2s]
      rw [if_pos (by omega), z2V hkO, Option.bind_some, hOk, ed, z3V hi, Option.bind_some, znp (by omega), Option.bind_some]
      have hok := zkp hb (zpJ S) i hi
      by_cases hz : szN (S.getD i 0) = 1
      · rw [if_pos (by omega), z3f (by omega)]
        have hh : zb3 d m n S i = 0 := by
          unfold zb3; rw [hok, if_pos (by simp only [zpJ, hz, decide_true])]
        refine congrArg z0Y (Prod.ext rfl ?_)
        refine List.map_congr_left fun j hj => ?_
        by_cases e : j = i
        · subst e; rw [if_neg hnot, if_pos ((htake j).2 (.inl rfl)), hh]
        · by_cases h : (j : Int) ∈ O.take k
          · rw [if_pos h, if_pos ((htake j).2 (.inr h))]
          · rw [if_neg h, if_neg (fun hh => ((htake j).1 hh).elim e h)]
      · rw [if_neg (by omega), zoa hd hS (by omega) (k : Int) hi (H := fun (j : Nat) => if (j : Int) ∈ O.take k then zb3 d m n S j else 0) (if_neg hnot) (fun j hj hsb => ?_), z3f (by omega)]
        · have hh : z6J (fun j => if sbN (z6u d m n S) j i = true then zb3 d m n S j + 1 else 0) S.length = zb3 d m n S i := by
            have : zb3 d m n S i = _ := hok
            rw [this, if_neg (by simp only [zpJ, hz, decide_false]; simp)]; rfl
          rw [hh, hupd]
        · have hl := zkh hb hi hj hsb
          have hjO : (j : Int) ∈ O := (hmem _).2 ⟨j, hj, rfl⟩
          obtain ⟨p, hpO, hpj⟩ := List.getElem_of_mem hjO
          refine if_pos ?_
          rcases Nat.lt_trichotomy p k with h | h | h
          · rw [← hpj]
            exact List.mem_take_iff_getElem.2 ⟨p, by omega, rfl⟩
          · subst h
            rw [hOk] at hpj
            have : i = j := by omega
            subst this; omega
          · have := List.pairwise_iff_getElem.1 hs k p hkO hpO h
            rw [hOk, hpj, hkv i hi, hkv j hj] at this
            omega
    · simp only [z2s]
      rw [if_neg (by omega)]
      congr 2
      unfold zs4
      refine List.map_congr_left fun j hj => ?_
      rw [List.take_of_length_le (by omega), if_pos ((hmem _).2 ⟨j, List.mem_range.1 hj, rfl⟩)]
end Go.Proofs.Ytbnnipkanechoaa
end
section
namespace Go.Proofs.Ytbnnipkanechoaa
open Go
set_option maxRecDepth 100000
def zpr (S : List Nat) (i j : Nat) : Bool := !decide (j = i) && decide (S.getD j 0 &&& S.getD i 0 = S.getD j 0)
def zb2 (S : List Nat) (i : Nat) : List Nat := (List.range S.length).filter (zpr S i)
def zlT (S : List Nat) (i j : Nat) : Bool := (zb2 S i).all fun k => decide (k = j) || !decide (S.getD j 0 &&& S.getD k 0 = S.getD j 0)
def zir (S : List Nat) (i : Nat) : List Nat := if szN (S.getD i 0) = 1 then [] else (zb2 S i).filter (zlT S i)
theorem zeb {α : Type} {p : α → Bool} {l : List α} {k : Nat} (h : k < l.length) : (l.take (k + 1)).filter p = (l.take k).filter p ++ (if p l[k] = true then [l[k]] else []) := by
  rw [List.take_succ_eq_append_getElem h, List.filter_append, List.filter_cons, List.filter_nil]
theorem zqc {S : List Nat} {i j : Nat} (h : j ∈ zb2 S i) : j < S.length := List.mem_range.1 (List.mem_filter.1 h).1
theorem zc7 {α : Type} (p : α → Bool) (l : List α) : (l.filter p).length ≤ l.length := List.length_filter_le p l
theorem zp0 {d : DFA} {m n : Nat} (hn : n ≤ 7) {S : List Nat} (hS : SetsP d m n S) {i : Nat} (hi : i < S.length) : z2W (dgm d m n S) (i : Int) = some (toI (zir S i)) := by
  have h128 : 2 ^ n ≤ 128 := Nat.pow_le_pow_right (n := 2) (by omega) hn
  have hSl := z1O hS.nd hS.lt
  have ed : (dgm d m n S).sets = toI S := rfl
  have lt62 : ∀ j, j < S.length → S.getD j 0 < 2 ^ 62 := fun j hj => by have := hS.lt _ (z1J hj); omega
  have hil := hS.lt _ (z1J hi)
  unfold z2W zir
  rw [ed, z3V hi, Option.bind_some, znp (by omega), Option.bind_some]
  by_cases hz : szN (S.getD i 0) = 1
  · rw [if_pos (by omega), if_pos hz]; rfl
  rw [if_neg (by omega), if_neg hz]
  have hrl : (List.range S.length).length = S.length := List.length_range
  refine z2j (s := ((0 : Int), ([] : List Int))) S.length (fun j => ((j : Int), toI (((List.range S.length).take j).filter (zpr S i)))) rfl (by simp only [LFm]; omega) (fun j hj => ?_) ?_
  · have hfl : (((List.range S.length).take j).filter (zpr S i)).length ≤ j := Nat.le_trans (zc7 _ _) (by rw [List.length_take]; omega)
    have hst := zeb (p := zpr S i) (l := List.range S.length) (k := j) (by omega)
    rw [List.getElem_range] at hst
    simp only [z3c]
    rw [ed, if_pos (by rw [z0W]; omega), z3V hj, Option.bind_some, z3f (by omega), hst]
    by_cases e : j = i
    · have : zpr S i j = false := by unfold zpr; rw [decide_eq_true e]; rfl
      rw [if_pos (by omega), this, if_neg (by simp), List.append_nil]
    · rw [if_neg (by omega), z3V hi, Option.bind_some, z7Q (lt62 i hi) (lt62 j hj), Option.bind_some]
      have : zpr S i j = decide (S.getD j 0 &&& S.getD i 0 = S.getD j 0) := by unfold zpr; rw [decide_eq_false e]; rfl
      rw [this]
      by_cases h : decide (S.getD j 0 &&& S.getD i 0 = S.getD j 0) = true
      · rw [if_pos h, if_pos h, z1i _ (by unfold z3i; rw [z0W]; omega), z7H]
      · rw [if_neg h, if_neg h, List.append_nil]
  · simp only [z3c]
    rw [ed, if_neg (by rw [z0W]; omega), List.take_of_length_le (by omega)]
    congr 1
    have hil : (zb2 S i).length ≤ S.length := Nat.le_trans (zc7 _ _) (by omega)
    show z1j (z2f (dgm d m n S) (toI (zb2 S i))) LFm (0, []) = _
    refine z2j (s := ((0 : Int), ([] : List Int))) (zb2 S i).length (fun q => ((q : Int), toI (((zb2 S i).take q).filter (zlT S i)))) rfl (by simp only [LFm]; omega) (fun q hq => ?_) ?_
    · have hfl : (((zb2 S i).take q).filter (zlT S i)).length ≤ q := Nat.le_trans (zc7 _ _) (by rw [List.length_take]; omega)
      have hst := zeb (p := zlT S i) (l := zb2 S i) (k := q) hq
      have hg : (zb2 S i).getD q 0 = (zb2 S i)[q] := by rw [List.getD, List.getElem?_eq_getElem hq, Option.getD_some]
      have hjl : (zb2 S i)[q] < S.length := zqc (List.getElem_mem hq)
      simp only [z2f]
      rw [if_pos (by rw [z0W]; omega), z3V hq, Option.bind_some, hg, hst]
      generalize (zb2 S i)[q] = j at hjl
      rw [z6E (s := (0 : Int)) (zb2 S i).length (fun k => (k : Int)) (fun k => !(decide ((zb2 S i).getD k 0 = j) || !decide (S.getD j 0 &&& S.getD ((zb2 S i).getD k 0) 0 = S.getD j 0))) (fun _ => z0Y (((q + 1 : Nat) : Int), toI (((zb2 S i).take q).filter (zlT S i)))) (x := z0Y (((q + 1 : Nat) : Int), toI (((zb2 S i).take q).filter (zlT S i)) ++ [(j : Int)])) rfl (by simp only [LFm]; omega)]
      · rw [zgi]
        simp only [Bool.not_not]
        rw [zdM (fun k => decide (k = j) || !decide (S.getD j 0 &&& S.getD k 0 = S.getD j 0))]
        show (if zlT S i j = true then _ else _) = _
        by_cases h : zlT S i j = true
        · rw [if_pos h, if_pos h, z7H]
        · rw [if_neg h, if_neg h, List.append_nil]
      · intro k hk
        have hkl : (zb2 S i).getD k 0 < S.length := zqc (z1J hk)
        simp only [z2R]
        rw [if_pos (by rw [z0W]; omega), z3V hk, Option.bind_some]
        by_cases e : (zb2 S i).getD k 0 = j
        · rw [if_pos (by omega), decide_eq_true e, z3f (by omega)]; rfl
        · rw [if_neg (by omega), decide_eq_false e, ed, z3V hkl, Option.bind_some, z3V hjl, Option.bind_some, z7Q (lt62 _ hkl) (lt62 _ hjl), Option.bind_some, Bool.false_or, Bool.not_not, z3f (by omega), z3f (by omega)]
      · simp only [z2R]
        rw [if_neg (by rw [z0W]; omega), z1i _ (by unfold z3i; rw [z0W]; omega), z3f (by omega)]
    · simp only [z2f]
      rw [if_neg (by rw [z0W]; omega), List.take_length]
def zqX (d : DFA) (m n : Nat) (S : List Nat) (i : Nat) : Nat := (zjp d m n S).getD (z9p (z3n d m n S) S.length i) 0
def zmP (d : DFA) (m n : Nat) (S : List Nat) (i : Nat) : ByteArray := z8g (z1q d m n (S.getD (zqX d m n S i) 0)) (S.getD i 0)
def zrq (d : DFA) (m n : Nat) (S : List Nat) (i : Nat) : ByteArray := z8g (z1q d m n (S.getD i 0)) (S.getD (zqX d m n S i) 0)
def zs3 (d : DFA) (m n : Nat) (S : List Nat) : Imgs := ⟨toI S, zql d m n S, zs4 d m n S, (List.range S.length).map fun i => toI (zir S i), (List.range S.length).map (zmP d m n S), (List.range S.length).map (zrq d m n S)⟩
theorem zoh {d : DFA} {m n : Nat} {S : List Nat} {c : Nat} (hc : c < (zjp d m n S).length) : (zjp d m n S).getD c 0 < S.length := zfI _ _ _ (z1J hc)
theorem ziv {d : DFA} {m n : Nat} (hd : DfaOk d m n) {S : List Nat} (hS : SetsP d m n S) (hSl : S.length < 100000) {c : Nat} (hc : c < (zjp d m n S).length) (q : List Int) :
    z1j (z5g (toI S) (zql d m n S, toI (zjp d m n S)) (c : Int) (q, zgz S (z1q d m n (S.getD ((zjp d m n S).getD c 0) 0)))) LFm (0, (List.range S.length).map fun j => if z9p (z3n d m n S) S.length j < c then zmP d m n S j else ByteArray.empty) =
      z0Y (((c + 1 : Nat) : Int), (List.range S.length).map fun j => if z9p (z3n d m n S) S.length j < c + 1 then zmP d m n S j else ByteArray.empty) := by
  have hcl : (zjp d m n S).length ≤ S.length := zgh _ _
  refine z2j (s := ((0 : Int), (List.range S.length).map fun j => if z9p (z3n d m n S) S.length j < c then zmP d m n S j else ByteArray.empty)) S.length (fun k => ((k : Int), (List.range S.length).map fun j => if z9p (z3n d m n S) S.length j < c ∨ (z9p (z3n d m n S) S.length j = c ∧ j < k) then zmP d m n S j else ByteArray.empty)) ?_ (by simp only [LFm]; omega) (fun k hk => ?_) ?_
  · refine Prod.ext rfl (List.map_congr_left fun j hj => ?_)
    simp
  · simp only [z5g]
    rw [if_pos (by rw [z0W]; omega), zql, z4d hk, Option.bind_some, z3f (by omega)]
    by_cases h : z9p (z3n d m n S) S.length k = c
    · have hw : z8g (z1q d m n (S.getD ((zjp d m n S).getD c 0) 0)) (S.getD k 0) = zmP d m n S k := by unfold zmP zqX; rw [h]
      rw [if_pos (by omega), zgz, z4d hk, Option.bind_some, hw, z4d hk, Option.bind_some, Int.toNat_natCast]
      refine congrArg z0Y (Prod.ext rfl ?_)
      apply List.ext_getElem (by simp)
      intro j h1 h2
      simp only [List.getElem_set, List.getElem_map, List.getElem_range]
      by_cases e : k = j
      · subst e; rw [if_pos rfl, if_pos (.inr ⟨h, by omega⟩)]
      · rw [if_neg e]
        congr 1
        refine propext ⟨fun hh => hh.imp id fun hh => ⟨hh.1, by omega⟩, fun hh => hh.imp id fun hh => ⟨hh.1, by omega⟩⟩
    · rw [if_neg (by omega)]
      refine congrArg z0Y (Prod.ext rfl (List.map_congr_left fun j hj => ?_))
      congr 1
      refine propext ⟨fun hh => hh.imp id fun hh => ⟨hh.1, by omega⟩, fun hh => hh.imp id fun hh => ⟨hh.1, ?_⟩⟩
      have : j ≠ k := fun e => h (e ▸ hh.1)
      omega
  · simp only [z5g]
    rw [if_neg (by rw [z0W]; omega), z3f (by omega)]
    congr 3
    refine List.map_congr_left fun j hj => ?_
    have hj := List.mem_range.1 hj
    congr 1
    refine propext ⟨fun hh => ?_, fun hh => ?_⟩
    · rcases hh with hh | hh <;> omega
    · by_cases e : z9p (z3n d m n S) S.length j = c
      · exact .inr ⟨e, hj⟩
      · exact .inl (by omega)
theorem zvc {d : DFA} {m n : Nat} (hd : DfaOk d m n) (hn : n ≤ 7) : z8y d = some (zs3 d m n (z5t d m n), 0) := by
  have h128 : 2 ^ n ≤ 128 := Nat.pow_le_pow_right (n := 2) (by omega) hn
  have hS := zj0 hd
  have hSl := z1O hS.nd hS.lt
  have he := zkI hd hS
  unfold z8y
  rw [z9K (zif hd (by omega)), zhT hd (by omega), Option.bind_some, if_pos rfl, zqO hd hn, Option.bind_some]
  generalize z5t d m n = S at hS hSl he
  have hcl : (zjp d m n S).length ≤ S.length := zgh _ _
  rw [if_neg (by rw [z0W]; omega), zmD hd (by omega) hS, Option.bind_some, zmI hd (by omega) hS, Option.bind_some]
  simp only
  rw [zmt hd hn hS, Option.bind_some, z0W, z1i _ (by unfold z3l; omega), z1i _ (by unfold z3l; omega), Int.toNat_natCast]
  have f1 : List.replicate S.length ([] : List Int) = z2y S.length (fun i => toI (zir S i)) [] 0 := (zaT _ _ _).symm
  have f2 : List.replicate S.length (ByteArray.empty : ByteArray) = z2y S.length (zrq d m n S) ByteArray.empty 0 := (zaT _ _ _).symm
  rw [f1, f2]
  refine z2j (s := ((0 : Int), z2y S.length (fun i => toI (zir S i)) [] 0, z2y S.length (zrq d m n S) ByteArray.empty 0)) S.length (fun k => ((k : Int), z2y S.length (fun i => toI (zir S i)) [] k, z2y S.length (zrq d m n S) ByteArray.empty k)) rfl (by simp only [LFm]; omega) (fun k hk => ?_) ?_
  · obtain ⟨c1, c2⟩ := zgo he hk
    have c1 : z9p (z3n d m n S) S.length k < (zjp d m n S).length := c1
    have hf : (zjp d m n S).getD (z9p (z3n d m n S) S.length k) 0 < S.length := zoh c1
    simp only [z6k]
    rw [if_pos (by rw [z0W]; omega), zp0 hn hS hk, Option.bind_some, z8C hk, Option.bind_some, show dgm d m n S = ⟨toI S, zri d m S, zpN d m n S⟩ from rfl, zdI hd (by omega) hS _ hk, Option.bind_some, zql, z4d hk, Option.bind_some, z3V c1, Option.bind_some, show (zew S (z1q d m n (S.getD k 0)), zgz S (z1q d m n (S.getD k 0))).2 = zgz S (z1q d m n (S.getD k 0)) from rfl, zgz, z4d hf, Option.bind_some, z8C hk, Option.bind_some, z3f (by omega), Int.toNat_natCast]
    have e1 := z6n (f := fun i => toI (zir S i)) (z := []) hk
    have e2 := z6n (f := zrq d m n S) (z := ByteArray.empty) hk
    have e3 : z8g (z1q d m n (S.getD k 0)) (S.getD ((zjp d m n S).getD (z9p (z3n d m n S) S.length k) 0) 0) = zrq d m n S k := rfl
    rw [e1, e3, e2]
  · simp only [z6k]
    rw [if_neg (by rw [z0W]; omega), z0W, zaS, zaS, Int.toNat_natCast]
    congr 1
    have f3 : List.replicate S.length (ByteArray.empty : ByteArray) = (List.range S.length).map fun j => if z9p (z3n d m n S) S.length j < 0 then zmP d m n S j else ByteArray.empty := by
      apply List.ext_getElem (by simp); intro i h1 h2; simp
    rw [f3]
    refine z2j (s := ((0 : Int), (List.range S.length).map fun j => if z9p (z3n d m n S) S.length j < 0 then zmP d m n S j else ByteArray.empty)) (zjp d m n S).length (fun c => ((c : Int), (List.range S.length).map fun j => if z9p (z3n d m n S) S.length j < c then zmP d m n S j else ByteArray.empty)) rfl (by simp only [LFm]; omega) (fun c hc => ?_) ?_
    · have hf := zoh hc
      simp only [z6j]
      rw [if_pos (by rw [z0W]; omega), z3V hc, Option.bind_some, show dgm d m n S = ⟨toI S, zri d m S, zpN d m n S⟩ from rfl, zdI hd (by omega) hS _ hf, Option.bind_some, ziv hd hS (by omega) hc]
    · simp only [z6j]
      rw [if_neg (by rw [z0W]; omega)]
      have : ((List.range S.length).map fun j => if z9p (z3n d m n S) S.length j < (zjp d m n S).length then zmP d m n S j else ByteArray.empty) = (List.range S.length).map (zmP d m n S) := List.map_congr_left fun j hj => if_pos (zgo he (List.mem_range.1 hj)).1
      rw [this]; rfl
end Go.Proofs.Ytbnnipkanechoaa
end
section
namespace Go.Proofs.Ytbnnipkanechoaa
open Go
set_option maxRecDepth 100000
theorem z9D (s : Nat) : szN s = z5z (fun q => s.testBit q) 7 := by
  simp only [szN, z5z, List.range, List.range.loop, List.countP_cons, List.countP_nil]
  omega
theorem zvk {s : Nat} (h : s < 128) {q : Nat} (hq : s.testBit q = true) : q < 7 := by
  rcases Nat.lt_or_ge q 7 with h' | h'
  · exact h'
  · have : s.testBit q = false := Nat.testBit_lt_two_pow (Nat.lt_of_lt_of_le h (Nat.pow_le_pow_right (n := 2) (by omega) h'))
    rw [this] at hq; cases hq
theorem zqw {a b : Nat} (h : zb1 a b) : szN a ≤ szN b := by
  rw [z9D, z9D]; exact zkO fun q _ hq => z4J.1 h q hq
theorem zqx {a b : Nat} (hb : b < 128) (h : zb1 a b) (hne : a ≠ b) : szN a < szN b := by
  have : ∃ q, b.testBit q = true ∧ a.testBit q = false := by
    refine Classical.byContradiction fun hn => hne (zhq h (z4J.2 fun q hq => ?_))
    cases ha : a.testBit q with
    | true => rfl
    | false => exact absurd ⟨q, hq, ha⟩ hn
  obtain ⟨q, h1, h2⟩ := this
  rw [z9D, z9D]
  exact zed (fun q _ hq => z4J.1 h q hq) (zvk hb h1) h2 h1
theorem sz_eq {a b : Nat} (hb : b < 128) (h : zb1 a b) (he : szN b ≤ szN a) : a = b := by
  refine Classical.byContradiction fun hne => ?_
  have := zqx hb h hne
  omega
theorem zni {x p : Nat} (hx : x < 128) (hp : p < 7) : szN (x ||| 2 ^ p) ≤ szN x + 1 := by
  revert p; revert x; decide +kernel
theorem sz_or {x y : Nat} (hx : x < 128) (hy : y < 128) : szN (x ||| y) ≤ szN x + szN y := by
  rw [z9D, z9D, z9D]
  have : ∀ k, z5z (fun q => (x ||| y).testBit q) k ≤ z5z (fun q => x.testBit q) k + z5z (fun q => y.testBit q) k := by
    intro k
    induction k with
    | zero => simp [z5z]
    | succ k ih =>
      simp only [z5z, Nat.testBit_or]
      simp only [Nat.testBit_or] at ih
      have : ∀ a b : Bool, (if (a || b) = true then 1 else 0) ≤ (if a = true then 1 else 0) + (if b = true then 1 else 0) := by decide
      have := this (x.testBit k) (y.testBit k)
      omega
  exact this 7
theorem zsL {d : DFA} {m n : Nat} (hd : DfaOk d m n) {x y a : Nat} (ha : a < m) : mvN d (x ||| y) a = mvN d x a ||| mvN d y a := by
  apply Nat.eq_of_testBit_eq
  intro p
  rw [Bool.eq_iff_iff, Nat.testBit_or, Bool.or_eq_true, za7 hd ha, za7 hd ha, za7 hd ha]
  constructor
  · rintro ⟨i, h1, h2, h3⟩
    rw [Nat.testBit_or, Bool.or_eq_true] at h2
    exact h2.imp (fun h => ⟨i, h1, h, h3⟩) fun h => ⟨i, h1, h, h3⟩
  · rintro (⟨i, h1, h2, h3⟩ | ⟨i, h1, h2, h3⟩)
    · exact ⟨i, h1, by rw [Nat.testBit_or, h2]; rfl, h3⟩
    · exact ⟨i, h1, by rw [Nat.testBit_or, h2, Bool.or_true], h3⟩
abbrev zrj (m : Nat) (w : List UInt8) : Prop := ∀ c ∈ w, 97 ≤ c.toNat ∧ c.toNat < 97 + m
theorem zje {m : Nat} {c : UInt8} {w : List UInt8} (h : zrj m (c :: w)) : zrj m w ∧ c.toNat - 97 < m := ⟨fun c' hc' => h c' (List.mem_cons_of_mem _ hc'), by have := h c (List.mem_cons_self ..); omega⟩
theorem zrA {d : DFA} {m n : Nat} (hd : DfaOk d m n) : ∀ {w : List UInt8} {x y : Nat}, zrj m w → za3 d (x ||| y) w = za3 d x w ||| za3 d y w
  | [], x, y, _ => rfl
  | c :: w, x, y, hw => by
    obtain ⟨h1, h2⟩ := zje hw
    simp only [za3]
    rw [zsL hd h2, zrA hd h1]
theorem zsK {d : DFA} {m n : Nat} (hd : DfaOk d m n) (hn : n ≤ 7) {s a : Nat} (hs : s < 2 ^ n) (ha : a < m) : szN (mvN d s a) ≤ szN s := by
  have h128 : 2 ^ n ≤ 128 := Nat.pow_le_pow_right (n := 2) (by omega) hn
  have key : ∀ q, q ≤ n → szN (zhQ d.next s a q) ≤ z5z (fun q => s.testBit q) q := by
    intro q
    induction q with
    | zero => intro _; exact (by decide : szN 0 ≤ 0)
    | succ q ih =>
      intro hq
      have hlt := zdP hd (s := s) ha q (by omega)
      obtain ⟨h1, h2, e, h3, h4⟩ := zdK hd (q := q) (by omega) ha
      simp only [zhQ, z5z]
      by_cases hb : s.testBit q = true
      · rw [if_pos hb, if_pos hb]
        have := zni (x := zhQ d.next s a q) (p := ((d.next.getD q []).getD a 0).toNat) (by omega) (by rw [e]; omega)
        have := ih (by omega)
        omega
      · rw [if_neg hb, if_neg hb]
        have := ih (by omega)
        omega
  have h1 := key n (Nat.le_refl _)
  have h2 : z5z (fun q => s.testBit q) n ≤ szN s := by
    rw [z9D]
    have : ∀ j, z5z (fun q => s.testBit q) n ≤ z5z (fun q => s.testBit q) (n + j) := by
      intro j
      induction j with
      | zero => exact Nat.le_refl _
      | succ j ih => rw [← Nat.add_assoc]; simp only [z5z]; omega
    have := this (7 - n)
    rwa [show n + (7 - n) = 7 by omega] at this
  unfold mvN
  rw [hd.nl]
  omega
theorem znz {d : DFA} {m n : Nat} (hd : DfaOk d m n) (hn : n ≤ 7) : ∀ {w : List UInt8} {s : Nat}, s < 2 ^ n → zrj m w → szN (za3 d s w) ≤ szN s
  | [], s, _, _ => Nat.le_refl _
  | c :: w, s, hs, hw => by
    obtain ⟨h1, h2⟩ := zje hw
    simp only [za3]
    exact Nat.le_trans (znz hd hn (zfB hd h2) h1) (zsK hd hn hs h2)
theorem zrQ {d : DFA} {m n : Nat} (hd : DfaOk d m n) {s a : Nat} (hs : s < 2 ^ n) (h0 : s ≠ 0) (ha : a < m) : mvN d s a ≠ 0 := by
  obtain ⟨q, hq⟩ : ∃ q, s.testBit q = true := Nat.exists_testBit_of_ne_zero h0
  have hqn : q < n := by
    rcases Nat.lt_or_ge q n with h' | h'
    · exact h'
    · have : s.testBit q = false := Nat.testBit_lt_two_pow (Nat.lt_of_lt_of_le hs (Nat.pow_le_pow_right (n := 2) (by omega) h'))
      rw [this] at hq; cases hq
  intro h
  have := (za7 hd ha (s := s) ((d.next.getD q []).getD a 0).toNat).2 ⟨q, hqn, hq, rfl⟩
  rw [h, Nat.zero_testBit] at this
  cases this
theorem zp5 {d : DFA} {m n : Nat} (hd : DfaOk d m n) {x : Nat} (hx : x ∈ z5t d m n) : x ≠ 0 := by
  have hp := Nat.two_pow_pos n
  have h2n : 2 ≤ 2 ^ n := by have := Nat.pow_le_pow_right (n := 2) (by omega) hd.n1; omega
  have hf : 2 ^ n - 1 < 2 ^ n := by omega
  have hi := z4D hd hf
  obtain ⟨_, h2, _⟩ := z7w hi.nd n
  have hpm := zbV (z9B (z1q d m n (2 ^ n - 1)).1 n)
  rcases (h2 x).1 (hpm.mem_iff.1 hx) with h | ⟨i, _, rfl⟩
  · obtain ⟨i, hil, rfl⟩ := List.getElem_of_mem h
    obtain ⟨_, o2, o3⟩ := hi.ok i hil
    rw [List.getD, List.getD, List.getElem?_eq_getElem hil, Option.getD_some] at o3
    rw [← o3]
    have : ∀ {w : List UInt8} {s : Nat}, s < 2 ^ n → s ≠ 0 → zrj m w → za3 d s w ≠ 0 := by
      intro w
      induction w with
      | nil => intro s _ h0 _; exact h0
      | cons c w ih =>
        intro s hs h0 hw
        obtain ⟨q1, q2⟩ := zje hw
        exact ih (zfB hd q2) (zrQ hd hs h0 q2) q1
    exact this hf (by omega) o2
  · exact Nat.ne_of_gt (Nat.two_pow_pos i)
theorem zgc {S : List Nat} {i j : Nat} : j ∈ zb2 S i ↔ j < S.length ∧ j ≠ i ∧ zb1 (S.getD j 0) (S.getD i 0) := by
  unfold zb2 zpr zb1
  rw [List.mem_filter, List.mem_range]
  simp
theorem zp1 {S : List Nat} {i j : Nat} : zlT S i j = true ↔ ∀ k, k ∈ zb2 S i → k ≠ j → ¬ zb1 (S.getD j 0) (S.getD k 0) := by
  unfold zlT zb1
  rw [List.all_eq_true]
  constructor
  · intro h k hk hne hs
    have := h k hk
    simp only [Bool.or_eq_true, decide_eq_true_eq, Bool.not_eq_true', decide_eq_false_iff_not] at this
    exact this.elim hne fun hh => hh hs
  · intro h k hk
    simp only [Bool.or_eq_true, decide_eq_true_eq, Bool.not_eq_true', decide_eq_false_iff_not]
    by_cases e : k = j
    · exact .inl e
    · exact .inr (h k hk e)
theorem ziX {S : List Nat} {i j : Nat} (hz : szN (S.getD i 0) ≠ 1) : j ∈ zir S i ↔ j ∈ zb2 S i ∧ zlT S i j = true := by
  unfold zir
  rw [if_neg hz, List.mem_filter]
theorem zqv {S : List Nat} {i j : Nat} (h : j ∈ zir S i) : j ∈ zb2 S i ∧ zlT S i j = true ∧ szN (S.getD i 0) ≠ 1 := by
  by_cases hz : szN (S.getD i 0) = 1
  · unfold zir at h; rw [if_pos hz] at h; simp at h
  · exact ⟨((ziX hz).1 h).1, ((ziX hz).1 h).2, hz⟩
theorem til_nodup (S : List Nat) (i : Nat) : (zir S i).Nodup := by
  unfold zir
  split
  · simp
  · exact List.Pairwise.filter _ (List.Pairwise.filter _ List.nodup_range)
theorem zqT {d : DFA} {m n : Nat} (hn : n ≤ 7) {S : List Nat} (hS : SetsP d m n S) {i : Nat} (hi : i < S.length) (hz : szN (S.getD i 0) ≠ 1) : ∀ f j, 8 - szN (S.getD j 0) ≤ f → j ∈ zb2 S i → ∃ t, t ∈ zir S i ∧ zb1 (S.getD j 0) (S.getD t 0) := by
  have h128 : 2 ^ n ≤ 128 := Nat.pow_le_pow_right (n := 2) (by omega) hn
  have h8 : ∀ s, szN s ≤ 7 := fun s => by rw [z9D]; exact zkP _ _
  intro f
  induction f with
  | zero => intro j hf _; have := h8 (S.getD j 0); omega
  | succ f ih =>
    intro j hf hj
    by_cases hp : zlT S i j = true
    · exact ⟨j, (ziX hz).2 ⟨hj, hp⟩, zfS _⟩
    · have : ∃ k, k ∈ zb2 S i ∧ k ≠ j ∧ zb1 (S.getD j 0) (S.getD k 0) := by
        refine Classical.byContradiction fun hn' => hp (zp1.2 fun k hk hne hs => hn' ⟨k, hk, hne, hs⟩)
      obtain ⟨k, hk, hne, hs⟩ := this
      have hkl := (zgc.1 hk).1
      have hjl := (zgc.1 hj).1
      have hlt := zqx (a := S.getD j 0) (b := S.getD k 0) (by have := hS.lt _ (z1J hkl); omega) hs fun e => hne (zjm hS.nd hkl hjl e.symm)
      obtain ⟨t, h1, h2⟩ := ih k (by omega) hk
      exact ⟨t, h1, zhp hs h2⟩
theorem til_cover {d : DFA} {m n : Nat} (hd : DfaOk d m n) (hn : n ≤ 7) {S : List Nat} (hS : SetsP d m n S) {i : Nat} (hi : i < S.length) (hz : szN (S.getD i 0) ≠ 1) {q : Nat} (hq : (S.getD i 0).testBit q = true) : ∃ t, t ∈ zir S i ∧ (S.getD t 0).testBit q = true := by
  have h128 : 2 ^ n ≤ 128 := Nat.pow_le_pow_right (n := 2) (by omega) hn
  have hil := hS.lt _ (z1J hi)
  have hqn : q < n := by
    rcases Nat.lt_or_ge q n with h' | h'
    · exact h'
    · have : (S.getD i 0).testBit q = false := Nat.testBit_lt_two_pow (Nat.lt_of_lt_of_le hil (Nat.pow_le_pow_right (n := 2) (by omega) h'))
      rw [this] at hq; cases hq
  have h1 := hS.one q hqn
  have hg := z8A h1
  have hsz : szN (2 ^ q) = 1 := by
    have : ∀ q, q < 7 → szN (2 ^ q) = 1 := by decide +kernel
    exact this q (by omega)
  have hinn : S.idxOf (2 ^ q) ∈ zb2 S i := zgc.2 ⟨zcp h1, fun e => by rw [← e, hg] at hz; exact hz hsz, by
    rw [hg]
    refine z4J.2 fun p hp => ?_
    rw [Nat.testBit_two_pow, decide_eq_true_iff] at hp
    rw [← hp]; exact hq⟩
  obtain ⟨t, h2, h3⟩ := zqT hn hS hi hz _ _ (Nat.le_refl _) hinn
  refine ⟨t, h2, z4J.1 h3 q ?_⟩
  rw [hg, Nat.testBit_two_pow]; simp
theorem til_facts {d : DFA} {m n : Nat} (hn : n ≤ 7) {S : List Nat} (hS : SetsP d m n S) {i k : Nat} (hi : i < S.length) (h : k ∈ zir S i) : i < k ∧ k < S.length ∧ zb1 (S.getD k 0) (S.getD i 0) ∧ S.getD k 0 ≠ S.getD i 0 := by
  have h128 : 2 ^ n ≤ 128 := Nat.pow_le_pow_right (n := 2) (by omega) hn
  obtain ⟨h1, _, _⟩ := zqv h
  obtain ⟨hk, hne, hs⟩ := zgc.1 h1
  have hx : S.getD k 0 ≠ S.getD i 0 := fun e => hne (zjm hS.nd hk hi e)
  refine ⟨?_, hk, hs, hx⟩
  have hlt := zqx (by have := hS.lt _ (z1J hi); omega) hs hx
  rcases Nat.lt_trichotomy i k with h' | h' | h'
  · exact h'
  · exact absurd h'.symm hne
  · have := List.pairwise_iff_getElem.1 hS.srt k i hk hi h'
    rw [zej] at this
    rw [List.getD, List.getD, List.getElem?_eq_getElem hk, List.getElem?_eq_getElem hi, Option.getD_some, Option.getD_some] at hlt
    omega
theorem zpt {N : Nat} {b : Nat → Nat → Bool} (hb : BelN N b) {z : Nat → Bool} (hz : ∀ i k, i < N → k < N → z k = true → b i k = true → z i = true) {i k : Nat} (hi : i < N) (hk : k < N) (h : b i k = true) : zqf N b z i ≤ zqf N b z k := by
  rw [zkp hb z i hi]
  split
  · omega
  · rename_i hzi
    have hzk : ¬ z k = true := fun hh => hzi (hz i k hi hk hh h)
    rw [zkp hb z k hk, if_neg hzk]
    refine za8 fun j hj => ?_
    by_cases hs : sbN b j i = true
    · rw [if_pos hs]
      have hsk : sbN b j k = true := by
        simp only [sbN, Bool.and_eq_true, Bool.not_eq_true'] at hs ⊢
        refine ⟨hb.trans j i k hj hi hk hs.1 h, ?_⟩
        cases hkj : b k j with
        | false => rfl
        | true =>
          have := hb.trans i k j hi hk hj h hkj
          rw [this] at hs; cases hs.2
      have := zpj (g := fun j => if sbN b j k = true then zqf N b z j + 1 else 0) hj
      simp only [hsk, if_true] at this
      exact this
    · rw [if_neg hs]; omega
theorem zoC {d : DFA} {m n : Nat} (hd : DfaOk d m n) (hn : n ≤ 7) {i k : Nat} (hi : i < (z5t d m n).length) (hk : k < (z5t d m n).length) (hz : zpJ (z5t d m n) k = true) (h : z6u d m n (z5t d m n) i k = true) : zpJ (z5t d m n) i = true := by
  have hS := zj0 hd
  have h128 : 2 ^ n ≤ 128 := Nat.pow_le_pow_right (n := 2) (by omega) hn
  obtain ⟨w, h1, h2⟩ := (z4u hd hS hk).1 h
  have hkl := hS.lt _ (z1J hk)
  simp only [zpJ, decide_eq_true_eq] at hz ⊢
  have a1 := zqw h2
  have a2 := znz hd hn hkl h1
  have h0 := zp5 hd (z1J hi)
  have : 1 ≤ szN ((z5t d m n).getD i 0) := by
    obtain ⟨q, hq⟩ := Nat.exists_testBit_of_ne_zero h0
    have hil := hS.lt _ (z1J hi)
    have := zed (p := fun _ => false) (q := fun q => ((z5t d m n).getD i 0).testBit q) (k := 7) (i := q) (fun j _ hf => by simp at hf) (zvk (by omega) hq) rfl hq
    rw [z9D]; omega
  omega
end Go.Proofs.Ytbnnipkanechoaa
end
section
namespace Go.Proofs.Ytbnnipkanechoaa
open Go
set_option maxRecDepth 100000
def zso (a : Nat) : ByteArray := ⟨#[UInt8.ofNat (IntKind.u8.wrap (IntKind.i64.wrap (97 + (a : Int)))).toNat]⟩
def zq4 (W : List ByteArray) (w : ByteArray) : Nat → Option (List Int)
  | 0 => some []
  | a + 1 => match zq4 W w a with
    | none => none
    | some row => if z9z w (zso a) then (match z1j (z3k W (a : Int) row) LFm (w ++ zso a, -1) with
      | some (.inl (x, r)) => if x = ((a + 1 : Nat) : Int) then some r else none
      | _ => none) else none
def zro (m L : Nat) : Bool := match z9k m L with
  | none => false
  | some W => decide (1 ≤ W.length) && decide (W.length ≤ 7) && W.all fun w => match zq4 W w m with
    | none => false
    | some r => decide (r.length = m) && r.all fun x => decide (0 ≤ x ∧ x < (W.length : Int))
theorem zr4 : zro 1 1 = true ∧ zro 1 2 = true ∧ zro 2 1 = true ∧ zro 2 2 = true := ⟨by kernel_rfl, by kernel_rfl, by kernel_rfl, by kernel_rfl⟩
theorem zsf {m : Nat} {W : List ByteArray} {i : Int} {fs : List Bool} {rs : List (List Int)} {w : ByteArray} {v : Int × Tape} {r : List Int} (hm : m ≤ 6) (h : zq4 W w m = some r) :
    z1j (z2J (m : Int) W i fs rs w v) LFm (0, []) = chk (z3i 24 (rs.length + 1)) (z0Y (IntKind.i64.wrap (i + 1), v.2.l, v.2.at_, fs ++ [decide (v.1 = 1)], rs ++ [r])) := by
  have key : ∀ a, a ≤ m → ∃ r', zq4 W w a = some r' := by
    have : ∀ j a, a + j = m → ∃ r', zq4 W w a = some r' := by
      intro j
      induction j with
      | zero => intro a ha; obtain rfl : a = m := by omega
                exact ⟨r, h⟩
      | succ j ih =>
        intro a ha
        obtain ⟨r', hr'⟩ := ih (a + 1) (by omega)
        rw [zq4] at hr'
        split at hr'
        · cases hr'
        · rename_i row hrow; exact ⟨row, hrow⟩
    intro a ha
    exact this (m - a) a (by omega)
  refine z2j (s := ((0 : Int), ([] : List Int))) m (fun a => ((a : Int), (zq4 W w a).getD [])) rfl (by simp only [LFm]; omega) (fun a ha => ?_) ?_
  · obtain ⟨r1, h1⟩ := key a (by omega)
    obtain ⟨r2, h2⟩ := key (a + 1) (by omega)
    rw [h1, h2, Option.getD_some, Option.getD_some]
    rw [zq4, h1] at h2
    simp only [z2J]
    rw [if_pos (by omega)]
    dsimp only at h2
    split at h2
    case isFalse => cases h2
    rename_i hc
    change chk (z9z w (zso a)) (z1j (z3k W (a : Int) r1) LFm (w ++ zso a, -1)) = _
    rw [z1i _ hc]
    split at h2
    · rename_i x q hq
      split at h2
      · rename_i hx
        cases h2
        rw [← hx]
        exact hq
      · cases h2
    · cases h2
  · simp only [z2J]
    rw [if_neg (by omega), h, Option.getD_some]
theorem zjy {t : Tape} (ht : TapeOk t) (m : Nat) (hm : 1 ≤ m ∧ m ≤ 2) : ∃ d t' n, z3t t m = some (d, t') ∧ DfaOk d m n ∧ n ≤ 7 ∧ TapeOk t' := by
  unfold z3t
  obtain ⟨v, t1, e1, v0, v1, ht1⟩ := z5b ht 2 (by omega) (by omega)
  simp only [e1, Option.bind_some]
  obtain ⟨k, rfl⟩ := Int.eq_ofNat_of_zero_le v0
  have hw : IntKind.i64.wrap (1 + (k : Int)) = ((k + 1 : Nat) : Int) := by rw [z2m (by omega) (by omega)]; omega
  rw [hw]
  have hchk : zro m (k + 1) = true := by
    obtain ⟨c1, c2, c3, c4⟩ := zr4
    rcases (by omega : (m = 1 ∧ k = 0) ∨ (m = 1 ∧ k = 1) ∨ (m = 2 ∧ k = 0) ∨ (m = 2 ∧ k = 1)) with ⟨rfl, rfl⟩ | ⟨rfl, rfl⟩ | ⟨rfl, rfl⟩ | ⟨rfl, rfl⟩
    · exact c1
    · exact c2
    · exact c3
    · exact c4
  unfold zro at hchk
  split at hchk
  · cases hchk
  rename_i W hW
  simp only [Bool.and_eq_true, decide_eq_true_eq, List.all_eq_true] at hchk
  obtain ⟨⟨hW1, hW7⟩, hrow⟩ := hchk
  rw [hW, Option.bind_some]
  refine Exists.elim (z2x (b := z3s (m : Int) W) (fun z => 0 ≤ z.1 ∧ z.1 ≤ W.length ∧ TapeOk ⟨z.2.1, z.2.2.1⟩ ∧ (z.2.2.2.1.length : Int) = z.1 ∧ (z.2.2.2.2.length : Int) = z.1 ∧ ∀ r ∈ z.2.2.2.2, z7x m W.length r) (fun z => W.length + 1 - z.1.toNat)
    (fun r => DfaOk r.1 m W.length ∧ TapeOk r.2) ?_ LFm (0, t1.l, t1.at_, [], []) ⟨by simp, by simp, ht1, by simp, by simp, by simp⟩ (by simp only [LFm]; omega)) fun r h => ⟨r.1, r.2, W.length, h.1, h.2.1, hW7, h.2.2⟩
  rintro ⟨i, tl, ta, fs, rs⟩ ⟨i0, i1, i2, i3, i4, i5⟩
  simp only at i0 i1 i2 i3 i4 i5 ⊢
  obtain ⟨i, rfl⟩ := Int.eq_ofNat_of_zero_le i0
  simp only [z3s]
  by_cases hi : (i : Int) < (W.length : Int)
  · left
    have hi' : i < W.length := by omega
    rw [if_pos hi, z2V hi', Option.bind_some]
    obtain ⟨u, t3, e3, u0, u1, ht3⟩ := z5b i2 2 (by omega) (by omega)
    rw [e3, Option.bind_some, z1i _ (by unfold z3i; omega)]
    have hr := hrow _ (List.getElem_mem hi')
    split at hr
    · cases hr
    rename_i r hr0
    simp only [Bool.and_eq_true, decide_eq_true_eq, List.all_eq_true] at hr
    rw [zsf (by omega) hr0, z1i _ (by unfold z3i; omega), z2m (by omega) (by omega)]
    refine ⟨_, rfl, ⟨by simp only; omega, by simp only; omega, ht3, by simp only [List.length_append, List.length_singleton]; omega, by simp only [List.length_append, List.length_singleton]; omega, fun y hy => ?_⟩, by simp only; omega⟩
    rcases zaF.1 hy with h | rfl
    · exact i5 y h
    · exact ⟨hr.1, fun x hx => hr.2 x hx⟩
  · right
    rw [if_neg hi]
    exact ⟨_, rfl, ⟨rfl, by omega, by omega, by omega, by simp only; omega, by simp only; omega, by simp only; omega, by simp only; omega, i5⟩, i2⟩
theorem zsh {t : Tape} (ht : TapeOk t) (m most : Nat) (hm : 1 ≤ m ∧ m ≤ 2) (hk : 1 ≤ most ∧ most ≤ 7) : ∃ d t' n, z4s t m most = some (d, t') ∧ DfaOk d m n ∧ n ≤ 7 ∧ TapeOk t' := by
  unfold z4s
  obtain ⟨v, t1, e1, v0, v1, ht1⟩ := z5b ht 6 (by omega) (by omega)
  simp only [e1, Option.bind_some]
  split
  · obtain ⟨d, t', n, e, h1, h2, h3⟩ := zm6 ht1 m most (by omega) (by omega)
    exact ⟨d, t', n, by rw [e, Option.bind_some], h1, by omega, h3⟩
  · split
    · have : (if (4 : Int) < (most : Int) then (4 : Int) else (most : Int)) = ((min most 4 : Nat) : Int) := by split <;> omega
      rw [this]
      obtain ⟨d, t', n, e, h1, h2, h3⟩ := zpg ht1 m (min most 4) (by omega) (by omega)
      exact ⟨d, t', n, by rw [e, Option.bind_some], h1, by omega, h3⟩
    · split
      · obtain ⟨d, t', n, e, h1, h2, h3⟩ := zjy ht1 m hm
        exact ⟨d, t', n, by rw [e, Option.bind_some], h1, h2, h3⟩
      · obtain ⟨d, t', n, e, h1, h2, h3⟩ := zqi ht1 m most (by omega) (by omega)
        exact ⟨d, t', n, by rw [e, Option.bind_some], h1, by omega, h3⟩
end Go.Proofs.Ytbnnipkanechoaa
end
section
namespace Go.Proofs.Ytbnnipkanechoaa
def Mo (C0 C1 : z0A) : Prop := ∀ f a o, C0 f a = some o → C1 f a = some o
section
variable {P : Program} {C0 C1 : z0A}
theorem zcK (hMo : Mo C0 C1) {wio : FuncId → Nat → Bool} {fr fr' : Fr} {f : FuncId} {args : List E} {dst : Option Nat} (h : zaX C0 wio fr f args dst = some fr') : Ev fun m => zaX C1 wio fr f args dst = some fr' := by
  unfold zaX at h ⊢
  split at h
  · cases h
  · rename_i ts deps io ha
    split at h
    · cases h
    · rename_i r outs hc
      refine ⟨0, fun m _ => ?_⟩
      show (match C1 f ts with | none => none | some (r, outs) => _) = _
      rw [hMo _ _ _ hc]
      exact h
theorem znO (hMo : Mo C0 C1) {wio : FuncId → Nat → Bool} {fr fr' : Fr} {o : Oper} (h : opF P C0 wio fr o = some fr') : Ev fun m => opF P C1 wio fr o = some fr' := by
  unfold opF at h ⊢
  split at h
  · exact .pure fun _ => h
  · split at h
    · exact zcK hMo h
    · cases h
  · exact .pure fun _ => h
  · exact .pure fun _ => h
theorem zkQ (hMo : Mo C0 C1) {wio : FuncId → Nat → Bool} {fr fr' : Fr} {o : Oper} (h : z9A P C0 wio fr o = some fr') : Ev fun m => z9A P C1 wio fr o = some fr' := by
  unfold z9A at h ⊢
  split at h
  · split at h
    · split at h
      · exact zcK hMo h
      · cases h
    · cases h
  · exact .pure fun _ => h
theorem zpY (hMo : Mo C0 C1) {wio : FuncId → Nat → Bool} {M : Nat → Bool} {fr fr' : Fr} {o : Oper} (h : wrF P C0 wio M fr o = some fr') : Ev fun m => wrF P C1 wio M fr o = some fr' := by
  unfold wrF at h ⊢
  split at h
  · split at h
    · cases h
    · split at h
      · exact zcK hMo h
      · split at h
        · rename_i hM
          simp only [hM, if_true]
          exact zcK hMo h
        · cases h
      · cases h
  · exact .pure fun _ => h
  · exact .pure fun _ => h
  · exact .pure fun _ => h
  · cases h
theorem zj3 (hMo : Mo C0 C1) {wio : FuncId → Nat → Bool} {ops : Array Oper} : ∀ {l : List Oper} {fr fr' : Fr}, zgx P C0 wio ops l fr = some fr' → Ev fun m => zgx P C1 wio ops l fr = some fr'
  | [], fr, fr', h => .pure fun _ => h
  | o :: rest, fr, fr', h => by
    simp only [zgx] at h ⊢
    split at h
    · cases h
    · split at h
      · rename_i fr1 h1
        exact (znO hMo h1).both (zj3 hMo h) fun m a1 a2 => by rw [a1]; exact a2
      · cases h
    · split at h
      · rename_i fr1 h1
        exact (zj3 hMo h)
      · cases h
theorem zcH (hMo : Mo C0 C1) {wio : FuncId → Nat → Bool} {same : Bool} {M : Nat → Bool} {ops : Array Oper} : ∀ {l : List (Nat × Oper × Nat)} {fr fr' : Fr}, z8D P C0 wio same M ops l fr = some fr' → Ev fun m => z8D P C1 wio same M ops l fr = some fr'
  | [], fr, fr', h => .pure fun _ => h
  | (k, o, mk) :: rest, fr, fr', h => by
    simp only [z8D] at h ⊢
    split at h
    · cases h
    · split at h
      · exact zcH hMo h
      · cases h
    · split at h
      · rename_i hm
        simp only [if_pos hm]
        split at h
        · split at h
          · exact zcH hMo h
          · cases h
        · cases h
      · rename_i hm
        simp only [if_neg hm]
        split at h
        · rename_i fr1 h1
          have h2 : Ev fun m => (if mk = 2 then opF P C1 wio fr o else if same = true then z9A P C1 wio fr o else wrF P C1 wio M fr o) = some fr1 := by
            by_cases e : mk = 2
            · simp only [if_pos e] at h1 ⊢; exact znO hMo h1
            · simp only [if_neg e] at h1 ⊢
              by_cases e2 : same = true
              · simp only [if_pos e2] at h1 ⊢; exact zkQ hMo h1
              · simp only [if_neg e2] at h1 ⊢; exact zpY hMo h1
          exact h2.both (zcH hMo h) fun m a1 a2 => by rw [a1]; exact a2
        · cases h
theorem z9o (hMo : Mo C0 C1) {wio : FuncId → Nat → Bool} {same : Bool} {M : Nat → Bool} {ops : Array Oper} : ∀ {l : SchT} {fr fr' : Fr}, z5m P C0 wio same M ops l fr = some fr' → Ev fun m => z5m P C1 wio same M ops l fr = some fr'
  | .nil, fr, fr', h => .pure fun _ => h
  | .alt x y, fr, fr', h => by
    simp only [z5m] at h ⊢
    split at h
    · rename_i f1 f2 h1 h2
      obtain ⟨rfl, hs⟩ := zc2 h
      exact (z9o hMo h1).both (z9o hMo h2) fun m a1 a2 => by rw [a1, a2]; exact zcB hs
    · cases h
  | .op k mk rest, fr, fr', h => by
    simp only [z5m] at h ⊢
    split at h
    · cases h
    rename_i o ho
    try simp only [ho]
    split at h
    · cases h
    · split at h
      · exact z9o hMo h
      · cases h
    · split at h
      · rename_i hm
        simp only [if_pos hm]
        split at h
        · split at h
          · exact z9o hMo h
          · cases h
        · cases h
      · rename_i hm
        simp only [if_neg hm]
        split at h
        · rename_i fr1 h1
          have h2 : Ev fun m => (if mk = 2 then opF P C1 wio fr o else if same = true then z9A P C1 wio fr o else wrF P C1 wio M fr o) = some fr1 := by
            by_cases e : mk = 2
            · simp only [if_pos e] at h1 ⊢; exact znO hMo h1
            · simp only [if_neg e] at h1 ⊢
              by_cases e2 : same = true
              · simp only [if_pos e2] at h1 ⊢; exact zkQ hMo h1
              · simp only [if_neg e2] at h1 ⊢; exact zpY hMo h1
          exact h2.both (z9o hMo h) fun m a1 a2 => by rw [a1]; exact a2
        · cases h
theorem zmB (hMo : Mo C0 C1) {c : Cfg} {id : Nat} {ops : Array Oper} {fr fr' : Fr} (h : z6I P C0 c id ops fr = some fr') : Ev fun m => z6I P C1 c id ops fr = some fr' := by
  unfold z6I at h ⊢
  split at h
  · exact z9o hMo h
  · split at h
    · exact zcH hMo h
    · cases h
theorem zkk (hMo : Mo C0 C1) {B : z0A → Fr → Option (X × Fr)} {cn : Fr → Fr} (hB : ∀ fr o, B C0 fr = some o → Ev fun m => B C1 fr = some o) : ∀ {n : Nat} {fr : Fr} {o : X × Fr}, z8d (B C0) cn n fr = some o → Ev fun m => z8d (B C1) cn n fr = some o
  | 0, fr, o, h => by cases h
  | n + 1, fr, o, h => by
    simp only [z8d] at h ⊢
    split at h
    · rename_i fr1 h1
      exact (hB _ _ h1).both (zkk hMo hB h) fun m a1 a2 => by rw [a1]; exact a2
    · rename_i x fr1 hne h1
      refine (hB _ _ h1).imp fun m a1 => ?_
      rw [a1]
      cases x with
      | n => exact absurd rfl hne
      | x i => exact h
      | r => exact h
    · cases h
theorem zkN (hMo : Mo C0 C1) {c : Cfg} {LF : Nat} : ∀ (b : Code) {fr : Fr} {o : X × Fr}, z2k P C0 c LF b fr = some o → Ev fun m => z2k P C1 c LF b fr = some o := by
  intro b
  induction b with
  | skip => intro fr o h; exact .pure fun _ => h
  | label l => intro fr o h; exact .pure fun _ => h
  | exit id => intro fr o h; exact .pure fun _ => h
  | ret => intro fr o h; exact .pure fun _ => h
  | goto l => intro fr o h; cases h
  | scope c ih => intro fr o h; simp only [z2k] at h ⊢; exact ih h
  | refuse s => intro fr o h; cases h
  | rangeFunc => intro fr o h; cases h
  | region id ops draw =>
    intro fr o h
    simp only [z2k] at h ⊢
    split at h
    · rename_i hd
      simp only [hd, if_true]
      split at h
      · rename_i fr1 h1
        exact (zmB hMo h1).imp fun m a1 => by rw [a1]; exact h
      · cases h
    · rename_i hd
      simp only [hd, Bool.false_eq_true, if_false]
      split at h
      · rename_i fr1 h1
        exact (zj3 hMo h1).imp fun m a1 => by rw [a1]; exact h
      · cases h
  | seq a b ih1 ih2 =>
    intro fr o h
    simp only [z2k] at h ⊢
    split at h
    · rename_i fr1 h1
      exact (ih1 h1).both (ih2 h) fun m a1 a2 => by rw [a1]; exact a2
    · rename_i hne
      refine (ih1 h).imp fun m a1 => ?_
      rw [a1]
      obtain ⟨x, fr1⟩ := o
      cases x with
      | n => exact absurd h (hne _)
      | x i => rfl
      | r => rfl
  | cond c x y ih1 ih2 =>
    intro fr o h
    simp only [z2k] at h ⊢
    split at h
    · exact ih1 h
    · exact ih2 h
    · cases h
  | block id c ih =>
    intro fr o h
    simp only [z2k] at h ⊢
    split at h
    · rename_i i fr1 h1
      exact (ih h1).imp fun m a1 => by rw [a1]; exact h
    · rename_i hne
      refine (ih h).imp fun m a1 => ?_
      rw [a1]
      obtain ⟨x, fr1⟩ := o
      cases x with
      | n => rfl
      | x i => exact absurd h (hne _ _)
      | r => rfl
  | loop b ih =>
    intro fr o h
    simp only [z2k] at h ⊢
    exact zkk hMo (B := fun C fr => z2k P C c LF b fr) (fun fr o h => ih h) h
theorem znA (hMo : Mo C0 C1) {c : Cfg} {LF : Nat} {fn : Func} {args : List T} {o : T × List T} (h : zgw P C0 c LF fn args = some o) : Ev fun m => zgw P C1 c LF fn args = some o := by
  unfold zgw at h ⊢
  split at h
  · rename_i hc
    simp only [if_pos hc]
    split at h
    · cases h
    · rename_i b hb
      split at h
      · rename_i fr h1
        exact (zkN hMo _ h1).imp fun m a1 => by rw [a1]; exact h
      · rename_i fr h1
        exact (zkN hMo _ h1).imp fun m a1 => by rw [a1]; exact h
      · cases h
  · cases h
end
theorem zke {P : Program} {X : z0A} {cf : FuncId → Option Cfg} : ∀ n, Mo (z3m P X cf n) (z3m P X cf (n + 1))
  | 0 => fun f a o h => by
    simp only [z3m] at h ⊢
    split at h
    · cases h
    · rename_i hc
      first
        | exact h
        | (rw [hc]; exact h)
  | n + 1 => fun f a o h => by
    simp only [z3m] at h
    split at h
    · rename_i c hc
      split at h
      · rename_i fn hfn
        obtain ⟨k, hk⟩ := znA (zke n) h
        exact zhX hc hfn (hk k (Nat.le_refl _))
      · cases h
    · rename_i hc
      simp only [z3m, hc]
      exact h
theorem zaK {P : Program} {X : z0A} {cf : FuncId → Option Cfg} (n : Nat) {f : FuncId} {a : List T} {o : T × List T} (h : z3m P X cf n f a = some o) : Lim P X cf f a = some o := by
  refine znY (d := n) fun m hm => ?_
  obtain ⟨k, rfl⟩ := Nat.exists_eq_add_of_le hm
  clear hm
  induction k with
  | zero => exact h
  | succ k ih => exact zke (n + k) f a o ih
def tab : List (FuncId × List T × T × List T) → z0A
  | [] => fun _ _ => none
  | (g, b, r, os) :: l => fun f a => if (Nat.beq g f && zkK b a) = true then some (r, os) else tab l f a
theorem zq2 {C : z0A} : ∀ {l : List (FuncId × List T × T × List T)}, (∀ x ∈ l, C x.1 x.2.1 = some x.2.2) → Mo (tab l) C
  | [], _ => fun f a o h => by cases h
  | (g, b, r, os) :: l, hl => fun f a o h => by
    simp only [tab] at h
    split at h
    · rename_i hc
      simp only [Bool.and_eq_true] at hc
      cases h
      have := hl _ (List.mem_cons_self ..)
      rw [← Nat.eq_of_beq_eq_true hc.1, ← z7c hc.2]
      exact this
    · exact zq2 (fun x hx => hl x (List.mem_cons_of_mem _ hx)) f a o h
noncomputable def zhZ (P : Program) (X : z0A) (cf : FuncId → Option Cfg) (S : z0A) : Nat → z0A
  | 0 => S
  | n + 1 => fun f a => match S f a with
    | some o => some o
    | none => match cf f with
      | some c => (match P.funcs[f]? with | some fn => zgw P (zhZ P X cf S n) c LFm fn a | none => none)
      | none => X f a
theorem zhY {P : Program} {X : z0A} {cf : FuncId → Option Cfg} {S : z0A} (hS : Mo S (Lim P X cf)) : ∀ n, Mo (zhZ P X cf S n) (Lim P X cf)
  | 0 => hS
  | n + 1 => fun f a o h => by
    simp only [zhZ] at h
    split at h
    · rename_i o' ho
      cases h
      exact hS f a o ho
    · split at h
      · rename_i c hc
        split at h
        · rename_i fn hfn
          obtain ⟨k, hk⟩ := znA (zhY hS n) h
          exact znX hc hfn (hk k (Nat.le_refl _))
        · cases h
      · rename_i hc
        exact znZ hc h
theorem zqP {P : Program} {X : z0A} {cf : FuncId → Option Cfg} (l : List (FuncId × List T × T × List T)) (n : Nat) {f : FuncId} {a : List T} {o : T × List T} (h : zhZ P X cf (tab l) n f a = some o) (hl : ∀ x ∈ l, Lim P X cf x.1 x.2.1 = some x.2.2) : Lim P X cf f a = some o :=
  zhY (zq2 hl) n f a o h
end Go.Proofs.Ytbnnipkanechoaa
end
section
namespace Go.Proofs.Ytbnnipkanechoaa
open Go
set_option maxRecDepth 100000
def exT : T := .agg [.sc (.int .i64 2), .sc (.int .i64 0), .sl 3 [.sc (.bool true), .sc (.bool false), .sc (.bool false)], .sl 3 [.sl 2 [.sc (.int .i64 1), .sc (.int .i64 0)], .sl 2 [.sc (.int .i64 2), .sc (.int .i64 0)], .sl 2 [.sc (.int .i64 0), .sc (.int .i64 2)]]]
def zkH : List T := [.sc (.int .i64 7), .sc (.int .i64 3), .sc (.int .i64 5), .sc (.int .i64 6), .sc (.int .i64 1), .sc (.int .i64 2), .sc (.int .i64 4)]
def dgT : T := .agg [.sl 7 [.sc (.int .i64 7), .sc (.int .i64 3), .sc (.int .i64 5), .sc (.int .i64 6), .sc (.int .i64 1), .sc (.int .i64 2), .sc (.int .i64 4)], .sl 7 [.sl 2 [.sc (.int .i64 0), .sc (.int .i64 2)], .sl 2 [.sc (.int .i64 3), .sc (.int .i64 4)], .sl 2 [.sc (.int .i64 1), .sc (.int .i64 2)], .sl 2 [.sc (.int .i64 2), .sc (.int .i64 2)], .sl 2 [.sc (.int .i64 5), .sc (.int .i64 4)], .sl 2 [.sc (.int .i64 6), .sc (.int .i64 4)], .sl 2 [.sc (.int .i64 4), .sc (.int .i64 6)]], .sl 7 [.sl 7 [.sc (.bool true), .sc (.bool false), .sc (.bool false), .sc (.bool false), .sc (.bool false), .sc (.bool false), .sc (.bool false)], .sl 7 [.sc (.bool true), .sc (.bool true), .sc (.bool true), .sc (.bool true), .sc (.bool false), .sc (.bool false), .sc (.bool false)], .sl 7 [.sc (.bool true), .sc (.bool true), .sc (.bool true), .sc (.bool true), .sc (.bool false), .sc (.bool false), .sc (.bool false)], .sl 7 [.sc (.bool true), .sc (.bool true), .sc (.bool true), .sc (.bool true), .sc (.bool false), .sc (.bool false), .sc (.bool false)], .sl 7 [.sc (.bool true), .sc (.bool true), .sc (.bool true), .sc (.bool true), .sc (.bool true), .sc (.bool true), .sc (.bool true)], .sl 7 [.sc (.bool true), .sc (.bool true), .sc (.bool true), .sc (.bool true), .sc (.bool true), .sc (.bool true), .sc (.bool true)], .sl 7 [.sc (.bool true), .sc (.bool true), .sc (.bool true), .sc (.bool true), .sc (.bool true), .sc (.bool true), .sc (.bool true)]]]
theorem e36 : z3m Try.prog xt z1C 10 36 [exT] = some (.os 1 7 zkH, [.dead]) := by kernel_rfl
theorem e37 : z3m Try.prog xt z1C 10 37 [exT, .sl 7 zkH] = some (.agg [.sl 7 [.sc (.int .i64 7), .sc (.int .i64 3), .sc (.int .i64 5), .sc (.int .i64 6), .sc (.int .i64 1), .sc (.int .i64 2), .sc (.int .i64 4)], .os 1 7 [.os 1 2 [.sc (.int .i64 0), .sc (.int .i64 2)], .os 1 2 [.sc (.int .i64 3), .sc (.int .i64 4)], .os 1 2 [.sc (.int .i64 1), .sc (.int .i64 2)], .os 1 2 [.sc (.int .i64 2), .sc (.int .i64 2)], .os 1 2 [.sc (.int .i64 5), .sc (.int .i64 4)], .os 1 2 [.sc (.int .i64 6), .sc (.int .i64 4)], .os 1 2 [.sc (.int .i64 4), .sc (.int .i64 6)]], .os 1 7 [.os 1 7 [.sc (.bool true), .sc (.bool false), .sc (.bool false), .sc (.bool false), .sc (.bool false), .sc (.bool false), .sc (.bool false)], .os 1 7 [.sc (.bool true), .sc (.bool true), .sc (.bool true), .sc (.bool true), .sc (.bool false), .sc (.bool false), .sc (.bool false)], .os 1 7 [.sc (.bool true), .sc (.bool true), .sc (.bool true), .sc (.bool true), .sc (.bool false), .sc (.bool false), .sc (.bool false)], .os 1 7 [.sc (.bool true), .sc (.bool true), .sc (.bool true), .sc (.bool true), .sc (.bool false), .sc (.bool false), .sc (.bool false)], .os 1 7 [.sc (.bool true), .sc (.bool true), .sc (.bool true), .sc (.bool true), .sc (.bool true), .sc (.bool true), .sc (.bool true)], .os 1 7 [.sc (.bool true), .sc (.bool true), .sc (.bool true), .sc (.bool true), .sc (.bool true), .sc (.bool true), .sc (.bool true)], .os 1 7 [.sc (.bool true), .sc (.bool true), .sc (.bool true), .sc (.bool true), .sc (.bool true), .sc (.bool true), .sc (.bool true)]]], [.dead, .dead]) := by kernel_rfl
def sr0 : T := .tup [.os 1 7 [.sc (.int .i64 0), .sc (.int .i64 2), .sc (.int .i64 1), .sc (.int .i64 3), .sc (.int .i64 4), .sc (.int .i64 5), .sc (.int .i64 6)], .os 1 7 [.sc (.string ByteArray.empty), .sc (.string ⟨#[98, 97]⟩), .sc (.string ⟨#[98]⟩), .sc (.string ⟨#[98, 97, 97]⟩), .sc (.string ⟨#[98, 97, 98]⟩), .sc (.string ⟨#[98, 97, 98, 97]⟩), .sc (.string ⟨#[98, 97, 98, 97, 97]⟩)]]
theorem zsY : z3m Try.prog xt z1C 6 41 [dgT, .sc (.int .i64 0)] = some (sr0, [.dead, .dead]) := by kernel_rfl
def sr1 : T := .tup [.os 1 6 [.sc (.int .i64 1), .sc (.int .i64 3), .sc (.int .i64 4), .sc (.int .i64 2), .sc (.int .i64 5), .sc (.int .i64 6)], .os 1 7 [.sc (.string ByteArray.empty), .sc (.string ByteArray.empty), .sc (.string ⟨#[97, 97]⟩), .sc (.string ⟨#[97]⟩), .sc (.string ⟨#[98]⟩), .sc (.string ⟨#[98, 97]⟩), .sc (.string ⟨#[98, 97, 97]⟩)]]
theorem zsX : z3m Try.prog xt z1C 6 41 [dgT, .sc (.int .i64 1)] = some (sr1, [.dead, .dead]) := by kernel_rfl
def sr2 : T := .tup [.os 1 6 [.sc (.int .i64 2), .sc (.int .i64 1), .sc (.int .i64 3), .sc (.int .i64 4), .sc (.int .i64 5), .sc (.int .i64 6)], .os 1 7 [.sc (.string ByteArray.empty), .sc (.string ⟨#[97]⟩), .sc (.string ByteArray.empty), .sc (.string ⟨#[97, 97]⟩), .sc (.string ⟨#[97, 98]⟩), .sc (.string ⟨#[97, 98, 97]⟩), .sc (.string ⟨#[97, 98, 97, 97]⟩)]]
theorem zsW : z3m Try.prog xt z1C 6 41 [dgT, .sc (.int .i64 2)] = some (sr2, [.dead, .dead]) := by kernel_rfl
def sr3 : T := .tup [.os 1 6 [.sc (.int .i64 3), .sc (.int .i64 2), .sc (.int .i64 1), .sc (.int .i64 4), .sc (.int .i64 5), .sc (.int .i64 6)], .os 1 7 [.sc (.string ByteArray.empty), .sc (.string ⟨#[97, 97]⟩), .sc (.string ⟨#[97]⟩), .sc (.string ByteArray.empty), .sc (.string ⟨#[97, 97, 98]⟩), .sc (.string ⟨#[97, 97, 98, 97]⟩), .sc (.string ⟨#[97, 97, 98, 97, 97]⟩)]]
theorem zsV : z3m Try.prog xt z1C 6 41 [dgT, .sc (.int .i64 3)] = some (sr3, [.dead, .dead]) := by kernel_rfl
def sr4 : T := .tup [.os 1 3 [.sc (.int .i64 4), .sc (.int .i64 5), .sc (.int .i64 6)], .os 1 7 [.sc (.string ByteArray.empty), .sc (.string ByteArray.empty), .sc (.string ByteArray.empty), .sc (.string ByteArray.empty), .sc (.string ByteArray.empty), .sc (.string ⟨#[97]⟩), .sc (.string ⟨#[97, 97]⟩)]]
theorem zsU : z3m Try.prog xt z1C 6 41 [dgT, .sc (.int .i64 4)] = some (sr4, [.dead, .dead]) := by kernel_rfl
def sr5 : T := .tup [.os 1 3 [.sc (.int .i64 5), .sc (.int .i64 6), .sc (.int .i64 4)], .os 1 7 [.sc (.string ByteArray.empty), .sc (.string ByteArray.empty), .sc (.string ByteArray.empty), .sc (.string ByteArray.empty), .sc (.string ⟨#[98]⟩), .sc (.string ByteArray.empty), .sc (.string ⟨#[97]⟩)]]
theorem zsT : z3m Try.prog xt z1C 6 41 [dgT, .sc (.int .i64 5)] = some (sr5, [.dead, .dead]) := by kernel_rfl
def sr6 : T := .tup [.os 1 3 [.sc (.int .i64 6), .sc (.int .i64 4), .sc (.int .i64 5)], .os 1 7 [.sc (.string ByteArray.empty), .sc (.string ByteArray.empty), .sc (.string ByteArray.empty), .sc (.string ByteArray.empty), .sc (.string ⟨#[97]⟩), .sc (.string ⟨#[97, 97]⟩), .sc (.string ByteArray.empty)]]
theorem zsS : z3m Try.prog xt z1C 6 41 [dgT, .sc (.int .i64 6)] = some (sr6, [.dead, .dead]) := by kernel_rfl
def zpx : List (FuncId × List T × T × List T) := [(36, [exT], .os 1 7 zkH, [.dead]), (37, [exT, .sl 7 zkH], .agg [.sl 7 [.sc (.int .i64 7), .sc (.int .i64 3), .sc (.int .i64 5), .sc (.int .i64 6), .sc (.int .i64 1), .sc (.int .i64 2), .sc (.int .i64 4)], .os 1 7 [.os 1 2 [.sc (.int .i64 0), .sc (.int .i64 2)], .os 1 2 [.sc (.int .i64 3), .sc (.int .i64 4)], .os 1 2 [.sc (.int .i64 1), .sc (.int .i64 2)], .os 1 2 [.sc (.int .i64 2), .sc (.int .i64 2)], .os 1 2 [.sc (.int .i64 5), .sc (.int .i64 4)], .os 1 2 [.sc (.int .i64 6), .sc (.int .i64 4)], .os 1 2 [.sc (.int .i64 4), .sc (.int .i64 6)]], .os 1 7 [.os 1 7 [.sc (.bool true), .sc (.bool false), .sc (.bool false), .sc (.bool false), .sc (.bool false), .sc (.bool false), .sc (.bool false)], .os 1 7 [.sc (.bool true), .sc (.bool true), .sc (.bool true), .sc (.bool true), .sc (.bool false), .sc (.bool false), .sc (.bool false)], .os 1 7 [.sc (.bool true), .sc (.bool true), .sc (.bool true), .sc (.bool true), .sc (.bool false), .sc (.bool false), .sc (.bool false)], .os 1 7 [.sc (.bool true), .sc (.bool true), .sc (.bool true), .sc (.bool true), .sc (.bool false), .sc (.bool false), .sc (.bool false)], .os 1 7 [.sc (.bool true), .sc (.bool true), .sc (.bool true), .sc (.bool true), .sc (.bool true), .sc (.bool true), .sc (.bool true)], .os 1 7 [.sc (.bool true), .sc (.bool true), .sc (.bool true), .sc (.bool true), .sc (.bool true), .sc (.bool true), .sc (.bool true)], .os 1 7 [.sc (.bool true), .sc (.bool true), .sc (.bool true), .sc (.bool true), .sc (.bool true), .sc (.bool true), .sc (.bool true)]]], [.dead, .dead]), (41, [dgT, .sc (.int .i64 0)], sr0, [.dead, .dead]), (41, [dgT, .sc (.int .i64 1)], sr1, [.dead, .dead]), (41, [dgT, .sc (.int .i64 2)], sr2, [.dead, .dead]), (41, [dgT, .sc (.int .i64 3)], sr3, [.dead, .dead]), (41, [dgT, .sc (.int .i64 4)], sr4, [.dead, .dead]), (41, [dgT, .sc (.int .i64 5)], sr5, [.dead, .dead]), (41, [dgT, .sc (.int .i64 6)], sr6, [.dead, .dead])]
theorem zpw : ∀ x ∈ zpx, L x.1 x.2.1 = some x.2.2 := by
  simp only [zpx, List.forall_mem_cons]
  exact ⟨zaK 10 e36, zaK 10 e37, zaK 6 zsY, zaK 6 zsX, zaK 6 zsW, zaK 6 zsV, zaK 6 zsU, zaK 6 zsT, zaK 6 zsS, fun x h => by cases h⟩
theorem zxQ : zhZ Try.prog xt z1C (tab zpx) 14 17 [] = some (.sc (.bool true), []) := by kernel_rfl
theorem c17 : L 17 [] = some (.sc (.bool true), []) := zqP zpx 14 zxQ zpw
def zpX : Option Bool := some true
theorem zmX {r : Bool} (h : zpX = some r) : L 17 [] = some (.sc (.bool r), []) := by cases h; exact c17
end Go.Proofs.Ytbnnipkanechoaa
end
section
namespace Go.Proofs.Ytbnnipkanechoaa
open Go
noncomputable section
set_option maxRecDepth 100000
set_option maxHeartbeats 1000000
def z3b (v26 : Imgs × Int) (v27 : Int) (v29 : Int × Int) : Int → Option (Int ⊕ Bool)
  | w34 =>
  if w34 < (v26.1.sets.length : Int) then
    (atI v26.1.sets w34).bind fun v39 =>
    if v39 = v29.1 then
      if v29.2 = 0 then
        (atI v26.1.height w34).bind fun v40 =>
        (atI v26.1.height v27).bind fun v41 =>
        if v40 ≤ v41 then
          (zpX).bind fun v42 =>
          z1n <|
          some v42
        else
          z1n <|
          some false
      else
        z1n <|
        some false
    else
      z0Y (IntKind.i64.wrap (w34 + 1))
  else
    z1n <|
    some false
def z3a (v26 : Imgs × Int) (v27 : Int) (v29 : Int × Int) : Int → Fr
  | w34 => ⟨93, [(8, .one (.a 8 [] (0))), (10, .one (.t none (.sc (.int .i64 v27)))), (11, .one (.t none (.sc (.int .i64 v29.1)))), (12, .one (.t none (.sc (.int .i64 v29.2)))), (64, .one (.t none (.sl v26.1.sets.length (v26.1.sets.map fun x0 => .sc (.int .i64 x0))))), (65, .one (.t none (.sc (.int .i64 (v26.1.sets.length : Int))))), (66, .one (.t none (.sc (.int .i64 w34))))], [(8, .vr [.sl v26.1.sets.length (v26.1.sets.map fun x0 => .sc (.int .i64 x0)), .sl v26.1.class_.length (v26.1.class_.map fun x0 => .sc (.int .i64 x0)), .sl v26.1.height.length (v26.1.height.map fun x0 => .sc (.int .i64 x0)), .sl v26.1.tiles.length (v26.1.tiles.map fun x0 => .sl x0.length (x0.map fun x1 => .sc (.int .i64 x1))), .sl v26.1.words.length (v26.1.words.map fun x0 => .sc (.string x0)), .sl v26.1.back.length (v26.1.back.map fun x0 => .sc (.string x0))])]⟩
def z3S (a0 : List Int) (a1 : Int) : Option (Bool) :=
  (zaJ a0).bind fun v22 =>
  (z3L v22).bind fun v23 =>
  (z4s v23.2 v23.1 5).bind fun v24 =>
  (z4E v24.2 v24.1.letters 6).bind fun v25 =>
  (z8y v24.1).bind fun v26 =>
  if v26.2 = 0 then
    if (v26.1.sets.length : Int) = 0 then
      some false
    else
      if (v26.1.height.length : Int) = (v26.1.sets.length : Int) then
        (z9l a1 (v26.1.sets.length : Int)).bind fun v27 =>
        (atI v26.1.sets v27).bind fun v28 =>
        (z5L v24.1 v28 v25.1).bind fun v29 =>
        z1j (z3b v26 v27 v29) LFm 0
      else
        some false
  else
    some false
theorem z8b {a0 : List Int} {a1 : Int} {r : Bool} (h0 : z3S a0 a1 = some r) : L 6 [.sl a0.length (a0.map fun x0 => .sc (.int .i64 x0)), .sc (.int .i64 a1)] = some (.sc (.bool r), [.dead, .dead]) := by
  simp only [z3S] at h0
  refine z2l zwE fn6 (z1l bd6 ⟨of_decide_eq_true rfl, of_decide_eq_true rfl⟩ ?_)
  simp only [z1z, z1w, z1s, z1A, z2X]
  refine zq rfl (zr rfl rfl rfl (by simp; rfl) ?_)
  refine z0a (zq rfl ?_)
  obtain ⟨v22, f36, h1⟩ := z0b h0
  have f36k := zjd f36
  try simp at f36k
  refine zr rfl rfl rfl (by simp [f36k]; rfl) ?_
  refine z0a (zq rfl ?_)
  obtain ⟨v23, f37, h2⟩ := z0b h1
  have f37k := z9u f37
  try simp at f37k
  obtain ⟨v24, f38, h3⟩ := z0b h2
  have f38k := zct f38
  try simp at f38k
  refine zr rfl rfl rfl (by simp [f37k, f38k]; rfl) ?_
  refine z0a (zq rfl ?_)
  obtain ⟨v25, f39, h4⟩ := z0b h3
  have f39k := zc4 f39
  try simp at f39k
  refine zr rfl rfl rfl (by simp [f39k]; rfl) ?_
  refine z0a (zq rfl (zpf rfl rfl (by simp; rfl) ?_))
  obtain ⟨v26, f40, h5⟩ := z0b h4
  have f40k := zi7 f40
  try simp at f40k
  refine zr rfl rfl rfl (by simp [f40k]; rfl) ?_
  refine z0a (zq rfl (zq rfl ?_))
  by_cases c41 : v26.2 = 0
  ·rw [if_pos c41] at h5
   have c41e := eq_true c41
   by_cases c42 : (v26.1.sets.length : Int) = 0
   ·rw [if_pos c42] at h5
    have c42e := eq_true c42
    have c42s : v26.1.sets = [] := by simpa [List.length_pos_iff] using c42
    refine zr rfl rfl rfl (by simp [c41e, c42e, c42s]; rfl) ?_
    refine z0a (z0p rfl (by simp) (zq rfl (zr rfl rfl rfl (by simp; rfl) ?_)))
    refine z0a (z0U rfl (z0n ?_))
    cases h5
    simp
   ·rw [if_neg c42] at h5
    have c42e := eq_false c42
    have c42s : v26.1.sets ≠ [] := by simpa [List.length_pos_iff] using c42
    refine zr rfl rfl rfl (by simp [c41e, c42e, c42s]; rfl) ?_
    refine z0a ?_
    by_cases c43 : (v26.1.height.length : Int) = (v26.1.sets.length : Int)
    ·rw [if_pos c43] at h5
     have c43e := eq_true c43
     refine z0m rfl (by simp [c43e]) (z0h rfl (z0a (zq rfl ?_)))
     obtain ⟨v27, f44, h6⟩ := z0b h5
     have f44k := zdS f44
     try simp at f44k
     refine zr rfl rfl rfl (by simp [f44k]; rfl) ?_
     refine z0a (zq rfl ?_)
     obtain ⟨v28, f45, h7⟩ := z1r h6
     obtain ⟨v29, f46, h8⟩ := z0b h7
     have f46k := ze2 f46
     try simp at f46k
     refine z1D rfl rfl rfl rfl ?_; repeat' ((first | refine z0F rfl rfl fun Q' hQ => ?_ | refine z0w rfl fun Q' hQ => ?_); simp [f45, f46k]; refine hQ.out _ ?_; clear hQ; clear Q')
     refine z0a (zq rfl (zq rfl (zr rfl rfl rfl (by simp; rfl) ?_)))
     refine z0a (zb rfl (z0S h8 (z3a v26 v27 v29) rfl rfl (by simp [z3a]) fun s o1 h9 hr1 => ?_))
     obtain ⟨w34, hs1⟩ : ∃ y, y = s := ⟨_, rfl⟩
     subst hs1
     simp only [z3b] at h9
     simp only [z3a]
     refine zq rfl (zr rfl rfl rfl (by simp; rfl) ?_)
     refine z0a (zq rfl ?_)
     by_cases c63 : w34 < (v26.1.sets.length : Int)
     ·rw [if_pos c63] at h9
      refine z0p rfl (by simp [c63]) (z0h rfl (z0a (zq rfl (zb rfl (zq rfl ?_)))))
      obtain ⟨v39, f64, h10⟩ := z1r h9
      refine zr rfl rfl rfl (by simp [f64]; rfl) ?_
      refine z0a (zq rfl (zr rfl rfl rfl (by simp; rfl) ?_))
      refine z0a ?_
      by_cases c65 : v39 = v29.1
      ·rw [if_pos c65] at h10
       have c65e := eq_true c65
       refine z0p rfl (by simp [c65e]) (zq rfl ?_)
       by_cases c66 : v29.2 = 0
       ·rw [if_pos c66] at h10
        have c66e := eq_true c66
        obtain ⟨v40, f67, h11⟩ := z1r h10
        obtain ⟨v41, f68, h12⟩ := z1r h11
        by_cases c69 : v40 ≤ v41
        ·rw [if_pos c69] at h12
         obtain ⟨v42, f70, h13⟩ := z0b h12
         have f70k := zmX f70
         try simp at f70k
         refine z1D rfl rfl rfl rfl ?_; repeat' (first | (refine z0F rfl rfl fun Q' hQ => ?_; simp [c66e, f67, f68, c69, f70k]; refine hQ.out _ ?_; clear hQ; clear Q') | (refine z2Z rfl rfl fun Q1 Q2 h1 h2 => ?_; simp [c66e, f67, f68, c69, f70k, z4Y]; (first | refine h1.out ?_ | refine h2.out ?_); clear h1 h2; clear Q1 Q2; intro Q' hQ; simp [c66e, f67, f68, c69, f70k]; refine hQ.out _ ?_; clear hQ; clear Q') | (refine z0w rfl fun Q' hQ => ?_; simp [c66e, f67, f68, c69, f70k]; refine hQ.out _ ?_; clear hQ; clear Q'))
         refine z0a (z0U rfl (z1c (z0n ?_)))
         obtain ⟨rr1, h14, ho1⟩ := z0g h13
         have hs1 := hr1 _ ho1
         subst hs1
         refine z2i ho1 (z1c (z0n ?_))
         cases h14
         simp
        ·rw [if_neg c69] at h12
         refine z1D rfl rfl rfl rfl ?_; repeat' (first | (refine z0F rfl rfl fun Q' hQ => ?_; simp [c66e, f67, f68, c69]; refine hQ.out _ ?_; clear hQ; clear Q') | (refine z2Z rfl rfl fun Q1 Q2 h1 h2 => ?_; simp [c66e, f67, f68, c69, z4Y]; (first | refine h1.out ?_ | refine h2.out ?_); clear h1 h2; clear Q1 Q2; intro Q' hQ; simp [c66e, f67, f68, c69]; refine hQ.out _ ?_; clear hQ; clear Q') | (refine z0w rfl fun Q' hQ => ?_; simp [c66e, f67, f68, c69]; refine hQ.out _ ?_; clear hQ; clear Q'))
         refine z0a (z0U rfl (z1c (z0n ?_)))
         obtain ⟨rr1, h13, ho1⟩ := z0g h12
         have hs1 := hr1 _ ho1
         subst hs1
         refine z2i ho1 (z1c (z0n ?_))
         cases h13
         simp
       ·rw [if_neg c66] at h10
        have c66e := eq_false c66
        refine z1D rfl rfl rfl rfl ?_; repeat' (first | (refine z0F rfl rfl fun Q' hQ => ?_; simp [c66e]; refine hQ.out _ ?_; clear hQ; clear Q') | (refine z2Z rfl rfl fun Q1 Q2 h1 h2 => ?_; simp [c66e, z4Y]; (first | refine h1.out ?_ | refine h2.out ?_); clear h1 h2; clear Q1 Q2; intro Q' hQ; simp [c66e]; refine hQ.out _ ?_; clear hQ; clear Q') | (refine z0w rfl fun Q' hQ => ?_; simp [c66e]; refine hQ.out _ ?_; clear hQ; clear Q'))
        refine z0a (z0U rfl (z1c (z0n ?_)))
        obtain ⟨rr1, h11, ho1⟩ := z0g h10
        have hs1 := hr1 _ ho1
        subst hs1
        refine z2i ho1 (z1c (z0n ?_))
        cases h11
        simp
      ·rw [if_neg c65] at h10
       have c65e := eq_false c65
       refine z0m rfl (by simp [c65e]) (z0h rfl (z0k (z0a (zr rfl rfl rfl (by simp; rfl) ?_))))
       have ho := z0f h10
       refine z0j ho ?_
       simp [z3a]
     ·rw [if_neg c63] at h9
      refine z0m rfl (by simp [c63]) (z1m rfl (z0E ?_))
      obtain ⟨rr1, h10, ho1⟩ := z0g h9
      have hs1 := hr1 _ ho1
      subst hs1
      refine z0r ho1 (z0c rfl (z0a (zq rfl (zr rfl rfl rfl (by simp; rfl) ?_))))
      refine z0a (z0U rfl ?_)
      cases h10
      simp
    ·rw [if_neg c43] at h5
     have c43e := eq_false c43
     refine z0p rfl (by simp [c43e]) (zq rfl (zr rfl rfl rfl (by simp; rfl) ?_))
     refine z0a (z0U rfl (z0n ?_))
     cases h5
     simp
  ·rw [if_neg c41] at h5
   have c41e := eq_false c41
   refine zr rfl rfl rfl (by simp [c41e]; rfl) ?_
   refine z0a (z0p rfl (by simp) (zq rfl (zr rfl rfl rfl (by simp; rfl) ?_)))
   refine z0a (z0U rfl (z0n ?_))
   cases h5
   simp
end
end Go.Proofs.Ytbnnipkanechoaa
end
section
namespace Go.Proofs.Ytbnnipkanechoaa
open Go
set_option maxRecDepth 100000
theorem zmf (l : List Int) (w0 : l.length ≤ maxLen) (z0 : ∀ x ∈ l, (Lit.int .i64 x).wf = true) (a : Int) (w1 : (Lit.int .i64 a).wf = true) : ∃ outs, L 6 [.sl l.length (l.map fun x => .sc (.int .i64 x)), .sc (.int .i64 a)] = some (bT true, outs) := by
  obtain ⟨t0, e0, h0⟩ := zrP l
  obtain ⟨m, t1, e1, m1, m2, h1⟩ := zmd h0
  obtain ⟨d, t2, n, e2, hd, hn, h2⟩ := zsh h1 m 5 ⟨m1, m2⟩ (by omega)
  obtain ⟨w, t3, e3, hw1, hw2, h3⟩ := zqs h2 (m : Int) 6 (by omega) (by omega)
  have h128 : 2 ^ n ≤ 128 := Nat.pow_le_pow_right (n := 2) (by omega) hn
  have hS := zj0 hd
  have hSl := z1O hS.nd hS.lt
  have h1S := hS.one 0 (by have := hd.n1; omega)
  have hpos := List.length_pos_of_mem h1S
  have hb := zoG hd hS
  obtain ⟨k, e4, k0, k1⟩ := zdT a ((z5t d m n).length : Int) (by omega) (by omega)
  obtain ⟨k, rfl⟩ := Int.eq_ofNat_of_zero_le k0
  have hk : k < (z5t d m n).length := by omega
  have hkm := z1J hk
  have hkl := hS.lt _ hkm
  have hwl : zrj m w.data.toList := fun c hc => by
    obtain ⟨i, hi, rfl⟩ := List.getElem_of_mem hc
    have hi' : i < w.size := by rw [Array.length_toList] at hi; exact hi
    have := hw1 i hi'
    rw [zaY hi', List.getD, List.getElem?_eq_getElem hi, Option.getD_some] at this
    omega
  have hwb : zcL m w := ⟨by omega, hwl⟩
  have hsS := zny hS hwl hkm
  have hidx := zcp hsS
  have hget := z8A hsS
  have happ : zfM d m n (((z5t d m n).getD k 0 : Nat) : Int) w = (((za3 d ((z5t d m n).getD k 0) w.data.toList : Nat) : Int), 0) := by
    unfold zfM
    rw [if_pos ⟨⟨by omega, by omega⟩, hwb⟩, Int.toNat_natCast]
  have hle : zb3 d m n (z5t d m n) ((z5t d m n).idxOf (za3 d ((z5t d m n).getD k 0) w.data.toList)) ≤ zb3 d m n (z5t d m n) k := by
    refine zpt hb (fun i k hi hk hz h => zoC hd hn hi hk hz h) hidx hk ?_
    refine (z4u hd hS hk).2 ⟨w.data.toList, hwl, ?_⟩
    rw [hget]; exact zfS _
  have key : z3S l a = some true := by
    unfold z3S
    have e2' : z4s t1 (m : Int) 5 = some (d, t2) := e2
    rw [e0, Option.bind_some, e1, Option.bind_some]
    simp only
    rw [e2', Option.bind_some]
    simp only
    rw [hd.lt, e3, Option.bind_some, zvc hd hn, Option.bind_some]
    simp only [zs3]
    rw [if_pos trivial]
    refine (if_neg (by rw [z0W]; omega)).trans ?_
    refine (if_pos (by rw [z0W]; simp [zs4])).trans ?_
    rw [z0W, e4, Option.bind_some, z3V hk, Option.bind_some, zpV hd (by omega), Option.bind_some, happ]
    refine z2j (s := (0 : Int)) ((z5t d m n).idxOf (za3 d ((z5t d m n).getD k 0) w.data.toList)) (fun q => (q : Int)) rfl (by simp only [LFm]; omega) (fun q hq => ?_) ?_
    · have hne : (z5t d m n).getD q 0 ≠ za3 d ((z5t d m n).getD k 0) w.data.toList := fun e => by
        have := z8z hS.nd (show q < (z5t d m n).length by omega)
        rw [e] at this; omega
      simp only [z3b]
      rw [if_pos (by rw [z0W]; omega), z3V (by omega), Option.bind_some, if_neg (by omega), z3f (by omega)]
    · simp only [z3b]
      rw [if_pos (by rw [z0W]; omega), z3V hidx, Option.bind_some, hget, if_pos rfl, if_pos trivial, zs4, z4d hidx, Option.bind_some, z4d hk, Option.bind_some, if_pos (by omega)]
      rfl
  exact ⟨_, z8b key⟩
end Go.Proofs.Ytbnnipkanechoaa
end
section
namespace Go.Proofs.Ytbnnipkanechoaa
open Go.RowKit
theorem zjl {w w1 w2 : World} {row : Option Nat} (h : w.grownBy w1 row) (k : w1.grownBy w2 row) : w.grownBy w2 row :=
  ⟨k.os.trans h.os, k.tape.trans h.tape, k.output.trans h.output, Nat.le_trans h.size k.size,
    fun b hb hr => (k.block b (Nat.lt_of_lt_of_le hb h.size) hr).trans (h.block b hb hr)⟩
theorem wpList_push {P : Program} {ops : Array Oper} {rest : List Oper} {o : Oper} {a : Act} {Q : Exit → Act → World → Prop} {w : World}
    (s x : Operand) (t e : TypeId) (z : Value) (bytes base : Nat) (hgd : o.guard = none)
    (ho : o.op = .call { callee := .builtin .append, args := #[s, x], argTypes := #[t, t] })
    (ht : P.underlying t = some (.slice e)) (hi : (P.info? e).map (fun i => (i.zero, i.size, i.bytes)) = some (some z, 1, bytes)) (hz : z.cells.size = 1)
    (v : Value) (n : Nat) (xs : List Value) (hs : a.eval s = v) (hown : w.ownsRow base e 1 v n xs)
    (y : Value) (c : Nat) (hx : a.eval x = .slice (some ⟨w.heap.size, 0, none⟩) 1 c) (h1 : y.oneCell' = true)
    (hb : (n + 1) * bytes ≤ 140737488355328) (hn : n < 4611686018427387904) (hbase : base ≤ w.heap.size)
    (h : ∀ v' w', w'.ownsRow base e 1 v' (n + 1) (xs ++ [y]) → w.grownBy w' v.ownBlock → v' ≠ .slice none 0 0 → wpList P ops Q rest (a.put o.dst v') w') :
    wpList P ops Q (o :: rest) a (w.alloc (.cells #[y] e)) := by
  obtain ⟨i0, hi1, hi2, hi3, hi4⟩ := info_parts hi
  refine wpList_append_own (w.alloc (.cells #[y] e)) hgd s x t ho base e i0 z 1 bytes ht hi1 hi2 hi3 hi4 hz (by decide) v n xs hs (hown.alloc _) ⟨w.heap.size, 0, none⟩ 1 c [y] hx rfl
    (fun j u hj => ?_) (fun u hu => ?_) (by unfold maxLen; omega) hb (by simp; omega) (fun v' w' o' g' iff' => h v' w' o' (zjl (World.grownBy_alloc w _ _) g') (fun e => ?_))
  · match j, hj with
    | 0, hj => simp at hj; subst hj; simp [Addr.add, World.cell?_alloc_new]
    | j + 1, hj => simp at hj
  · simp at hu; subst hu; exact h1
  · have := iff'.1 e; omega
theorem Below_of_grown {w w' : World} {row : Option Nat} {base : Nat} (h : w.grownBy w' row) (hb : base ≤ w.heap.size) (hr : ∀ k, row = some k → base ≤ k) : Below base w w' :=
  Below.grown (Below.refl _ _) h hb hr
def Arr (w : World) (g n : Nat) (f : Nat → Value) : Prop :=
  ∀ i, i < n → w.cell? ⟨g, i, none⟩ = some (f i) ∧ w.frozen? ⟨g, i, none⟩ = false
theorem Arr.set {w : World} {g n : Nat} {f : Nat → Value} (h : Arr w g n f) (j : Nat) (hj : j < n) (c : Value) :
    Arr (w.setCell ⟨g, j, none⟩ c) g n (fun i => if i = j then c else f i) := by
  intro i hi
  refine ⟨?_, by rw [World.frozen?_setCell]; exact (h i hi).2⟩
  by_cases hij : i = j
  · subst hij
    rw [World.cell?_setCell_same _ _ _ (h i hi).1]; simp
  · rw [World.cell?_setCell_other _ _ _ _ (fun e => hij (by cases e; rfl)), (h i hi).1]; simp [hij]
theorem Arr.setOther {w : World} {g n : Nat} {f : Nat → Value} (h : Arr w g n f) {g' : Nat} (hg : g ≠ g') (j : Nat) (c : Value) : Arr (w.setCell ⟨g', j, none⟩ c) g n f := by
  intro i hi
  refine ⟨?_, by rw [World.frozen?_setCell]; exact (h i hi).2⟩
  rw [World.cell?_setCell_other _ _ _ _ (fun e => hg (by cases e; rfl))]; exact (h i hi).1
theorem Arr.drew {w : World} {g n : Nat} {f : Nat → Value} (h : Arr w g n f) : Arr w.drew g n f := h
theorem Arr.congr {w : World} {g n : Nat} {f f' : Nat → Value} (h : Arr w g n f) (e : ∀ i, i < n → f i = f' i) : Arr w g n f' :=
  fun i hi => by rw [← e i hi]; exact h i hi
theorem Arr.below {w w' : World} {g n B : Nat} {f : Nat → Value} (h : Arr w g n f) (hb : Below B w w') (hg : g < B) : Arr w' g n f :=
  fun i hi => ⟨(hb.cell (p := ⟨g, i, none⟩) hg).trans (h i hi).1, (hb.frozen (p := ⟨g, i, none⟩) hg).trans (h i hi).2⟩
theorem Arr.grown {w w' : World} {g n : Nat} {row : Option Nat} {f : Nat → Value} (h : Arr w g n f) (hb : w.grownBy w' row) (hg : some g ≠ row) : Arr w' g n f :=
  fun i hi => by
    have hlt := World.block_lt_of_cell? w _ (h i hi).1
    have e := hb.block g hlt hg
    exact ⟨(World.cell?_of_block (a := ⟨g, i, none⟩) e).trans (h i hi).1, (World.frozen?_of_block (a := ⟨g, i, none⟩) e).trans (h i hi).2⟩
theorem Arr.made (w : World) (z : Value) (n : Nat) (e : TypeId) : Arr (w.alloc (.cells (madeCells #[z] n) e)) w.heap.size n (fun _ => z) := by
  intro i hi
  refine ⟨?_, by rw [World.frozen?_alloc_new]⟩
  rw [World.cell?_alloc_new]
  simp [madeCells, hi, Nat.mod_one]
theorem Arr.lt {w : World} {g n : Nat} {f : Nat → Value} (h : Arr w g n f) (hn : 0 < n) : g < w.heap.size := World.block_lt_of_cell? w _ (h 0 hn).1
theorem step_push {P : Program} {ops : Array Oper} {o : Oper} {a : Act} {w : World} {K : Act → World → Prop} {Q : Exit → Act → World → Prop} {E : Prop}
    (s x : Operand) (t e : TypeId) (z : Value) (bytes base : Nat) (hgd : o.guard = none)
    (ho : o.op = .call { callee := .builtin .append, args := #[s, x], argTypes := #[t, t] })
    (ht : P.underlying t = some (.slice e)) (hi : (P.info? e).map (fun i => (i.zero, i.size, i.bytes)) = some (some z, 1, bytes)) (hz : z.cells.size = 1)
    (v : Value) (n : Nat) (xs : List Value) (hs : a.eval s = v) (hown : w.ownsRow base e 1 v n xs)
    (y : Value) (b c : Nat) (hx : a.eval x = .slice (some ⟨b, 0, none⟩) 1 c) (hy : w.cell? ⟨b, 0, none⟩ = some y) (h1 : y.oneCell' = true)
    (hb : (n + 1) * bytes ≤ 140737488355328) (hn : n < 4611686018427387904) (hbase : base ≤ w.heap.size)
    (h : ∀ v' w', w'.ownsRow base e 1 v' (n + 1) (xs ++ [y]) → w.grownBy w' v.ownBlock → v' ≠ .slice none 0 0 → K (a.put o.dst v') w') :
    if Region.wanted o (yielded ops a.tmps) = true then Oper.wp P o a w K Q else E := by
  have hw : Region.wanted o (yielded ops a.tmps) = true := by simp [Region.wanted, hgd]
  rw [if_pos hw]
  obtain ⟨i0, hi1, hi2, hi3, hi4⟩ := info_parts hi
  refine wp_append_own w s x t ho base e i0 z 1 bytes ht hi1 hi2 hi3 hi4 hz (by decide) v n xs hs hown ⟨b, 0, none⟩ 1 c [y] hx rfl
    (fun j u hj => ?_) (fun u hu => ?_) (by unfold maxLen; omega) hb hbase (fun v' w' o' g' iff' => h v' w' o' g' (fun e => ?_))
  · match j, hj with
    | 0, hj => simp at hj; subst hj; simpa [Addr.add] using hy
    | j + 1, hj => simp at hj
  · simp at hu; subst hu; exact h1
  · have := iff'.1 e; omega
theorem wpList_make_arr {P : Program} {ops : Array Oper} {rest : List Oper} {o : Oper} {a : Act} {Q : Exit → Act → World → Prop} {w : World}
    (l c : Operand) (t e : TypeId) (z : Value) (bytes : Nat) (hgd : o.guard = none) (hop : o.op = .makeSlice t l c)
    (ht : P.underlying t = some (.slice e)) (hi : (P.info? e).map (fun i => (i.zero, i.size, i.bytes)) = some (some z, 1, bytes)) (hz1 : z.cells = #[z])
    (kl kc : IntKind) (N : Int) (n : Nat) (hN : N = (n : Int)) (hl : a.eval l = .int kl N) (hc : a.eval c = .int kc N) (hb : bytes * n ≤ 281474976710656) (h63 : n ≤ 4611686018427387904)
    (h : ∀ w', Arr w' w.heap.size n (fun _ => z) → Below w.heap.size w w' → w.heap.size < w'.heap.size → w'.ownsRow w.heap.size e 1 (.slice (some ⟨w.heap.size, 0, none⟩) n n) n (List.replicate n z) →
      wpList P ops Q rest (a.put o.dst (.slice (some ⟨w.heap.size, 0, none⟩) n n)) w') :
    wpList P ops Q (o :: rest) a w := by
  subst hN
  obtain ⟨i0, hi1, hi2, hi3, hi4⟩ := info_parts hi
  refine wpList_make_row w hgd l c t hop e i0 z ht hi1 hi2 hi3 hz1 kl kc n hl hc (by rw [hi4]; exact hb) (by omega) (h _ (Arr.made w z n e) ((Below.refl _ _).alloc (Nat.le_refl _) _) (by simp) ?_)
  refine ⟨by simp, .inr ⟨w.heap.size, n, madeCells #[z] n, rfl, Nat.le_refl _, heap_alloc_new w _, Nat.le_refl _, by unfold maxLen; omega, by simp [size_madeCells], ?_⟩⟩
  apply List.ext_getElem
  · simp [size_madeCells]
  · intro i h1 h2
    simp [madeCells, Nat.mod_one]
theorem Arr.get {w : World} {g n : Nat} {f : Nat → Value} (h : Arr w g n f) (i : Nat) (hi : i < n) {v : Value} (e : f i = v) : w.cell? ⟨g, i, none⟩ = some v := by rw [(h i hi).1, e]
theorem Arr.free {w : World} {g n : Nat} {f : Nat → Value} (h : Arr w g n f) (i : Nat) (hi : i < n) : w.frozen? ⟨g, i, none⟩ = false := (h i hi).2
theorem zhL {w : World} {b b' : Nat} {e : TypeId} {size : Nat} {v : Value} {n : Nat} {xs : List Value} (h : w.ownsRow b e size v n xs) (hb : b' ≤ b) : w.ownsRow b' e size v n xs :=
  ⟨h.1, h.2.imp id fun ⟨g, cap, cur, h1, h2, h3⟩ => ⟨g, cap, cur, h1, Nat.le_trans hb h2, h3⟩⟩
def zio (w : World) (v v' : Value) : Prop := v'.ownBlock = v.ownBlock ∨ ∃ g, v'.ownBlock = some g ∧ w.heap.size ≤ g
theorem zcs {P : Program} (w : World) (base : Nat) (t ty e : TypeId) (i : TypeInfo) (z : Value) (size bytes : Nat) (ht : P.underlying t = some (.slice e)) (hi : P.info? e = some i) (hz : i.zero = some z)
    (hsize : i.size = size) (hby : i.bytes = bytes) (hzs : z.cells.size = size) (hsz : 0 < size)
    (v : Value) (n : Nat) (xs : List Value) (hown : w.ownsRow base e size v n xs)
    (a : Addr) (m c : Nat) (news : List Value) (hl : news.length = m * size) (hnews : ∀ j u, news[j]? = some u → w.cell? (a.add j) = some u) (h1 : ∀ u ∈ news, u.oneCell' = true)
    (h63 : n + m ≤ maxLen) (hbytes : (n + m) * bytes ≤ 140737488355328) (hbase : base ≤ w.heap.size) :
    ∃ v' w', (Builtin.append_ #[t, t] ty #[v, .slice (some a) m c]).run P w = .ok v' w' ∧ w'.ownsRow base e size v' (n + m) (xs ++ news) ∧ w.grownBy w' v.ownBlock ∧
      (v' = .slice none 0 0 ↔ v = .slice none 0 0 ∧ m = 0) ∧ zio w v v' := by
  have hsmall : n + m ≤ 9223372036854775807 := by simp only [maxLen] at h63; omega
  rcases hown.2 with ⟨rfl, rfl⟩ | ⟨g, cap, cur, rfl, hbg, hg, hnc, hcm, hcs, htake⟩
  · have hown' : w.ownsRow w.heap.size e size (.slice none 0 0) 0 xs := ⟨hown.1, .inl ⟨rfl, rfl⟩⟩
    obtain ⟨v', w', hr, ho, hgr, hiff⟩ := run_append_own (P := P) w w.heap.size t ty e i z size bytes ht hi hz hsize hby hzs hsz _ 0 xs hown' a m c news hl hnews h1 h63 hbytes (Nat.le_refl _)
    refine ⟨v', w', hr, zhL ho hbase, hgr, hiff, ?_⟩
    cases hv : v'.ownBlock with
    | none => exact .inl (by rw [hv]; rfl)
    | some g => exact .inr ⟨g, hv, (ho.lt g hv).1⟩
  · obtain ⟨v', w', hr, ho, hgr, hiff⟩ := run_append_own (P := P) w base t ty e i z size bytes ht hi hz hsize hby hzs hsz _ n xs hown a m c news hl hnews h1 h63 hbytes hbase
    refine ⟨v', w', hr, ho, hgr, hiff, ?_⟩
    subst hsize
    subst hby
    by_cases hroom : n + m ≤ cap
    · have hfit : n * i.size + news.length ≤ cur.size := by rw [hl, hcs, ← Nat.add_mul]; exact Nat.mul_le_mul_right _ hroom
      have hr2 := run_append_room (P := P) w t ty e i ht hi g n cap cur hg a m c news hl hnews h1 hroom hfit
      rw [hr] at hr2
      injection hr2 with e1 e2
      exact .inl (by rw [e1]; rfl)
    · have holds : ∀ j u, xs[j]? = some u → w.cell? ((⟨g, 0, none⟩ : Addr).add j) = some u := hown.cells (g := g) rfl
      have hr2 := run_append_grow (P := P) w t ty e i z ht hi hz ⟨g, 0, none⟩ n cap xs hown.1 holds a m c news hl hnews (by omega) (by omega) (growslice_fits (by omega) hbytes)
      rw [hr] at hr2
      injection hr2 with e1 e2
      exact .inr ⟨w.heap.size, by rw [e1]; rfl, Nat.le_refl _⟩
theorem step_push_place {P : Program} {ops : Array Oper} {o : Oper} {a : Act} {w : World} {K : Act → World → Prop} {Q : Exit → Act → World → Prop} {E : Prop}
    (s x : Operand) (t e : TypeId) (z : Value) (bytes base : Nat) (hgd : o.guard = none)
    (ho : o.op = .call { callee := .builtin .append, args := #[s, x], argTypes := #[t, t] })
    (ht : P.underlying t = some (.slice e)) (hi : (P.info? e).map (fun i => (i.zero, i.size, i.bytes)) = some (some z, 1, bytes)) (hz : z.cells.size = 1)
    (v : Value) (n : Nat) (xs : List Value) (hs : a.eval s = v) (hown : w.ownsRow base e 1 v n xs)
    (y : Value) (b c : Nat) (hx : a.eval x = .slice (some ⟨b, 0, none⟩) 1 c) (hy : w.cell? ⟨b, 0, none⟩ = some y) (h1 : y.oneCell' = true)
    (hb : (n + 1) * bytes ≤ 140737488355328) (hn : n < 4611686018427387904) (hbase : base ≤ w.heap.size)
    (h : ∀ v' w', w'.ownsRow base e 1 v' (n + 1) (xs ++ [y]) → w.grownBy w' v.ownBlock → zio w v v' → (∃ g k l, v' = .slice (some g) k l) → K (a.put o.dst v') w') :
    if Region.wanted o (yielded ops a.tmps) = true then Oper.wp P o a w K Q else E := by
  have hw : Region.wanted o (yielded ops a.tmps) = true := by simp [Region.wanted, hgd]
  rw [if_pos hw]
  obtain ⟨i0, hi1, hi2, hi3, hi4⟩ := info_parts hi
  obtain ⟨v', w', hr, o', g', iff', pl⟩ := zcs (P := P) w base t o.type e i0 z 1 bytes ht hi1 hi2 hi3 hi4 hz (by decide) v n xs hown ⟨b, 0, none⟩ 1 c [y] rfl
    (fun j u hj => by
      match j, hj with
      | 0, hj => simp at hj; subst hj; simpa [Addr.add] using hy
      | j + 1, hj => simp at hj)
    (fun u hu => by simp at hu; subst hu; exact h1) (by unfold maxLen; omega) hb hbase
  have hnn : ∃ g k l, v' = .slice (some g) k l := by
    rcases o'.2 with ⟨_, hz⟩ | ⟨g, cap, cur, rfl, _⟩
    · omega
    · exact ⟨_, _, _, rfl⟩
  unfold Oper.wp execOp
  simp only [ho, resolve, invoke, builtin, Sem.run_bind, Sem.run_pure, Result.andThen_ok, List.map_toArray, List.map_cons, List.map_nil, hs, hx, hr]
  exact h v' w' o' g' pl hnn
theorem wpList_alloc_arr {P : Program} {ops : Array Oper} {rest : List Oper} {o : Oper} {a : Act} {Q : Exit → Act → World → Prop} {w : World}
    (T : TypeId) (z : Value) (n : Nat) (hgd : o.guard = none) (hop : o.op = .alloc T)
    (hz : ((P.info? T).bind (·.zero)).map (·.cells) = some (Array.replicate n z))
    (h : ∀ w', Arr w' w.heap.size n (fun _ => z) → Below w.heap.size w w' → w.heap.size < w'.heap.size →
      wpList P ops Q rest (a.put o.dst (.pointer (some ⟨w.heap.size, 0, none⟩))) w') :
    wpList P ops Q (o :: rest) a w := by
  refine wpList_plain hgd fun K hK => ?_
  obtain ⟨zv, hzv, hcs⟩ := Option.map_eq_some_iff.1 hz
  obtain ⟨i, hi, hzi⟩ := Option.bind_eq_some_iff.1 hzv
  have hrun : (Instr.alloc T true (.tuple #[])).run P w = .ok (.pointer (some ⟨w.heap.size, 0, none⟩)) (w.alloc (.cells (Array.replicate n z) T)) := by
    simp [Instr.alloc, zeroValue, typeInfo, hi, hzi, newVar, newRow, newObj, hcs]
    rfl
  unfold Oper.wp execOp
  simp only [hop, Sem.run_bind, Sem.run_pure, hrun, Result.andThen_ok]
  refine hK _ _ (h _ (fun i hi => ⟨?_, by rw [World.frozen?_alloc_new]⟩) ((Below.refl _ _).alloc (Nat.le_refl _) _) (by simp))
  rw [World.cell?_alloc_new]
  simp [hi]
theorem ownsRow_slice {w : World} {base : Nat} {e : TypeId} {v : Value} {n : Nat} {xs : List Value} (h : w.ownsRow base e 1 v n xs) :
    ∃ ga cap, v = .slice ga n cap ∧ n ≤ maxLen ∧ ∀ j u, xs[j]? = some u → ∃ g, ga = some ⟨g, 0, none⟩ ∧ w.cell? ⟨g, j, none⟩ = some u ∧ base ≤ g := by
  rcases h.2 with ⟨rfl, rfl⟩ | ⟨g, cap, cur, rfl, hb, hg, hn, hc, _⟩
  · have hx : xs = [] := List.eq_nil_of_length_eq_zero (by simpa using h.1)
    subst hx
    exact ⟨none, 0, rfl, by decide, fun j u hj => by simp at hj⟩
  · refine ⟨_, _, rfl, by omega, fun j u hj => ⟨g, rfl, ?_, hb⟩⟩
    have := h.cells (g := g) rfl j u hj
    rw [show (⟨g, 0, none⟩ : Addr).add j = ⟨g, j, none⟩ by rw [Addr.add_lit]; simp] at this
    exact this
end Go.Proofs.Ytbnnipkanechoaa
end
section
namespace Go.Proofs
open Go.Shelf
def Try.lays128_ren : Go.Shelf.Ren := ⟨fun | 128 => 88 | n => n, fun | 51 => 102 | 3 => 3 | 4 => 4 | 46 => 51 | 5 => 5 | 9 => 9 | n => n, fun | n => n⟩
theorem Try.lays128 : Go.Proofs.Lays.n128 Try.prog Try.lays128_ren := {
  mixed := by kernel_rfl
  f128 := Try.func88.trans (congrArg some (by kernel_rfl))
  t3 := Try.underlying3
  a3 := Try.isAgg3
  z3 := Try.sizeOf3
  v3 := Try.zeroValue3
  t4 := Try.underlying4
  a4 := Try.isAgg4
  z4 := Try.sizeOf4
  v4 := Try.zeroValue4
  t5 := Try.underlying5
  a5 := Try.isAgg5
  z5 := Try.sizeOf5
  v5 := Try.zeroValue5
  t9 := Try.underlying9
  a9 := Try.isAgg9
  z9 := Try.sizeOf9
  v9 := Try.zeroValue9
  t46 := Try.underlying51
  a46 := Try.isAgg51
  z46 := Try.sizeOf51
  v46 := Try.zeroValue51
  t51 := Try.underlying102
  a51 := Try.isAgg102
  z51 := Try.sizeOf102
  v51 := Try.zeroValue102 }
theorem Try.bits_Len32 (x : Int) (w : World) (h0 : 0 ≤ x) (h1 : x ≤ 4294967295) :
    Calls Try.prog 88 #[.int .u32 x] w fun e w' => e = .returned (.int .i64 (Lib.bitLen x.toNat)) ∧ w' = w := Any.bits_Len32 Try.lays128 x w h0 h1
def Try.lays125_ren : Go.Shelf.Ren := ⟨fun | 125 => 76 | 128 => 88 | 129 => 89 | n => n, fun | 46 => 51 | 3 => 3 | 51 => 102 | 53 => 104 | 4 => 4 | 5 => 5 | 9 => 9 | n => n, fun | n => n⟩
theorem Try.lays125 : Go.Proofs.Lays.n125 Try.prog Try.lays125_ren := {
  mixed := by kernel_rfl
  f125 := Try.func76.trans (congrArg some (by kernel_rfl))
  f128 := Try.func88.trans (congrArg some (by kernel_rfl))
  f129 := Try.func89.trans (congrArg some (by kernel_rfl))
  t3 := Try.underlying3
  a3 := Try.isAgg3
  z3 := Try.sizeOf3
  v3 := Try.zeroValue3
  t4 := Try.underlying4
  a4 := Try.isAgg4
  z4 := Try.sizeOf4
  v4 := Try.zeroValue4
  t5 := Try.underlying5
  a5 := Try.isAgg5
  z5 := Try.sizeOf5
  v5 := Try.zeroValue5
  t9 := Try.underlying9
  a9 := Try.isAgg9
  z9 := Try.sizeOf9
  v9 := Try.zeroValue9
  t46 := Try.underlying51
  a46 := Try.isAgg51
  z46 := Try.sizeOf51
  v46 := Try.zeroValue51
  t51 := Try.underlying102
  a51 := Try.isAgg102
  z51 := Try.sizeOf102
  v51 := Try.zeroValue102
  t53 := Try.underlying104
  a53 := Try.isAgg104
  z53 := Try.sizeOf104
  v53 := Try.zeroValue104 }
theorem Try.bits_Len (x : Int) (w : World) (h0 : 0 ≤ x) (h1 : x ≤ 18446744073709551615) :
    Calls Try.prog 76 #[.int .u64 x] w fun e w' => e = .returned (.int .i64 (Lib.bitLen x.toNat)) ∧ w' = w := Any.bits_Len Try.lays125 x w h0 h1
def Try.lays129_ren : Go.Shelf.Ren := ⟨fun | 129 => 89 | n => n, fun | 53 => 104 | 3 => 3 | 4 => 4 | 46 => 51 | 5 => 5 | 9 => 9 | n => n, fun | n => n⟩
theorem Try.lays129 : Go.Proofs.Lays.n129 Try.prog Try.lays129_ren := {
  mixed := by kernel_rfl
  f129 := Try.func89.trans (congrArg some (by kernel_rfl))
  t3 := Try.underlying3
  a3 := Try.isAgg3
  z3 := Try.sizeOf3
  v3 := Try.zeroValue3
  t4 := Try.underlying4
  a4 := Try.isAgg4
  z4 := Try.sizeOf4
  v4 := Try.zeroValue4
  t5 := Try.underlying5
  a5 := Try.isAgg5
  z5 := Try.sizeOf5
  v5 := Try.zeroValue5
  t9 := Try.underlying9
  a9 := Try.isAgg9
  z9 := Try.sizeOf9
  v9 := Try.zeroValue9
  t46 := Try.underlying51
  a46 := Try.isAgg51
  z46 := Try.sizeOf51
  v46 := Try.zeroValue51
  t53 := Try.underlying104
  a53 := Try.isAgg104
  z53 := Try.sizeOf104
  v53 := Try.zeroValue104 }
theorem Try.bits_Len64 (x : Int) (w : World) (h0 : 0 ≤ x) (h1 : x ≤ 18446744073709551615) :
    Calls Try.prog 89 #[.int .u64 x] w fun e w' => e = .returned (.int .i64 (Lib.bitLen x.toNat)) ∧ w' = w := Any.bits_Len64 Try.lays129 x w h0 h1
def Try.laysNm237_ren : Go.Shelf.Ren := ⟨fun | 37 => 77 | n => n, fun | 3 => 3 | 4 => 4 | n => n, fun | n => n⟩
theorem Try.laysNm237 : Go.Proofs.Lays2.n37 Try.prog Try.laysNm237_ren := {
  mixed := by kernel_rfl
  f37 := Try.func77.trans (congrArg some (by kernel_rfl))
  t3 := Try.underlying3
  a3 := Try.isAgg3
  z3 := Try.sizeOf3
  v3 := Try.zeroValue3
  t4 := Try.underlying4
  a4 := Try.isAgg4
  z4 := Try.sizeOf4
  v4 := Try.zeroValue4 }
open Go.RowKit Go.Lib in
theorem Try.cmp_isNaN_int2 (x : Int) (w : World) :
    Calls Try.prog 77 #[.int .i64 x] w fun e w' => e = .returned (.bool false) ∧ w' = w := Any.cmp_isNaN_int2 Try.laysNm237 x w
def Try.laysSlC27_f77_ren : Go.Shelf.Ren := ⟨fun | 7 => 77 | n => n, fun | 22 => 3 | 4 => 4 | n => n, fun | n => n⟩
theorem Try.laysSlC27_f77 : Go.Proofs.SlLaysC2.n7 Try.prog Try.laysSlC27_f77_ren := {
  mixed := by kernel_rfl
  f7 := ⟨Try.f77.name, by decide, Try.func77.trans (congrArg some (by kernel_rfl))⟩
  t4 := Try.underlying4
  a4 := Try.isAgg4
  z4 := Try.sizeOf4
  v4 := Try.zeroValue4
  t22 := Try.underlying3
  a22 := Try.isAgg3
  z22 := Try.sizeOf3
  v22 := Try.zeroValue3 }
open Go.Lib in
theorem Try.cmp_isNaN_int (x : Int) (w : World) :
    Calls Try.prog 77 #[.int .i64 x] w fun e w' => e = .returned (.bool false) ∧ w' = w := AnyG.cmp_isNaN_int Try.laysSlC27_f77 x w
def Try.laysSlC25_f67_ren : Go.Shelf.Ren := ⟨fun | 5 => 67 | 7 => 77 | n => n, fun | 22 => 3 | 3 => 3 | 4 => 4 | n => n, fun | n => n⟩
theorem Try.laysSlC25_f67 : Go.Proofs.SlLaysC2.n5 Try.prog Try.laysSlC25_f67_ren := {
  mixed := by kernel_rfl
  f5 := ⟨Try.f67.name, by decide, Try.func67.trans (congrArg some (by kernel_rfl))⟩
  f7 := ⟨Try.f77.name, by decide, Try.func77.trans (congrArg some (by kernel_rfl))⟩
  t3 := Try.underlying3
  a3 := Try.isAgg3
  z3 := Try.sizeOf3
  v3 := Try.zeroValue3
  t4 := Try.underlying4
  a4 := Try.isAgg4
  z4 := Try.sizeOf4
  v4 := Try.zeroValue4
  t22 := Try.underlying3
  a22 := Try.isAgg3
  z22 := Try.sizeOf3
  v22 := Try.zeroValue3 }
open Go.Lib in
theorem Try.cmp_Compare_int (x y : Int) (w : World) :
    Calls Try.prog 67 #[.int .i64 x, .int .i64 y] w fun e w' => e = .returned (.int .i64 (Lib.compareInt x y)) ∧ w' = w := AnyG.cmp_Compare_int Try.laysSlC25_f67 x y w
def Try.laysSlF20_f80_ren : Go.Shelf.Ren := ⟨fun | 20 => 80 | n => n, fun | 24 => 3 | 22 => 22 | 3 => 3 | 25 => 46 | 4 => 4 | 0 => 0 | n => n, fun | n => n⟩
theorem Try.laysSlF20_f80 : Go.Proofs.SlLaysF.n20 Try.prog Try.laysSlF20_f80_ren := {
  mixed := by kernel_rfl
  f20 := ⟨Try.f80.name, by decide, Try.func80.trans (congrArg some (by kernel_rfl))⟩
  t0 := Try.underlying0
  a0 := Try.isAgg0
  z0 := Try.sizeOf0
  v0 := Try.zeroValue0
  t3 := Try.underlying3
  a3 := Try.isAgg3
  z3 := Try.sizeOf3
  v3 := Try.zeroValue3
  t4 := Try.underlying4
  a4 := Try.isAgg4
  z4 := Try.sizeOf4
  v4 := Try.zeroValue4
  t22 := Try.underlying22
  a22 := Try.isAgg22
  z22 := Try.sizeOf22
  v22 := Try.zeroValue22
  a24 := Try.isAgg3
  z24 := Try.sizeOf3
  t25 := Try.underlying46
  a25 := Try.isAgg46
  z25 := Try.sizeOf46
  v25 := Try.zeroValue46 }
open Go.RowKit Go.Lib Go.Sort in
theorem Try.insertionSortCmpFunc_one {α : Type} [Inhabited α] (enc : α → Value) (hO : OneCell enc) (cf : α → α → Int) (g : Nat) (cb : Array Value) (blk off cap a b : Nat) (d : Array α) (w : World) (eg : ∀ args w, (callFunc g args).run Try.prog w = .ok (.enter g args) w) (hcmp : CmpReads Try.prog g cb enc cf blk off d.size w) (hH : Holds enc w blk off d) (hab : a ≤ b) (hb : b ≤ d.size) (hsz : d.size < 4611686018427387904) :
    Calls Try.prog 80 #[.slice (some ⟨blk, off, none⟩) d.size cap, .int .i64 a, .int .i64 b, .func (.func g) #[] cb] w fun e w' =>
      e = .returned (.tuple #[]) ∧ ∃ n, w' = (putRow enc w blk off (Sort.insertionSort (ltOf cf) d a b)).drewN n := Any.insertionSortCmpFunc_one Try.laysSlF20_f80 enc hO cf g cb blk off cap a b d w eg hcmp hH hab hb hsz
def Try.laysSlF46_f93_ren : Go.Shelf.Ren := ⟨fun | 46 => 93 | n => n, fun | 24 => 3 | 22 => 22 | 3 => 3 | 25 => 46 | 4 => 4 | 0 => 0 | n => n, fun | n => n⟩
theorem Try.laysSlF46_f93 : Go.Proofs.SlLaysF.n46 Try.prog Try.laysSlF46_f93_ren := {
  mixed := by kernel_rfl
  f46 := ⟨Try.f93.name, by decide, Try.func93.trans (congrArg some (by kernel_rfl))⟩
  t0 := Try.underlying0
  a0 := Try.isAgg0
  z0 := Try.sizeOf0
  v0 := Try.zeroValue0
  t3 := Try.underlying3
  a3 := Try.isAgg3
  z3 := Try.sizeOf3
  v3 := Try.zeroValue3
  t4 := Try.underlying4
  a4 := Try.isAgg4
  z4 := Try.sizeOf4
  v4 := Try.zeroValue4
  t22 := Try.underlying22
  a22 := Try.isAgg22
  z22 := Try.sizeOf22
  v22 := Try.zeroValue22
  a24 := Try.isAgg3
  z24 := Try.sizeOf3
  t25 := Try.underlying46
  a25 := Try.isAgg46
  z25 := Try.sizeOf46
  v25 := Try.zeroValue46 }
open Go.RowKit Go.Lib Go.Sort in
theorem Try.siftDownCmpFunc {α : Type} [Inhabited α] (enc : α → Value) (cf : α → α → Int) (g : Nat) (cb : Array Value) (blk off cap lo hi first : Nat) (d0 d : Array α) (w0 w : World) (eg : ∀ args w, (callFunc g args).run Try.prog w = .ok (.enter g args) w) (hcmp : CmpLays1 Try.prog g cb enc cf blk off d0.size w0) (R : Row1 enc w0 blk off d0) (hs : d0.size = d.size) (S : SW enc w0 blk off d w) (hlo : lo ≤ hi) (hb : first + hi ≤ d.size) (hsz : d.size < 4611686018427387904) :
    Calls Try.prog 93 #[.slice (some ⟨blk, off, none⟩) d.size cap, .int .i64 lo, .int .i64 hi, .int .i64 first, .func (.func g) #[] cb] w fun e w' =>
      e = .returned (.tuple #[]) ∧ SW enc w0 blk off (siftDown (ltOf cf) hi first lo d) w' := Any.siftDownCmpFunc Try.laysSlF46_f93 enc cf g cb blk off cap lo hi first d0 d w0 w eg hcmp R hs S hlo hb hsz
def Try.laysSlF21_f81_ren : Go.Shelf.Ren := ⟨fun | 21 => 81 | 46 => 93 | n => n, fun | 24 => 3 | 22 => 22 | 3 => 3 | 25 => 46 | 4 => 4 | 0 => 0 | n => n, fun | n => n⟩
theorem Try.laysSlF21_f81 : Go.Proofs.SlLaysF.n21 Try.prog Try.laysSlF21_f81_ren := {
  mixed := by kernel_rfl
  f21 := ⟨Try.f81.name, by decide, Try.func81.trans (congrArg some (by kernel_rfl))⟩
  f46 := ⟨Try.f93.name, by decide, Try.func93.trans (congrArg some (by kernel_rfl))⟩
  t0 := Try.underlying0
  a0 := Try.isAgg0
  z0 := Try.sizeOf0
  v0 := Try.zeroValue0
  t3 := Try.underlying3
  a3 := Try.isAgg3
  z3 := Try.sizeOf3
  v3 := Try.zeroValue3
  t4 := Try.underlying4
  a4 := Try.isAgg4
  z4 := Try.sizeOf4
  v4 := Try.zeroValue4
  t22 := Try.underlying22
  a22 := Try.isAgg22
  z22 := Try.sizeOf22
  v22 := Try.zeroValue22
  a24 := Try.isAgg3
  z24 := Try.sizeOf3
  t25 := Try.underlying46
  a25 := Try.isAgg46
  z25 := Try.sizeOf46
  v25 := Try.zeroValue46 }
open Go.RowKit Go.Lib Go.Sort in
theorem Try.heapSortCmpFunc {α : Type} [Inhabited α] (enc : α → Value) (cf : α → α → Int) (g : Nat) (cb : Array Value) (blk off cap a b : Nat) (d0 d : Array α) (w0 w : World) (eg : ∀ args w, (callFunc g args).run Try.prog w = .ok (.enter g args) w) (hcmp : CmpLays1 Try.prog g cb enc cf blk off d0.size w0) (R : Row1 enc w0 blk off d0) (hs : d0.size = d.size) (S : SW enc w0 blk off d w) (hab : a ≤ b) (hb : b ≤ d.size) (hsz : d.size < 4611686018427387904) :
    Calls Try.prog 81 #[.slice (some ⟨blk, off, none⟩) d.size cap, .int .i64 a, .int .i64 b, .func (.func g) #[] cb] w fun e w' =>
      e = .returned (.tuple #[]) ∧ SW enc w0 blk off (heapSort (ltOf cf) d a b) w' := Any.heapSortCmpFunc Try.laysSlF21_f81 enc cf g cb blk off cap a b d0 d w0 w eg hcmp R hs S hab hb hsz
open Go.RowKit Go.Lib Go.Sort in
theorem Try.insertionSortCmpFunc_s {α : Type} [Inhabited α] (enc : α → Value) (cf : α → α → Int) (g : Nat) (cb : Array Value) (blk off cap a b : Nat) (d0 d : Array α) (w0 w : World) (eg : ∀ args w, (callFunc g args).run Try.prog w = .ok (.enter g args) w) (hcmp : CmpLays1 Try.prog g cb enc cf blk off d0.size w0) (R : Row1 enc w0 blk off d0) (hs : d0.size = d.size) (S : SW enc w0 blk off d w) (hab : a ≤ b) (hb : b ≤ d.size) (hsz : d.size < 4611686018427387904) :
    Calls Try.prog 80 #[.slice (some ⟨blk, off, none⟩) d.size cap, .int .i64 a, .int .i64 b, .func (.func g) #[] cb] w fun e w' => e = .returned (.tuple #[]) ∧ SW enc w0 blk off (Sort.insertionSort (ltOf cf) d a b) w' := Any.insertionSortCmpFunc_s Try.laysSlF20_f80 enc cf g cb blk off cap a b d0 d w0 w eg hcmp R hs S hab hb hsz
def Try.laysSlF57_f99_ren : Go.Shelf.Ren := ⟨fun | 57 => 99 | n => n, fun | 24 => 3 | 22 => 22 | 3 => 3 | 70 => 109 | 25 => 46 | 0 => 0 | 4 => 4 | n => n, fun | n => n⟩
theorem Try.laysSlF57_f99 : Go.Proofs.SlLaysF.n57 Try.prog Try.laysSlF57_f99_ren := {
  mixed := by kernel_rfl
  f57 := ⟨Try.f99.name, by decide, Try.func99.trans (congrArg some (by kernel_rfl))⟩
  t0 := Try.underlying0
  a0 := Try.isAgg0
  z0 := Try.sizeOf0
  v0 := Try.zeroValue0
  t3 := Try.underlying3
  a3 := Try.isAgg3
  z3 := Try.sizeOf3
  v3 := Try.zeroValue3
  t4 := Try.underlying4
  a4 := Try.isAgg4
  z4 := Try.sizeOf4
  v4 := Try.zeroValue4
  t22 := Try.underlying22
  a22 := Try.isAgg22
  z22 := Try.sizeOf22
  v22 := Try.zeroValue22
  a24 := Try.isAgg3
  z24 := Try.sizeOf3
  t25 := Try.underlying46
  a25 := Try.isAgg46
  z25 := Try.sizeOf46
  v25 := Try.zeroValue46
  t70 := Try.underlying109
  a70 := Try.isAgg109
  z70 := Try.sizeOf109
  v70 := Try.zeroValue109 }
open Go.RowKit Go.Lib Go.Sort in
theorem Try.order2CmpFunc {α : Type} [Inhabited α] (enc : α → Value) (cf : α → α → Int) (g : Nat) (cb : Array Value) (blk off cap a b c s : Nat) (d0 d : Array α) (w0 W : World) (eg : ∀ args w, (callFunc g args).run Try.prog w = .ok (.enter g args) w) (hcmp : CmpLays1 Try.prog g cb enc cf blk off d0.size w0) (R : Row1 enc w0 blk off d0) (hs : d0.size = d.size) (C : Cnt1 enc w0 blk off d c s W) (ha : a < d.size) (hb : b < d.size) (hsz : d.size < 4611686018427387904) (hss : s < 4611686018427387904) :
    Calls Try.prog 99 #[.slice (some ⟨blk, off, none⟩) d.size cap, .int .i64 a, .int .i64 b, .pointer (some ⟨c, 0, none⟩), .func (.func g) #[] cb] W fun e w' =>
      e = .returned (.tuple #[.int .i64 (order2 (ltOf cf) d a b s).1, .int .i64 (order2 (ltOf cf) d a b s).2.1]) ∧ Cnt1 enc w0 blk off d c (order2 (ltOf cf) d a b s).2.2 w' := Any.order2CmpFunc Try.laysSlF57_f99 enc cf g cb blk off cap a b c s d0 d w0 W eg hcmp R hs C ha hb hsz hss
def Try.laysSlF50_f97_ren : Go.Shelf.Ren := ⟨fun | 50 => 97 | 57 => 99 | n => n, fun | 24 => 3 | 22 => 22 | 3 => 3 | 70 => 109 | 25 => 46 | 77 => 112 | 0 => 0 | 4 => 4 | n => n, fun | n => n⟩
theorem Try.laysSlF50_f97 : Go.Proofs.SlLaysF.n50 Try.prog Try.laysSlF50_f97_ren := {
  mixed := by kernel_rfl
  f50 := ⟨Try.f97.name, by decide, Try.func97.trans (congrArg some (by kernel_rfl))⟩
  f57 := ⟨Try.f99.name, by decide, Try.func99.trans (congrArg some (by kernel_rfl))⟩
  t0 := Try.underlying0
  a0 := Try.isAgg0
  z0 := Try.sizeOf0
  v0 := Try.zeroValue0
  t3 := Try.underlying3
  a3 := Try.isAgg3
  z3 := Try.sizeOf3
  v3 := Try.zeroValue3
  t4 := Try.underlying4
  a4 := Try.isAgg4
  z4 := Try.sizeOf4
  v4 := Try.zeroValue4
  t22 := Try.underlying22
  a22 := Try.isAgg22
  z22 := Try.sizeOf22
  v22 := Try.zeroValue22
  a24 := Try.isAgg3
  z24 := Try.sizeOf3
  t25 := Try.underlying46
  a25 := Try.isAgg46
  z25 := Try.sizeOf46
  v25 := Try.zeroValue46
  t70 := Try.underlying109
  a70 := Try.isAgg109
  z70 := Try.sizeOf109
  v70 := Try.zeroValue109
  t77 := Try.underlying112
  a77 := Try.isAgg112
  z77 := Try.sizeOf112
  v77 := Try.zeroValue112 }
open Go.RowKit Go.Lib Go.Sort in
theorem Try.medianCmpFunc {α : Type} [Inhabited α] (enc : α → Value) (cf : α → α → Int) (g : Nat) (cb : Array Value) (blk off cap a b c' c s : Nat) (d0 d : Array α) (w0 W : World) (eg : ∀ args w, (callFunc g args).run Try.prog w = .ok (.enter g args) w) (hcmp : CmpLays1 Try.prog g cb enc cf blk off d0.size w0) (R : Row1 enc w0 blk off d0) (hs : d0.size = d.size) (C : Cnt1 enc w0 blk off d c s W) (ha : a < d.size) (hb : b < d.size) (hc : c' < d.size) (hsz : d.size < 4611686018427387904) (hss : s + 3 < 4611686018427387904) :
    Calls Try.prog 97 #[.slice (some ⟨blk, off, none⟩) d.size cap, .int .i64 a, .int .i64 b, .int .i64 c', .pointer (some ⟨c, 0, none⟩), .func (.func g) #[] cb] W fun e w' =>
      e = .returned (.int .i64 (median (ltOf cf) d a b c' s).1) ∧ Cnt1 enc w0 blk off d c (median (ltOf cf) d a b c' s).2 w' := Any.medianCmpFunc Try.laysSlF50_f97 enc cf g cb blk off cap a b c' c s d0 d w0 W eg hcmp R hs C ha hb hc hsz hss
def Try.laysSlF49_f96_ren : Go.Shelf.Ren := ⟨fun | 49 => 96 | 50 => 97 | 57 => 99 | n => n, fun | 24 => 3 | 22 => 22 | 3 => 3 | 70 => 109 | 25 => 46 | 77 => 112 | 0 => 0 | 4 => 4 | n => n, fun | n => n⟩
theorem Try.laysSlF49_f96 : Go.Proofs.SlLaysF.n49 Try.prog Try.laysSlF49_f96_ren := {
  mixed := by kernel_rfl
  f49 := ⟨Try.f96.name, by decide, Try.func96.trans (congrArg some (by kernel_rfl))⟩
  f50 := ⟨Try.f97.name, by decide, Try.func97.trans (congrArg some (by kernel_rfl))⟩
  f57 := ⟨Try.f99.name, by decide, Try.func99.trans (congrArg some (by kernel_rfl))⟩
  t0 := Try.underlying0
  a0 := Try.isAgg0
  z0 := Try.sizeOf0
  v0 := Try.zeroValue0
  t3 := Try.underlying3
  a3 := Try.isAgg3
  z3 := Try.sizeOf3
  v3 := Try.zeroValue3
  t4 := Try.underlying4
  a4 := Try.isAgg4
  z4 := Try.sizeOf4
  v4 := Try.zeroValue4
  t22 := Try.underlying22
  a22 := Try.isAgg22
  z22 := Try.sizeOf22
  v22 := Try.zeroValue22
  a24 := Try.isAgg3
  z24 := Try.sizeOf3
  t25 := Try.underlying46
  a25 := Try.isAgg46
  z25 := Try.sizeOf46
  v25 := Try.zeroValue46
  t70 := Try.underlying109
  a70 := Try.isAgg109
  z70 := Try.sizeOf109
  v70 := Try.zeroValue109
  t77 := Try.underlying112
  a77 := Try.isAgg112
  z77 := Try.sizeOf112
  v77 := Try.zeroValue112 }
open Go.RowKit Go.Lib Go.Sort in
theorem Try.medianAdjacentCmpFunc {α : Type} [Inhabited α] (enc : α → Value) (cf : α → α → Int) (g : Nat) (cb : Array Value) (blk off cap a c s : Nat) (d0 d : Array α) (w0 W : World) (eg : ∀ args w, (callFunc g args).run Try.prog w = .ok (.enter g args) w) (hcmp : CmpLays1 Try.prog g cb enc cf blk off d0.size w0) (R : Row1 enc w0 blk off d0) (hs : d0.size = d.size) (C : Cnt1 enc w0 blk off d c s W) (ha1 : 1 ≤ a) (ha2 : a + 1 < d.size) (hsz : d.size < 4611686018427387904) (hss : s + 3 < 4611686018427387904) :
    Calls Try.prog 96 #[.slice (some ⟨blk, off, none⟩) d.size cap, .int .i64 a, .pointer (some ⟨c, 0, none⟩), .func (.func g) #[] cb] W fun e w' =>
      e = .returned (.int .i64 (medianAdjacent (ltOf cf) d a s).1) ∧ Cnt1 enc w0 blk off d c (medianAdjacent (ltOf cf) d a s).2 w' := Any.medianAdjacentCmpFunc Try.laysSlF49_f96 enc cf g cb blk off cap a c s d0 d w0 W eg hcmp R hs C ha1 ha2 hsz hss
def Try.laysSlF23_f83_ren : Go.Shelf.Ren := ⟨fun | 23 => 83 | 49 => 96 | 50 => 97 | 57 => 99 | n => n, fun | 24 => 3 | 22 => 22 | 3 => 3 | 25 => 46 | 45 => 95 | 0 => 0 | 4 => 4 | 70 => 109 | 77 => 112 | n => n, fun | n => n⟩
theorem Try.laysSlF23_f83 : Go.Proofs.SlLaysF.n23 Try.prog Try.laysSlF23_f83_ren := {
  mixed := by kernel_rfl
  f23 := ⟨Try.f83.name, by decide, Try.func83.trans (congrArg some (by kernel_rfl))⟩
  f49 := ⟨Try.f96.name, by decide, Try.func96.trans (congrArg some (by kernel_rfl))⟩
  f50 := ⟨Try.f97.name, by decide, Try.func97.trans (congrArg some (by kernel_rfl))⟩
  f57 := ⟨Try.f99.name, by decide, Try.func99.trans (congrArg some (by kernel_rfl))⟩
  t0 := Try.underlying0
  a0 := Try.isAgg0
  z0 := Try.sizeOf0
  v0 := Try.zeroValue0
  t3 := Try.underlying3
  a3 := Try.isAgg3
  z3 := Try.sizeOf3
  v3 := Try.zeroValue3
  t4 := Try.underlying4
  a4 := Try.isAgg4
  z4 := Try.sizeOf4
  v4 := Try.zeroValue4
  t22 := Try.underlying22
  a22 := Try.isAgg22
  z22 := Try.sizeOf22
  v22 := Try.zeroValue22
  a24 := Try.isAgg3
  z24 := Try.sizeOf3
  t25 := Try.underlying46
  a25 := Try.isAgg46
  z25 := Try.sizeOf46
  v25 := Try.zeroValue46
  t45 := Try.underlying95
  a45 := Try.isAgg95
  z45 := Try.sizeOf95
  v45 := Try.zeroValue95
  t70 := Try.underlying109
  a70 := Try.isAgg109
  z70 := Try.sizeOf109
  v70 := Try.zeroValue109
  t77 := Try.underlying112
  a77 := Try.isAgg112
  z77 := Try.sizeOf112
  v77 := Try.zeroValue112 }
open Go.RowKit Go.Lib Go.Sort in
theorem Try.choosePivotCmpFunc {α : Type} [Inhabited α] (enc : α → Value) (cf : α → α → Int) (g : Nat) (cb : Array Value) (blk off cap a b : Nat) (d0 d : Array α) (w0 W : World) (eg : ∀ args w, (callFunc g args).run Try.prog w = .ok (.enter g args) w) (hcmp : CmpLays1 Try.prog g cb enc cf blk off d0.size w0) (R : Row1 enc w0 blk off d0) (hs : d0.size = d.size) (S : SW enc w0 blk off d W) (hab : a < b) (hb : b ≤ d.size) (hsz : d.size < 4611686018427387904) :
    Calls Try.prog 83 #[.slice (some ⟨blk, off, none⟩) d.size cap, .int .i64 a, .int .i64 b, .func (.func g) #[] cb] W fun e w' =>
      e = .returned (.tuple #[.int .i64 (choosePivot (ltOf cf) d a b).1, .int .i64 (hintCode (choosePivot (ltOf cf) d a b).2)]) ∧ SW enc w0 blk off d w' := Any.choosePivotCmpFunc Try.laysSlF23_f83 enc cf g cb blk off cap a b d0 d w0 W eg hcmp R hs S hab hb hsz
def Try.laysSlF24_f84_ren : Go.Shelf.Ren := ⟨fun | 24 => 84 | n => n, fun | 24 => 3 | 22 => 22 | 3 => 3 | 25 => 46 | 4 => 4 | 0 => 0 | n => n, fun | n => n⟩
theorem Try.laysSlF24_f84 : Go.Proofs.SlLaysF.n24 Try.prog Try.laysSlF24_f84_ren := {
  mixed := by kernel_rfl
  f24 := ⟨Try.f84.name, by decide, Try.func84.trans (congrArg some (by kernel_rfl))⟩
  t0 := Try.underlying0
  a0 := Try.isAgg0
  z0 := Try.sizeOf0
  v0 := Try.zeroValue0
  t3 := Try.underlying3
  a3 := Try.isAgg3
  z3 := Try.sizeOf3
  v3 := Try.zeroValue3
  t4 := Try.underlying4
  a4 := Try.isAgg4
  z4 := Try.sizeOf4
  v4 := Try.zeroValue4
  t22 := Try.underlying22
  a22 := Try.isAgg22
  z22 := Try.sizeOf22
  v22 := Try.zeroValue22
  a24 := Try.isAgg3
  z24 := Try.sizeOf3
  t25 := Try.underlying46
  a25 := Try.isAgg46
  z25 := Try.sizeOf46
  v25 := Try.zeroValue46 }
open Go.RowKit Go.Lib Go.Sort in
theorem Try.reverseRangeCmpFunc {α : Type} [Inhabited α] (enc : α → Value) (g : Nat) (cb : Array Value) (blk off cap a b : Nat) (d0 d : Array α) (w0 w : World) (R : Row1 enc w0 blk off d0) (hs : d0.size = d.size) (S : SW enc w0 blk off d w) (hab : a ≤ b) (hb : b ≤ d.size) (hsz : d.size < 4611686018427387904) :
    Calls Try.prog 84 #[.slice (some ⟨blk, off, none⟩) d.size cap, .int .i64 a, .int .i64 b, .func (.func g) #[] cb] w fun e w' => e = .returned (.tuple #[]) ∧ SW enc w0 blk off (reverseRange d a b) w' := Any.reverseRangeCmpFunc Try.laysSlF24_f84 enc g cb blk off cap a b d0 d w0 w R hs S hab hb hsz
def Try.laysSlF25_f85_ren : Go.Shelf.Ren := ⟨fun | 25 => 85 | n => n, fun | 24 => 3 | 22 => 22 | 3 => 3 | 25 => 46 | 4 => 4 | 0 => 0 | n => n, fun | n => n⟩
theorem Try.laysSlF25_f85 : Go.Proofs.SlLaysF.n25 Try.prog Try.laysSlF25_f85_ren := {
  mixed := by kernel_rfl
  f25 := ⟨Try.f85.name, by decide, Try.func85.trans (congrArg some (by kernel_rfl))⟩
  t0 := Try.underlying0
  a0 := Try.isAgg0
  z0 := Try.sizeOf0
  v0 := Try.zeroValue0
  t3 := Try.underlying3
  a3 := Try.isAgg3
  z3 := Try.sizeOf3
  v3 := Try.zeroValue3
  t4 := Try.underlying4
  a4 := Try.isAgg4
  z4 := Try.sizeOf4
  v4 := Try.zeroValue4
  t22 := Try.underlying22
  a22 := Try.isAgg22
  z22 := Try.sizeOf22
  v22 := Try.zeroValue22
  a24 := Try.isAgg3
  z24 := Try.sizeOf3
  t25 := Try.underlying46
  a25 := Try.isAgg46
  z25 := Try.sizeOf46
  v25 := Try.zeroValue46 }
open Go.RowKit Go.Lib Go.Sort in
theorem Try.partialInsertionSortCmpFunc {α : Type} [Inhabited α] (enc : α → Value) (cf : α → α → Int) (g : Nat) (cb : Array Value) (blk off cap a b : Nat) (d0 d : Array α) (w0 w : World) (eg : ∀ args w, (callFunc g args).run Try.prog w = .ok (.enter g args) w) (hcmp : CmpLays1 Try.prog g cb enc cf blk off d0.size w0) (R : Row1 enc w0 blk off d0) (hs : d0.size = d.size) (S : SW enc w0 blk off d w) (hab : a < b) (hb : b ≤ d.size) (hsz : d.size < 4611686018427387904) :
    Calls Try.prog 85 #[.slice (some ⟨blk, off, none⟩) d.size cap, .int .i64 a, .int .i64 b, .func (.func g) #[] cb] w fun e w' =>
      e = .returned (.bool (Sort.partialInsertionSort (ltOf cf) d a b).2) ∧ SW enc w0 blk off (Sort.partialInsertionSort (ltOf cf) d a b).1 w' := Any.partialInsertionSortCmpFunc Try.laysSlF25_f85 enc cf g cb blk off cap a b d0 d w0 w eg hcmp R hs S hab hb hsz
def Try.laysSlF26_f86_ren : Go.Shelf.Ren := ⟨fun | 26 => 86 | n => n, fun | 24 => 3 | 22 => 22 | 3 => 3 | 25 => 46 | 0 => 0 | 4 => 4 | n => n, fun | n => n⟩
theorem Try.laysSlF26_f86 : Go.Proofs.SlLaysF.n26 Try.prog Try.laysSlF26_f86_ren := {
  mixed := by kernel_rfl
  f26 := ⟨Try.f86.name, by decide, Try.func86.trans (congrArg some (by kernel_rfl))⟩
  t0 := Try.underlying0
  a0 := Try.isAgg0
  z0 := Try.sizeOf0
  v0 := Try.zeroValue0
  t3 := Try.underlying3
  a3 := Try.isAgg3
  z3 := Try.sizeOf3
  v3 := Try.zeroValue3
  t4 := Try.underlying4
  a4 := Try.isAgg4
  z4 := Try.sizeOf4
  v4 := Try.zeroValue4
  t22 := Try.underlying22
  a22 := Try.isAgg22
  z22 := Try.sizeOf22
  v22 := Try.zeroValue22
  a24 := Try.isAgg3
  z24 := Try.sizeOf3
  t25 := Try.underlying46
  a25 := Try.isAgg46
  z25 := Try.sizeOf46
  v25 := Try.zeroValue46 }
open Go.RowKit Go.Lib Go.Sort in
theorem Try.partitionEqualCmpFunc {α : Type} [Inhabited α] (enc : α → Value) (cf : α → α → Int) (g : Nat) (cb : Array Value) (blk off cap a b pivot : Nat) (d0 d : Array α) (w0 w : World) (eg : ∀ args w, (callFunc g args).run Try.prog w = .ok (.enter g args) w) (hcmp : CmpLays1 Try.prog g cb enc cf blk off d0.size w0) (R : Row1 enc w0 blk off d0) (hs : d0.size = d.size) (S : SW enc w0 blk off d w) (hap : a ≤ pivot) (hpb : pivot < b) (hb : b ≤ d.size) (hsz : d.size < 4611686018427387904) :
    Calls Try.prog 86 #[.slice (some ⟨blk, off, none⟩) d.size cap, .int .i64 a, .int .i64 b, .int .i64 pivot, .func (.func g) #[] cb] w fun e w' =>
      e = .returned (.int .i64 (Sort.partitionEqual (ltOf cf) d a b pivot).1) ∧ SW enc w0 blk off (Sort.partitionEqual (ltOf cf) d a b pivot).2 w' := Any.partitionEqualCmpFunc Try.laysSlF26_f86 enc cf g cb blk off cap a b pivot d0 d w0 w eg hcmp R hs S hap hpb hb hsz
def Try.laysSlF27_f87_ren : Go.Shelf.Ren := ⟨fun | 27 => 87 | n => n, fun | 24 => 3 | 22 => 22 | 3 => 3 | 25 => 46 | 4 => 4 | 0 => 0 | n => n, fun | n => n⟩
theorem Try.laysSlF27_f87 : Go.Proofs.SlLaysF.n27 Try.prog Try.laysSlF27_f87_ren := {
  mixed := by kernel_rfl
  f27 := ⟨Try.f87.name, by decide, Try.func87.trans (congrArg some (by kernel_rfl))⟩
  t0 := Try.underlying0
  a0 := Try.isAgg0
  z0 := Try.sizeOf0
  v0 := Try.zeroValue0
  t3 := Try.underlying3
  a3 := Try.isAgg3
  z3 := Try.sizeOf3
  v3 := Try.zeroValue3
  t4 := Try.underlying4
  a4 := Try.isAgg4
  z4 := Try.sizeOf4
  v4 := Try.zeroValue4
  t22 := Try.underlying22
  a22 := Try.isAgg22
  z22 := Try.sizeOf22
  v22 := Try.zeroValue22
  a24 := Try.isAgg3
  z24 := Try.sizeOf3
  t25 := Try.underlying46
  a25 := Try.isAgg46
  z25 := Try.sizeOf46
  v25 := Try.zeroValue46 }
open Go.RowKit Go.Lib Go.Sort in
theorem Try.partitionCmpFunc {α : Type} [Inhabited α] (enc : α → Value) (cf : α → α → Int) (g : Nat) (cb : Array Value) (blk off cap a b pivot : Nat) (d0 d : Array α) (w0 w : World) (eg : ∀ args w, (callFunc g args).run Try.prog w = .ok (.enter g args) w) (hcmp : CmpLays1 Try.prog g cb enc cf blk off d0.size w0) (R : Row1 enc w0 blk off d0) (hs : d0.size = d.size) (S : SW enc w0 blk off d w) (hap : a ≤ pivot) (hpb : pivot < b) (hb : b ≤ d.size) (hsz : d.size < 4611686018427387904) :
    Calls Try.prog 87 #[.slice (some ⟨blk, off, none⟩) d.size cap, .int .i64 a, .int .i64 b, .int .i64 pivot, .func (.func g) #[] cb] w fun e w' =>
      e = .returned (.tuple #[.int .i64 (Sort.partition (ltOf cf) d a b pivot).1, .bool (Sort.partition (ltOf cf) d a b pivot).2.1]) ∧ SW enc w0 blk off (Sort.partition (ltOf cf) d a b pivot).2.2 w' := Any.partitionCmpFunc Try.laysSlF27_f87 enc cf g cb blk off cap a b pivot d0 d w0 w eg hcmp R hs S hap hpb hb hsz
def Try.laysSlF14_f75_ren : Go.Shelf.Ren := ⟨fun | 14 => 75 | 20 => 80 | 21 => 81 | 22 => 82 | 23 => 83 | 24 => 84 | 25 => 85 | 26 => 86 | 27 => 87 | 46 => 93 | 47 => 94 | 48 => 95 | 49 => 96 | 50 => 97 | 15 => 76 | 57 => 99 | 28 => 88 | 29 => 89 | n => n, fun | 24 => 3 | 22 => 22 | 3 => 3 | 25 => 46 | 4 => 4 | 0 => 0 | 46 => 96 | 45 => 95 | 50 => 42 | 66 => 105 | 39 => 51 | 55 => 104 | 70 => 109 | 76 => 111 | 77 => 112 | 53 => 102 | 5 => 5 | 9 => 9 | n => n, fun | n => n⟩
theorem Try.laysSlF14_f75 : Go.Proofs.SlLaysF.n14 Try.prog Try.laysSlF14_f75_ren := {
  mixed := by kernel_rfl
  f14 := ⟨Try.f75.name, by decide, Try.func75.trans (congrArg some (by kernel_rfl))⟩
  f15 := Try.func76.trans (congrArg some (by kernel_rfl))
  f20 := ⟨Try.f80.name, by decide, Try.func80.trans (congrArg some (by kernel_rfl))⟩
  f21 := ⟨Try.f81.name, by decide, Try.func81.trans (congrArg some (by kernel_rfl))⟩
  f22 := ⟨Try.f82.name, by decide, Try.func82.trans (congrArg some (by kernel_rfl))⟩
  f23 := ⟨Try.f83.name, by decide, Try.func83.trans (congrArg some (by kernel_rfl))⟩
  f24 := ⟨Try.f84.name, by decide, Try.func84.trans (congrArg some (by kernel_rfl))⟩
  f25 := ⟨Try.f85.name, by decide, Try.func85.trans (congrArg some (by kernel_rfl))⟩
  f26 := ⟨Try.f86.name, by decide, Try.func86.trans (congrArg some (by kernel_rfl))⟩
  f27 := ⟨Try.f87.name, by decide, Try.func87.trans (congrArg some (by kernel_rfl))⟩
  f28 := Try.func88.trans (congrArg some (by kernel_rfl))
  f29 := Try.func89.trans (congrArg some (by kernel_rfl))
  f46 := ⟨Try.f93.name, by decide, Try.func93.trans (congrArg some (by kernel_rfl))⟩
  f47 := Try.func94.trans (congrArg some (by kernel_rfl))
  f48 := Try.func95.trans (congrArg some (by kernel_rfl))
  f49 := ⟨Try.f96.name, by decide, Try.func96.trans (congrArg some (by kernel_rfl))⟩
  f50 := ⟨Try.f97.name, by decide, Try.func97.trans (congrArg some (by kernel_rfl))⟩
  f57 := ⟨Try.f99.name, by decide, Try.func99.trans (congrArg some (by kernel_rfl))⟩
  t0 := Try.underlying0
  a0 := Try.isAgg0
  z0 := Try.sizeOf0
  v0 := Try.zeroValue0
  t3 := Try.underlying3
  a3 := Try.isAgg3
  z3 := Try.sizeOf3
  v3 := Try.zeroValue3
  t4 := Try.underlying4
  a4 := Try.isAgg4
  z4 := Try.sizeOf4
  v4 := Try.zeroValue4
  t5 := Try.underlying5
  a5 := Try.isAgg5
  z5 := Try.sizeOf5
  v5 := Try.zeroValue5
  t9 := Try.underlying9
  a9 := Try.isAgg9
  z9 := Try.sizeOf9
  v9 := Try.zeroValue9
  t22 := Try.underlying22
  a22 := Try.isAgg22
  z22 := Try.sizeOf22
  v22 := Try.zeroValue22
  a24 := Try.isAgg3
  z24 := Try.sizeOf3
  t25 := Try.underlying46
  a25 := Try.isAgg46
  z25 := Try.sizeOf46
  v25 := Try.zeroValue46
  t39 := Try.underlying51
  a39 := Try.isAgg51
  z39 := Try.sizeOf51
  v39 := Try.zeroValue51
  t45 := Try.underlying95
  a45 := Try.isAgg95
  z45 := Try.sizeOf95
  v45 := Try.zeroValue95
  t46 := Try.underlying96
  a46 := Try.isAgg96
  z46 := Try.sizeOf96
  v46 := Try.zeroValue96
  t50 := Try.underlying42
  a50 := Try.isAgg42
  z50 := Try.sizeOf42
  v50 := Try.zeroValue42
  t53 := Try.underlying102
  a53 := Try.isAgg102
  z53 := Try.sizeOf102
  v53 := Try.zeroValue102
  t55 := Try.underlying104
  a55 := Try.isAgg104
  z55 := Try.sizeOf104
  v55 := Try.zeroValue104
  t66 := Try.underlying105
  a66 := Try.isAgg105
  z66 := Try.sizeOf105
  v66 := Try.zeroValue105
  t70 := Try.underlying109
  a70 := Try.isAgg109
  z70 := Try.sizeOf109
  v70 := Try.zeroValue109
  t76 := Try.underlying111
  a76 := Try.isAgg111
  z76 := Try.sizeOf111
  v76 := Try.zeroValue111
  t77 := Try.underlying112
  a77 := Try.isAgg112
  z77 := Try.sizeOf112
  v77 := Try.zeroValue112 }
open Go.RowKit Go.Lib Go.Sort in
theorem Try.pdqsortCmpFunc_all {α : Type} [Inhabited α] (enc : α → Value) (cf : α → α → Int) (g : Nat) (cb : Array Value) (hO : SWO (ltOf cf)) (blk off cap : Nat) (d0 : Array α) (w0 : World) (eg : ∀ args w, (callFunc g args).run Try.prog w = .ok (.enter g args) w) (hcmp : CmpLays1 Try.prog g cb enc cf blk off d0.size w0) (R : Row1 enc w0 blk off d0) :
    ∀ (N a b limit : Nat) (d : Array α) (w : World), b - a < N → d0.size = d.size → SW enc w0 blk off d w → a ≤ b → b ≤ d.size → d.size < 4611686018427387904 → limit < 4611686018427387904 → Below (ltOf cf) a b d →
    Calls Try.prog 75 #[.slice (some ⟨blk, off, none⟩) d.size cap, .int .i64 a, .int .i64 b, .int .i64 limit, .func (.func g) #[] cb] w fun e w' => e = .returned (.tuple #[]) ∧ SW enc w0 blk off (pdq (ltOf cf) d a b limit true true) w' := Any.pdqsortCmpFunc_all Try.laysSlF14_f75 enc cf g cb hO blk off cap d0 w0 eg hcmp R
def Try.laysSlF6_f64_ren : Go.Shelf.Ren := ⟨fun | 6 => 64 | 15 => 76 | 14 => 75 | 28 => 88 | 29 => 89 | 20 => 80 | 21 => 81 | 22 => 82 | 23 => 83 | 24 => 84 | 25 => 85 | 26 => 86 | 27 => 87 | 46 => 93 | 47 => 94 | 48 => 95 | 49 => 96 | 50 => 97 | 57 => 99 | n => n, fun | 22 => 22 | 24 => 3 | 25 => 46 | 3 => 3 | 39 => 51 | 0 => 0 | 53 => 102 | 55 => 104 | 4 => 4 | 46 => 96 | 45 => 95 | 50 => 42 | 5 => 5 | 9 => 9 | 66 => 105 | 70 => 109 | 76 => 111 | 77 => 112 | n => n, fun | n => n⟩
theorem Try.laysSlF6_f64 : Go.Proofs.SlLaysF.n6 Try.prog Try.laysSlF6_f64_ren := {
  mixed := by kernel_rfl
  f6 := ⟨Try.f64.name, by decide, Try.func64.trans (congrArg some (by kernel_rfl))⟩
  f14 := ⟨Try.f75.name, by decide, Try.func75.trans (congrArg some (by kernel_rfl))⟩
  f15 := Try.func76.trans (congrArg some (by kernel_rfl))
  f20 := ⟨Try.f80.name, by decide, Try.func80.trans (congrArg some (by kernel_rfl))⟩
  f21 := ⟨Try.f81.name, by decide, Try.func81.trans (congrArg some (by kernel_rfl))⟩
  f22 := ⟨Try.f82.name, by decide, Try.func82.trans (congrArg some (by kernel_rfl))⟩
  f23 := ⟨Try.f83.name, by decide, Try.func83.trans (congrArg some (by kernel_rfl))⟩
  f24 := ⟨Try.f84.name, by decide, Try.func84.trans (congrArg some (by kernel_rfl))⟩
  f25 := ⟨Try.f85.name, by decide, Try.func85.trans (congrArg some (by kernel_rfl))⟩
  f26 := ⟨Try.f86.name, by decide, Try.func86.trans (congrArg some (by kernel_rfl))⟩
  f27 := ⟨Try.f87.name, by decide, Try.func87.trans (congrArg some (by kernel_rfl))⟩
  f28 := Try.func88.trans (congrArg some (by kernel_rfl))
  f29 := Try.func89.trans (congrArg some (by kernel_rfl))
  f46 := ⟨Try.f93.name, by decide, Try.func93.trans (congrArg some (by kernel_rfl))⟩
  f47 := Try.func94.trans (congrArg some (by kernel_rfl))
  f48 := Try.func95.trans (congrArg some (by kernel_rfl))
  f49 := ⟨Try.f96.name, by decide, Try.func96.trans (congrArg some (by kernel_rfl))⟩
  f50 := ⟨Try.f97.name, by decide, Try.func97.trans (congrArg some (by kernel_rfl))⟩
  f57 := ⟨Try.f99.name, by decide, Try.func99.trans (congrArg some (by kernel_rfl))⟩
  t0 := Try.underlying0
  a0 := Try.isAgg0
  z0 := Try.sizeOf0
  v0 := Try.zeroValue0
  t3 := Try.underlying3
  a3 := Try.isAgg3
  z3 := Try.sizeOf3
  v3 := Try.zeroValue3
  t4 := Try.underlying4
  a4 := Try.isAgg4
  z4 := Try.sizeOf4
  v4 := Try.zeroValue4
  t5 := Try.underlying5
  a5 := Try.isAgg5
  z5 := Try.sizeOf5
  v5 := Try.zeroValue5
  t9 := Try.underlying9
  a9 := Try.isAgg9
  z9 := Try.sizeOf9
  v9 := Try.zeroValue9
  t22 := Try.underlying22
  a22 := Try.isAgg22
  z22 := Try.sizeOf22
  v22 := Try.zeroValue22
  a24 := Try.isAgg3
  z24 := Try.sizeOf3
  t25 := Try.underlying46
  a25 := Try.isAgg46
  z25 := Try.sizeOf46
  v25 := Try.zeroValue46
  t39 := Try.underlying51
  a39 := Try.isAgg51
  z39 := Try.sizeOf51
  v39 := Try.zeroValue51
  t45 := Try.underlying95
  a45 := Try.isAgg95
  z45 := Try.sizeOf95
  v45 := Try.zeroValue95
  t46 := Try.underlying96
  a46 := Try.isAgg96
  z46 := Try.sizeOf96
  v46 := Try.zeroValue96
  t50 := Try.underlying42
  a50 := Try.isAgg42
  z50 := Try.sizeOf42
  v50 := Try.zeroValue42
  t53 := Try.underlying102
  a53 := Try.isAgg102
  z53 := Try.sizeOf102
  v53 := Try.zeroValue102
  t55 := Try.underlying104
  a55 := Try.isAgg104
  z55 := Try.sizeOf104
  v55 := Try.zeroValue104
  t66 := Try.underlying105
  a66 := Try.isAgg105
  z66 := Try.sizeOf105
  v66 := Try.zeroValue105
  t70 := Try.underlying109
  a70 := Try.isAgg109
  z70 := Try.sizeOf109
  v70 := Try.zeroValue109
  t76 := Try.underlying111
  a76 := Try.isAgg111
  z76 := Try.sizeOf111
  v76 := Try.zeroValue111
  t77 := Try.underlying112
  a77 := Try.isAgg112
  z77 := Try.sizeOf112
  v77 := Try.zeroValue112 }
open Go.RowKit Go.Lib Go.Sort in
theorem Try.slices_SortFunc_eq {α : Type} [Inhabited α] (enc : α → Value) (h1 : OneCell enc) (cf : α → α → Int) (hO : SWO (ltOf cf)) (g : Nat) (cb : Array Value) (blk off cap : Nat) (d : Array α) (w : World) (eg : ∀ args w, (callFunc g args).run Try.prog w = .ok (.enter g args) w) (hcmp : CmpLays1 Try.prog g cb enc cf blk off d.size w) (hH : Holds enc w blk off d) (hblk : blk < w.heap.size) (hsz : d.size < 4611686018427387904) :
    Calls Try.prog 64 #[.slice (some ⟨blk, off, none⟩) d.size cap, .func (.func g) #[] cb] w fun e w' =>
      e = .returned (.tuple #[]) ∧ ∃ n os, w' = sortWorld enc w blk off n (pdq (ltOf cf) d 0 d.size (Lib.bitLen d.size) true true) os := Any.slices_SortFunc_eq Try.laysSlF6_f64 enc h1 cf hO g cb blk off cap d w eg hcmp hH hblk hsz
open Go.RowKit Go.Lib Go.Sort in
theorem Try.slices_SortFunc {α : Type} [Inhabited α] (enc : α → Value) (h1 : OneCell enc) (cf : α → α → Int) (hO : SWO (ltOf cf)) (g : Nat) (cb : Array Value) (blk off cap : Nat) (d : Array α) (w : World) (eg : ∀ args w, (callFunc g args).run Try.prog w = .ok (.enter g args) w) (hcmp : CmpLays1 Try.prog g cb enc cf blk off d.size w) (hH : Holds enc w blk off d) (hblk : blk < w.heap.size) (hsz : d.size < 4611686018427387904) :
    Calls Try.prog 64 #[.slice (some ⟨blk, off, none⟩) d.size cap, .func (.func g) #[] cb] w fun e w' =>
      e = .returned (.tuple #[]) ∧ ∃ d' n os, PermIn 0 d.size d d' ∧ SortedIn (ltOf cf) 0 d.size d' ∧ w' = sortWorld enc w blk off n d' os := Any.slices_SortFunc Try.laysSlF6_f64 enc h1 cf hO g cb blk off cap d w eg hcmp hH hblk hsz
end Go.Proofs
end
section
namespace Go.Proofs.Ytbnnipkanechoaa
open Go Go.RowKit Go.Sort
set_option maxRecDepth 100000
set_option maxHeartbeats 4000000
def zmS (x : Fin 128) : Value := .int .i64 ((x.val : Nat) : Int)
def cfS (p r : Fin 128) : Int := if Lib.compareInt (szN r.val) (szN p.val) ≠ 0 then Lib.compareInt (szN r.val) (szN p.val) else Lib.compareInt (p.val : Nat) (r.val : Nat)
theorem zsI (k : Nat) (W : World) (hk : k < 128) : Calls Try.prog 91 #[.int .u64 (k : Int)] W fun e w' => e = .returned (.int .i64 (szN k)) ∧ w' = W := by
  have h0 : (0 : Int) ≤ (k : Int) := by omega
  have h1 : (k : Int) < 128 := by omega
  go_enter Try.func91, Try.ntmps91
  go_wp2
  all_goals go_ret
  all_goals refine ⟨congrArg Ending.returned (congrArg (Value.int IntKind.i64) ?_), rfl⟩
  clear h0 h1
  revert k
  decide +kernel
theorem zrK (k : Nat) (W : World) (hk : k < 128) : Calls Try.prog 78 #[.int .u64 (k : Int)] W fun e w' => e = .returned (.int .i64 (szN k)) ∧ w' = W := by
  go_enter Try.func78, Try.ntmps78
  go_wp2_with (go_at_call 91; refine (zsI k _ hk).mono ?_; rintro e w' ⟨rfl, rfl⟩)
  go_ret
  exact ⟨rfl, rfl⟩
theorem zq3 (k : Nat) (W : World) (hk : k < 128) : Calls Try.prog 68 #[.int .i64 (k : Int)] W fun e w' => e = .returned (.int .i64 (szN k)) ∧ w' = W := by
  have hw : IntKind.u64.wrap (k : Int) = (k : Int) := by rw [IntKind.wrap_u64]; omega
  go_enter Try.func68, Try.ntmps68
  go_wp2_with (go_at_call 78; refine (zrK k _ hk).mono ?_; rintro e w' ⟨rfl, rfl⟩)
  go_ret
  exact ⟨rfl, rfl⟩
theorem or2 (a b : Int) (g : Nat) (W : World) (ha : W.cell? ⟨g, 0, none⟩ = some (.int .i64 a)) (hb : W.cell? ⟨g, 1, none⟩ = some (.int .i64 b)) : Calls Try.prog 66 #[.slice (some ⟨g, 0, none⟩) 2 2] W fun e w' => e = .returned (.int .i64 (if a ≠ 0 then a else b)) ∧ w' = W := by
  go_enter Try.func66, Try.ntmps66
  go_wp2
  go_loop [8] (fun vi => ∃ k : Nat, k ≤ 2 ∧ vi = .int .i64 k ∧ (0 < k → a = 0) ∧ (1 < k → b = 0)) (fun vi => 2 - (intOf vi).toNat)
  case atStart => exact ⟨0, by omega, rfl, by omega, by omega⟩
  case round =>
    obtain ⟨k, hk, rfl, h1, h2⟩ := hrel
    rcases (by omega : k = 0 ∨ k = 1 ∨ k = 2) with rfl | rfl | rfl
    · clear h1 h2
      by_cases h : a = 0
      · subst h
        go_wp2
        go_round
        case rel => exact ⟨1, by omega, by go_num, by simp, by simp⟩
        case measure => simp [intOf]
      · go_wp2
        go_ret
        simp [h]
    · have h1 := h1 (by omega)
      clear h2
      subst h1
      by_cases h : b = 0
      · subst h
        go_wp2
        go_round
        case rel => exact ⟨2, by omega, by go_num, by simp, by simp⟩
        case measure => simp [intOf]
      · go_wp2
        go_ret
        simp
    · have h1 := h1 (by omega)
      have h2 := h2 (by omega)
      subst h1 h2
      go_wp2
      go_ret
      simp
theorem zud (x y : Fin 128) (W : World) : Calls Try.prog 65 #[zmS x, zmS y] W fun e w' => e = .returned (.int .i64 (cfS x y)) ∧ ∃ q os', w' = grow (W.drewN q) os' := by
  obtain ⟨x, hx⟩ := x
  obtain ⟨y, hy⟩ := y
  unfold cfS zmS
  simp only
  generalize hc1 : Lib.compareInt (szN y) (szN x) = c1
  generalize hc2 : Lib.compareInt (x : Int) (y : Int) = c2
  have H1 := Lib.hid hc1
  have H2 := Lib.hid hc2
  clear hc1 hc2
  go_enter Try.func65, Try.ntmps65
  go_wp2_with (first | (go_at_call 68; first | (refine (zq3 y _ hy).mono ?_; rintro e w' ⟨rfl, rfl⟩) | (refine (zq3 x _ hx).mono ?_; rintro e w' ⟨rfl, rfl⟩)) | (go_at_call 67; refine (Try.cmp_Compare_int _ _ _).mono ?_; rintro e w' ⟨rfl, rfl⟩; first | rw [H1.out] | rw [H2.out]) | (go_at_call 66; refine (or2 c1 c2 _ _ ?_ ?_).mono ?_))
  · simp
  · simp
  all_goals go_ret
  all_goals exact ⟨rfl, 0, #[_], alloc_eq_grow _ _⟩
theorem zou (a b : Int) : Lib.compareInt a b < 0 ↔ a < b := by unfold Lib.compareInt; split <;> (try split) <;> omega
theorem zqj (a b : Int) : Lib.compareInt a b = 0 ↔ a = b := by unfold Lib.compareInt; split <;> (try split) <;> omega
theorem zqa (p r : Fin 128) : ltOf cfS p r = true ↔ (szN r.val < szN p.val ∨ (szN r.val = szN p.val ∧ p.val < r.val)) := by
  unfold ltOf cfS
  rw [decide_eq_true_iff]
  split
  · rename_i h
    have := (not_congr (zqj (szN r.val) (szN p.val))).1 h
    rw [zou]
    omega
  · rename_i h
    have := (zqj (szN r.val) (szN p.val)).1 (by simpa using h)
    rw [zou]
    omega
theorem znW (p r : Fin 128) : ltOf cfS p r = false ↔ ¬ (szN r.val < szN p.val ∨ (szN r.val = szN p.val ∧ p.val < r.val)) := by
  rw [← zqa]; simp
theorem zvo : SWO (ltOf cfS) where
  irrefl x := by rw [znW]; omega
  trans x y z h1 h2 := by rw [zqa] at *; omega
  ntrans x y z h1 h2 := by rw [znW] at *; omega
theorem zg9 (a b : Int) : leI a b = true ↔ (szN b.toNat < szN a.toNat ∨ (szN a.toNat = szN b.toNat ∧ a.toNat ≤ b.toNat)) := by
  unfold leI zpO; simp
theorem zdZ (x : Int) : ∀ l : List Int, (zpq x l).Perm (x :: l)
  | [] => .refl _
  | y :: l => by
    unfold zpq
    split
    · exact .refl _
    · exact ((zdZ x l).cons y).trans (.swap x y l)
theorem zbW : ∀ l : List Int, (zax l).Perm l
  | [] => .refl _
  | x :: l => (zdZ x (zax l)).trans ((zbW l).cons x)
theorem zdY (x : Int) : ∀ l : List Int, l.Pairwise (fun a b => leI a b = true) → (zpq x l).Pairwise (fun a b => leI a b = true)
  | [], _ => by simp [zpq]
  | y :: l, h => by
    unfold zpq
    rw [List.pairwise_cons] at h
    split
    · rename_i hxy
      refine List.pairwise_cons.2 ⟨fun z hz => ?_, List.pairwise_cons.2 h⟩
      rcases List.mem_cons.1 hz with rfl | hz
      · exact hxy
      · have := h.1 z hz
        rw [zg9] at *
        omega
    · rename_i hxy
      refine List.pairwise_cons.2 ⟨fun z hz => ?_, zdY x l h.2⟩
      rcases List.mem_cons.1 ((zdZ x l).mem_iff.1 hz) with rfl | hz
      · rw [zg9] at *
        omega
      · exact h.1 z hz
theorem zci : ∀ l : List Int, (zax l).Pairwise (fun a b => leI a b = true)
  | [] => by simp [zax]
  | x :: l => zdY x _ (zci l)
theorem z9F : ∀ {l1 l2 : List Int}, l1.Perm l2 → (∀ x ∈ l1, 0 ≤ x) → l1.Pairwise (fun a b => leI a b = true) → l2.Pairwise (fun a b => leI a b = true) → l1 = l2
  | [], l2, h, _, _, _ => by rw [List.nil_perm] at h; exact h.symm
  | a :: l1, [], h, _, _, _ => by simp at h
  | a :: l1, b :: l2, h, h0, h1, h2 => by
    have hab : a = b := by
      rcases List.mem_cons.1 (h.mem_iff.1 (List.mem_cons_self ..)) with e | ha
      · exact e
      · rcases List.mem_cons.1 (h.mem_iff.2 (List.mem_cons_self ..)) with e | hb
        · exact e.symm
        · have e1 := (List.pairwise_cons.1 h2).1 a ha
          have e2 := (List.pairwise_cons.1 h1).1 b hb
          have p1 := h0 a (List.mem_cons_self ..)
          have p2 := h0 b (h.mem_iff.2 (List.mem_cons_self ..))
          rw [zg9] at e1 e2
          omega
    subst hab
    rw [z9F (List.perm_cons a |>.1 h) (fun x hx => h0 x (List.mem_cons_of_mem _ hx)) (List.pairwise_cons.1 h1).2 (List.pairwise_cons.1 h2).2]
def toF (x : Int) : Fin 128 := ⟨x.toNat % 128, Nat.mod_lt _ (by decide)⟩
def ofF (f : Fin 128) : Int := (f.val : Int)
theorem zq1 {x : Int} (h : 0 ≤ x ∧ x < 128) : ofF (toF x) = x := by simp only [ofF, toF]; omega
def zsJ (B : Nat) (K : Nat → z0i) (b : Nat) : z0i := if B ≤ b then [0] else K b
theorem ziZ {xs : List Int} (hx : ∀ x ∈ xs, 0 ≤ x ∧ x < 128) {d' : Array (Fin 128)} (hp : PermIn 0 (xs.map toF).toArray.size (xs.map toF).toArray d') (hs : SortedIn (ltOf cfS) 0 (xs.map toF).toArray.size d') : d'.toList.map ofF = zax xs := by
  obtain ⟨h1, _, h3⟩ := hp
  have hsz : d'.size = xs.length := by simpa using h1
  have e1 : (xs.map toF).map ofF = xs := by
    rw [List.map_map]
    conv => rhs; rw [← List.map_id xs]
    exact List.map_congr_left fun x hxm => zq1 (hx x hxm)
  have hp2 : d'.toList.Perm (xs.map toF) := by
    have : (d'.extract 0 (xs.map toF).toArray.size).toList = d'.toList := by
      rw [← h1]; simp
    rw [this] at h3
    simp at h3
    rwa [List.take_of_length_le (by simp)] at h3
  have hp3 : (d'.toList.map ofF).Perm xs := by
    have := hp2.map ofF
    rwa [e1] at this
  refine z9F (hp3.trans (zbW xs).symm) (fun x hxm => (hx x (hp3.mem_iff.1 hxm)).1) ?_ (zci xs)
  rw [List.pairwise_iff_getElem]
  intro i j hi hj hij
  simp only [List.length_map, Array.length_toList] at hi hj
  have := hs i j (by omega) hij (by simp; omega)
  rw [znW, getElem!_pos d' i hi, getElem!_pos d' j hj] at this
  rw [zg9]
  simp only [List.getElem_map, Array.getElem_toList, ofF, Int.toNat_natCast]
  omega
theorem zkq {w : World} {g n : Nat} {os : Array Obj} {cur : Array Value} {e : TypeId} {fr : Nat × Nat} (d : Array (Fin 128)) (hb : w.heap[g]? = some (.cells cur e fr)) : (sortWorld zmS w g 0 n d os).heap[g]? = some (.cells (putCells zmS 0 d cur) e fr) := by
  unfold sortWorld
  rw [heap_grow_old _ _ (by rw [size_putRow]; exact z2K hb)]
  simp [putRow, mapBlock, Sort.ahead, Array.getElem?_modify, hb, onCells]
theorem zfH {w : World} {g n : Nat} {os : Array Obj} (d : Array (Fin 128)) {b : Nat} (hb : b < w.heap.size) (hne : b ≠ g) : (sortWorld zmS w g 0 n d os).heap[b]? = w.heap[b]? := by
  unfold sortWorld
  rw [heap_grow_old _ _ (by rw [size_putRow]; exact hb)]
  simp [putRow, mapBlock, Sort.ahead, Array.getElem?_modify, Ne.symm hne]
theorem zp3 {w : World} {g n : Nat} {os : Array Obj} (d : Array (Fin 128)) : w.heap.size ≤ (sortWorld zmS w g 0 n d os).heap.size := by
  unfold sortWorld
  rw [size_grow, size_putRow]
  show w.heap.size ≤ w.heap.size + _
  omega
theorem zmW {I : World → (Nat → z0i) → Prop} : z9C Try.prog I xtC := by
  intro f args r outs h
  unfold xtC at h
  split at h
  case isFalse => cases h
  rename_i hf
  subst hf
  unfold zqn at h
  split at h
  case h_2 => cases h
  rename_i n cs f fs gs
  split at h
  case isFalse => cases h
  rename_i hfg
  obtain ⟨rfl, hfs, hgs⟩ := hfg
  simp only [Array.isEmpty_iff] at hfs hgs
  subst hfs hgs
  split at h
  case h_2 => cases h
  rename_i xs hxs
  split at h
  case isFalse => cases h
  rename_i hn
  subst hn
  unfold zl4 at h
  split at h
  case isFalse => cases h
  rename_i hc
  obtain ⟨hne, hlen, hall⟩ := hc
  have hx : ∀ x ∈ xs, 0 ≤ x ∧ x < 128 := by simpa using hall
  obtain ⟨rfl, rfl⟩ : T.tup [] = r ∧ [T.os 1 (zax xs).length ((zax xs).map fun x => .sc (.int .i64 x)), .dead] = outs := by simpa using h
  have hcs := zi6 hxs
  subst hcs
  clear h hxs hall
  refine ⟨fun vals w => ?_, fun w K vals hs ha hI => ?_⟩
  · have hb : ∃ c, Try.f64.body = some c := ⟨_, rfl⟩
    obtain ⟨c, hb⟩ := hb
    have hname : Try.f64.name ≠ "runtime.NumGoroutine" := by decide
    simp [callFunc, program, Sem.run, Try.func64, hname, hb]
  · obtain ⟨v, u, rfl⟩ : ∃ v u, vals = #[v, u] := by
      obtain ⟨l⟩ := vals
      match l, hs with
      | [v, u], _ => exact ⟨v, u, rfl⟩
    have hv : TRep w K (col 0) v (.os 1 xs.length (xs.map fun x => .sc (.int .i64 x))) := ha 0 _ rfl
    have hu : TRep w K [] u (.sc (.func (.func 65) #[] #[])) := ha 1 _ rfl
    rw [hu.sc_eq]
    clear hu ha
    have hl0 : 0 < xs.length := List.length_pos_iff.2 hne
    generalize hT : T.os 1 xs.length (xs.map fun x => T.sc (.int .i64 x)) = t at hv
    cases hv with
    | nil => injection hT with _ e _; omega
    | own c g n cap size cs arr e fz F hfz hc0 hK hg hsz hl hz hn hcap hF hh =>
      injection hT with e1 e2 e3
      subst e1 e2 e3
      have hcell : ∀ j (hj : j < xs.length), arr[j]? = some (.int .i64 xs[j]) := fun j hj => by
        rw [hF j (by simpa using hj)]
        have := hh j (.sc (.int .i64 xs[j])) (by simp [hj])
        rw [this.sc_eq]
      have hH : Holds zmS w g 0 (xs.map toF).toArray := fun j hj => by
        have hj' : j < xs.length := by simpa using hj
        constructor
        · rw [Nat.zero_add, z3T hg, hcell j hj', getElem!_pos _ j hj]
          simp only [zmS, List.getElem_toArray, List.getElem_map]
          have := zq1 (hx _ (List.getElem_mem hj'))
          unfold ofF at this
          rw [this]
        · unfold World.frozen?
          rw [Nat.zero_add]
          simp only [hg]
          have := hfz j (by omega)
          obtain ⟨lo, hi⟩ := fz
          simp only at this ⊢
          simp only [Bool.and_eq_false_iff, decide_eq_false_iff_not]
          omega
      have eg : ∀ args w, (callFunc 65 args).run Try.prog w = .ok (.enter 65 args) w := enters_of Try.func65 (by kernel_rfl) rfl
      have hcmp : CmpLays1 Try.prog 65 #[] zmS cfS g 0 (xs.map toF).toArray.size w := fun m os dk _ x y => zud x y _
      have hcon := Try.slices_SortFunc zmS (fun _ => rfl) cfS zvo 65 #[] g 0 cap (xs.map toF).toArray w eg hcmp hH (z2K hg) (by simpa using hlen)
      have hsize : (xs.map toF).toArray.size = xs.length := by simp
      rw [hsize] at hcon
      refine hcon.mono fun e' w' ⟨he, d', m, os, hp, hso, hw⟩ => ?_
      subst hw
      have hsort := ziZ hx (by rw [hsize]; exact hp) (by rw [hsize]; exact hso)
      have hd : d'.size = xs.length := by have := hp.1; simpa using this
      have hys : (zax xs).length = xs.length := (zbW xs).length_eq
      refine ⟨.tuple #[], zsJ w.heap.size K, he, ?_, fun i t hi hio => ?_, rfl, rfl, rfl, zp3 d', fun b hb hcb => ⟨by unfold zsJ; rw [if_neg (by omega)], zfH d' hb ?_⟩, ?_⟩
      · exact .tup _ #[] [] (fun _ => undef) rfl (fun j hj => by simp at hj) (fun j t ht => by simp at ht)
      · match i, hi with
        | 0, hi =>
          refine ⟨_, rfl, ?_⟩
          show TRep _ _ (col 0) (.slice (some ⟨g, 0, none⟩) xs.length cap) _
          rw [← hys]
          refine .own (col 0) g _ cap 1 _ (putCells zmS 0 d' arr) e fz (fun j => .int .i64 ((zax xs).getD j 0)) (fun i hi => hfz i (by simpa [putCells] using hi)) (by simp [col]) (by unfold zsJ; rw [if_neg (by have := z2K hg; omega)]; exact hK) (zkq d' hg) (by simpa [putCells] using hsz) (by simp) (by omega) (by omega) hcap (fun j hj => ?_) (fun j t ht => ?_)
          · have hj' : j < xs.length := by simpa [hys] using hj
            have hja : j < arr.size := (Array.getElem?_eq_some_iff.1 (hcell j hj')).1
            have hjd : j < d'.size := by omega
            simp only [putCells, Array.getElem?_mapIdx, hcell j hj', Option.map_some]
            rw [if_pos (by omega), Nat.sub_zero, getElem!_pos d' j hjd]
            have : (zax xs).getD j 0 = ofF d'[j] := by
              rw [← hsort]; simp [List.getD, hjd]
            rw [this]; rfl
          · simp only [List.getElem?_map, Option.map_eq_some_iff] at ht
            obtain ⟨x, hx', rfl⟩ := ht
            simp only [List.getD, hx']
            exact .sc _ _ rfl
        | 1, hi => cases hi; cases hio
      · rintro rfl
        rw [hK] at hcb
        simp [col] at hcb
      · intro b arr0 e0 fz0 hb0
        by_cases hbg : b = g
        · subst hbg
          rw [hg] at hb0
          cases hb0
          exact ⟨_, _, _, zkq d' hg, by simp [putCells]⟩
        · exact ⟨_, _, _, (zfH d' (z2K hb0) hbg).trans hb0, rfl⟩
    | _ => cases hT
end Go.Proofs.Ytbnnipkanechoaa
end
section
namespace Go.Proofs.Ytbnnipkanechoaa
structure StOk (ops : Array Oper) (t : SchT) (L : Array Bool) (d : Nat) (ns : List Nat) : Prop where
  ord : z3A .any ops true t L = true
  dep : t.depth = d
  nx : ∀ z ∈ t.nexts, z ∈ ns
structure BrOk (ops : Array Oper) (t : SchT) (L : Array Bool) (d : Nat) (ns hs : List Nat) : Prop where
  ord : z3A .any ops false t L = true
  dep : t.depth = d
  nx : ∀ z ∈ t.nexts, z ∈ ns
  hd : ∀ i ∈ hs, i ∈ t.heads
theorem zjW {ops : Array Oper} {L : Array Bool} (h : decide (Region.ready .any ops L = []) = true) : StOk ops .nil L 0 [] := ⟨by simp only [z3A, h, Bool.and_true], rfl, fun z hz => by simp [SchT.nexts] at hz⟩
theorem z5l {ops : Array Oper} {k m : Nat} {rest : SchT} {L L' : Array Bool} {d : Nat} {ns : List Nat} (h : StOk ops rest L' d ns) (hL : L.setIfInBounds k true = L')
    (hc : ((m == 0 || m == 3) && (Region.ready .any ops L).contains k && Region.free .any ops L k && !(ns.contains k) && (m == 3 || ns.all fun z => (zrr .any ops ops.size [z]).contains k)) = true) : StOk ops (.op k m rest) L (d + 1) ns := by
  simp only [Bool.and_eq_true, Bool.or_eq_true, Bool.not_eq_true', beq_iff_eq] at hc
  obtain ⟨⟨⟨⟨h1, h2⟩, h3⟩, h4⟩, h5⟩ := hc
  have hm2 : ¬ m = 2 := by omega
  have hk : k ∉ ns := by simpa using h4
  refine ⟨?_, by simp only [SchT.depth, h.dep], fun z hz => h.nx z (by simpa only [SchT.nexts, if_neg hm2] using hz)⟩
  simp only [z3A]
  rw [if_pos (by simpa using h1), hL, h.ord, h2, h3]
  have h6 : rest.nexts.contains k = false := by
    rw [Bool.eq_false_iff]
    intro hh
    exact hk (h.nx k (by simpa using hh))
  rw [h6]
  simp only [Bool.not_false, Bool.and_self, Bool.true_and, Bool.and_true, Bool.or_eq_true, beq_iff_eq]
  rcases h5 with h5 | h5
  · exact .inl h5
  · exact .inr (List.all_eq_true.2 fun z hz => List.all_eq_true.1 h5 z (h.nx z hz))
theorem zag {ops : Array Oper} {k m : Nat} {rest : SchT} {L L' : Array Bool} {d : Nat} {ns ns' : List Nat} (h : StOk ops rest L' d ns) (hL : L.setIfInBounds k true = L')
    (hc : ((m == 1 || m == 2) && decide (Region.ready .any ops L = [k])) = true) (hn : (if m = 2 then [k] else ns) = ns') : StOk ops (.op k m rest) L (d + 1) ns' := by
  subst hn
  simp only [Bool.and_eq_true, Bool.or_eq_true, beq_iff_eq] at hc
  obtain ⟨h1, h2⟩ := hc
  refine ⟨?_, by simp only [SchT.depth, h.dep], fun z hz => ?_⟩
  · simp only [z3A]
    rw [if_neg (by omega), hL, h.ord, h2]
    simp [h1]
  · simp only [SchT.nexts] at hz
    split at hz
    · rename_i e; rw [if_pos e]; exact hz
    · rename_i e; rw [if_neg e]; exact h.nx z hz
theorem z1k {ops : Array Oper} {k m : Nat} {rest : SchT} {L L' : Array Bool} {d : Nat} {ns ns' : List Nat} (h : StOk ops rest L' d ns) (hL : L.setIfInBounds k true = L')
    (hc : ((m == 1 || m == 2) && (Region.ready .any ops L).contains k) = true) (hn : (if m = 2 then [k] else ns) = ns') : BrOk ops (.op k m rest) L (d + 1) ns' [k] := by
  subst hn
  simp only [Bool.and_eq_true, Bool.or_eq_true, beq_iff_eq] at hc
  obtain ⟨h1, h2⟩ := hc
  refine ⟨?_, by simp only [SchT.depth, h.dep], fun z hz => ?_, fun i hi => by simpa [SchT.heads] using hi⟩
  · simp only [z3A]
    rw [if_neg (by simp), hL, h.ord, h2]
    simp [h1]
  · simp only [SchT.nexts] at hz
    split at hz
    · rename_i e; rw [if_pos e]; exact hz
    · rename_i e; rw [if_neg e]; exact h.nx z hz
theorem z0l {ops : Array Oper} {a b : SchT} {L : Array Bool} {d : Nat} {n1 n2 h1 h2 : List Nat} (ha : BrOk ops a L d n1 h1) (hb : BrOk ops b L d n2 h2) : BrOk ops (.alt a b) L d (n1 ++ n2) (h1 ++ h2) := by
  refine ⟨?_, by simp only [SchT.depth, ha.dep], fun z hz => ?_, fun i hi => ?_⟩
  · simp only [z3A, ha.ord, hb.ord, ha.dep, hb.dep]; simp
  · simp only [SchT.nexts, List.mem_append] at hz ⊢
    exact hz.imp (ha.nx z) (hb.nx z)
  · simp only [SchT.heads, List.mem_append] at hi ⊢
    exact hi.imp (ha.hd i) (hb.hd i)
theorem z0V {ops : Array Oper} {a b : SchT} {L : Array Bool} {d : Nat} {ns ns' hs : List Nat} (h : BrOk ops (.alt a b) L d ns hs) (hc : ((Region.ready .any ops L).all fun i => hs.contains i) = true) (hn : (ns.all fun z => ns'.contains z) = true) : StOk ops (.alt a b) L d ns' := by
  refine ⟨?_, h.dep, fun z hz => by simpa using List.all_eq_true.1 hn z (h.nx z hz)⟩
  have := h.ord
  simp only [z3A, Bool.and_eq_true, decide_eq_true_eq] at this ⊢
  obtain ⟨⟨⟨h1, h2⟩, h3⟩, h4⟩ := this
  refine ⟨⟨⟨?_, h2⟩, h3⟩, h4⟩
  simp only [Bool.not_true, Bool.false_or, decide_eq_true_eq]
  intro i hi
  have := List.all_eq_true.1 hc i hi
  exact h.hd i (by simpa using this)
def zj9 (cf : Cfg) (sk : Nat → Bool) : Code → Bool
  | .region id ops draw => sk id || (!draw || (match cf.dt id with | some t => za6 ops t | none => (match cf.dr id with | some sch => znP ops sch | none => true)))
  | .seq a b => zj9 cf sk a && zj9 cf sk b
  | .cond _ x y => zj9 cf sk x && zj9 cf sk y
  | .block _ c => zj9 cf sk c
  | .loop c => zj9 cf sk c
  | .scope c => zj9 cf sk c
  | _ => true
def z4y (i : Nat) : Code → List (Array Oper)
  | .region id ops _ => if Nat.beq id i then [ops] else []
  | .seq a b => z4y i a ++ z4y i b
  | .cond _ x y => z4y i x ++ z4y i y
  | .block _ c => z4y i c
  | .loop c => z4y i c
  | .scope c => z4y i c
  | _ => []
noncomputable def z0t (i : Nat) (c : Code) : Array Oper := match z4y i c with | x :: _ => x | [] => #[]
theorem zco {cf : Cfg} {sk : Nat → Bool} : ∀ (c : Code), zj9 cf sk c = true → (∀ i, sk i = true → ∃ t, cf.dt i = some t ∧ ∀ o ∈ z4y i c, za6 o t = true) → okC cf c = true
  | .region id ops draw, h, hs => by
    simp only [zj9, Bool.or_eq_true] at h
    simp only [okC, Bool.or_eq_true]
    rcases h with h | h
    · right
      obtain ⟨t, h1, h2⟩ := hs id h
      rw [h1]
      exact h2 ops (by simp [z4y])
    · exact h
  | .seq a b, h, hs => by
    simp only [zj9, Bool.and_eq_true] at h
    simp only [okC, Bool.and_eq_true]
    exact ⟨zco a h.1 fun i hi => by obtain ⟨t, h1, h2⟩ := hs i hi; exact ⟨t, h1, fun o ho => h2 o (by simp only [z4y, List.mem_append]; exact .inl ho)⟩,
      zco b h.2 fun i hi => by obtain ⟨t, h1, h2⟩ := hs i hi; exact ⟨t, h1, fun o ho => h2 o (by simp only [z4y, List.mem_append]; exact .inr ho)⟩⟩
  | .cond _ a b, h, hs => by
    simp only [zj9, Bool.and_eq_true] at h
    simp only [okC, Bool.and_eq_true]
    exact ⟨zco a h.1 fun i hi => by obtain ⟨t, h1, h2⟩ := hs i hi; exact ⟨t, h1, fun o ho => h2 o (by simp only [z4y, List.mem_append]; exact .inl ho)⟩,
      zco b h.2 fun i hi => by obtain ⟨t, h1, h2⟩ := hs i hi; exact ⟨t, h1, fun o ho => h2 o (by simp only [z4y, List.mem_append]; exact .inr ho)⟩⟩
  | .block _ c, h, hs => by simp only [okC]; exact zco c (by simpa only [zj9] using h) (by simpa only [z4y] using hs)
  | .loop c, h, hs => by simp only [okC]; exact zco c (by simpa only [zj9] using h) (by simpa only [z4y] using hs)
  | .scope c, h, hs => by simp only [okC]; exact zco c (by simpa only [zj9] using h) (by simpa only [z4y] using hs)
  | .skip, _, _ => rfl
  | .label .., _, _ => rfl
  | .exit .., _, _ => rfl
  | .ret, _, _ => rfl
  | .rangeFunc .., _, _ => rfl
  | .goto _, _, _ => rfl
  | .refuse _, _, _ => rfl
theorem zfV {c : Code} {i : Nat} {t : SchT} {n : Nat} {ns : List Nat} {L : Array Bool} (hr : (z4y i c).length = 1) (hs : StOk (z0t i c) t L n ns) (hL : L = Array.replicate (z0t i c).toList.length false) (hd : (decide (n = (z0t i c).toList.length) && Region.noSelect (z0t i c)) = true) : ∀ o ∈ z4y i c, za6 o t = true := by
  intro o ho
  obtain ⟨x, hx⟩ : ∃ x, z4y i c = [x] := List.length_eq_one_iff.1 hr
  have e : z0t i c = x := by unfold z0t; rw [hx]
  rw [hx] at ho
  obtain rfl : o = x := by simpa using ho
  rw [e] at hs hL hd
  subst hL
  simp only [Bool.and_eq_true, decide_eq_true_eq] at hd
  unfold za6
  simp only [Bool.and_eq_true, decide_eq_true_eq]
  exact ⟨⟨hs.dep.trans hd.1, hd.2⟩, hs.ord⟩
theorem zj8 {P : Program} {f : FuncId} {cf : Cfg} {fn : Func} {c : Code} (l : List Nat) (hf : P.funcs[f]? = some fn) (hb : fn.body = some c) (hn : (fn.name != "runtime.NumGoroutine") = true) (h2 : zj9 cf l.contains c = true)
    (ht : ∀ i ∈ l, ∃ t, cf.dt i = some t ∧ ∀ o ∈ z4y i c, za6 o t = true) : z3o P f cf = true := by
  unfold z3o
  simp only [hf, hb, hn, Bool.true_and]
  exact zco c h2 fun j hj => ht j (by simpa using hj)
end Go.Proofs.Ytbnnipkanechoaa
end
section
namespace Go.Proofs.Ytbnnipkanechoaa
open Go
set_option maxRecDepth 100000
theorem zwD : z3o Try.prog 3 cf3 = true := by kernel_rfl
theorem zwC : z3o Try.prog 4 cf4 = true := by kernel_rfl
theorem zwB : z3o Try.prog 5 cf5 = true := by kernel_rfl
theorem zwA : z3o Try.prog 6 cf6 = true := by kernel_rfl
theorem zwz : z3o Try.prog 8 cf8 = true := by kernel_rfl
theorem zwy : z3o Try.prog 9 cf9 = true := by kernel_rfl
theorem zuc : z3o Try.prog 10 cf10 = true := by kernel_rfl
theorem zub : z3o Try.prog 11 cf11 = true := by kernel_rfl
theorem zua : z3o Try.prog 12 cf12 = true := by kernel_rfl
theorem zu9 : z3o Try.prog 13 cf13 = true := by kernel_rfl
theorem ziS : StOk (z0t 10 z7d) zfm #[true, true, true, true, true, true, true, true, true, true, true, true, true, true] 0 [] := zjW (by kernel_rfl)
theorem zdv : StOk (z0t 10 z7d) zbH #[true, true, true, true, true, true, true, true, true, true, true, true, true, false] 1 [13] := zag ziS rfl (by kernel_rfl) rfl
theorem z7B : StOk (z0t 10 z7d) z7g #[true, true, true, true, true, true, true, true, true, true, true, false, true, false] 2 [13] := z5l zdv rfl (by kernel_rfl)
theorem ziT : StOk (z0t 10 z7d) zfn #[true, true, true, true, true, true, true, true, true, true, true, true, false, false] 2 [13] := zag zdv rfl (by kernel_rfl) rfl
theorem z7C : StOk (z0t 10 z7d) z7h #[true, true, true, true, false, true, true, true, true, true, true, false, true, false] 3 [13] := zag z7B rfl (by kernel_rfl) rfl
theorem z7D : StOk (z0t 10 z7d) z7i #[true, true, true, true, true, true, false, true, true, true, true, false, true, false] 3 [13] := zag z7B rfl (by kernel_rfl) rfl
theorem z7E : StOk (z0t 10 z7d) z7j #[true, true, true, true, true, true, true, true, false, true, true, false, true, false] 3 [13] := zag z7B rfl (by kernel_rfl) rfl
theorem z7F : StOk (z0t 10 z7d) z7k #[true, true, true, true, true, true, true, true, true, true, false, false, true, false] 3 [13] := zag z7B rfl (by kernel_rfl) rfl
theorem z7G : StOk (z0t 10 z7d) z7l #[true, true, true, true, true, true, true, true, true, true, true, false, false, false] 3 [13] := z5l ziT rfl (by kernel_rfl)
theorem z9T : StOk (z0t 10 z7d) z8W #[true, true, true, true, false, true, false, true, true, true, true, false, true, false] 4 [13] := z0V (z0l (z1k z7D rfl (by kernel_rfl) rfl) (z1k z7C rfl (by kernel_rfl) rfl)) (by kernel_rfl) rfl
theorem z9U : StOk (z0t 10 z7d) z8X #[true, true, true, true, false, true, true, true, false, true, true, false, true, false] 4 [13] := z0V (z0l (z1k z7E rfl (by kernel_rfl) rfl) (z1k z7C rfl (by kernel_rfl) rfl)) (by kernel_rfl) rfl
theorem z9V : StOk (z0t 10 z7d) z8Y #[true, true, true, true, false, true, true, true, true, true, false, false, true, false] 4 [13] := z0V (z0l (z1k z7F rfl (by kernel_rfl) rfl) (z1k z7C rfl (by kernel_rfl) rfl)) (by kernel_rfl) rfl
theorem z9W : StOk (z0t 10 z7d) z8Z #[true, true, true, true, false, true, true, true, true, true, true, false, false, false] 4 [13] := z0V (z0l (z1k z7G rfl (by kernel_rfl) rfl) (z1k z7C rfl (by kernel_rfl) rfl)) (by kernel_rfl) rfl
theorem z9X : StOk (z0t 10 z7d) z9a #[true, true, true, true, true, true, false, true, false, true, true, false, true, false] 4 [13] := z0V (z0l (z1k z7E rfl (by kernel_rfl) rfl) (z1k z7D rfl (by kernel_rfl) rfl)) (by kernel_rfl) rfl
theorem z9Y : StOk (z0t 10 z7d) z9b #[true, true, true, true, true, true, false, true, true, true, false, false, true, false] 4 [13] := z0V (z0l (z1k z7F rfl (by kernel_rfl) rfl) (z1k z7D rfl (by kernel_rfl) rfl)) (by kernel_rfl) rfl
theorem z9Z : StOk (z0t 10 z7d) z9c #[true, true, true, true, true, true, false, true, true, true, true, false, false, false] 4 [13] := z0V (z0l (z1k z7G rfl (by kernel_rfl) rfl) (z1k z7D rfl (by kernel_rfl) rfl)) (by kernel_rfl) rfl
theorem za0 : StOk (z0t 10 z7d) z9d #[true, true, true, true, true, true, true, true, false, true, false, false, true, false] 4 [13] := z0V (z0l (z1k z7F rfl (by kernel_rfl) rfl) (z1k z7E rfl (by kernel_rfl) rfl)) (by kernel_rfl) rfl
theorem za1 : StOk (z0t 10 z7d) z9e #[true, true, true, true, true, true, true, true, false, true, true, false, false, false] 4 [13] := z0V (z0l (z1k z7G rfl (by kernel_rfl) rfl) (z1k z7E rfl (by kernel_rfl) rfl)) (by kernel_rfl) rfl
theorem za2 : StOk (z0t 10 z7d) z9f #[true, true, true, true, true, true, true, true, true, true, false, false, false, false] 4 [13] := z0V (z0l (z1k z7G rfl (by kernel_rfl) rfl) (z1k z7F rfl (by kernel_rfl) rfl)) (by kernel_rfl) rfl
theorem zdw : StOk (z0t 10 z7d) zbI #[true, true, true, true, false, true, false, true, false, true, true, false, true, false] 5 [13] := z0V (z0l (z1k z9X rfl (by kernel_rfl) rfl) (z0l (z1k z9U rfl (by kernel_rfl) rfl) (z1k z9T rfl (by kernel_rfl) rfl))) (by kernel_rfl) rfl
theorem zdx : StOk (z0t 10 z7d) zbJ #[true, true, true, true, false, true, false, true, true, true, false, false, true, false] 5 [13] := z0V (z0l (z1k z9Y rfl (by kernel_rfl) rfl) (z0l (z1k z9V rfl (by kernel_rfl) rfl) (z1k z9T rfl (by kernel_rfl) rfl))) (by kernel_rfl) rfl
theorem zdy : StOk (z0t 10 z7d) zbK #[true, true, true, true, false, true, false, true, true, true, true, false, false, false] 5 [13] := z0V (z0l (z1k z9Z rfl (by kernel_rfl) rfl) (z0l (z1k z9W rfl (by kernel_rfl) rfl) (z1k z9T rfl (by kernel_rfl) rfl))) (by kernel_rfl) rfl
theorem zdz : StOk (z0t 10 z7d) zbL #[true, true, true, true, false, true, true, true, false, true, false, false, true, false] 5 [13] := z0V (z0l (z1k za0 rfl (by kernel_rfl) rfl) (z0l (z1k z9V rfl (by kernel_rfl) rfl) (z1k z9U rfl (by kernel_rfl) rfl))) (by kernel_rfl) rfl
theorem zdA : StOk (z0t 10 z7d) zbM #[true, true, true, true, false, true, true, true, false, true, true, false, false, false] 5 [13] := z0V (z0l (z1k za1 rfl (by kernel_rfl) rfl) (z0l (z1k z9W rfl (by kernel_rfl) rfl) (z1k z9U rfl (by kernel_rfl) rfl))) (by kernel_rfl) rfl
theorem zdB : StOk (z0t 10 z7d) zbN #[true, true, true, true, false, true, true, true, true, true, false, false, false, false] 5 [13] := z0V (z0l (z1k za2 rfl (by kernel_rfl) rfl) (z0l (z1k z9W rfl (by kernel_rfl) rfl) (z1k z9V rfl (by kernel_rfl) rfl))) (by kernel_rfl) rfl
theorem zdC : StOk (z0t 10 z7d) zbO #[true, true, true, true, true, true, false, true, false, true, false, false, true, false] 5 [13] := z0V (z0l (z1k za0 rfl (by kernel_rfl) rfl) (z0l (z1k z9Y rfl (by kernel_rfl) rfl) (z1k z9X rfl (by kernel_rfl) rfl))) (by kernel_rfl) rfl
theorem zdD : StOk (z0t 10 z7d) zbP #[true, true, true, true, true, true, false, true, false, true, true, false, false, false] 5 [13] := z0V (z0l (z1k za1 rfl (by kernel_rfl) rfl) (z0l (z1k z9Z rfl (by kernel_rfl) rfl) (z1k z9X rfl (by kernel_rfl) rfl))) (by kernel_rfl) rfl
theorem zdE : StOk (z0t 10 z7d) zbQ #[true, true, true, true, true, true, false, true, true, true, false, false, false, false] 5 [13] := z0V (z0l (z1k za2 rfl (by kernel_rfl) rfl) (z0l (z1k z9Z rfl (by kernel_rfl) rfl) (z1k z9Y rfl (by kernel_rfl) rfl))) (by kernel_rfl) rfl
theorem zdF : StOk (z0t 10 z7d) zbR #[true, true, true, true, true, true, true, true, false, true, false, false, false, false] 5 [13] := z0V (z0l (z1k za2 rfl (by kernel_rfl) rfl) (z0l (z1k za1 rfl (by kernel_rfl) rfl) (z1k za0 rfl (by kernel_rfl) rfl))) (by kernel_rfl) rfl
theorem ziU : StOk (z0t 10 z7d) zfo #[true, true, true, true, false, true, false, true, false, true, false, false, true, false] 6 [13] := z0V (z0l (z1k zdC rfl (by kernel_rfl) rfl) (z0l (z1k zdz rfl (by kernel_rfl) rfl) (z0l (z1k zdx rfl (by kernel_rfl) rfl) (z1k zdw rfl (by kernel_rfl) rfl)))) (by kernel_rfl) rfl
theorem ziV : StOk (z0t 10 z7d) zfp #[true, true, true, true, false, true, false, true, false, true, true, false, false, false] 6 [13] := z0V (z0l (z1k zdD rfl (by kernel_rfl) rfl) (z0l (z1k zdA rfl (by kernel_rfl) rfl) (z0l (z1k zdy rfl (by kernel_rfl) rfl) (z1k zdw rfl (by kernel_rfl) rfl)))) (by kernel_rfl) rfl
theorem ziW : StOk (z0t 10 z7d) zfq #[true, true, true, true, false, true, false, true, true, true, false, false, false, false] 6 [13] := z0V (z0l (z1k zdE rfl (by kernel_rfl) rfl) (z0l (z1k zdB rfl (by kernel_rfl) rfl) (z0l (z1k zdy rfl (by kernel_rfl) rfl) (z1k zdx rfl (by kernel_rfl) rfl)))) (by kernel_rfl) rfl
theorem zlJ : StOk (z0t 10 z7d) zhe #[true, true, true, true, false, true, true, true, false, true, false, false, false, false] 6 [13] := z0V (z0l (z1k zdF rfl (by kernel_rfl) rfl) (z0l (z1k zdB rfl (by kernel_rfl) rfl) (z0l (z1k zdA rfl (by kernel_rfl) rfl) (z1k zdz rfl (by kernel_rfl) rfl)))) (by kernel_rfl) rfl
theorem zlK : StOk (z0t 10 z7d) zhf #[true, true, true, true, true, true, false, true, false, true, false, false, false, false] 6 [13] := z0V (z0l (z1k zdF rfl (by kernel_rfl) rfl) (z0l (z1k zdE rfl (by kernel_rfl) rfl) (z0l (z1k zdD rfl (by kernel_rfl) rfl) (z1k zdC rfl (by kernel_rfl) rfl)))) (by kernel_rfl) rfl
theorem zlL : StOk (z0t 10 z7d) zhg #[true, true, true, true, false, true, false, true, false, true, false, false, false, false] 7 [13] := z0V (z0l (z1k zlK rfl (by kernel_rfl) rfl) (z0l (z1k zlJ rfl (by kernel_rfl) rfl) (z0l (z1k ziW rfl (by kernel_rfl) rfl) (z0l (z1k ziV rfl (by kernel_rfl) rfl) (z1k ziU rfl (by kernel_rfl) rfl))))) (by kernel_rfl) rfl
theorem zlM : StOk (z0t 10 z7d) zhh #[true, true, true, true, false, true, false, true, false, false, false, false, false, false] 8 [13] := z5l zlL rfl (by kernel_rfl)
theorem zlN : StOk (z0t 10 z7d) zhi #[true, true, true, true, false, true, false, false, false, false, false, false, false, false] 9 [13] := z5l zlM rfl (by kernel_rfl)
theorem zlO : StOk (z0t 10 z7d) zhj #[true, true, true, true, false, false, false, false, false, false, false, false, false, false] 10 [13] := z5l zlN rfl (by kernel_rfl)
theorem zlP : StOk (z0t 10 z7d) zhk #[true, true, true, false, false, false, false, false, false, false, false, false, false, false] 11 [13] := z5l zlO rfl (by kernel_rfl)
theorem zlQ : StOk (z0t 10 z7d) zhl #[true, true, false, false, false, false, false, false, false, false, false, false, false, false] 12 [13] := z5l zlP rfl (by kernel_rfl)
theorem zlR : StOk (z0t 10 z7d) zhm #[true, false, false, false, false, false, false, false, false, false, false, false, false, false] 13 [13] := z5l zlQ rfl (by kernel_rfl)
theorem zlS : StOk (z0t 10 z7d) zhn #[false, false, false, false, false, false, false, false, false, false, false, false, false, false] 14 [13] := z5l zlR rfl (by kernel_rfl)
theorem zu8 : z3o Try.prog 14 cf14 = true := zj8 [10] zvi zvm rfl (by kernel_rfl) (by simp only [List.forall_mem_cons]; exact ⟨⟨_, rfl, zfV (by kernel_rfl) zlS (by kernel_rfl) (by kernel_rfl)⟩, fun _ h => by cases h⟩)
theorem ziE : StOk (z0t 47 z3U) zf8 #[true, true, true, true, true, true, true, true, true, true, true, true, true, true, true, true] 0 [] := zjW (by kernel_rfl)
theorem ziF : StOk (z0t 47 z3U) zf9 #[true, true, true, true, true, true, true, true, true, true, true, true, true, true, true, false] 1 [15] := zag ziE rfl (by kernel_rfl) rfl
theorem zdc : StOk (z0t 47 z3U) zbo #[true, true, true, true, true, true, true, true, true, true, true, true, true, true, false, false] 2 [15] := z5l ziF rfl (by kernel_rfl)
theorem ziG : StOk (z0t 47 z3U) zfa #[true, true, true, true, true, true, true, false, true, true, true, true, true, true, false, false] 3 [15] := zag zdc rfl (by kernel_rfl) rfl
theorem zdd : StOk (z0t 47 z3U) zbp #[true, true, true, true, true, true, true, true, true, true, true, true, true, false, false, false] 3 [13] := zag zdc rfl (by kernel_rfl) rfl
theorem ziH : StOk (z0t 47 z3U) zfb #[true, true, true, true, true, true, true, false, true, true, true, true, true, false, false, false] 4 [13] := z0V (z0l (z1k zdd rfl (by kernel_rfl) rfl) (z1k ziG rfl (by kernel_rfl) rfl)) (by kernel_rfl) rfl
theorem zde : StOk (z0t 47 z3U) zbq #[true, true, true, true, true, true, true, true, true, true, true, true, false, false, false, false] 4 [13] := z5l zdd rfl (by kernel_rfl)
theorem zdf : StOk (z0t 47 z3U) zbr #[true, true, true, true, true, false, true, true, true, true, true, true, false, false, false, false] 5 [13] := zag zde rfl (by kernel_rfl) rfl
theorem zdg : StOk (z0t 47 z3U) zbs #[true, true, true, true, true, true, true, false, true, true, true, true, false, false, false, false] 5 [13] := z5l ziH rfl (by kernel_rfl)
theorem z9N : StOk (z0t 47 z3U) z8Q #[true, true, true, true, true, true, true, true, true, true, true, false, false, false, false, false] 5 [11] := zag zde rfl (by kernel_rfl) rfl
theorem ziI : StOk (z0t 47 z3U) zfc #[true, true, true, true, true, false, true, false, true, true, true, true, false, false, false, false] 6 [13] := z0V (z0l (z1k zdg rfl (by kernel_rfl) rfl) (z1k zdf rfl (by kernel_rfl) rfl)) (by kernel_rfl) rfl
theorem zdh : StOk (z0t 47 z3U) zbt #[true, true, true, true, true, false, true, true, true, true, true, false, false, false, false, false] 6 [11] := z0V (z0l (z1k z9N rfl (by kernel_rfl) rfl) (z1k zdf rfl (by kernel_rfl) rfl)) (by kernel_rfl) rfl
theorem zdi : StOk (z0t 47 z3U) zbu #[true, true, true, true, true, true, true, false, true, true, true, false, false, false, false, false] 6 [11] := z0V (z0l (z1k z9N rfl (by kernel_rfl) rfl) (z1k zdg rfl (by kernel_rfl) rfl)) (by kernel_rfl) rfl
theorem zdj : StOk (z0t 47 z3U) zbv #[true, true, true, true, true, true, true, true, true, true, false, false, false, false, false, false] 6 [11] := z5l z9N rfl (by kernel_rfl)
theorem z9O : StOk (z0t 47 z3U) z8R #[true, true, true, false, true, true, true, true, true, true, false, false, false, false, false, false] 7 [11] := zag zdj rfl (by kernel_rfl) rfl
theorem ziJ : StOk (z0t 47 z3U) zfd #[true, true, true, true, true, false, true, false, true, true, true, false, false, false, false, false] 7 [11] := z0V (z0l (z1k zdi rfl (by kernel_rfl) rfl) (z0l (z1k zdh rfl (by kernel_rfl) rfl) (z1k ziI rfl (by kernel_rfl) rfl))) (by kernel_rfl) rfl
theorem zdk : StOk (z0t 47 z3U) zbw #[true, true, true, true, true, false, true, true, true, true, false, false, false, false, false, false] 7 [11] := z5l zdh rfl (by kernel_rfl)
theorem zdl : StOk (z0t 47 z3U) zbx #[true, true, true, true, true, true, true, false, true, true, false, false, false, false, false, false] 7 [11] := z5l zdi rfl (by kernel_rfl)
theorem z7A : StOk (z0t 47 z3U) z7f #[true, true, true, true, true, true, true, true, true, false, false, false, false, false, false, false] 7 [9] := zag zdj rfl (by kernel_rfl) rfl
theorem zdm : StOk (z0t 47 z3U) zby #[true, true, true, false, true, false, true, true, true, true, false, false, false, false, false, false] 8 [11] := z0V (z0l (z1k zdk rfl (by kernel_rfl) rfl) (z1k z9O rfl (by kernel_rfl) rfl)) (by kernel_rfl) rfl
theorem zdn : StOk (z0t 47 z3U) zbz #[true, true, true, false, true, true, true, false, true, true, false, false, false, false, false, false] 8 [11] := z0V (z0l (z1k zdl rfl (by kernel_rfl) rfl) (z1k z9O rfl (by kernel_rfl) rfl)) (by kernel_rfl) rfl
theorem z9P : StOk (z0t 47 z3U) z8S #[true, true, true, false, true, true, true, true, true, false, false, false, false, false, false, false] 8 [9] := z0V (z0l (z1k z7A rfl (by kernel_rfl) rfl) (z1k z9O rfl (by kernel_rfl) rfl)) (by kernel_rfl) rfl
theorem zdo : StOk (z0t 47 z3U) zbA #[true, true, true, true, true, false, true, false, true, true, false, false, false, false, false, false] 8 [11] := z5l ziJ rfl (by kernel_rfl)
theorem z9Q : StOk (z0t 47 z3U) z8T #[true, true, true, true, true, false, true, true, true, false, false, false, false, false, false, false] 8 [9] := z0V (z0l (z1k z7A rfl (by kernel_rfl) rfl) (z1k zdk rfl (by kernel_rfl) rfl)) (by kernel_rfl) rfl
theorem z9R : StOk (z0t 47 z3U) z8U #[true, true, true, true, true, true, true, false, true, false, false, false, false, false, false, false] 8 [9] := z0V (z0l (z1k z7A rfl (by kernel_rfl) rfl) (z1k zdl rfl (by kernel_rfl) rfl)) (by kernel_rfl) rfl
theorem ziK : StOk (z0t 47 z3U) zfe #[true, true, true, true, true, true, true, true, false, false, false, false, false, false, false, false] 8 [9] := z5l z7A rfl (by kernel_rfl)
theorem z9S : StOk (z0t 47 z3U) z8V #[true, false, true, true, true, true, true, true, false, false, false, false, false, false, false, false] 9 [9] := zag ziK rfl (by kernel_rfl) rfl
theorem ziL : StOk (z0t 47 z3U) zff #[true, true, true, false, true, false, true, false, true, true, false, false, false, false, false, false] 9 [11] := z0V (z0l (z1k zdo rfl (by kernel_rfl) rfl) (z0l (z1k zdn rfl (by kernel_rfl) rfl) (z1k zdm rfl (by kernel_rfl) rfl))) (by kernel_rfl) rfl
theorem zdp : StOk (z0t 47 z3U) zbB #[true, true, true, false, true, false, true, true, true, false, false, false, false, false, false, false] 9 [9] := z0V (z0l (z1k z9Q rfl (by kernel_rfl) rfl) (z0l (z1k z9P rfl (by kernel_rfl) rfl) (z1k zdm rfl (by kernel_rfl) rfl))) (by kernel_rfl) rfl
theorem zdq : StOk (z0t 47 z3U) zbC #[true, true, true, false, true, true, true, false, true, false, false, false, false, false, false, false] 9 [9] := z0V (z0l (z1k z9R rfl (by kernel_rfl) rfl) (z0l (z1k z9P rfl (by kernel_rfl) rfl) (z1k zdn rfl (by kernel_rfl) rfl))) (by kernel_rfl) rfl
theorem ziM : StOk (z0t 47 z3U) zfg #[true, true, true, false, true, true, true, true, false, false, false, false, false, false, false, false] 9 [9] := z5l z9P rfl (by kernel_rfl)
theorem zdr : StOk (z0t 47 z3U) zbD #[true, true, true, true, true, false, true, false, true, false, false, false, false, false, false, false] 9 [9] := z0V (z0l (z1k z9R rfl (by kernel_rfl) rfl) (z0l (z1k z9Q rfl (by kernel_rfl) rfl) (z1k zdo rfl (by kernel_rfl) rfl))) (by kernel_rfl) rfl
theorem ziN : StOk (z0t 47 z3U) zfh #[true, true, true, true, true, false, true, true, false, false, false, false, false, false, false, false] 9 [9] := z5l z9Q rfl (by kernel_rfl)
theorem ziO : StOk (z0t 47 z3U) zfi #[true, true, true, true, true, true, true, false, false, false, false, false, false, false, false, false] 9 [9] := z5l z9R rfl (by kernel_rfl)
theorem zds : StOk (z0t 47 z3U) zbE #[true, false, true, false, true, true, true, true, false, false, false, false, false, false, false, false] 10 [9] := z0V (z0l (z1k ziM rfl (by kernel_rfl) rfl) (z1k z9S rfl (by kernel_rfl) rfl)) (by kernel_rfl) rfl
theorem zdt : StOk (z0t 47 z3U) zbF #[true, false, true, true, true, false, true, true, false, false, false, false, false, false, false, false] 10 [9] := z0V (z0l (z1k ziN rfl (by kernel_rfl) rfl) (z1k z9S rfl (by kernel_rfl) rfl)) (by kernel_rfl) rfl
theorem zdu : StOk (z0t 47 z3U) zbG #[true, false, true, true, true, true, true, false, false, false, false, false, false, false, false, false] 10 [9] := z0V (z0l (z1k ziO rfl (by kernel_rfl) rfl) (z1k z9S rfl (by kernel_rfl) rfl)) (by kernel_rfl) rfl
theorem ziP : StOk (z0t 47 z3U) zfj #[true, true, true, false, true, false, true, false, true, false, false, false, false, false, false, false] 10 [9] := z0V (z0l (z1k zdr rfl (by kernel_rfl) rfl) (z0l (z1k zdq rfl (by kernel_rfl) rfl) (z0l (z1k zdp rfl (by kernel_rfl) rfl) (z1k ziL rfl (by kernel_rfl) rfl)))) (by kernel_rfl) rfl
theorem ziQ : StOk (z0t 47 z3U) zfk #[true, true, true, false, true, false, true, true, false, false, false, false, false, false, false, false] 10 [9] := z5l zdp rfl (by kernel_rfl)
theorem ziR : StOk (z0t 47 z3U) zfl #[true, true, true, false, true, true, true, false, false, false, false, false, false, false, false, false] 10 [9] := z5l zdq rfl (by kernel_rfl)
theorem zlz : StOk (z0t 47 z3U) zh4 #[true, true, true, true, true, false, true, false, false, false, false, false, false, false, false, false] 10 [9] := z5l zdr rfl (by kernel_rfl)
theorem zlA : StOk (z0t 47 z3U) zh5 #[true, false, true, false, true, false, true, true, false, false, false, false, false, false, false, false] 11 [9] := z0V (z0l (z1k ziQ rfl (by kernel_rfl) rfl) (z0l (z1k zdt rfl (by kernel_rfl) rfl) (z1k zds rfl (by kernel_rfl) rfl))) (by kernel_rfl) rfl
theorem zlB : StOk (z0t 47 z3U) zh6 #[true, false, true, false, true, true, true, false, false, false, false, false, false, false, false, false] 11 [9] := z0V (z0l (z1k ziR rfl (by kernel_rfl) rfl) (z0l (z1k zdu rfl (by kernel_rfl) rfl) (z1k zds rfl (by kernel_rfl) rfl))) (by kernel_rfl) rfl
theorem zlC : StOk (z0t 47 z3U) zh7 #[true, false, true, true, true, false, true, false, false, false, false, false, false, false, false, false] 11 [9] := z0V (z0l (z1k zlz rfl (by kernel_rfl) rfl) (z0l (z1k zdu rfl (by kernel_rfl) rfl) (z1k zdt rfl (by kernel_rfl) rfl))) (by kernel_rfl) rfl
theorem zlD : StOk (z0t 47 z3U) zh8 #[true, true, true, false, true, false, true, false, false, false, false, false, false, false, false, false] 11 [9] := z5l ziP rfl (by kernel_rfl)
theorem zlE : StOk (z0t 47 z3U) zh9 #[true, false, true, false, true, false, true, false, false, false, false, false, false, false, false, false] 12 [9] := z0V (z0l (z1k zlD rfl (by kernel_rfl) rfl) (z0l (z1k zlC rfl (by kernel_rfl) rfl) (z0l (z1k zlB rfl (by kernel_rfl) rfl) (z1k zlA rfl (by kernel_rfl) rfl)))) (by kernel_rfl) rfl
theorem zlF : StOk (z0t 47 z3U) zha #[true, false, true, false, true, false, false, false, false, false, false, false, false, false, false, false] 13 [9] := z5l zlE rfl (by kernel_rfl)
theorem zlG : StOk (z0t 47 z3U) zhb #[true, false, true, false, false, false, false, false, false, false, false, false, false, false, false, false] 14 [9] := z5l zlF rfl (by kernel_rfl)
theorem zlH : StOk (z0t 47 z3U) zhc #[true, false, false, false, false, false, false, false, false, false, false, false, false, false, false, false] 15 [9] := z5l zlG rfl (by kernel_rfl)
theorem zlI : StOk (z0t 47 z3U) zhd #[false, false, false, false, false, false, false, false, false, false, false, false, false, false, false, false] 16 [9] := z5l zlH rfl (by kernel_rfl)
theorem zix : StOk (z0t 77 z3U) zf1 #[true, true, true, true, true, true, true, true, true, true, true, true, true] 0 [] := zjW (by kernel_rfl)
theorem ziy : StOk (z0t 77 z3U) zf2 #[true, true, true, true, true, true, true, true, true, true, true, true, false] 1 [12] := zag zix rfl (by kernel_rfl) rfl
theorem zd6 : StOk (z0t 77 z3U) zbi #[true, true, true, true, true, true, true, true, true, true, true, false, false] 2 [12] := z5l ziy rfl (by kernel_rfl)
theorem ziz : StOk (z0t 77 z3U) zf3 #[true, false, true, true, true, true, true, true, true, true, true, false, false] 3 [1] := zag zd6 rfl (by kernel_rfl) rfl
theorem z9L : StOk (z0t 77 z3U) z8O #[true, true, true, true, true, true, true, true, true, true, false, false, false] 3 [10] := zag zd6 rfl (by kernel_rfl) rfl
theorem zd7 : StOk (z0t 77 z3U) zbj #[true, false, true, true, true, true, true, true, true, true, false, false, false] 4 [1, 10] := z0V (z0l (z1k z9L rfl (by kernel_rfl) rfl) (z1k ziz rfl (by kernel_rfl) rfl)) (by kernel_rfl) rfl
theorem z9M : StOk (z0t 77 z3U) z8P #[true, true, true, true, true, true, true, false, true, true, false, false, false] 4 [7] := zag z9L rfl (by kernel_rfl) rfl
theorem zd8 : StOk (z0t 77 z3U) zbk #[true, true, true, true, true, true, true, true, true, false, false, false, false] 4 [10] := zag z9L rfl (by kernel_rfl) rfl
theorem zd9 : StOk (z0t 77 z3U) zbl #[true, false, true, true, true, true, true, false, true, true, false, false, false] 5 [1, 7] := z0V (z0l (z1k z9M rfl (by kernel_rfl) rfl) (z1k zd7 rfl (by kernel_rfl) rfl)) (by kernel_rfl) rfl
theorem ziA : StOk (z0t 77 z3U) zf4 #[true, false, true, true, true, true, true, true, true, false, false, false, false] 5 [1, 10] := z0V (z0l (z1k zd8 rfl (by kernel_rfl) rfl) (z1k zd7 rfl (by kernel_rfl) rfl)) (by kernel_rfl) rfl
theorem ziB : StOk (z0t 77 z3U) zf5 #[true, true, true, true, true, true, false, false, true, true, false, false, false] 5 [7] := z5l z9M rfl (by kernel_rfl)
theorem zda : StOk (z0t 77 z3U) zbm #[true, true, true, true, true, true, true, false, true, false, false, false, false] 5 [7] := z0V (z0l (z1k zd8 rfl (by kernel_rfl) rfl) (z1k z9M rfl (by kernel_rfl) rfl)) (by kernel_rfl) rfl
theorem ziC : StOk (z0t 77 z3U) zf6 #[true, false, true, true, true, true, false, false, true, true, false, false, false] 6 [1, 7] := z5l zd9 rfl (by kernel_rfl)
theorem ziD : StOk (z0t 77 z3U) zf7 #[true, false, true, true, true, true, true, false, true, false, false, false, false] 6 [1, 7] := z0V (z0l (z1k zda rfl (by kernel_rfl) rfl) (z0l (z1k ziA rfl (by kernel_rfl) rfl) (z1k zd9 rfl (by kernel_rfl) rfl))) (by kernel_rfl) rfl
theorem zdb : StOk (z0t 77 z3U) zbn #[true, true, true, true, false, true, false, false, true, true, false, false, false] 6 [4] := zag ziB rfl (by kernel_rfl) rfl
theorem zlp : StOk (z0t 77 z3U) zgU #[true, true, true, true, true, true, false, false, true, false, false, false, false] 6 [7] := z5l zda rfl (by kernel_rfl)
theorem zlq : StOk (z0t 77 z3U) zgV #[true, false, true, true, false, true, false, false, true, true, false, false, false] 7 [1, 4] := z0V (z0l (z1k zdb rfl (by kernel_rfl) rfl) (z1k ziC rfl (by kernel_rfl) rfl)) (by kernel_rfl) rfl
theorem zlr : StOk (z0t 77 z3U) zgW #[true, false, true, true, true, true, false, false, true, false, false, false, false] 7 [1, 7] := z5l ziD rfl (by kernel_rfl)
theorem zls : StOk (z0t 77 z3U) zgX #[true, true, true, true, false, true, false, false, true, false, false, false, false] 7 [4] := z0V (z0l (z1k zlp rfl (by kernel_rfl) rfl) (z1k zdb rfl (by kernel_rfl) rfl)) (by kernel_rfl) rfl
theorem zlt : StOk (z0t 77 z3U) zgY #[true, false, true, true, false, true, false, false, true, false, false, false, false] 8 [1, 4] := z0V (z0l (z1k zls rfl (by kernel_rfl) rfl) (z0l (z1k zlr rfl (by kernel_rfl) rfl) (z1k zlq rfl (by kernel_rfl) rfl))) (by kernel_rfl) rfl
theorem zlu : StOk (z0t 77 z3U) zgZ #[true, false, true, true, false, true, false, false, false, false, false, false, false] 9 [1, 4] := z5l zlt rfl (by kernel_rfl)
theorem zlv : StOk (z0t 77 z3U) zh0 #[true, false, true, true, false, false, false, false, false, false, false, false, false] 10 [1, 4] := z5l zlu rfl (by kernel_rfl)
theorem zlw : StOk (z0t 77 z3U) zh1 #[true, false, true, false, false, false, false, false, false, false, false, false, false] 11 [1, 4] := z5l zlv rfl (by kernel_rfl)
theorem zlx : StOk (z0t 77 z3U) zh2 #[true, false, false, false, false, false, false, false, false, false, false, false, false] 12 [1, 4] := z5l zlw rfl (by kernel_rfl)
theorem zly : StOk (z0t 77 z3U) zh3 #[false, false, false, false, false, false, false, false, false, false, false, false, false] 13 [1, 4] := z5l zlx rfl (by kernel_rfl)
theorem zu7 : z3o Try.prog 15 cf15 = true := zj8 [47, 77] zwu zyH rfl (by kernel_rfl) (by simp only [List.forall_mem_cons]; exact ⟨⟨_, rfl, zfV (by kernel_rfl) zlI (by kernel_rfl) (by kernel_rfl)⟩, ⟨_, rfl, zfV (by kernel_rfl) zly (by kernel_rfl) (by kernel_rfl)⟩, fun _ h => by cases h⟩)
theorem zu6 : z3o Try.prog 16 cf16 = true := by kernel_rfl
theorem zu5 : z3o Try.prog 17 cf17 = true := by kernel_rfl
theorem zu4 : z3o Try.prog 18 cf18 = true := by kernel_rfl
theorem zu3 : z3o Try.prog 19 cf19 = true := by kernel_rfl
theorem zu2 : z3o Try.prog 20 cf20 = true := by kernel_rfl
theorem zu1 : z3o Try.prog 21 cf21 = true := by kernel_rfl
theorem zu0 : z3o Try.prog 22 cf22 = true := by kernel_rfl
theorem ztZ : z3o Try.prog 23 cf23 = true := by kernel_rfl
theorem ztY : z3o Try.prog 24 cf24 = true := by kernel_rfl
theorem ztX : z3o Try.prog 25 cf25 = true := by kernel_rfl
theorem ztW : z3o Try.prog 26 cf26 = true := by kernel_rfl
theorem ztV : z3o Try.prog 27 cf27 = true := by kernel_rfl
theorem ztU : z3o Try.prog 28 cf28 = true := by kernel_rfl
theorem ztT : z3o Try.prog 29 cf29 = true := by kernel_rfl
theorem ztS : z3o Try.prog 30 cf30 = true := by kernel_rfl
theorem ztR : z3o Try.prog 31 cf31 = true := by kernel_rfl
theorem zl6 : StOk (z0t 7 z4w) zgB #[true, true, true, true, true, true, true, true, true, true, true, true, true, true, true, true, true] 0 [] := zjW (by kernel_rfl)
theorem zl7 : StOk (z0t 7 z4w) zgC #[true, true, true, true, true, true, true, true, true, true, true, true, true, true, true, true, false] 1 [16] := zag zl6 rfl (by kernel_rfl) rfl
theorem zl8 : StOk (z0t 7 z4w) zgD #[true, true, true, true, true, true, true, true, true, true, true, true, true, true, true, false, false] 2 [16] := z5l zl7 rfl (by kernel_rfl)
theorem zl9 : StOk (z0t 7 z4w) zgE #[true, true, true, true, true, true, true, true, true, true, true, true, true, true, false, false, false] 3 [14] := zag zl8 rfl (by kernel_rfl) rfl
theorem zeH : StOk (z0t 7 z4w) zcM #[true, true, true, true, true, true, true, true, true, true, true, true, false, true, false, false, false] 4 [12] := zag zl9 rfl (by kernel_rfl) rfl
theorem zeI : StOk (z0t 7 z4w) zcN #[true, true, true, true, true, true, true, true, true, true, true, false, false, true, false, false, false] 5 [12] := zag zeH rfl (by kernel_rfl) rfl
theorem zeJ : StOk (z0t 7 z4w) zcO #[true, true, true, true, true, true, true, true, true, true, true, true, false, false, false, false, false] 5 [12] := z5l zeH rfl (by kernel_rfl)
theorem z8K : StOk (z0t 7 z4w) z8h #[true, true, true, true, true, true, false, true, true, true, true, true, false, false, false, false, false] 6 [6] := zag zeJ rfl (by kernel_rfl) rfl
theorem zeK : StOk (z0t 7 z4w) zcP #[true, true, true, true, true, true, true, true, false, true, true, true, false, false, false, false, false] 6 [8] := zag zeJ rfl (by kernel_rfl) rfl
theorem zla : StOk (z0t 7 z4w) zgF #[true, true, true, true, true, true, true, true, true, true, false, false, false, true, false, false, false] 6 [12] := zag zeI rfl (by kernel_rfl) rfl
theorem zeL : StOk (z0t 7 z4w) zcQ #[true, true, true, true, true, true, true, true, true, true, true, false, false, false, false, false, false] 6 [12] := z5l zeI rfl (by kernel_rfl)
theorem zb6 : StOk (z0t 7 z4w) zak #[true, false, true, true, true, true, false, true, true, true, true, true, false, false, false, false, false] 7 [1] := zag z8K rfl (by kernel_rfl) rfl
theorem z8L : StOk (z0t 7 z4w) z8i #[true, true, true, true, true, false, false, true, true, true, true, true, false, false, false, false, false] 7 [6] := zag z8K rfl (by kernel_rfl) rfl
theorem zb7 : StOk (z0t 7 z4w) zal #[true, true, true, true, true, true, false, true, false, true, true, true, false, false, false, false, false] 7 [6, 8] := z0V (z0l (z1k zeK rfl (by kernel_rfl) rfl) (z1k z8K rfl (by kernel_rfl) rfl)) (by kernel_rfl) rfl
theorem z8M : StOk (z0t 7 z4w) z8j #[true, true, true, true, true, true, false, true, true, true, true, false, false, false, false, false, false] 7 [6] := z0V (z0l (z1k zeL rfl (by kernel_rfl) rfl) (z1k z8K rfl (by kernel_rfl) rfl)) (by kernel_rfl) rfl
theorem zeM : StOk (z0t 7 z4w) zcR #[true, true, true, true, true, true, true, true, false, true, true, false, false, false, false, false, false] 7 [8] := z0V (z0l (z1k zeL rfl (by kernel_rfl) rfl) (z1k zeK rfl (by kernel_rfl) rfl)) (by kernel_rfl) rfl
theorem zeN : StOk (z0t 7 z4w) zcS #[true, true, true, true, true, true, true, true, true, true, false, false, false, false, false, false, false] 7 [12] := z5l zla rfl (by kernel_rfl)
theorem zb8 : StOk (z0t 7 z4w) zam #[true, false, true, true, true, false, false, true, true, true, true, true, false, false, false, false, false] 8 [1] := z0V (z0l (z1k z8L rfl (by kernel_rfl) rfl) (z1k zb6 rfl (by kernel_rfl) rfl)) (by kernel_rfl) rfl
theorem zeO : StOk (z0t 7 z4w) zcT #[true, false, true, true, true, true, false, true, false, true, true, true, false, false, false, false, false] 8 [1, 8] := z0V (z0l (z1k zb7 rfl (by kernel_rfl) rfl) (z1k zb6 rfl (by kernel_rfl) rfl)) (by kernel_rfl) rfl
theorem zb9 : StOk (z0t 7 z4w) zan #[true, false, true, true, true, true, false, true, true, true, true, false, false, false, false, false, false] 8 [1] := z0V (z0l (z1k z8M rfl (by kernel_rfl) rfl) (z1k zb6 rfl (by kernel_rfl) rfl)) (by kernel_rfl) rfl
theorem zlb : StOk (z0t 7 z4w) zgG #[true, true, true, true, false, false, false, true, true, true, true, true, false, false, false, false, false] 8 [6] := z5l z8L rfl (by kernel_rfl)
theorem zba : StOk (z0t 7 z4w) zao #[true, true, true, true, true, false, false, true, false, true, true, true, false, false, false, false, false] 8 [6, 8] := z0V (z0l (z1k zb7 rfl (by kernel_rfl) rfl) (z1k z8L rfl (by kernel_rfl) rfl)) (by kernel_rfl) rfl
theorem z8N : StOk (z0t 7 z4w) z8k #[true, true, true, true, true, false, false, true, true, true, true, false, false, false, false, false, false] 8 [6] := z0V (z0l (z1k z8M rfl (by kernel_rfl) rfl) (z1k z8L rfl (by kernel_rfl) rfl)) (by kernel_rfl) rfl
theorem zbb : StOk (z0t 7 z4w) zap #[true, true, true, true, true, true, false, true, false, true, true, false, false, false, false, false, false] 8 [6, 8] := z0V (z0l (z1k zeM rfl (by kernel_rfl) rfl) (z0l (z1k z8M rfl (by kernel_rfl) rfl) (z1k zb7 rfl (by kernel_rfl) rfl))) (by kernel_rfl) rfl
theorem zbc : StOk (z0t 7 z4w) zaq #[true, true, true, true, true, true, false, true, true, true, false, false, false, false, false, false, false] 8 [6] := z0V (z0l (z1k zeN rfl (by kernel_rfl) rfl) (z1k z8M rfl (by kernel_rfl) rfl)) (by kernel_rfl) rfl
theorem zlc : StOk (z0t 7 z4w) zgH #[true, true, true, true, true, true, true, true, false, true, false, false, false, false, false, false, false] 8 [8] := z0V (z0l (z1k zeN rfl (by kernel_rfl) rfl) (z1k zeM rfl (by kernel_rfl) rfl)) (by kernel_rfl) rfl
theorem zld : StOk (z0t 7 z4w) zgI #[true, false, true, true, false, false, false, true, true, true, true, true, false, false, false, false, false] 9 [1] := z5l zb8 rfl (by kernel_rfl)
theorem zeP : StOk (z0t 7 z4w) zcU #[true, false, true, true, true, false, false, true, false, true, true, true, false, false, false, false, false] 9 [1, 8] := z0V (z0l (z1k zba rfl (by kernel_rfl) rfl) (z0l (z1k zeO rfl (by kernel_rfl) rfl) (z1k zb8 rfl (by kernel_rfl) rfl))) (by kernel_rfl) rfl
theorem zbd : StOk (z0t 7 z4w) zar #[true, false, true, true, true, false, false, true, true, true, true, false, false, false, false, false, false] 9 [1] := z0V (z0l (z1k z8N rfl (by kernel_rfl) rfl) (z0l (z1k zb9 rfl (by kernel_rfl) rfl) (z1k zb8 rfl (by kernel_rfl) rfl))) (by kernel_rfl) rfl
theorem zeQ : StOk (z0t 7 z4w) zcV #[true, false, true, true, true, true, false, true, false, true, true, false, false, false, false, false, false] 9 [1, 8] := z0V (z0l (z1k zbb rfl (by kernel_rfl) rfl) (z0l (z1k zb9 rfl (by kernel_rfl) rfl) (z1k zeO rfl (by kernel_rfl) rfl))) (by kernel_rfl) rfl
theorem zeR : StOk (z0t 7 z4w) zcW #[true, false, true, true, true, true, false, true, true, true, false, false, false, false, false, false, false] 9 [1] := z0V (z0l (z1k zbc rfl (by kernel_rfl) rfl) (z1k zb9 rfl (by kernel_rfl) rfl)) (by kernel_rfl) rfl
theorem zbe : StOk (z0t 7 z4w) zas #[true, true, true, false, false, false, false, true, true, true, true, true, false, false, false, false, false] 9 [6] := zag zlb rfl (by kernel_rfl) rfl
theorem zle : StOk (z0t 7 z4w) zgJ #[true, true, true, true, false, false, false, true, false, true, true, true, false, false, false, false, false] 9 [6, 8] := z5l zba rfl (by kernel_rfl)
theorem zlf : StOk (z0t 7 z4w) zgK #[true, true, true, true, false, false, false, true, true, true, true, false, false, false, false, false, false] 9 [6] := z5l z8N rfl (by kernel_rfl)
theorem zbf : StOk (z0t 7 z4w) zat #[true, true, true, true, true, false, false, true, false, true, true, false, false, false, false, false, false] 9 [6, 8] := z0V (z0l (z1k zbb rfl (by kernel_rfl) rfl) (z0l (z1k z8N rfl (by kernel_rfl) rfl) (z1k zba rfl (by kernel_rfl) rfl))) (by kernel_rfl) rfl
theorem zbg : StOk (z0t 7 z4w) zau #[true, true, true, true, true, false, false, true, true, true, false, false, false, false, false, false, false] 9 [6] := z0V (z0l (z1k zbc rfl (by kernel_rfl) rfl) (z1k z8N rfl (by kernel_rfl) rfl)) (by kernel_rfl) rfl
theorem zeS : StOk (z0t 7 z4w) zcX #[true, true, true, true, true, true, false, true, false, true, false, false, false, false, false, false, false] 9 [6, 8] := z0V (z0l (z1k zlc rfl (by kernel_rfl) rfl) (z0l (z1k zbc rfl (by kernel_rfl) rfl) (z1k zbb rfl (by kernel_rfl) rfl))) (by kernel_rfl) rfl
theorem zeT : StOk (z0t 7 z4w) zcY #[true, false, true, false, false, false, false, true, true, true, true, true, false, false, false, false, false] 10 [1] := z0V (z0l (z1k zbe rfl (by kernel_rfl) rfl) (z1k zld rfl (by kernel_rfl) rfl)) (by kernel_rfl) rfl
theorem zlg : StOk (z0t 7 z4w) zgL #[true, false, true, true, false, false, false, true, false, true, true, true, false, false, false, false, false] 10 [1, 8] := z5l zeP rfl (by kernel_rfl)
theorem zlh : StOk (z0t 7 z4w) zgM #[true, false, true, true, false, false, false, true, true, true, true, false, false, false, false, false, false] 10 [1] := z5l zbd rfl (by kernel_rfl)
theorem zeU : StOk (z0t 7 z4w) zcZ #[true, false, true, true, true, false, false, true, false, true, true, false, false, false, false, false, false] 10 [1, 8] := z0V (z0l (z1k zbf rfl (by kernel_rfl) rfl) (z0l (z1k zeQ rfl (by kernel_rfl) rfl) (z0l (z1k zbd rfl (by kernel_rfl) rfl) (z1k zeP rfl (by kernel_rfl) rfl)))) (by kernel_rfl) rfl
theorem zeV : StOk (z0t 7 z4w) zd0 #[true, false, true, true, true, false, false, true, true, true, false, false, false, false, false, false, false] 10 [1] := z0V (z0l (z1k zbg rfl (by kernel_rfl) rfl) (z0l (z1k zeR rfl (by kernel_rfl) rfl) (z1k zbd rfl (by kernel_rfl) rfl))) (by kernel_rfl) rfl
theorem zli : StOk (z0t 7 z4w) zgN #[true, false, true, true, true, true, false, true, false, true, false, false, false, false, false, false, false] 10 [1, 8] := z0V (z0l (z1k zeS rfl (by kernel_rfl) rfl) (z0l (z1k zeR rfl (by kernel_rfl) rfl) (z1k zeQ rfl (by kernel_rfl) rfl))) (by kernel_rfl) rfl
theorem zeW : StOk (z0t 7 z4w) zd1 #[true, true, true, false, false, false, false, true, false, true, true, true, false, false, false, false, false] 10 [6, 8] := z0V (z0l (z1k zle rfl (by kernel_rfl) rfl) (z1k zbe rfl (by kernel_rfl) rfl)) (by kernel_rfl) rfl
theorem zbh : StOk (z0t 7 z4w) zav #[true, true, true, false, false, false, false, true, true, true, true, false, false, false, false, false, false] 10 [6] := z0V (z0l (z1k zlf rfl (by kernel_rfl) rfl) (z1k zbe rfl (by kernel_rfl) rfl)) (by kernel_rfl) rfl
theorem zlj : StOk (z0t 7 z4w) zgO #[true, true, true, true, false, false, false, true, false, true, true, false, false, false, false, false, false] 10 [6, 8] := z5l zbf rfl (by kernel_rfl)
theorem zlk : StOk (z0t 7 z4w) zgP #[true, true, true, true, false, false, false, true, true, true, false, false, false, false, false, false, false] 10 [6] := z5l zbg rfl (by kernel_rfl)
theorem zeX : StOk (z0t 7 z4w) zd2 #[true, true, true, true, true, false, false, true, false, true, false, false, false, false, false, false, false] 10 [6, 8] := z0V (z0l (z1k zeS rfl (by kernel_rfl) rfl) (z0l (z1k zbg rfl (by kernel_rfl) rfl) (z1k zbf rfl (by kernel_rfl) rfl))) (by kernel_rfl) rfl
theorem zll : StOk (z0t 7 z4w) zgQ #[true, false, true, false, false, false, false, true, false, true, true, true, false, false, false, false, false] 11 [1, 8] := z0V (z0l (z1k zeW rfl (by kernel_rfl) rfl) (z0l (z1k zlg rfl (by kernel_rfl) rfl) (z1k zeT rfl (by kernel_rfl) rfl))) (by kernel_rfl) rfl
theorem zeY : StOk (z0t 7 z4w) zd3 #[true, false, true, false, false, false, false, true, true, true, true, false, false, false, false, false, false] 11 [1] := z0V (z0l (z1k zbh rfl (by kernel_rfl) rfl) (z0l (z1k zlh rfl (by kernel_rfl) rfl) (z1k zeT rfl (by kernel_rfl) rfl))) (by kernel_rfl) rfl
theorem zlm : StOk (z0t 7 z4w) zgR #[true, false, true, true, false, false, false, true, false, true, true, false, false, false, false, false, false] 11 [1, 8] := z5l zeU rfl (by kernel_rfl)
theorem zln : StOk (z0t 7 z4w) zgS #[true, false, true, true, false, false, false, true, true, true, false, false, false, false, false, false, false] 11 [1] := z5l zeV rfl (by kernel_rfl)
theorem zlo : StOk (z0t 7 z4w) zgT #[true, false, true, true, true, false, false, true, false, true, false, false, false, false, false, false, false] 11 [1, 8] := z0V (z0l (z1k zeX rfl (by kernel_rfl) rfl) (z0l (z1k zli rfl (by kernel_rfl) rfl) (z0l (z1k zeV rfl (by kernel_rfl) rfl) (z1k zeU rfl (by kernel_rfl) rfl)))) (by kernel_rfl) rfl
theorem zeZ : StOk (z0t 7 z4w) zd4 #[true, true, true, false, false, false, false, true, false, true, true, false, false, false, false, false, false] 11 [6, 8] := z0V (z0l (z1k zlj rfl (by kernel_rfl) rfl) (z0l (z1k zbh rfl (by kernel_rfl) rfl) (z1k zeW rfl (by kernel_rfl) rfl))) (by kernel_rfl) rfl
theorem zf0 : StOk (z0t 7 z4w) zd5 #[true, true, true, false, false, false, false, true, true, true, false, false, false, false, false, false, false] 11 [6] := z0V (z0l (z1k zlk rfl (by kernel_rfl) rfl) (z1k zbh rfl (by kernel_rfl) rfl)) (by kernel_rfl) rfl
theorem zn6 : StOk (z0t 7 z4w) zjJ #[true, true, true, true, false, false, false, true, false, true, false, false, false, false, false, false, false] 11 [6, 8] := z5l zeX rfl (by kernel_rfl)
theorem zn7 : StOk (z0t 7 z4w) zjK #[true, false, true, false, false, false, false, true, false, true, true, false, false, false, false, false, false] 12 [1, 8] := z0V (z0l (z1k zeZ rfl (by kernel_rfl) rfl) (z0l (z1k zlm rfl (by kernel_rfl) rfl) (z0l (z1k zeY rfl (by kernel_rfl) rfl) (z1k zll rfl (by kernel_rfl) rfl)))) (by kernel_rfl) rfl
theorem zn8 : StOk (z0t 7 z4w) zjL #[true, false, true, false, false, false, false, true, true, true, false, false, false, false, false, false, false] 12 [1] := z0V (z0l (z1k zf0 rfl (by kernel_rfl) rfl) (z0l (z1k zln rfl (by kernel_rfl) rfl) (z1k zeY rfl (by kernel_rfl) rfl))) (by kernel_rfl) rfl
theorem zn9 : StOk (z0t 7 z4w) zjM #[true, false, true, true, false, false, false, true, false, true, false, false, false, false, false, false, false] 12 [1, 8] := z5l zlo rfl (by kernel_rfl)
theorem zna : StOk (z0t 7 z4w) zjN #[true, true, true, false, false, false, false, true, false, true, false, false, false, false, false, false, false] 12 [6, 8] := z0V (z0l (z1k zn6 rfl (by kernel_rfl) rfl) (z0l (z1k zf0 rfl (by kernel_rfl) rfl) (z1k zeZ rfl (by kernel_rfl) rfl))) (by kernel_rfl) rfl
theorem znb : StOk (z0t 7 z4w) zjO #[true, false, true, false, false, false, false, true, false, true, false, false, false, false, false, false, false] 13 [1, 8] := z0V (z0l (z1k zna rfl (by kernel_rfl) rfl) (z0l (z1k zn9 rfl (by kernel_rfl) rfl) (z0l (z1k zn8 rfl (by kernel_rfl) rfl) (z1k zn7 rfl (by kernel_rfl) rfl)))) (by kernel_rfl) rfl
theorem znc : StOk (z0t 7 z4w) zjP #[true, false, true, false, false, false, false, true, false, false, false, false, false, false, false, false, false] 14 [1, 8] := z5l znb rfl (by kernel_rfl)
theorem znd : StOk (z0t 7 z4w) zjQ #[true, false, true, false, false, false, false, false, false, false, false, false, false, false, false, false, false] 15 [1, 8] := z5l znc rfl (by kernel_rfl)
theorem zne : StOk (z0t 7 z4w) zjR #[true, false, false, false, false, false, false, false, false, false, false, false, false, false, false, false, false] 16 [1, 8] := z5l znd rfl (by kernel_rfl)
theorem znf : StOk (z0t 7 z4w) zjS #[false, false, false, false, false, false, false, false, false, false, false, false, false, false, false, false, false] 17 [1, 8] := z5l zne rfl (by kernel_rfl)
theorem ztQ : z3o Try.prog 32 cf32 = true := zj8 [7] zvh zvl rfl (by kernel_rfl) (by simp only [List.forall_mem_cons]; exact ⟨⟨_, rfl, zfV (by kernel_rfl) znf (by kernel_rfl) (by kernel_rfl)⟩, fun _ h => by cases h⟩)
theorem ztP : z3o Try.prog 33 cf33 = true := by kernel_rfl
theorem ztO : z3o Try.prog 34 cf34 = true := by kernel_rfl
theorem ztN : z3o Try.prog 35 cf35 = true := by kernel_rfl
theorem ztM : z3o Try.prog 36 cf36 = true := by kernel_rfl
theorem ztL : z3o Try.prog 37 cf37 = true := by kernel_rfl
theorem ztK : z3o Try.prog 38 cf38 = true := by kernel_rfl
theorem ztJ : z3o Try.prog 39 cf39 = true := by kernel_rfl
theorem ztI : z3o Try.prog 40 cf40 = true := by kernel_rfl
theorem ztH : z3o Try.prog 41 cf41 = true := by kernel_rfl
theorem ztG : z3o Try.prog 42 cf42 = true := by kernel_rfl
theorem ztF : z3o Try.prog 43 cf43 = true := by kernel_rfl
theorem ztE : z3o Try.prog 44 cf44 = true := by kernel_rfl
theorem ztD : z3o Try.prog 45 cf45 = true := by kernel_rfl
theorem ztC : z3o Try.prog 46 cf46 = true := by kernel_rfl
theorem ztB : z3o Try.prog 47 cf47 = true := by kernel_rfl
theorem ztA : z3o Try.prog 48 cf48 = true := by kernel_rfl
theorem ztz : z3o Try.prog 49 cf49 = true := by kernel_rfl
theorem zty : z3o Try.prog 50 cf50 = true := by kernel_rfl
theorem ztx : z3o Try.prog 51 cf51 = true := by kernel_rfl
theorem ztw : z3o Try.prog 52 cf52 = true := by kernel_rfl
theorem ztv : z3o Try.prog 53 cf53 = true := by kernel_rfl
theorem ztu : z3o Try.prog 54 cf54 = true := by kernel_rfl
theorem ztt : z3o Try.prog 55 cf55 = true := by kernel_rfl
theorem zts : z3o Try.prog 56 cf56 = true := by kernel_rfl
theorem ztr : z3o Try.prog 57 cf57 = true := by kernel_rfl
theorem ztq : z3o Try.prog 58 cf58 = true := by kernel_rfl
theorem ztp : z3o Try.prog 59 cf59 = true := by kernel_rfl
theorem zto : z3o Try.prog 60 cf60 = true := by kernel_rfl
theorem ztn : z3o Try.prog 61 cf61 = true := by kernel_rfl
theorem ztm : z3o Try.prog 62 cf62 = true := by kernel_rfl
theorem ztl : z3o Try.prog 63 cf63 = true := by kernel_rfl
theorem ztk : z3o Try.prog 65 cf65 = true := by kernel_rfl
theorem ztj : z3o Try.prog 66 cf66 = true := by kernel_rfl
theorem zti : z3o Try.prog 67 cf67 = true := by kernel_rfl
theorem zth : z3o Try.prog 68 cf68 = true := by kernel_rfl
theorem ztg : z3o Try.prog 69 cf69 = true := by kernel_rfl
theorem ztf : z3o Try.prog 70 cf70 = true := by kernel_rfl
theorem zte : z3o Try.prog 71 cf71 = true := by kernel_rfl
theorem ztd : z3o Try.prog 72 cf72 = true := by kernel_rfl
theorem ztc : z3o Try.prog 73 cf73 = true := by kernel_rfl
theorem ztb : z3o Try.prog 74 cf74 = true := by kernel_rfl
theorem zta : z3o Try.prog 76 cf76 = true := by kernel_rfl
theorem zt9 : z3o Try.prog 77 cf77 = true := by kernel_rfl
theorem zt8 : z3o Try.prog 78 cf78 = true := by kernel_rfl
theorem zt7 : z3o Try.prog 79 cf79 = true := by kernel_rfl
theorem zt6 : z3o Try.prog 80 cf80 = true := by kernel_rfl
theorem zt5 : z3o Try.prog 88 cf88 = true := by kernel_rfl
theorem zt4 : z3o Try.prog 89 cf89 = true := by kernel_rfl
theorem zt3 : z3o Try.prog 90 cf90 = true := by kernel_rfl
theorem zt2 : z3o Try.prog 91 cf91 = true := by kernel_rfl
theorem zt1 : z3o Try.prog 92 cf92 = true := by kernel_rfl
theorem zt0 : z3o Try.prog 98 cf98 = true := by kernel_rfl
theorem zsc : z3o Try.prog 100 cf100 = true := by kernel_rfl
theorem z1H {p : Prop} [Decidable p] {a c : Cfg} {r : Option Cfg} {G : Prop} (h : (if p then some a else r) = some c) (h1 : p → a = c → G) (h2 : r = some c → G) : G := by
  split at h
  · rename_i hp; exact h1 hp (Option.some.inj h)
  · exact h2 h
theorem zwF : ∀ f c, z1C f = some c → z3o Try.prog f c = true := by
  intro f c h
  unfold z1C at h
  refine z1H h (fun e h => by rw [e, ← h]; exact zwD) fun h => ?_
  refine z1H h (fun e h => by rw [e, ← h]; exact zwC) fun h => ?_
  refine z1H h (fun e h => by rw [e, ← h]; exact zwB) fun h => ?_
  refine z1H h (fun e h => by rw [e, ← h]; exact zwA) fun h => ?_
  refine z1H h (fun e h => by rw [e, ← h]; exact zwz) fun h => ?_
  refine z1H h (fun e h => by rw [e, ← h]; exact zwy) fun h => ?_
  refine z1H h (fun e h => by rw [e, ← h]; exact zuc) fun h => ?_
  refine z1H h (fun e h => by rw [e, ← h]; exact zub) fun h => ?_
  refine z1H h (fun e h => by rw [e, ← h]; exact zua) fun h => ?_
  refine z1H h (fun e h => by rw [e, ← h]; exact zu9) fun h => ?_
  refine z1H h (fun e h => by rw [e, ← h]; exact zu8) fun h => ?_
  refine z1H h (fun e h => by rw [e, ← h]; exact zu7) fun h => ?_
  refine z1H h (fun e h => by rw [e, ← h]; exact zu6) fun h => ?_
  refine z1H h (fun e h => by rw [e, ← h]; exact zu5) fun h => ?_
  refine z1H h (fun e h => by rw [e, ← h]; exact zu4) fun h => ?_
  refine z1H h (fun e h => by rw [e, ← h]; exact zu3) fun h => ?_
  refine z1H h (fun e h => by rw [e, ← h]; exact zu2) fun h => ?_
  refine z1H h (fun e h => by rw [e, ← h]; exact zu1) fun h => ?_
  refine z1H h (fun e h => by rw [e, ← h]; exact zu0) fun h => ?_
  refine z1H h (fun e h => by rw [e, ← h]; exact ztZ) fun h => ?_
  refine z1H h (fun e h => by rw [e, ← h]; exact ztY) fun h => ?_
  refine z1H h (fun e h => by rw [e, ← h]; exact ztX) fun h => ?_
  refine z1H h (fun e h => by rw [e, ← h]; exact ztW) fun h => ?_
  refine z1H h (fun e h => by rw [e, ← h]; exact ztV) fun h => ?_
  refine z1H h (fun e h => by rw [e, ← h]; exact ztU) fun h => ?_
  refine z1H h (fun e h => by rw [e, ← h]; exact ztT) fun h => ?_
  refine z1H h (fun e h => by rw [e, ← h]; exact ztS) fun h => ?_
  refine z1H h (fun e h => by rw [e, ← h]; exact ztR) fun h => ?_
  refine z1H h (fun e h => by rw [e, ← h]; exact ztQ) fun h => ?_
  refine z1H h (fun e h => by rw [e, ← h]; exact ztP) fun h => ?_
  refine z1H h (fun e h => by rw [e, ← h]; exact ztO) fun h => ?_
  refine z1H h (fun e h => by rw [e, ← h]; exact ztN) fun h => ?_
  refine z1H h (fun e h => by rw [e, ← h]; exact ztM) fun h => ?_
  refine z1H h (fun e h => by rw [e, ← h]; exact ztL) fun h => ?_
  refine z1H h (fun e h => by rw [e, ← h]; exact ztK) fun h => ?_
  refine z1H h (fun e h => by rw [e, ← h]; exact ztJ) fun h => ?_
  refine z1H h (fun e h => by rw [e, ← h]; exact ztI) fun h => ?_
  refine z1H h (fun e h => by rw [e, ← h]; exact ztH) fun h => ?_
  refine z1H h (fun e h => by rw [e, ← h]; exact ztG) fun h => ?_
  refine z1H h (fun e h => by rw [e, ← h]; exact ztF) fun h => ?_
  refine z1H h (fun e h => by rw [e, ← h]; exact ztE) fun h => ?_
  refine z1H h (fun e h => by rw [e, ← h]; exact ztD) fun h => ?_
  refine z1H h (fun e h => by rw [e, ← h]; exact ztC) fun h => ?_
  refine z1H h (fun e h => by rw [e, ← h]; exact ztB) fun h => ?_
  refine z1H h (fun e h => by rw [e, ← h]; exact ztA) fun h => ?_
  refine z1H h (fun e h => by rw [e, ← h]; exact ztz) fun h => ?_
  refine z1H h (fun e h => by rw [e, ← h]; exact zty) fun h => ?_
  refine z1H h (fun e h => by rw [e, ← h]; exact ztx) fun h => ?_
  refine z1H h (fun e h => by rw [e, ← h]; exact ztw) fun h => ?_
  refine z1H h (fun e h => by rw [e, ← h]; exact ztv) fun h => ?_
  refine z1H h (fun e h => by rw [e, ← h]; exact ztu) fun h => ?_
  refine z1H h (fun e h => by rw [e, ← h]; exact ztt) fun h => ?_
  refine z1H h (fun e h => by rw [e, ← h]; exact zts) fun h => ?_
  refine z1H h (fun e h => by rw [e, ← h]; exact ztr) fun h => ?_
  refine z1H h (fun e h => by rw [e, ← h]; exact ztq) fun h => ?_
  refine z1H h (fun e h => by rw [e, ← h]; exact ztp) fun h => ?_
  refine z1H h (fun e h => by rw [e, ← h]; exact zto) fun h => ?_
  refine z1H h (fun e h => by rw [e, ← h]; exact ztn) fun h => ?_
  refine z1H h (fun e h => by rw [e, ← h]; exact ztm) fun h => ?_
  refine z1H h (fun e h => by rw [e, ← h]; exact ztl) fun h => ?_
  refine z1H h (fun e h => by rw [e, ← h]; exact ztk) fun h => ?_
  refine z1H h (fun e h => by rw [e, ← h]; exact ztj) fun h => ?_
  refine z1H h (fun e h => by rw [e, ← h]; exact zti) fun h => ?_
  refine z1H h (fun e h => by rw [e, ← h]; exact zth) fun h => ?_
  refine z1H h (fun e h => by rw [e, ← h]; exact ztg) fun h => ?_
  refine z1H h (fun e h => by rw [e, ← h]; exact ztf) fun h => ?_
  refine z1H h (fun e h => by rw [e, ← h]; exact zte) fun h => ?_
  refine z1H h (fun e h => by rw [e, ← h]; exact ztd) fun h => ?_
  refine z1H h (fun e h => by rw [e, ← h]; exact ztc) fun h => ?_
  refine z1H h (fun e h => by rw [e, ← h]; exact ztb) fun h => ?_
  refine z1H h (fun e h => by rw [e, ← h]; exact zta) fun h => ?_
  refine z1H h (fun e h => by rw [e, ← h]; exact zt9) fun h => ?_
  refine z1H h (fun e h => by rw [e, ← h]; exact zt8) fun h => ?_
  refine z1H h (fun e h => by rw [e, ← h]; exact zt7) fun h => ?_
  refine z1H h (fun e h => by rw [e, ← h]; exact zt6) fun h => ?_
  refine z1H h (fun e h => by rw [e, ← h]; exact zt5) fun h => ?_
  refine z1H h (fun e h => by rw [e, ← h]; exact zt4) fun h => ?_
  refine z1H h (fun e h => by rw [e, ← h]; exact zt3) fun h => ?_
  refine z1H h (fun e h => by rw [e, ← h]; exact zt2) fun h => ?_
  refine z1H h (fun e h => by rw [e, ← h]; exact zt1) fun h => ?_
  refine z1H h (fun e h => by rw [e, ← h]; exact zt0) fun h => ?_
  refine z1H h (fun e h => by rw [e, ← h]; exact zsc) fun h => ?_
  cases h
end Go.Proofs.Ytbnnipkanechoaa
end
