/- Proved here: a part of the proof of the law at hand, in one text: no condition. -/
import Derived.Test.YtbnnipkanechoaaMImagesChecks4
import Derived.KernelRfl
import Derived.WalkKit
import Derived.WalkSpells
import Derived.WalkLawsBesides
import Derived.Lib.Hide
import Derived.Deep.OwnRows
import Derived.Deep.RegionLaw
set_option linter.unusedVariables false
set_option linter.unusedSimpArgs false
section
namespace Go.Proofs.Ytbnnipkanechoaa
open Go
set_option maxRecDepth 100000
def zf1 (S : List Nat) (i j : Nat) : Bool := !decide (j = i) && decide (S.getD j 0 &&& S.getD i 0 = S.getD j 0)
def zi5 (S : List Nat) (i : Nat) : List Nat := (List.range S.length).filter (zf1 S i)
def zi8 (S : List Nat) (i j : Nat) : Bool := (zi5 S i).all fun k => decide (k = j) || !decide (S.getD j 0 &&& S.getD k 0 = S.getD j 0)
def zeN (S : List Nat) (i : Nat) : List Nat := if szN (S.getD i 0) = 1 then [] else (zi5 S i).filter (zi8 S i)
theorem zhR {α : Type} {p : α -> Bool} {l : List α} {k : Nat} (h : k < l.length) : (l.take (k + 1)).filter p = (l.take k).filter p ++ (if p l[k] = true then [l[k]] else []) := by
 rw [List.take_succ_eq_append_getElem h, List.filter_append, List.filter_cons, List.filter_nil]
theorem ztu {S : List Nat} {i j : Nat} (h : j ∈ zi5 S i) : j < S.length := List.mem_range.1 (List.mem_filter.1 h).1
theorem zeA {α : Type} (p : α -> Bool) (l : List α) : (l.filter p).length <= l.length := List.length_filter_le p l
theorem zuy {d : DFA} {m n : Nat} (hn : n <= 7) {S : List Nat} (hS : SetsP d m n S) {i : Nat} (hi : i < S.length) : z3q (dgm d m n S) (i : Int) = some (toI (zeN S i)) := by
 have h128 : 2 ^ n <= 128 := Nat.pow_le_pow_right (n := 2) (by omega) hn
 have hSl := z1r hS.nd hS.lt
 have ed : (dgm d m n S).sets = toI S := rfl
 have lt62 : ∀ j, j < S.length -> S.getD j 0 < 2 ^ 62 := fun j hj => by have := hS.lt _ (z1x hj); omega
 have hil := hS.lt _ (z1x hi)
 unfold z3q zeN
 rw [ed, z2Q hi, Option.bind_some, zsC (by omega), Option.bind_some]
 by_cases hz : szN (S.getD i 0) = 1
 ·rw [if_pos (by omega), if_pos hz]; rfl
 rw [if_neg (by omega), if_neg hz]
 have hrl : (List.range S.length).length = S.length := List.length_range
 refine z1I (s := ((0 : Int), ([] : List Int))) S.length (fun j => ((j : Int), toI (((List.range S.length).take j).filter (zf1 S i)))) rfl (by simp only [LFm]; omega) (fun j hj => ?_) ?_
 ·have hfl : (((List.range S.length).take j).filter (zf1 S i)).length <= j := Nat.le_trans (zeA _ _) (by rw [List.length_take]; omega)
  have hst := zhR (p := zf1 S i) (l := List.range S.length) (k := j) (by omega)
  rw [List.getElem_range] at hst
  simp only [z3t]
  rw [ed, if_pos (by rw [z0v]; omega), z2Q hj, Option.bind_some, z1X (by omega), hst]
  by_cases e : j = i
  ·have : zf1 S i j = false := by unfold zf1; rw [decide_eq_true e]; rfl
   rw [if_pos (by omega), this, if_neg (by simp), List.append_nil]
  ·rw [if_neg (by omega), z2Q hi, Option.bind_some, zbt (lt62 i hi) (lt62 j hj), Option.bind_some]
   have : zf1 S i j = decide (S.getD j 0 &&& S.getD i 0 = S.getD j 0) := by unfold zf1; rw [decide_eq_false e]; rfl
   rw [this]
   by_cases h : decide (S.getD j 0 &&& S.getD i 0 = S.getD j 0) = true
   ·rw [if_pos h, if_pos h, z0K _ (by unfold z2i; rw [z0v]; omega), z6Q]
   ·rw [if_neg h, if_neg h, List.append_nil]
 ·simp only [z3t]
  rw [ed, if_neg (by rw [z0v]; omega), List.take_of_length_le (by omega)]
  congr 1
  have hil : (zi5 S i).length <= S.length := Nat.le_trans (zeA _ _) (by omega)
  show z1b (z2w (dgm d m n S) (toI (zi5 S i))) LFm (0, []) = _
  refine z1I (s := ((0 : Int), ([] : List Int))) (zi5 S i).length (fun q => ((q : Int), toI (((zi5 S i).take q).filter (zi8 S i)))) rfl (by simp only [LFm]; omega) (fun q hq => ?_) ?_
  ·have hfl : (((zi5 S i).take q).filter (zi8 S i)).length <= q := Nat.le_trans (zeA _ _) (by rw [List.length_take]; omega)
   have hst := zhR (p := zi8 S i) (l := zi5 S i) (k := q) hq
   have hg : (zi5 S i).getD q 0 = (zi5 S i)[q] := by rw [List.getD, List.getElem?_eq_getElem hq, Option.getD_some]
   have hjl : (zi5 S i)[q] < S.length := ztu (List.getElem_mem hq)
   simp only [z2w]
   rw [if_pos (by rw [z0v]; omega), z2Q hq, Option.bind_some, hg, hst]
   generalize (zi5 S i)[q] = j at hjl
   rw [z9Z (s := (0 : Int)) (zi5 S i).length (fun k => (k : Int)) (fun k => !(decide ((zi5 S i).getD k 0 = j) || !decide (S.getD j 0 &&& S.getD ((zi5 S i).getD k 0) 0 = S.getD j 0))) (fun _ => z0B (((q + 1 : Nat) : Int), toI (((zi5 S i).take q).filter (zi8 S i)))) (x := z0B (((q + 1 : Nat) : Int), toI (((zi5 S i).take q).filter (zi8 S i)) ++ [(j : Int)])) rfl (by simp only [LFm]; omega)]
   ·rw [zps]
    simp only [Bool.not_not]
    rw [zmt (fun k => decide (k = j) || !decide (S.getD j 0 &&& S.getD k 0 = S.getD j 0))]
    show (if zi8 S i j = true then _ else _) = _
    by_cases h : zi8 S i j = true
    ·rw [if_pos h, if_pos h, z6Q]
    ·rw [if_neg h, if_neg h, List.append_nil]
   ·intro k hk
    have hkl : (zi5 S i).getD k 0 < S.length := ztu (z1x hk)
    simp only [z3n]
    rw [if_pos (by rw [z0v]; omega), z2Q hk, Option.bind_some]
    by_cases e : (zi5 S i).getD k 0 = j
    ·rw [if_pos (by omega), decide_eq_true e, z1X (by omega)]; rfl
    ·rw [if_neg (by omega), decide_eq_false e, ed, z2Q hkl, Option.bind_some, z2Q hjl, Option.bind_some, zbt (lt62 _ hkl) (lt62 _ hjl), Option.bind_some, Bool.false_or, Bool.not_not, z1X (by omega), z1X (by omega)]
   ·simp only [z3n]
    rw [if_neg (by rw [z0v]; omega), z0K _ (by unfold z2i; rw [z0v]; omega), z1X (by omega)]
  ·simp only [z2w]
   rw [if_neg (by rw [z0v]; omega), List.take_length]
def z5F (d : DFA) (m n : Nat) (S : List Nat) (i : Nat) : Nat := (zob d m n S).getD (z7t (z2L d m n S) S.length i) 0
def zi6 (d : DFA) (m n : Nat) (S : List Nat) (i : Nat) : ByteArray := z6k (z1s d m n (S.getD (z5F d m n S i) 0)) (S.getD i 0)
def zoq (d : DFA) (m n : Nat) (S : List Nat) (i : Nat) : ByteArray := z6k (z1s d m n (S.getD i 0)) (S.getD (z5F d m n S i) 0)
def z5S (d : DFA) (m n : Nat) (S : List Nat) : Imgs := ⟨toI S, zpE d m n S, zvJ d m n S, (List.range S.length).map fun i => toI (zeN S i), (List.range S.length).map (zi6 d m n S), (List.range S.length).map (zoq d m n S)⟩
theorem ztI {d : DFA} {m n : Nat} {S : List Nat} {c : Nat} (hc : c < (zob d m n S).length) : (zob d m n S).getD c 0 < S.length := zdf _ _ _ (z1x hc)
theorem znm {d : DFA} {m n : Nat} (hd : DfaOk d m n) {S : List Nat} (hS : SetsP d m n S) (hSl : S.length < 100000) {c : Nat} (hc : c < (zob d m n S).length) (q : List Int) :
  z1b (z5E (toI S) (zpE d m n S, toI (zob d m n S)) (c : Int) (q, zkM S (z1s d m n (S.getD ((zob d m n S).getD c 0) 0)))) LFm (0, (List.range S.length).map fun j => if z7t (z2L d m n S) S.length j < c then zi6 d m n S j else ByteArray.empty) =
   z0B (((c + 1 : Nat) : Int), (List.range S.length).map fun j => if z7t (z2L d m n S) S.length j < c + 1 then zi6 d m n S j else ByteArray.empty) := by
 have hcl : (zob d m n S).length <= S.length := zhJ _ _
 refine z1I (s := ((0 : Int), (List.range S.length).map fun j => if z7t (z2L d m n S) S.length j < c then zi6 d m n S j else ByteArray.empty)) S.length (fun k => ((k : Int), (List.range S.length).map fun j => if z7t (z2L d m n S) S.length j < c ∨ (z7t (z2L d m n S) S.length j = c /\ j < k) then zi6 d m n S j else ByteArray.empty)) ?_ (by simp only [LFm]; omega) (fun k hk => ?_) ?_
 ·refine Prod.ext rfl (List.map_congr_left fun j hj => ?_)
  simp
 ·simp only [z5E]
  rw [if_pos (by rw [z0v]; omega), zpE, z3m hk, Option.bind_some, z1X (by omega)]
  by_cases h : z7t (z2L d m n S) S.length k = c
  ·have hw : z6k (z1s d m n (S.getD ((zob d m n S).getD c 0) 0)) (S.getD k 0) = zi6 d m n S k := by unfold zi6 z5F; rw [h]
   rw [if_pos (by omega), zkM, z3m hk, Option.bind_some, hw, z3m hk, Option.bind_some, Int.toNat_natCast]
   refine congrArg z0B (Prod.ext rfl ?_)
   apply List.ext_getElem (by simp)
   intro j h1 h2
   simp only [List.getElem_set, List.getElem_map, List.getElem_range]
   by_cases e : k = j
   ·subst e; rw [if_pos rfl, if_pos (.inr ⟨h, by omega⟩)]
   ·rw [if_neg e]
    congr 1
    refine propext ⟨fun hh => hh.imp id fun hh => ⟨hh.1, by omega⟩, fun hh => hh.imp id fun hh => ⟨hh.1, by omega⟩⟩
  ·rw [if_neg (by omega)]
   refine congrArg z0B (Prod.ext rfl (List.map_congr_left fun j hj => ?_))
   congr 1
   refine propext ⟨fun hh => hh.imp id fun hh => ⟨hh.1, by omega⟩, fun hh => hh.imp id fun hh => ⟨hh.1, ?_⟩⟩
   have : j ≠ k := fun e => h (e ▸ hh.1)
   omega
 ·simp only [z5E]
  rw [if_neg (by rw [z0v]; omega), z1X (by omega)]
  congr 3
  refine List.map_congr_left fun j hj => ?_
  have hj := List.mem_range.1 hj
  congr 1
  refine propext ⟨fun hh => ?_, fun hh => ?_⟩
  ·rcases hh with hh | hh <;> omega
  ·by_cases e : z7t (z2L d m n S) S.length j = c
   ·exact .inr ⟨e, hj⟩
   ·exact .inl (by omega)
theorem zAM {d : DFA} {m n : Nat} (hd : DfaOk d m n) (hn : n <= 7) : z7G d = some (z5S d m n (z5t d m n), 0) := by
 have h128 : 2 ^ n <= 128 := Nat.pow_le_pow_right (n := 2) (by omega) hn
 have hS := zk5 hd
 have hSl := z1r hS.nd hS.lt
 have he := zdh hd hS
 unfold z7G
 rw [zno (zvM hd (by omega)), zvF hd (by omega), Option.bind_some, if_pos rfl, zwi hd hn, Option.bind_some]
 generalize z5t d m n = S at hS hSl he
 have hcl : (zob d m n S).length <= S.length := zhJ _ _
 rw [if_neg (by rw [z0v]; omega), zru hd (by omega) hS, Option.bind_some, zrz hd (by omega) hS, Option.bind_some]
 simp only
 rw [zrl hd hn hS, Option.bind_some, z0v, z0K _ (by unfold z2k; omega), z0K _ (by unfold z2k; omega), Int.toNat_natCast]
 have f1 : List.replicate S.length ([] : List Int) = z1N S.length (fun i => toI (zeN S i)) [] 0 := (z7J _ _ _).symm
 have f2 : List.replicate S.length (ByteArray.empty : ByteArray) = z1N S.length (zoq d m n S) ByteArray.empty 0 := (z7J _ _ _).symm
 rw [f1, f2]
 refine z1I (s := ((0 : Int), z1N S.length (fun i => toI (zeN S i)) [] 0, z1N S.length (zoq d m n S) ByteArray.empty 0)) S.length (fun k => ((k : Int), z1N S.length (fun i => toI (zeN S i)) [] k, z1N S.length (zoq d m n S) ByteArray.empty k)) rfl (by simp only [LFm]; omega) (fun k hk => ?_) ?_
 ·obtain ⟨c1, c2⟩ := zhU he hk
  have c1 : z7t (z2L d m n S) S.length k < (zob d m n S).length := c1
  have hf : (zob d m n S).getD (z7t (z2L d m n S) S.length k) 0 < S.length := ztI c1
  simp only [z7j]
  rw [if_pos (by rw [z0v]; omega), zuy hn hS hk, Option.bind_some, z5X hk, Option.bind_some, show dgm d m n S = ⟨toI S, zwN d m S, zvm d m n S⟩ from rfl, zhl hd (by omega) hS _ hk, Option.bind_some, zpE, z3m hk, Option.bind_some, z2Q c1, Option.bind_some, show (zib S (z1s d m n (S.getD k 0)), zkM S (z1s d m n (S.getD k 0))).2 = zkM S (z1s d m n (S.getD k 0)) from rfl, zkM, z3m hf, Option.bind_some, z5X hk, Option.bind_some, z1X (by omega), Int.toNat_natCast]
  have e1 := z4r (f := fun i => toI (zeN S i)) (z := []) hk
  have e2 := z4r (f := zoq d m n S) (z := ByteArray.empty) hk
  have e3 : z6k (z1s d m n (S.getD k 0)) (S.getD ((zob d m n S).getD (z7t (z2L d m n S) S.length k) 0) 0) = zoq d m n S k := rfl
  rw [e1, e3, e2]
 ·simp only [z7j]
  rw [if_neg (by rw [z0v]; omega), z0v, z7I, z7I, Int.toNat_natCast]
  congr 1
  have f3 : List.replicate S.length (ByteArray.empty : ByteArray) = (List.range S.length).map fun j => if z7t (z2L d m n S) S.length j < 0 then zi6 d m n S j else ByteArray.empty := by
   apply List.ext_getElem (by simp); intro i h1 h2; simp
  rw [f3]
  refine z1I (s := ((0 : Int), (List.range S.length).map fun j => if z7t (z2L d m n S) S.length j < 0 then zi6 d m n S j else ByteArray.empty)) (zob d m n S).length (fun c => ((c : Int), (List.range S.length).map fun j => if z7t (z2L d m n S) S.length j < c then zi6 d m n S j else ByteArray.empty)) rfl (by simp only [LFm]; omega) (fun c hc => ?_) ?_
  ·have hf := ztI hc
   simp only [z7i]
   rw [if_pos (by rw [z0v]; omega), z2Q hc, Option.bind_some, show dgm d m n S = ⟨toI S, zwN d m S, zvm d m n S⟩ from rfl, zhl hd (by omega) hS _ hf, Option.bind_some, znm hd hS (by omega) hc]
  ·simp only [z7i]
   rw [if_neg (by rw [z0v]; omega)]
   have : ((List.range S.length).map fun j => if z7t (z2L d m n S) S.length j < (zob d m n S).length then zi6 d m n S j else ByteArray.empty) = (List.range S.length).map (zi6 d m n S) := List.map_congr_left fun j hj => if_pos (zhU he (List.mem_range.1 hj)).1
   rw [this]; rfl
end Go.Proofs.Ytbnnipkanechoaa
end
section
namespace Go.Proofs.Ytbnnipkanechoaa
open Go
set_option maxRecDepth 100000
theorem zm8 (s : Nat) : szN s = z7L (fun q => s.testBit q) 7 := by
 simp only [szN, z7L, List.range, List.range.loop, List.countP_cons, List.countP_nil]
 omega
theorem zD4 {s : Nat} (h : s < 128) {q : Nat} (hq : s.testBit q = true) : q < 7 := by
 rcases Nat.lt_or_ge q 7 with h' | h'
 ·exact h'
 ·have : s.testBit q = false := Nat.testBit_lt_two_pow (Nat.lt_of_lt_of_le h (Nat.pow_le_pow_right (n := 2) (by omega) h'))
  rw [this] at hq; cases hq
theorem zsu {a b : Nat} (h : zkI a b) : szN a <= szN b := by
 rw [zm8, zm8]; exact zpD fun q _ hq => z6b.1 h q hq
theorem zye {a b : Nat} (hb : b < 128) (h : zkI a b) (hne : a ≠ b) : szN a < szN b := by
 have : ∃ q, b.testBit q = true /\ a.testBit q = false := by
  refine Classical.byContradiction fun hn => hne (zma h (z6b.2 fun q hq => ?_))
  cases ha : a.testBit q with
  | true => rfl
  | false => exact absurd ⟨q, hq, ha⟩ hn
 obtain ⟨q, h1, h2⟩ := this
 rw [zm8, zm8]
 exact zjv (fun q _ hq => z6b.1 h q hq) (zD4 hb h1) h2 h1
theorem zyf {a b : Nat} (hb : b < 128) (h : zkI a b) (he : szN b <= szN a) : a = b := by
 refine Classical.byContradiction fun hne => ?_
 have := zye hb h hne
 omega
theorem zst {x p : Nat} (hx : x < 128) (hp : p < 7) : szN (x ||| 2 ^ p) <= szN x + 1 := by
 revert p; revert x; decide +kernel
abbrev zwP (m : Nat) (w : List UInt8) : Prop := ∀ c ∈ w, 97 <= c.toNat /\ c.toNat < 97 + m
theorem ztg {m : Nat} {c : UInt8} {w : List UInt8} (h : zwP m (c :: w)) : zwP m w /\ c.toNat - 97 < m := ⟨fun c' hc' => h c' (List.mem_cons_of_mem _ hc'), by have := h c (List.mem_cons_self ..); omega⟩
theorem zym {d : DFA} {m n : Nat} (hd : DfaOk d m n) (hn : n <= 7) {s a : Nat} (hs : s < 2 ^ n) (ha : a < m) : szN (mvN d s a) <= szN s := by
 have h128 : 2 ^ n <= 128 := Nat.pow_le_pow_right (n := 2) (by omega) hn
 have key : ∀ q, q <= n -> szN (zmB d.next s a q) <= z7L (fun q => s.testBit q) q := by
  intro q
  induction q with
  | zero => intro _; exact (by decide : szN 0 <= 0)
  | succ q ih =>
   intro hq
   have hlt := zhv hd (s := s) ha q (by omega)
   obtain ⟨h1, h2, e, h3, h4⟩ := zhn hd (q := q) (by omega) ha
   simp only [zmB, z7L]
   by_cases hb : s.testBit q = true
   ·rw [if_pos hb, if_pos hb]
    have := zst (x := zmB d.next s a q) (p := ((d.next.getD q []).getD a 0).toNat) (by omega) (by rw [e]; omega)
    have := ih (by omega)
    omega
   ·rw [if_neg hb, if_neg hb]
    have := ih (by omega)
    omega
 have h1 := key n (Nat.le_refl _)
 have h2 : z7L (fun q => s.testBit q) n <= szN s := by
  rw [zm8]
  have : ∀ j, z7L (fun q => s.testBit q) n <= z7L (fun q => s.testBit q) (n + j) := by
   intro j
   induction j with
   | zero => exact Nat.le_refl _
   | succ j ih => rw [← Nat.add_assoc]; simp only [z7L]; omega
  have := this (7 - n)
  rwa [show n + (7 - n) = 7 by omega] at this
 unfold mvN
 rw [hd.nl]
 omega
theorem znQ {d : DFA} {m n : Nat} (hd : DfaOk d m n) (hn : n <= 7) : ∀ {w : List UInt8} {s : Nat}, s < 2 ^ n -> zwP m w -> szN (zkJ d s w) <= szN s
 | [], s, _, _ => Nat.le_refl _
 | c :: w, s, hs, hw => by
  obtain ⟨h1, h2⟩ := ztg hw
  simp only [zkJ]
  exact Nat.le_trans (znQ hd hn (zjm hd h2) h1) (zym hd hn hs h2)
theorem zxn {d : DFA} {m n : Nat} (hd : DfaOk d m n) {s a : Nat} (hs : s < 2 ^ n) (h0 : s ≠ 0) (ha : a < m) : mvN d s a ≠ 0 := by
 obtain ⟨q, hq⟩ : ∃ q, s.testBit q = true := Nat.exists_testBit_of_ne_zero h0
 have hqn : q < n := by
  rcases Nat.lt_or_ge q n with h' | h'
  ·exact h'
  ·have : s.testBit q = false := Nat.testBit_lt_two_pow (Nat.lt_of_lt_of_le hs (Nat.pow_le_pow_right (n := 2) (by omega) h'))
   rw [this] at hq; cases hq
 intro h
 have := (zkf hd ha (s := s) ((d.next.getD q []).getD a 0).toNat).2 ⟨q, hqn, hq, rfl⟩
 rw [h, Nat.zero_testBit] at this
 cases this
theorem zuE {d : DFA} {m n : Nat} (hd : DfaOk d m n) {x : Nat} (hx : x ∈ z5t d m n) : x ≠ 0 := by
 have hp := Nat.two_pow_pos n
 have h2n : 2 <= 2 ^ n := by have := Nat.pow_le_pow_right (n := 2) (by omega) hd.n1; omega
 have hf : 2 ^ n - 1 < 2 ^ n := by omega
 have hi := z4E hd hf
 obtain ⟨_, h2, _⟩ := z6a hi.nd n
 have hpm := zaE (z8o (z1s d m n (2 ^ n - 1)).1 n)
 rcases (h2 x).1 (hpm.mem_iff.1 hx) with h | ⟨i, _, rfl⟩
 ·obtain ⟨i, hil, rfl⟩ := List.getElem_of_mem h
  obtain ⟨_, o2, o3⟩ := hi.ok i hil
  rw [List.getD, List.getD, List.getElem?_eq_getElem hil, Option.getD_some] at o3
  rw [← o3]
  have : ∀ {w : List UInt8} {s : Nat}, s < 2 ^ n -> s ≠ 0 -> zwP m w -> zkJ d s w ≠ 0 := by
   intro w
   induction w with
   | nil => intro s _ h0 _; exact h0
   | cons c w ih =>
    intro s hs h0 hw
    obtain ⟨q1, q2⟩ := ztg hw
    exact ih (zjm hd q2) (zxn hd hs h0 q2) q1
  exact this hf (by omega) o2
 ·exact Nat.ne_of_gt (Nat.two_pow_pos i)
theorem zss {S : List Nat} {i j : Nat} (hz : szN (S.getD i 0) ≠ 1) : j ∈ zeN S i ↔ j ∈ zi5 S i /\ zi8 S i j = true := by
 unfold zeN
 rw [if_neg hz, List.mem_filter]
theorem zvX {S : List Nat} {i j : Nat} (h : j ∈ zeN S i) : j ∈ zi5 S i /\ zi8 S i j = true /\ szN (S.getD i 0) ≠ 1 := by
 by_cases hz : szN (S.getD i 0) = 1
 ·unfold zeN at h; rw [if_pos hz] at h; simp at h
 ·exact ⟨((zss hz).1 h).1, ((zss hz).1 h).2, hz⟩
theorem zsr (S : List Nat) (i : Nat) : (zeN S i).Nodup := by
 unfold zeN
 split
 ·simp
 ·exact List.Pairwise.filter _ (List.Pairwise.filter _ List.nodup_range)
end Go.Proofs.Ytbnnipkanechoaa
end
section
namespace Go.Proofs.Ytbnnipkanechoaa
open Go
set_option maxRecDepth 100000
structure Lead (d : DFA) (m n K I : Nat) (w : List UInt8) : Prop where
 hw : zwP m w
 hK : K < 2 ^ n
 hI : I < 2 ^ n
 run : zkJ d K w = I
 sz : szN I = szN K
section
variable {d : DFA} {m n : Nat} {S : List Nat} (hd : DfaOk d m n) (hn : n <= 7) (hS : SetsP d m n S)
include hd hn hS
theorem zkv {k i : Nat} (hk : k < S.length) (hi : i < S.length) (he : z2L d m n S i k = true) : szN (S.getD i 0) = szN (S.getD k 0) /\ S.getD i 0 ∈ (z1s d m n (S.getD k 0)).1 := by
 have h128 : 2 ^ n <= 128 := Nat.pow_le_pow_right (n := 2) (by omega) hn
 simp only [z2L, Bool.and_eq_true] at he
 obtain ⟨w, w1, w2⟩ := (z4T hd hS hk).1 he.1
 obtain ⟨v, v1, v2⟩ := (z4T hd hS hi).1 he.2
 have hkl := hS.lt _ (z1x hk)
 have hil := hS.lt _ (z1x hi)
 have a1 := zsu w2
 have a2 := znQ hd hn hkl w1
 have a3 := zsu v2
 have a4 := znQ hd hn hil v1
 refine ⟨by omega, ?_⟩
 have hrl := zsN hd hkl w1
 have := zyf (by omega) w2 (by omega)
 rw [this]
 exact zhr hd hkl w1 (zeu hd hkl)
omit hn hS in
theorem zrS {s x : Nat} (hs : s < 2 ^ n) (hx : x ∈ (z1s d m n s).1) : zwP m (z6k (z1s d m n s) x).data.toList /\ (z6k (z1s d m n s) x).size <= 2 ^ n /\ zkJ d s (z6k (z1s d m n s) x).data.toList = x := by
 have hi := z4E hd hs
 have hl := z1r hi.nd hi.lt
 have hlt := zdd hx
 obtain ⟨o1, o2, o3⟩ := hi.ok _ hlt
 unfold z6k
 exact ⟨o2, by omega, by rw [o3, z9t hx]⟩
end
end Go.Proofs.Ytbnnipkanechoaa
end
section
namespace Go.Proofs.Ytbnnipkanechoaa
open Go Go.IntKind
noncomputable section
set_option maxRecDepth 100000
set_option maxHeartbeats 1000000
def z6l (a0 : Int) (a1 : Int) : Option (Bool) :=
 (z4L a0).bind fun v5 =>
 (z4L a1).bind fun v6 =>
 if v5 = v6 then
 some (decide (a0 < a1))
 else
 (z4L a0).bind fun v7 =>
 (z4L a1).bind fun v8 =>
 some (decide (v8 < v7))
theorem zhp {a0 : Int} {a1 : Int} {r : Bool} (h0 : z6l a0 a1 = some r) : L 72 [.sc (.int .i64 a0), .sc (.int .i64 a1)] = some (.sc (.bool r), [.dead, .dead]) := by
  simp only [z6l] at h0
  refine z2F zzZ zBs (z1w zDe ⟨of_decide_eq_true rfl, of_decide_eq_true rfl⟩ ?_)
  simp only [z1E, z1C, z1B, z1F, z3u]
  refine zp (zs ?_)
  refine z0a (zp (zp ?_))
  obtain ⟨v5, f6, h1⟩ := z0d h0
  have f6k := z4K f6
  try simp at f6k
  obtain ⟨v6, f7, h2⟩ := z0d h1
  have f7k := z4K f7
  try simp at f7k
  refine zr rfl rfl rfl (by simp [f6k, f7k]; rfl) ?_
  refine z0a ?_
  by_cases c8 : v5 = v6
  ·rw [if_pos c8] at h2
   have c8e := eq_true c8
   refine z0r rfl (by simp [c8e]) (z0j rfl (z0a (zp (zs ?_))))
   refine z0a (z1f rfl ?_)
   cases h2
   simp
  ·rw [if_neg c8] at h2
   have c8e := eq_false c8
   refine z0t rfl (by simp [c8e]) (zp ?_)
   obtain ⟨v7, f9, h3⟩ := z0d h2
   have f9k := z4K f9
   try simp at f9k
   obtain ⟨v8, f10, h4⟩ := z0d h3
   have f10k := z4K f10
   try simp at f10k
   refine zr rfl rfl rfl (by simp [f9k, f10k]; rfl) ?_
   refine z0a (z1f rfl (z0Q ?_))
   cases h4
   simp
def z6V (w98 : Int) (w99 : List Int) : Bool × Int -> Option ((Bool × Int) ⊕ ((Int × List Int) ⊕ List Int))
 | (w106, w107) =>
 if w107 < (w99.length : Int) then
 (atI w99 w107).bind fun v109 =>
 if w106 = true then
 z0B (true, i64.wrap (w107 + 1))
 else
 z0B (decide (v109 = (zk4 .i64 1 (u64.wrap w98))), i64.wrap (w107 + 1))
 else
 z1m <|
 if w106 = true then
 z0B (i64.wrap (w98 + 1), w99)
 else
 chk (z2i 8 (w99.length + 1)) <|
 z0B (i64.wrap (w98 + 1), w99 ++ [zk4 .i64 1 (u64.wrap w98)])
def z5w (a0 : DFA) (w98 : Int) (w99 : List Int) : Bool × Int -> Fr
 | (w106, w107) => ⟨92, [(3, .one (.h 3 [])), (6, .one (.t none (.sc (.int .i64 (zk4 .i64 1 (u64.wrap w98)))))), (7, .one (.t none (.sc (.bool w106)))), (22, .one (.t none (.sc (.int .i64 (a0.final.length : Int))))), (23, .one (.t none (.sc (.int .i64 w98)))), (29, .one (.h 3 [])), (30, .one (.t none (.sc (.int .i64 (w99.length : Int))))), (31, .one (.t none (.sc (.int .i64 w107))))], [(3, .os 1 w99.length (w99.map fun x0 => .sc (.int .i64 x0)))]⟩
def z4Y (w133 : Int) : Int × List Int -> Option ((Int × List Int) ⊕ ((Int × List Int) ⊕ List Int))
 | (w165, w166) =>
 if 0 < w165 then
 (atI w166 w165).bind fun v174 =>
 (atI w166 (i64.wrap (w165 - 1))).bind fun v175 =>
 (z6l v174 v175).bind fun v176 =>
 if v176 = true then
 (atI (w166.set w165.toNat v175) (i64.wrap (w165 - 1))).bind fun v180 =>
 z0B (i64.wrap (w165 - 1), ((w166.set w165.toNat v175).set (i64.wrap (w165 - 1)).toNat v174))
 else
 z1m <|
 z0B (i64.wrap (w133 + 1), w166)
 else
 z1m <|
 z0B (i64.wrap (w133 + 1), w166)
def z6e (w99 : List Int) (w133 : Int) : Int × List Int -> Fr
 | (w165, w166) => ⟨92, [(10, .one (.h 10 [])), (12, .one (.t none (.sc (.int .i64 w165)))), (53, .one (.t none (.sc (.int .i64 (w99.length : Int))))), (54, .one (.t none (.sc (.int .i64 w133))))], [(10, .os 1 w166.length (w166.map fun x0 => .sc (.int .i64 x0)))]⟩
def z4Z (w99 : List Int) : Int × List Int -> Option ((Int × List Int) ⊕ List Int)
 | (w133, w134) =>
 if w133 < (w99.length : Int) then
 z1b (z4Y w133) LFm (w133, w134)
 else
 z1m <|
 some w134
def z4X (w99 : List Int) : Int × List Int -> Fr
 | (w133, w134) => ⟨92, [(10, .one (.h 10 [])), (53, .one (.t none (.sc (.int .i64 (w99.length : Int))))), (54, .one (.t none (.sc (.int .i64 w133))))], [(10, .os 1 w134.length (w134.map fun x0 => .sc (.int .i64 x0)))]⟩
def z6W (a0 : DFA) : Int × List Int -> Option ((Int × List Int) ⊕ List Int)
 | (w98, w99) =>
 if w98 < (a0.final.length : Int) then
 chk (¬ (u64.wrap w98) < 0) <|
 z1b (z6V w98 w99) LFm (false, 0)
 else
 z1m <|
 chk (z2i 8 (w99.length)) <|
 z1b (z4Z w99) LFm (0, w99)
def z5x (a0 : DFA) : Int × List Int -> Fr
 | (w98, w99) => ⟨92, [(3, .one (.h 3 [])), (22, .one (.t none (.sc (.int .i64 (a0.final.length : Int))))), (23, .one (.t none (.sc (.int .i64 w98))))], [(3, .os 1 w99.length (w99.map fun x0 => .sc (.int .i64 x0)))]⟩
def z8V (a0 : DFA) : Option (List Int) :=
 (z9V a0).bind fun v91 =>
 (z4A a0 v91).bind fun v92 =>
 z1b (z6W a0) LFm (0, v92.1)
theorem zka {a0 : DFA} {r : List Int} (h0 : z8V a0 = some r) : L 42 [.agg [.sc (.int .i64 a0.letters), .sc (.int .i64 a0.start), .sl a0.final.length (a0.final.map fun x0 => .sc (.bool x0)), .sl a0.next.length (a0.next.map fun x0 => .sl x0.length (x0.map fun x1 => .sc (.int .i64 x1)))]] = some (.os 1 r.length (r.map fun x0 => .sc (.int .i64 x0)), [.dead]) := by
  simp only [z8V] at h0
  refine z2F zAl zBO (z1w zDA ⟨of_decide_eq_true rfl, of_decide_eq_true rfl⟩ ?_)
  simp only [z1E, z1C, z1B, z1F, z3u]
  refine zp (zs ?_)
  refine z0a (zp ?_)
  obtain ⟨v91, f97, h1⟩ := z0d h0
  have f97k := zmr f97
  try simp at f97k
  obtain ⟨v92, f98, h2⟩ := z0d h1
  have f98k := z6f f98
  try simp at f98k
  refine z1c rfl rfl rfl rfl ?_; repeat' ((first | refine z0q rfl rfl fun Q' hQ => ?_ | refine z0m rfl fun Q' hQ => ?_); simp [f97k, f98k]; refine hQ.out _ ?_; clear hQ; clear Q')
  refine z0a (zp (zp (zs ?_)))
  refine z0a (zb rfl (z0C h2 (z5x a0) rfl rfl (by simp [z5x]) fun s o1 h3 hr1 => ?_))
  obtain ⟨w98, w99⟩ := s
  simp only [z6W] at h3
  simp only [z5x]
  refine zp (zs ?_)
  refine z0a (zp ?_)
  by_cases c123 : w98 < (a0.final.length : Int)
  ·rw [if_pos c123] at h3
   refine z0t rfl (by simp [c123]) (z0j rfl (z0a (zp (zb rfl (zp (zs ?_))))))
   refine z0a (zp ?_)
   obtain ⟨f124, h4⟩ := z1M h3
   refine zr rfl rfl rfl (by simp [f124]; rfl) ?_
   refine z0a (zp (zs ?_))
   refine z0a (zp (zp (zs ?_)))
   refine z0a (zb rfl (z0C h4 (z5w a0 w98 w99) rfl rfl (by simp [z5w]) fun s o2 h5 hr2 => ?_))
   obtain ⟨w106, w107⟩ := s
   simp only [z6V] at h5
   simp only [z5w]
   refine zp (zs ?_)
   refine z0a (zp ?_)
   by_cases c130 : w107 < (w99.length : Int)
   ·rw [if_pos c130] at h5
    refine z0t rfl (by simp [c130]) (z0j rfl (z0a (zp (zb rfl (zp ?_)))))
    obtain ⟨v109, f131, h6⟩ := z0I h5
    refine zr rfl rfl rfl (by simp [f131]; rfl) ?_
    refine z0a ?_
    by_cases c132 : w106 = true
    ·rw [if_pos c132] at h6
     refine zr rfl rfl rfl (by simp [c132]; rfl) ?_
     refine z0h (z0a (zs ?_))
     have ho := z0c h6
     refine z0i ho ?_
     simp [z5w, c132]
    ·rw [if_neg c132] at h6
     refine zr rfl rfl rfl (by simp [c132]; rfl) ?_
     refine z0h (z0a (zs ?_))
     have ho := z0c h6
     refine z0i ho ?_
     simp [z5w, c132]
   ·rw [if_neg c130] at h5
    refine z0r rfl (by simp [c130]) (z0X rfl (z0w ?_))
    obtain ⟨rr2, h6, ho2⟩ := z0k h5
    have hs2 := hr2 _ ho2
    subst hs2
    refine z0s ho2 (z0g rfl (z0a (zp (zs ?_))))
    refine z0a ?_
    by_cases c133 : w106 = true
    ·rw [if_pos c133] at h6
     refine z0r rfl (by simp [c133]) (z0j rfl (z0h (z0a (zs ?_))))
     have ho := z0c h6
     refine z0i ho ?_
     simp [z5x, c133]
    ·rw [if_neg c133] at h6
     refine z0t rfl (by simp [c133]) ?_
     obtain ⟨f134, h7⟩ := z5I h6
     refine zr rfl rfl rfl (by simp [f134]; rfl) ?_
     refine z0h (z0a (zs ?_))
     have ho := z0c h7
     refine z0i ho ?_
     simp [z5x, c133]
  ·rw [if_neg c123] at h3
   refine z0r rfl (by simp [c123]) (z0X rfl (z0w ?_))
   obtain ⟨rr1, h4, ho1⟩ := z0k h3
   have hs1 := hr1 _ ho1
   subst hs1
   refine z0s ho1 (z0g rfl (z0a (zp ?_)))
   obtain ⟨f135, h5⟩ := z5I h4
   refine zr rfl rfl rfl (by simp [f135]; rfl) ?_
   refine z0a (zp (zp (zs ?_)))
   refine z0a (zb rfl (z0C h5 (z4X w99) rfl rfl (by simp [z4X]) fun s o3 h6 hr3 => ?_))
   obtain ⟨w133, w134⟩ := s
   simp only [z4Z] at h6
   simp only [z4X]
   refine zp (zs ?_)
   refine z0a (zp ?_)
   by_cases c174 : w133 < (w99.length : Int)
   ·rw [if_pos c174] at h6
    refine z0t rfl (by simp [c174]) (z0j rfl (z0a (zp (zb rfl (zp (zs ?_))))))
    refine z0a (zp (zs ?_))
    refine z0a (zb rfl (z0C h6 (z6e w99 w133) rfl rfl (by simp [z6e]) fun s o4 h7 hr4 => ?_))
    obtain ⟨w165, w166⟩ := s
    simp only [z4Y] at h7
    simp only [z6e]
    refine zp (zp ?_)
    by_cases c187 : 0 < w165
    ·rw [if_pos c187] at h7
     obtain ⟨v174, f188, h8⟩ := z0I h7
     obtain ⟨v175, f189, h9⟩ := z0I h8
     obtain ⟨v176, f190, h10⟩ := z0d h9
     have f190k := zhp f190
     try simp at f190k
     refine z1c rfl rfl rfl rfl ?_; repeat' (first | (refine z0q rfl rfl fun Q' hQ => ?_; simp [c187, f188, f189, f190k]; refine hQ.out _ ?_; clear hQ; clear Q') | (refine z1g rfl rfl fun Q1 Q2 h1 h2 => ?_; simp [c187, f188, f189, f190k, z1Q]; (first | refine h1.out ?_ | refine h2.out ?_); clear h1 h2; clear Q1 Q2; intro Q' hQ; simp [c187, f188, f189, f190k]; refine hQ.out _ ?_; clear hQ; clear Q') | (refine z0m rfl fun Q' hQ => ?_; simp [c187, f188, f189, f190k]; refine hQ.out _ ?_; clear hQ; clear Q'))
     refine z0a ?_
     by_cases c191 : v176 = true
     ·rw [if_pos c191] at h10
      refine z0t rfl (by simp [c191]) (z0j rfl (z0a (zp (zb rfl ?_))))
      obtain ⟨v180, f192, h11⟩ := z0d h10
      obtain ⟨f192a, f192b, f192c, f192d, f192e⟩ := z8e f192
      try simp only [List.length_set] at f192b f192c
      have f192s : ∀ hh, ((w166.set w165.toNat v175).map (fun x0 : Int => (.sc (.int .i64 x0) : T)))[(i64.wrap (w165 - 1)).toNat]'hh = (fun x0 : Int => (.sc (.int .i64 x0) : T)) v180 := fun hh => by rw [List.getElem_map]; exact congrArg (fun x0 : Int => (.sc (.int .i64 x0) : T)) (f192e _)
      try simp only [List.map_set] at f192s
      refine z1c rfl rfl rfl rfl ?_; repeat' ((first | refine z0q rfl rfl fun Q' hQ => ?_ | refine z0m rfl fun Q' hQ => ?_); simp [f189, f188, f192a, f192b, f192c, f192d, f192e, f192s]; refine hQ.out _ ?_; clear hQ; clear Q')
      refine z0h (z0a (zs ?_))
      have ho := z0c h11
      refine z0i ho ?_
      simp [z6e, c191]
     ·rw [if_neg c191] at h10
      refine z0r rfl (by simp [c191]) (z0X rfl (z0w ?_))
      obtain ⟨rr4, h11, ho4⟩ := z0k h10
      have hs4 := hr4 _ ho4
      subst hs4
      refine z0s ho4 (z0g rfl (z0h (z0a (zs ?_))))
      have ho := z0c h11
      refine z0i ho ?_
      simp [z4X, c191]
    ·rw [if_neg c187] at h7
     refine z1c rfl rfl rfl rfl ?_; repeat' (first | (refine z0q rfl rfl fun Q' hQ => ?_; simp [c187]; refine hQ.out _ ?_; clear hQ; clear Q') | (refine z1g rfl rfl fun Q1 Q2 h1 h2 => ?_; simp [c187, z1Q]; (first | refine h1.out ?_ | refine h2.out ?_); clear h1 h2; clear Q1 Q2; intro Q' hQ; simp [c187]; refine hQ.out _ ?_; clear hQ; clear Q') | (refine z0m rfl fun Q' hQ => ?_; simp [c187]; refine hQ.out _ ?_; clear hQ; clear Q'))
     refine z0a (z0r rfl (by simp) (z0X rfl (z0w ?_)))
     obtain ⟨rr4, h8, ho4⟩ := z0k h7
     have hs4 := hr4 _ ho4
     subst hs4
     refine z0s ho4 (z0g rfl (z0h (z0a (zs ?_))))
     have ho := z0c h8
     refine z0i ho ?_
     simp [z4X]
   ·rw [if_neg c174] at h6
    refine z0r rfl (by simp [c174]) (z0X rfl (z0w ?_))
    obtain ⟨rr3, h7, ho3⟩ := z0k h6
    have hs3 := hr3 _ ho3
    subst hs3
    refine z0s ho3 (z0g rfl (z0a (zp (zs ?_))))
    refine z0a (z1f rfl ?_)
    cases h7
    simp
def z4v (a0 : List Int) : Int × Int × List Int × (List (Int × Int)) -> Option ((Int × Int × List Int × (List (Int × Int))) ⊕ List Int)
 | (w15, w13, w14, w16) =>
 if w13 < (a0.length : Int) then
 (atI a0 w13).bind fun v20 =>
 if ((zhG v20 w16).isSome) = true then
 (atI w14 w13).bind fun v21 =>
 z0B (w15, i64.wrap (w13 + 1), (w14.set w13.toNat ((zhG v20 w16).getD 0)), w16)
 else
 (atI w14 w13).bind fun v22 =>
 z0B (i64.wrap (w15 + 1), i64.wrap (w13 + 1), (w14.set w13.toNat w15), zk6 v20 w15 w16)
 else
 z1m <|
 some w14
def z3G (a0 : List Int) : Int × Int × List Int × (List (Int × Int)) -> Fr
 | (w15, w13, w14, w16) => ⟨44, [(3, .one (.h 3 [])), (4, .one (.t none (.sc (.int .i64 w15)))), (5, .one (.h 5 [])), (17, .one (.t none (.sl a0.length (a0.map fun x0 => .sc (.int .i64 x0))))), (18, .one (.t none (.sc (.int .i64 (a0.length : Int))))), (19, .one (.t none (.sc (.int .i64 w13))))], [(3, .os 1 w14.length (w14.map fun x0 => .sc (.int .i64 x0))), (5, .mp (some .i64) (w16.map fun x0 => (.int .i64 x0.1, .int .i64 x0.2)))]⟩
def z4D (a0 : List Int) : Option (List Int) :=
 if 4096 < (a0.length : Int) then
 some []
 else
 chk (z2k 8 (a0.length : Int)) <|
 z1b (z4v a0) LFm (0, 0, List.replicate (a0.length : Int).toNat (0 : Int), ([] : List (Int × Int)))
theorem zcU {a0 : List Int} {r : List Int} (h0 : z4D a0 = some r) : L 44 [.sl a0.length (a0.map fun x0 => .sc (.int .i64 x0))] = some (.os 1 r.length (r.map fun x0 => .sc (.int .i64 x0)), [.dead]) := by
  simp only [z4D] at h0
  refine z2F zAj zBM (z1w zDy ⟨of_decide_eq_true rfl, of_decide_eq_true rfl⟩ ?_)
  simp only [z1E, z1C, z1B, z1F, z3u]
  refine zp (zs ?_)
  refine z0a (zp (zp (zs ?_)))
  refine z0a ?_
  by_cases c18 : 4096 < (a0.length : Int)
  ·rw [if_pos c18] at h0
   refine z0t rfl (by simp [c18]) (zp (zs ?_))
   refine z0a (z1f rfl (z0Q ?_))
   cases h0
   simp
  ·rw [if_neg c18] at h0
   refine z0r rfl (by simp [c18]) (z0j rfl (z0a (zp ?_)))
   obtain ⟨f19, h1⟩ := zng h0
   refine zr rfl rfl rfl (by simp [f19]; rfl) ?_
   refine z0a (zp (zs ?_))
   refine z0a (zp (zs ?_))
   refine z0a (zp (zp (zs ?_)))
   refine z0a (zb rfl (z0C h1 (z3G a0) rfl rfl (by simp [z3G]) fun s o1 h2 hr1 => ?_))
   obtain ⟨w15, w13, w14, w16⟩ := s
   simp only [z4v] at h2
   simp only [z3G]
   refine zp (zs ?_)
   refine z0a (zp ?_)
   by_cases c30 : w13 < (a0.length : Int)
   ·rw [if_pos c30] at h2
    refine z0t rfl (by simp [c30]) (z0j rfl (z0a (zp (zb rfl (zp ?_)))))
    obtain ⟨v20, f31, h3⟩ := z0I h2
    refine zr rfl rfl rfl (by simp [f31]; rfl) ?_
    refine z0a (zp (zs ?_))
    refine z0a (zp (zp (zs ?_)))
    refine z0a ?_
    by_cases c32 : ((zhG v20 w16).isSome) = true
    ·rw [if_pos c32] at h3
     refine z0r rfl (by simp [c32]) (z0j rfl (z0a ?_))
     obtain ⟨v21, f33, h4⟩ := z0I h3
     refine zr rfl rfl rfl (by simp [f33]; rfl) ?_
     refine z0h (z0a (zs ?_))
     have ho := z0c h4
     refine z0i ho ?_
     simp [z3G, c32]
    ·rw [if_neg c32] at h3
     have c32s : (zhG v20 w16) = none := by simpa using c32
     refine z0t rfl (by simp [c32, c32s]) (zp (zs ?_))
     refine z0a (zp (zs ?_))
     refine z0a (zs ?_)
     refine z0a ?_
     obtain ⟨v22, f34, h4⟩ := z0I h3
     refine zr rfl rfl rfl (by simp [f34]; rfl) ?_
     refine z0h (z0a (zs ?_))
     have ho := z0c h4
     refine z0i ho ?_
     simp [z3G, c32, c32s]
   ·rw [if_neg c30] at h2
    refine z0r rfl (by simp [c30]) (z0X rfl (z0w ?_))
    obtain ⟨rr1, h3, ho1⟩ := z0k h2
    have hs1 := hr1 _ ho1
    subst hs1
    refine z0s ho1 (z0g rfl (z0a (zp (zs ?_))))
    refine z0a (z1f rfl ?_)
    cases h3
    simp
def z6A (v757 : List Int) (w807 : Int) (w863 : Int) (v877 : Int) : Int × List (List Bool) -> Option ((Int × List (List Bool)) ⊕ ((Int × List (List Bool)) ⊕ ((Int × List (List Bool)) ⊕ (Imgs × Int))))
 | (w881, w882) =>
 if w881 < (v757.length : Int) then
 (atI v757 w881).bind fun v886 =>
 if (z2A .i64 v886 v877) = v886 then
 (atI w882 w881).bind fun v887 =>
 (atI v887 w807).bind fun v888 =>
 z0B (i64.wrap (w881 + 1), (w882.set w881.toNat (v887.set w807.toNat true)))
 else
 z0B (i64.wrap (w881 + 1), w882)
 else
 z1m <|
 z0B (i64.wrap (w863 + 1), w882)
def z6r (a0 : DFA) (v757 : List Int) (w807 : Int) (v850 : List Int × List ByteArray) (w863 : Int) (v877 : Int) : Int × List (List Bool) -> Fr
 | (w881, w882) => ⟨418, [(1, .one (.a 1 [] (0))), (2, .one (.a 2 [] (0))), (5, .one (.a 5 [] (0))), (6, .one (.t none (.sc (.int .i64 (v757.length : Int))))), (10, .one (.h 10 [])), (12, .one (.t none (.sc (.int .i64 w807)))), (17, .one (.t none (.sc (.int .i64 v877)))), (82, .one (.h 5 [0])), (83, .one (.t none (.sc (.int .i64 (v757.length : Int))))), (84, .one (.t none (.sc (.int .i64 w807)))), (95, .one (.h 14 [])), (96, .one (.t none (.sc (.int .i64 (v850.1.length : Int))))), (97, .one (.t none (.sc (.int .i64 w863)))), (102, .one (.h 5 [0])), (103, .one (.t none (.sc (.int .i64 (v757.length : Int))))), (104, .one (.t none (.sc (.int .i64 w881))))], [(1, .vr [.sc (.int .i64 a0.letters), .sc (.int .i64 a0.start), .sl a0.final.length (a0.final.map fun x0 => .sc (.bool x0)), .sl a0.next.length (a0.next.map fun x0 => .sl x0.length (x0.map fun x1 => .sc (.int .i64 x1)))]), (2, .vr [.os 1 0 [], .os 1 0 [], .os 1 0 [], .os 1 0 [], .os 1 0 [], .os 1 0 []]), (5, .vr [.os 1 v757.length (v757.map fun x0 => .sc (.int .i64 x0)), .os 1 0 [], .os 1 0 [], .os 1 0 [], .os 1 0 [], .os 1 0 []]), (10, .os 1 w882.length (w882.map fun x0 => .os 1 x0.length (x0.map fun x1 => .sc (.bool x1)))), (14, .os 1 v850.1.length (v850.1.map fun x0 => .sc (.int .i64 x0)))]⟩
def z6B (v757 : List Int) (w807 : Int) (v850 : List Int × List ByteArray) : Int × List (List Bool) -> Option ((Int × List (List Bool)) ⊕ ((Int × List (List Bool)) ⊕ (Imgs × Int)))
 | (w863, w864) =>
 if w863 < (v850.1.length : Int) then
 (atI v850.1 w863).bind fun v877 =>
 z1b (z6A v757 w807 w863 v877) LFm (0, w864)
 else
 z1m <|
 z0B (i64.wrap (w807 + 1), w864)
def z7S (a0 : DFA) (v757 : List Int) (w807 : Int) (v850 : List Int × List ByteArray) : Int × List (List Bool) -> Fr
 | (w863, w864) => ⟨418, [(1, .one (.a 1 [] (0))), (2, .one (.a 2 [] (0))), (5, .one (.a 5 [] (0))), (6, .one (.t none (.sc (.int .i64 (v757.length : Int))))), (10, .one (.h 10 [])), (12, .one (.t none (.sc (.int .i64 w807)))), (82, .one (.h 5 [0])), (83, .one (.t none (.sc (.int .i64 (v757.length : Int))))), (84, .one (.t none (.sc (.int .i64 w807)))), (95, .one (.h 14 [])), (96, .one (.t none (.sc (.int .i64 (v850.1.length : Int))))), (97, .one (.t none (.sc (.int .i64 w863))))], [(1, .vr [.sc (.int .i64 a0.letters), .sc (.int .i64 a0.start), .sl a0.final.length (a0.final.map fun x0 => .sc (.bool x0)), .sl a0.next.length (a0.next.map fun x0 => .sl x0.length (x0.map fun x1 => .sc (.int .i64 x1)))]), (2, .vr [.os 1 0 [], .os 1 0 [], .os 1 0 [], .os 1 0 [], .os 1 0 [], .os 1 0 []]), (5, .vr [.os 1 v757.length (v757.map fun x0 => .sc (.int .i64 x0)), .os 1 0 [], .os 1 0 [], .os 1 0 [], .os 1 0 [], .os 1 0 []]), (10, .os 1 w864.length (w864.map fun x0 => .os 1 x0.length (x0.map fun x1 => .sc (.bool x1)))), (14, .os 1 v850.1.length (v850.1.map fun x0 => .sc (.int .i64 x0)))]⟩
def z6z (w808 : List (List Bool)) (w908 : Int) (w909 : List Int) : Int -> Option (Int ⊕ ((Int × List Int) ⊕ (Imgs × Int)))
 | w937 =>
 if w937 < w908 then
 (atI w808 w908).bind fun v944 =>
 (atI v944 w937).bind fun v945 =>
 if v945 = true then
 (atI w808 w937).bind fun v946 =>
 (atI v946 w908).bind fun v947 =>
 if v947 = true then
 (atI (w909.set w908.toNat w908) w937).bind fun v948 =>
 (atI (w909.set w908.toNat w908) w908).bind fun v949 =>
 z1m <|
 z0B (i64.wrap (w908 + 1), ((w909.set w908.toNat w908).set w908.toNat v948))
 else
 z0B (i64.wrap (w937 + 1))
 else
 z0B (i64.wrap (w937 + 1))
 else
 z1m <|
 z0B (i64.wrap (w908 + 1), (w909.set w908.toNat w908))
def z6p (a0 : DFA) (v757 : List Int) (w808 : List (List Bool)) (w908 : Int) (w909 : List Int) : Int -> Fr
 | w937 => ⟨418, [(1, .one (.a 1 [] (0))), (2, .one (.a 2 [] (0))), (5, .one (.a 5 [] (0))), (6, .one (.t none (.sc (.int .i64 (v757.length : Int))))), (10, .one (.h 10 [])), (20, .one (.h 20 [])), (21, .one (.t none (.sc (.int .i64 w908)))), (22, .one (.t none (.sc (.int .i64 w937)))), (126, .one (.t none (.sc (.int .i64 (v757.length : Int))))), (127, .one (.t none (.sc (.int .i64 w908))))], [(1, .vr [.sc (.int .i64 a0.letters), .sc (.int .i64 a0.start), .sl a0.final.length (a0.final.map fun x0 => .sc (.bool x0)), .sl a0.next.length (a0.next.map fun x0 => .sl x0.length (x0.map fun x1 => .sc (.int .i64 x1)))]), (2, .vr [.os 1 0 [], .os 1 0 [], .os 1 0 [], .os 1 0 [], .os 1 0 [], .os 1 0 []]), (5, .vr [.os 1 v757.length (v757.map fun x0 => .sc (.int .i64 x0)), .os 1 0 [], .os 1 0 [], .os 1 0 [], .os 1 0 [], .os 1 0 []]), (10, .os 1 w808.length (w808.map fun x0 => .os 1 x0.length (x0.map fun x1 => .sc (.bool x1)))), (20, .os 1 (w909.set w908.toNat w908).length ((w909.set w908.toNat w908).map fun x0 => .sc (.int .i64 x0)))]⟩
def z6w (v757 : List Int) (w808 : List (List Bool)) (w1205 : Int) : Bool × Int × List Int -> Option ((Bool × Int × List Int) ⊕ ((Bool × Int × List Int) ⊕ ((Bool × List Int) ⊕ (Imgs × Int))))
 | (w1251, w1250, w1252) =>
 if w1250 < (v757.length : Int) then
 (atI v757 w1205).bind fun v1263 =>
 (z4L v1263).bind fun v1264 =>
 if 1 < v1264 then
 (atI w808 w1250).bind fun v1265 =>
 (atI v1265 w1205).bind fun v1266 =>
 if v1266 = true then
 (atI w808 w1205).bind fun v1267 =>
 (atI v1267 w1250).bind fun v1268 =>
 if v1268 = true then
 z0B (w1251, i64.wrap (w1250 + 1), w1252)
 else
 (atI w1252 w1205).bind fun v1269 =>
 (atI w1252 w1250).bind fun v1270 =>
 if v1269 <= v1270 then
 z0B (true, i64.wrap (w1250 + 1), (w1252.set w1205.toNat (i64.wrap (v1270 + 1))))
 else
 z0B (w1251, i64.wrap (w1250 + 1), w1252)
 else
 z0B (w1251, i64.wrap (w1250 + 1), w1252)
 else
 z0B (w1251, i64.wrap (w1250 + 1), w1252)
 else
 z1m <|
 z0B (w1251, i64.wrap (w1205 + 1), w1252)
def z4m (a0 : DFA) (v757 : List Int) (w808 : List (List Bool)) (v950 : List Int) (w1205 : Int) : Bool × Int × List Int -> Fr
 | (w1251, w1250, w1252) => ⟨418, [(1, .one (.a 1 [] (0))), (2, .one (.a 2 [] (0))), (5, .one (.a 5 [] (0))), (10, .one (.h 10 [])), (23, .one (.t none (.sc (.bool w1251)))), (24, .one (.t none (.sc (.int .i64 w1205)))), (181, .one (.t none (.sc (.int .i64 (v757.length : Int))))), (182, .one (.t none (.sc (.int .i64 w1205)))), (187, .one (.t none (.sc (.int .i64 (v757.length : Int))))), (188, .one (.t none (.sc (.int .i64 w1250))))], [(1, .vr [.sc (.int .i64 a0.letters), .sc (.int .i64 a0.start), .sl a0.final.length (a0.final.map fun x0 => .sc (.bool x0)), .sl a0.next.length (a0.next.map fun x0 => .sl x0.length (x0.map fun x1 => .sc (.int .i64 x1)))]), (2, .vr [.os 1 0 [], .os 1 0 [], .os 1 0 [], .os 1 0 [], .os 1 0 [], .os 1 0 []]), (5, .vr [.os 1 v757.length (v757.map fun x0 => .sc (.int .i64 x0)), .os 1 v950.length (v950.map fun x0 => .sc (.int .i64 x0)), .os 1 w1252.length (w1252.map fun x0 => .sc (.int .i64 x0)), .os 1 (List.replicate (v757.length : Int).toNat ([] : List Int)).length ((List.replicate (v757.length : Int).toNat ([] : List Int)).map fun x0 => .os 1 x0.length (x0.map fun x1 => .sc (.int .i64 x1))), .os 1 (List.replicate (v757.length : Int).toNat (ByteArray.empty : ByteArray)).length ((List.replicate (v757.length : Int).toNat (ByteArray.empty : ByteArray)).map fun x0 => .sc (.string x0)), .os 1 (List.replicate (v757.length : Int).toNat (ByteArray.empty : ByteArray)).length ((List.replicate (v757.length : Int).toNat (ByteArray.empty : ByteArray)).map fun x0 => .sc (.string x0))]), (10, .os 1 w808.length (w808.map fun x0 => .os 1 x0.length (x0.map fun x1 => .sc (.bool x1))))]⟩
def z6x (v757 : List Int) (w808 : List (List Bool)) : Bool × Int × List Int -> Option ((Bool × Int × List Int) ⊕ ((Bool × List Int) ⊕ (Imgs × Int)))
 | (w1204, w1205, w1206) =>
 if w1205 < (v757.length : Int) then
 z1b (z6w v757 w808 w1205) LFm (w1204, 0, w1206)
 else
 z1m <|
 z0B (w1204, w1206)
def z7Q (a0 : DFA) (v757 : List Int) (w808 : List (List Bool)) (v950 : List Int) : Bool × Int × List Int -> Fr
 | (w1204, w1205, w1206) => ⟨418, [(1, .one (.a 1 [] (0))), (2, .one (.a 2 [] (0))), (5, .one (.a 5 [] (0))), (10, .one (.h 10 [])), (23, .one (.t none (.sc (.bool w1204)))), (181, .one (.t none (.sc (.int .i64 (v757.length : Int))))), (182, .one (.t none (.sc (.int .i64 w1205))))], [(1, .vr [.sc (.int .i64 a0.letters), .sc (.int .i64 a0.start), .sl a0.final.length (a0.final.map fun x0 => .sc (.bool x0)), .sl a0.next.length (a0.next.map fun x0 => .sl x0.length (x0.map fun x1 => .sc (.int .i64 x1)))]), (2, .vr [.os 1 0 [], .os 1 0 [], .os 1 0 [], .os 1 0 [], .os 1 0 [], .os 1 0 []]), (5, .vr [.os 1 v757.length (v757.map fun x0 => .sc (.int .i64 x0)), .os 1 v950.length (v950.map fun x0 => .sc (.int .i64 x0)), .os 1 w1206.length (w1206.map fun x0 => .sc (.int .i64 x0)), .os 1 (List.replicate (v757.length : Int).toNat ([] : List Int)).length ((List.replicate (v757.length : Int).toNat ([] : List Int)).map fun x0 => .os 1 x0.length (x0.map fun x1 => .sc (.int .i64 x1))), .os 1 (List.replicate (v757.length : Int).toNat (ByteArray.empty : ByteArray)).length ((List.replicate (v757.length : Int).toNat (ByteArray.empty : ByteArray)).map fun x0 => .sc (.string x0)), .os 1 (List.replicate (v757.length : Int).toNat (ByteArray.empty : ByteArray)).length ((List.replicate (v757.length : Int).toNat (ByteArray.empty : ByteArray)).map fun x0 => .sc (.string x0))]), (10, .os 1 w808.length (w808.map fun x0 => .os 1 x0.length (x0.map fun x1 => .sc (.bool x1))))]⟩
def z6u (v757 : List Int) (w1311 : Int) (w1367 : Int) (w1368 : List (List Int)) (v1381 : Int) : Bool × Int -> Option ((Bool × Int) ⊕ ((Int × List (List Int)) ⊕ ((Int × List (List Int)) ⊕ (Imgs × Int))))
 | (w1385, w1386) =>
 if w1386 < (v757.length : Int) then
 (atI v757 w1386).bind fun v1389 =>
 if w1385 = true then
 if w1386 = w1367 then
 z0B (!false, i64.wrap (w1386 + 1))
 else
 if w1386 = w1311 then
 z0B (!false, i64.wrap (w1386 + 1))
 else
 (atI v757 w1311).bind fun v1390 =>
 if (z2A .i64 v1389 v1390) = v1389 then
 z0B (!(decide ((z2A .i64 v1381 v1389) = v1381)), i64.wrap (w1386 + 1))
 else
 z0B (!false, i64.wrap (w1386 + 1))
 else
 z0B (false, i64.wrap (w1386 + 1))
 else
 z1m <|
 if w1385 = true then
 (atI w1368 w1311).bind fun v1391 =>
 chk (z2i 8 (v1391.length + 1)) <|
 z0B (i64.wrap (w1367 + 1), (w1368.set w1311.toNat (v1391 ++ [w1367])))
 else
 z0B (i64.wrap (w1367 + 1), w1368)
def z4l (a0 : DFA) (v757 : List Int) (v950 : List Int) (w1056 : List Int) (w1311 : Int) (w1367 : Int) (w1368 : List (List Int)) (v1381 : Int) : Bool × Int -> Fr
 | (w1385, w1386) => ⟨418, [(1, .one (.a 1 [] (0))), (2, .one (.a 2 [] (0))), (5, .one (.a 5 [] (0))), (26, .one (.t none (.sc (.int .i64 w1311)))), (27, .one (.t none (.sc (.int .i64 w1367)))), (28, .one (.t none (.sc (.int .i64 v1381)))), (29, .one (.t none (.sc (.bool w1385)))), (244, .one (.t none (.sc (.int .i64 (v757.length : Int))))), (245, .one (.t none (.sc (.int .i64 w1311)))), (256, .one (.h 5 [0])), (257, .one (.t none (.sc (.int .i64 (v757.length : Int))))), (258, .one (.t none (.sc (.int .i64 w1367)))), (278, .one (.h 5 [0])), (279, .one (.t none (.sc (.int .i64 (v757.length : Int))))), (280, .one (.t none (.sc (.int .i64 w1386))))], [(1, .vr [.sc (.int .i64 a0.letters), .sc (.int .i64 a0.start), .sl a0.final.length (a0.final.map fun x0 => .sc (.bool x0)), .sl a0.next.length (a0.next.map fun x0 => .sl x0.length (x0.map fun x1 => .sc (.int .i64 x1)))]), (2, .vr [.os 1 0 [], .os 1 0 [], .os 1 0 [], .os 1 0 [], .os 1 0 [], .os 1 0 []]), (5, .vr [.os 1 v757.length (v757.map fun x0 => .sc (.int .i64 x0)), .os 1 v950.length (v950.map fun x0 => .sc (.int .i64 x0)), .os 1 w1056.length (w1056.map fun x0 => .sc (.int .i64 x0)), .os 1 w1368.length (w1368.map fun x0 => .os 1 x0.length (x0.map fun x1 => .sc (.int .i64 x1))), .os 1 (List.replicate (v757.length : Int).toNat (ByteArray.empty : ByteArray)).length ((List.replicate (v757.length : Int).toNat (ByteArray.empty : ByteArray)).map fun x0 => .sc (.string x0)), .os 1 (List.replicate (v757.length : Int).toNat (ByteArray.empty : ByteArray)).length ((List.replicate (v757.length : Int).toNat (ByteArray.empty : ByteArray)).map fun x0 => .sc (.string x0))])]⟩
def z6v (v757 : List Int) (w1311 : Int) : Int × List (List Int) -> Option ((Int × List (List Int)) ⊕ ((Int × List (List Int)) ⊕ (Imgs × Int)))
 | (w1367, w1368) =>
 if w1367 < (v757.length : Int) then
 (atI v757 w1367).bind fun v1381 =>
 (atI v757 w1311).bind fun v1382 =>
 if (z2A .i64 v1381 v1382) = v1381 then
 if w1367 = w1311 then
 z0B (i64.wrap (w1367 + 1), w1368)
 else
 z1b (z6u v757 w1311 w1367 w1368 v1381) LFm (true, 0)
 else
 z0B (i64.wrap (w1367 + 1), w1368)
 else
 z1m <|
 z0B (i64.wrap (w1311 + 1), w1368)
def z4B (a0 : DFA) (v757 : List Int) (v950 : List Int) (w1056 : List Int) (w1311 : Int) : Int × List (List Int) -> Fr
 | (w1367, w1368) => ⟨418, [(1, .one (.a 1 [] (0))), (2, .one (.a 2 [] (0))), (5, .one (.a 5 [] (0))), (26, .one (.t none (.sc (.int .i64 w1311)))), (244, .one (.t none (.sc (.int .i64 (v757.length : Int))))), (245, .one (.t none (.sc (.int .i64 w1311)))), (256, .one (.h 5 [0])), (257, .one (.t none (.sc (.int .i64 (v757.length : Int))))), (258, .one (.t none (.sc (.int .i64 w1367))))], [(1, .vr [.sc (.int .i64 a0.letters), .sc (.int .i64 a0.start), .sl a0.final.length (a0.final.map fun x0 => .sc (.bool x0)), .sl a0.next.length (a0.next.map fun x0 => .sl x0.length (x0.map fun x1 => .sc (.int .i64 x1)))]), (2, .vr [.os 1 0 [], .os 1 0 [], .os 1 0 [], .os 1 0 [], .os 1 0 [], .os 1 0 []]), (5, .vr [.os 1 v757.length (v757.map fun x0 => .sc (.int .i64 x0)), .os 1 v950.length (v950.map fun x0 => .sc (.int .i64 x0)), .os 1 w1056.length (w1056.map fun x0 => .sc (.int .i64 x0)), .os 1 w1368.length (w1368.map fun x0 => .os 1 x0.length (x0.map fun x1 => .sc (.int .i64 x1))), .os 1 (List.replicate (v757.length : Int).toNat (ByteArray.empty : ByteArray)).length ((List.replicate (v757.length : Int).toNat (ByteArray.empty : ByteArray)).map fun x0 => .sc (.string x0)), .os 1 (List.replicate (v757.length : Int).toNat (ByteArray.empty : ByteArray)).length ((List.replicate (v757.length : Int).toNat (ByteArray.empty : ByteArray)).map fun x0 => .sc (.string x0))])]⟩
def z6s (v757 : List Int) (w1430 : Int) (w1474 : Int) (w1486 : List ByteArray) (v1496 : List Int × List ByteArray) : Int × List ByteArray -> Option ((Int × List ByteArray) ⊕ ((Int × List ByteArray × List ByteArray) ⊕ (Imgs × Int)))
 | (w1501, w1502) =>
 if w1501 < (v1496.1.length : Int) then
 (atI v1496.1 w1501).bind fun v1507 =>
 (atI v757 w1474).bind fun v1508 =>
 if v1507 = v1508 then
 (atI v1496.2 w1501).bind fun v1509 =>
 (atI w1502 w1430).bind fun v1510 =>
 z0B (i64.wrap (w1501 + 1), (w1502.set w1430.toNat v1509))
 else
 z0B (i64.wrap (w1501 + 1), w1502)
 else
 z1m <|
 z0B (i64.wrap (w1430 + 1), w1486, w1502)
def z6m (a0 : DFA) (v757 : List Int) (v950 : List Int) (w1056 : List Int) (w1312 : List (List Int)) (w1430 : Int) (w1474 : Int) (w1486 : List ByteArray) (v1496 : List Int × List ByteArray) : Int × List ByteArray -> Fr
 | (w1501, w1502) => ⟨418, [(1, .one (.a 1 [] (0))), (2, .one (.a 2 [] (0))), (5, .one (.a 5 [] (0))), (32, .one (.t none (.sc (.int .i64 w1430)))), (33, .one (.t none (.sc (.int .i64 w1474)))), (35, .one (.h 35 [])), (333, .one (.t none (.sc (.int .i64 (v757.length : Int))))), (334, .one (.t none (.sc (.int .i64 w1430)))), (393, .one (.h 34 [])), (394, .one (.t none (.sc (.int .i64 (v1496.1.length : Int))))), (395, .one (.t none (.sc (.int .i64 w1501))))], [(1, .vr [.sc (.int .i64 a0.letters), .sc (.int .i64 a0.start), .sl a0.final.length (a0.final.map fun x0 => .sc (.bool x0)), .sl a0.next.length (a0.next.map fun x0 => .sl x0.length (x0.map fun x1 => .sc (.int .i64 x1)))]), (2, .vr [.os 1 0 [], .os 1 0 [], .os 1 0 [], .os 1 0 [], .os 1 0 [], .os 1 0 []]), (5, .vr [.os 1 v757.length (v757.map fun x0 => .sc (.int .i64 x0)), .os 1 v950.length (v950.map fun x0 => .sc (.int .i64 x0)), .os 1 w1056.length (w1056.map fun x0 => .sc (.int .i64 x0)), .os 1 w1312.length (w1312.map fun x0 => .os 1 x0.length (x0.map fun x1 => .sc (.int .i64 x1))), .os 1 w1486.length (w1486.map fun x0 => .sc (.string x0)), .os 1 w1502.length (w1502.map fun x0 => .sc (.string x0))]), (35, .os 1 v1496.2.length (v1496.2.map fun x0 => .sc (.string x0))), (34, .os 1 v1496.1.length (v1496.1.map fun x0 => .sc (.int .i64 x0)))]⟩
def z6t (a0 : DFA) (v757 : List Int) (w1430 : Int) (w1432 : List ByteArray) (w1474 : Int) (v1480 : List Int × List ByteArray) : Int × List ByteArray -> Option ((Int × List ByteArray) ⊕ ((Int × List ByteArray × List ByteArray) ⊕ (Imgs × Int)))
 | (w1485, w1486) =>
 if w1485 < (v1480.1.length : Int) then
 (atI v1480.1 w1485).bind fun v1491 =>
 (atI v757 w1430).bind fun v1492 =>
 if v1491 = v1492 then
 (atI v1480.2 w1485).bind fun v1493 =>
 (atI w1486 w1430).bind fun v1494 =>
 z0B (i64.wrap (w1485 + 1), (w1486.set w1430.toNat v1493))
 else
 z0B (i64.wrap (w1485 + 1), w1486)
 else
 z1m <|
 (atI v757 w1430).bind fun v1495 =>
 (z4A a0 v1495).bind fun v1496 =>
 z1b (z6s v757 w1430 w1474 w1486 v1496) LFm (0, w1432)
def z6n (a0 : DFA) (v757 : List Int) (v950 : List Int) (w1056 : List Int) (w1312 : List (List Int)) (w1430 : Int) (w1432 : List ByteArray) (w1474 : Int) (v1480 : List Int × List ByteArray) : Int × List ByteArray -> Fr
 | (w1485, w1486) => ⟨418, [(1, .one (.a 1 [] (0))), (2, .one (.a 2 [] (0))), (5, .one (.a 5 [] (0))), (32, .one (.t none (.sc (.int .i64 w1430)))), (33, .one (.t none (.sc (.int .i64 w1474)))), (35, .one (.h 35 [])), (333, .one (.t none (.sc (.int .i64 (v757.length : Int))))), (334, .one (.t none (.sc (.int .i64 w1430)))), (360, .one (.h 34 [])), (361, .one (.t none (.sc (.int .i64 (v1480.1.length : Int))))), (362, .one (.t none (.sc (.int .i64 w1485))))], [(1, .vr [.sc (.int .i64 a0.letters), .sc (.int .i64 a0.start), .sl a0.final.length (a0.final.map fun x0 => .sc (.bool x0)), .sl a0.next.length (a0.next.map fun x0 => .sl x0.length (x0.map fun x1 => .sc (.int .i64 x1)))]), (2, .vr [.os 1 0 [], .os 1 0 [], .os 1 0 [], .os 1 0 [], .os 1 0 [], .os 1 0 []]), (5, .vr [.os 1 v757.length (v757.map fun x0 => .sc (.int .i64 x0)), .os 1 v950.length (v950.map fun x0 => .sc (.int .i64 x0)), .os 1 w1056.length (w1056.map fun x0 => .sc (.int .i64 x0)), .os 1 w1312.length (w1312.map fun x0 => .os 1 x0.length (x0.map fun x1 => .sc (.int .i64 x1))), .os 1 w1486.length (w1486.map fun x0 => .sc (.string x0)), .os 1 w1432.length (w1432.map fun x0 => .sc (.string x0))]), (35, .os 1 v1480.2.length (v1480.2.map fun x0 => .sc (.string x0))), (34, .os 1 v1480.1.length (v1480.1.map fun x0 => .sc (.int .i64 x0)))]⟩
def z7W (a0 : DFA) (v757 : List Int) (v950 : List Int) (w1430 : Int) (w1431 : List ByteArray) (w1432 : List ByteArray) : Int -> Option (Int ⊕ ((Int × List ByteArray × List ByteArray) ⊕ (Imgs × Int)))
 | w1474 =>
 (atI v950 w1474).bind fun v1477 =>
 (atI v950 w1430).bind fun v1478 =>
 if v1477 = v1478 then
 z1m <|
 (atI v757 w1474).bind fun v1479 =>
 (z4A a0 v1479).bind fun v1480 =>
 z1b (z6t a0 v757 w1430 w1432 w1474 v1480) LFm (0, w1431)
 else
 z0B (i64.wrap (w1474 + 1))
def z7O (a0 : DFA) (v757 : List Int) (v950 : List Int) (w1056 : List Int) (w1312 : List (List Int)) (w1430 : Int) (w1431 : List ByteArray) (w1432 : List ByteArray) : Int -> Fr
 | w1474 => ⟨418, [(1, .one (.a 1 [] (0))), (2, .one (.a 2 [] (0))), (5, .one (.a 5 [] (0))), (32, .one (.t none (.sc (.int .i64 w1430)))), (33, .one (.t none (.sc (.int .i64 w1474)))), (333, .one (.t none (.sc (.int .i64 (v757.length : Int))))), (334, .one (.t none (.sc (.int .i64 w1430))))], [(1, .vr [.sc (.int .i64 a0.letters), .sc (.int .i64 a0.start), .sl a0.final.length (a0.final.map fun x0 => .sc (.bool x0)), .sl a0.next.length (a0.next.map fun x0 => .sl x0.length (x0.map fun x1 => .sc (.int .i64 x1)))]), (2, .vr [.os 1 0 [], .os 1 0 [], .os 1 0 [], .os 1 0 [], .os 1 0 [], .os 1 0 []]), (5, .vr [.os 1 v757.length (v757.map fun x0 => .sc (.int .i64 x0)), .os 1 v950.length (v950.map fun x0 => .sc (.int .i64 x0)), .os 1 w1056.length (w1056.map fun x0 => .sc (.int .i64 x0)), .os 1 w1312.length (w1312.map fun x0 => .os 1 x0.length (x0.map fun x1 => .sc (.int .i64 x1))), .os 1 w1431.length (w1431.map fun x0 => .sc (.string x0)), .os 1 w1432.length (w1432.map fun x0 => .sc (.string x0))])]⟩
def z7X (a0 : DFA) (v757 : List Int) (v950 : List Int) (w1056 : List Int) (w1312 : List (List Int)) : Int × List ByteArray × List ByteArray -> Option ((Int × List ByteArray × List ByteArray) ⊕ (Imgs × Int))
 | (w1430, w1431, w1432) =>
 if w1430 < (v757.length : Int) then
 z1b (z7W a0 v757 v950 w1430 w1431 w1432) LFm 0
 else
 z1m <|
 some ((⟨v757, v950, w1056, w1312, w1431, w1432⟩ : Imgs), 0)
def z7P (a0 : DFA) (v757 : List Int) (v950 : List Int) (w1056 : List Int) (w1312 : List (List Int)) : Int × List ByteArray × List ByteArray -> Fr
 | (w1430, w1431, w1432) => ⟨418, [(1, .one (.a 1 [] (0))), (2, .one (.a 2 [] (0))), (5, .one (.a 5 [] (0))), (333, .one (.t none (.sc (.int .i64 (v757.length : Int))))), (334, .one (.t none (.sc (.int .i64 w1430))))], [(1, .vr [.sc (.int .i64 a0.letters), .sc (.int .i64 a0.start), .sl a0.final.length (a0.final.map fun x0 => .sc (.bool x0)), .sl a0.next.length (a0.next.map fun x0 => .sl x0.length (x0.map fun x1 => .sc (.int .i64 x1)))]), (2, .vr [.os 1 0 [], .os 1 0 [], .os 1 0 [], .os 1 0 [], .os 1 0 [], .os 1 0 []]), (5, .vr [.os 1 v757.length (v757.map fun x0 => .sc (.int .i64 x0)), .os 1 v950.length (v950.map fun x0 => .sc (.int .i64 x0)), .os 1 w1056.length (w1056.map fun x0 => .sc (.int .i64 x0)), .os 1 w1312.length (w1312.map fun x0 => .os 1 x0.length (x0.map fun x1 => .sc (.int .i64 x1))), .os 1 w1431.length (w1431.map fun x0 => .sc (.string x0)), .os 1 w1432.length (w1432.map fun x0 => .sc (.string x0))])]⟩
def z5q (a0 : DFA) (v757 : List Int) (v950 : List Int) (w1056 : List Int) : Int × List (List Int) -> Option ((Int × List (List Int)) ⊕ (Imgs × Int))
 | (w1311, w1312) =>
 if w1311 < (v757.length : Int) then
 (atI v757 w1311).bind fun v1353 =>
 (z4L v1353).bind fun v1354 =>
 if v1354 = 1 then
 z0B (i64.wrap (w1311 + 1), w1312)
 else
 z1b (z6v v757 w1311) LFm (0, w1312)
 else
 z1m <|
 z1b (z7X a0 v757 v950 w1056 w1312) LFm (0, List.replicate (v757.length : Int).toNat (ByteArray.empty : ByteArray), List.replicate (v757.length : Int).toNat (ByteArray.empty : ByteArray))
def z6o (a0 : DFA) (v757 : List Int) (v950 : List Int) (w1056 : List Int) : Int × List (List Int) -> Fr
 | (w1311, w1312) => ⟨418, [(1, .one (.a 1 [] (0))), (2, .one (.a 2 [] (0))), (5, .one (.a 5 [] (0))), (244, .one (.t none (.sc (.int .i64 (v757.length : Int))))), (245, .one (.t none (.sc (.int .i64 w1311))))], [(1, .vr [.sc (.int .i64 a0.letters), .sc (.int .i64 a0.start), .sl a0.final.length (a0.final.map fun x0 => .sc (.bool x0)), .sl a0.next.length (a0.next.map fun x0 => .sl x0.length (x0.map fun x1 => .sc (.int .i64 x1)))]), (2, .vr [.os 1 0 [], .os 1 0 [], .os 1 0 [], .os 1 0 [], .os 1 0 [], .os 1 0 []]), (5, .vr [.os 1 v757.length (v757.map fun x0 => .sc (.int .i64 x0)), .os 1 v950.length (v950.map fun x0 => .sc (.int .i64 x0)), .os 1 w1056.length (w1056.map fun x0 => .sc (.int .i64 x0)), .os 1 w1312.length (w1312.map fun x0 => .os 1 x0.length (x0.map fun x1 => .sc (.int .i64 x1))), .os 1 (List.replicate (v757.length : Int).toNat (ByteArray.empty : ByteArray)).length ((List.replicate (v757.length : Int).toNat (ByteArray.empty : ByteArray)).map fun x0 => .sc (.string x0)), .os 1 (List.replicate (v757.length : Int).toNat (ByteArray.empty : ByteArray)).length ((List.replicate (v757.length : Int).toNat (ByteArray.empty : ByteArray)).map fun x0 => .sc (.string x0))])]⟩
def z6y (a0 : DFA) (v757 : List Int) (w808 : List (List Bool)) (v950 : List Int) : Bool × List Int -> Option ((Bool × List Int) ⊕ (Imgs × Int))
 | (w1055, w1056) =>
 if w1055 = true then
 z1b (z6x v757 w808) LFm (false, 0, w1056)
 else
 z1m <|
 z1b (z5q a0 v757 v950 w1056) LFm (0, List.replicate (v757.length : Int).toNat ([] : List Int))
def z7R (a0 : DFA) (v757 : List Int) (w808 : List (List Bool)) (v950 : List Int) : Bool × List Int -> Fr
 | (w1055, w1056) => ⟨418, [(1, .one (.a 1 [] (0))), (2, .one (.a 2 [] (0))), (5, .one (.a 5 [] (0))), (10, .one (.h 10 [])), (23, .one (.t none (.sc (.bool w1055))))], [(1, .vr [.sc (.int .i64 a0.letters), .sc (.int .i64 a0.start), .sl a0.final.length (a0.final.map fun x0 => .sc (.bool x0)), .sl a0.next.length (a0.next.map fun x0 => .sl x0.length (x0.map fun x1 => .sc (.int .i64 x1)))]), (2, .vr [.os 1 0 [], .os 1 0 [], .os 1 0 [], .os 1 0 [], .os 1 0 [], .os 1 0 []]), (5, .vr [.os 1 v757.length (v757.map fun x0 => .sc (.int .i64 x0)), .os 1 v950.length (v950.map fun x0 => .sc (.int .i64 x0)), .os 1 w1056.length (w1056.map fun x0 => .sc (.int .i64 x0)), .os 1 (List.replicate (v757.length : Int).toNat ([] : List Int)).length ((List.replicate (v757.length : Int).toNat ([] : List Int)).map fun x0 => .os 1 x0.length (x0.map fun x1 => .sc (.int .i64 x1))), .os 1 (List.replicate (v757.length : Int).toNat (ByteArray.empty : ByteArray)).length ((List.replicate (v757.length : Int).toNat (ByteArray.empty : ByteArray)).map fun x0 => .sc (.string x0)), .os 1 (List.replicate (v757.length : Int).toNat (ByteArray.empty : ByteArray)).length ((List.replicate (v757.length : Int).toNat (ByteArray.empty : ByteArray)).map fun x0 => .sc (.string x0))]), (10, .os 1 w808.length (w808.map fun x0 => .os 1 x0.length (x0.map fun x1 => .sc (.bool x1))))]⟩
def z7Y (a0 : DFA) (v757 : List Int) (w808 : List (List Bool)) : Int × List Int -> Option ((Int × List Int) ⊕ (Imgs × Int))
 | (w908, w909) =>
 if w908 < (v757.length : Int) then
 (atI w909 w908).bind fun v930 =>
 z1b (z6z w808 w908 w909) LFm 0
 else
 z1m <|
 (z4D w909).bind fun v950 =>
 chk (z2k 8 (v757.length : Int)) <|
 chk (z2k 24 (v757.length : Int)) <|
 chk (z2k 16 (v757.length : Int)) <|
 z1b (z6y a0 v757 w808 v950) LFm (true, List.replicate (v757.length : Int).toNat (0 : Int))
def z6q (a0 : DFA) (v757 : List Int) (w808 : List (List Bool)) : Int × List Int -> Fr
 | (w908, w909) => ⟨418, [(1, .one (.a 1 [] (0))), (2, .one (.a 2 [] (0))), (5, .one (.a 5 [] (0))), (6, .one (.t none (.sc (.int .i64 (v757.length : Int))))), (10, .one (.h 10 [])), (20, .one (.h 20 [])), (126, .one (.t none (.sc (.int .i64 (v757.length : Int))))), (127, .one (.t none (.sc (.int .i64 w908))))], [(1, .vr [.sc (.int .i64 a0.letters), .sc (.int .i64 a0.start), .sl a0.final.length (a0.final.map fun x0 => .sc (.bool x0)), .sl a0.next.length (a0.next.map fun x0 => .sl x0.length (x0.map fun x1 => .sc (.int .i64 x1)))]), (2, .vr [.os 1 0 [], .os 1 0 [], .os 1 0 [], .os 1 0 [], .os 1 0 [], .os 1 0 []]), (5, .vr [.os 1 v757.length (v757.map fun x0 => .sc (.int .i64 x0)), .os 1 0 [], .os 1 0 [], .os 1 0 [], .os 1 0 [], .os 1 0 []]), (10, .os 1 w808.length (w808.map fun x0 => .os 1 x0.length (x0.map fun x1 => .sc (.bool x1)))), (20, .os 1 w909.length (w909.map fun x0 => .sc (.int .i64 x0)))]⟩
def z7Z (a0 : DFA) (v757 : List Int) : Int × List (List Bool) -> Option ((Int × List (List Bool)) ⊕ (Imgs × Int))
 | (w807, w808) =>
 if w807 < (v757.length : Int) then
 (atI v757 w807).bind fun v849 =>
 (z4A a0 v849).bind fun v850 =>
 z1b (z6B v757 w807 v850) LFm (0, w808)
 else
 z1m <|
 chk (z2k 8 (v757.length : Int)) <|
 z1b (z7Y a0 v757 w808) LFm (0, List.replicate (v757.length : Int).toNat (0 : Int))
def z7T (a0 : DFA) (v757 : List Int) : Int × List (List Bool) -> Fr
 | (w807, w808) => ⟨418, [(1, .one (.a 1 [] (0))), (2, .one (.a 2 [] (0))), (5, .one (.a 5 [] (0))), (6, .one (.t none (.sc (.int .i64 (v757.length : Int))))), (10, .one (.h 10 [])), (82, .one (.h 5 [0])), (83, .one (.t none (.sc (.int .i64 (v757.length : Int))))), (84, .one (.t none (.sc (.int .i64 w807))))], [(1, .vr [.sc (.int .i64 a0.letters), .sc (.int .i64 a0.start), .sl a0.final.length (a0.final.map fun x0 => .sc (.bool x0)), .sl a0.next.length (a0.next.map fun x0 => .sl x0.length (x0.map fun x1 => .sc (.int .i64 x1)))]), (2, .vr [.os 1 0 [], .os 1 0 [], .os 1 0 [], .os 1 0 [], .os 1 0 [], .os 1 0 []]), (5, .vr [.os 1 v757.length (v757.map fun x0 => .sc (.int .i64 x0)), .os 1 0 [], .os 1 0 [], .os 1 0 [], .os 1 0 [], .os 1 0 []]), (10, .os 1 w808.length (w808.map fun x0 => .os 1 x0.length (x0.map fun x1 => .sc (.bool x1))))]⟩
def z8a (a0 : DFA) (v757 : List Int) : Int × List (List Bool) -> Option ((Int × List (List Bool)) ⊕ (Imgs × Int))
 | (w763, w764) =>
 if w763 < (v757.length : Int) then
 chk (z2k 1 (v757.length : Int)) <|
 (atI w764 w763).bind fun v766 =>
 z0B (i64.wrap (w763 + 1), (w764.set w763.toNat (List.replicate (v757.length : Int).toNat (false : Bool))))
 else
 z1m <|
 z1b (z7Z a0 v757) LFm (0, w764)
def z7U (a0 : DFA) (v757 : List Int) : Int × List (List Bool) -> Fr
 | (w763, w764) => ⟨418, [(1, .one (.a 1 [] (0))), (2, .one (.a 2 [] (0))), (5, .one (.a 5 [] (0))), (6, .one (.t none (.sc (.int .i64 (v757.length : Int))))), (10, .one (.h 10 [])), (71, .one (.t none (.sc (.int .i64 (v757.length : Int))))), (72, .one (.t none (.sc (.int .i64 w763))))], [(1, .vr [.sc (.int .i64 a0.letters), .sc (.int .i64 a0.start), .sl a0.final.length (a0.final.map fun x0 => .sc (.bool x0)), .sl a0.next.length (a0.next.map fun x0 => .sl x0.length (x0.map fun x1 => .sc (.int .i64 x1)))]), (2, .vr [.os 1 0 [], .os 1 0 [], .os 1 0 [], .os 1 0 [], .os 1 0 [], .os 1 0 []]), (5, .vr [.os 1 v757.length (v757.map fun x0 => .sc (.int .i64 x0)), .os 1 0 [], .os 1 0 [], .os 1 0 [], .os 1 0 [], .os 1 0 []]), (10, .os 1 w764.length (w764.map fun x0 => .os 1 x0.length (x0.map fun x1 => .sc (.bool x1))))]⟩
def z6C (a0 : DFA) (v757 : List Int) : Int × (List (Int × Int)) -> Option ((Int × (List (Int × Int))) ⊕ (Imgs × Int))
 | (w759, w760) =>
 if w759 < (v757.length : Int) then
 (atI v757 w759).bind fun v762 =>
 z0B (i64.wrap (w759 + 1), zk6 v762 w759 w760)
 else
 z1m <|
 chk (z2k 24 (v757.length : Int)) <|
 z1b (z8a a0 v757) LFm (0, List.replicate (v757.length : Int).toNat ([] : List Bool))
def z7V (a0 : DFA) (v757 : List Int) : Int × (List (Int × Int)) -> Fr
 | (w759, w760) => ⟨418, [(1, .one (.a 1 [] (0))), (2, .one (.a 2 [] (0))), (5, .one (.a 5 [] (0))), (6, .one (.t none (.sc (.int .i64 (v757.length : Int))))), (7, .one (.h 7 [])), (57, .one (.h 5 [0])), (58, .one (.t none (.sc (.int .i64 (v757.length : Int))))), (59, .one (.t none (.sc (.int .i64 w759))))], [(1, .vr [.sc (.int .i64 a0.letters), .sc (.int .i64 a0.start), .sl a0.final.length (a0.final.map fun x0 => .sc (.bool x0)), .sl a0.next.length (a0.next.map fun x0 => .sl x0.length (x0.map fun x1 => .sc (.int .i64 x1)))]), (2, .vr [.os 1 0 [], .os 1 0 [], .os 1 0 [], .os 1 0 [], .os 1 0 [], .os 1 0 []]), (5, .vr [.os 1 v757.length (v757.map fun x0 => .sc (.int .i64 x0)), .os 1 0 [], .os 1 0 [], .os 1 0 [], .os 1 0 [], .os 1 0 []]), (7, .mp (some .i64) (w760.map fun x0 => (.int .i64 x0.1, .int .i64 x0.2)))]⟩
def zcT (a0 : DFA) : Option (Imgs × Int) :=
 (z9U a0).bind fun v756 =>
 if v756 = 0 then
 (z8V a0).bind fun v757 =>
 if 400 < (v757.length : Int) then
 some ((⟨[], [], [], [], [], []⟩ : Imgs), 3)
 else
 z1b (z6C a0 v757) LFm (0, ([] : List (Int × Int)))
 else
 some ((⟨[], [], [], [], [], []⟩ : Imgs), v756)
theorem znS {a0 : DFA} {r : Imgs × Int} (h0 : zcT a0 = some r) : L 15 [.agg [.sc (.int .i64 a0.letters), .sc (.int .i64 a0.start), .sl a0.final.length (a0.final.map fun x0 => .sc (.bool x0)), .sl a0.next.length (a0.next.map fun x0 => .sl x0.length (x0.map fun x1 => .sc (.int .i64 x1)))]] = some (.tup [.agg [.os 1 r.1.sets.length (r.1.sets.map fun x0 => .sc (.int .i64 x0)), .os 1 r.1.class_.length (r.1.class_.map fun x0 => .sc (.int .i64 x0)), .os 1 r.1.height.length (r.1.height.map fun x0 => .sc (.int .i64 x0)), .os 1 r.1.tiles.length (r.1.tiles.map fun x0 => .os 1 x0.length (x0.map fun x1 => .sc (.int .i64 x1))), .os 1 r.1.words.length (r.1.words.map fun x0 => .sc (.string x0)), .os 1 r.1.back.length (r.1.back.map fun x0 => .sc (.string x0))], .sc (.int .i64 r.2)], [.dead]) := by
  simp only [zcT] at h0
  refine z2F zAE zAS (z1w zAY ⟨of_decide_eq_true rfl, of_decide_eq_true rfl⟩ ?_)
  simp only [z1E, z1C, z1B, z1F, z3u]
  refine zp (zs ?_)
  refine z0a (zp (zp ?_))
  obtain ⟨v756, f1042, h1⟩ := z0d h0
  have f1042k := zmq f1042
  try simp at f1042k
  refine zr rfl rfl rfl (by simp [f1042k]; rfl) ?_
  refine z0a (zp (zs ?_))
  refine z0a ?_
  by_cases c1043 : v756 = 0
  ·rw [if_pos c1043] at h1
   have c1043e := eq_true c1043
   refine z0r rfl (by simp [c1043e]) (z0j rfl (z0a (zp ?_)))
   obtain ⟨v757, f1044, h2⟩ := z0d h1
   have f1044k := zka f1044
   try simp at f1044k
   refine zr rfl rfl rfl (by simp [f1044k]; rfl) ?_
   refine z0a (zp (zs ?_))
   refine z0a (zp (zp (zs ?_)))
   refine z0a ?_
   by_cases c1045 : 400 < (v757.length : Int)
   ·rw [if_pos c1045] at h2
    refine z0t rfl (by simp [c1045]) (zp (zs ?_))
    refine z0a (z1f rfl (z0Q ?_))
    cases h2
    simp
   ·rw [if_neg c1045] at h2
    refine z0r rfl (by simp [c1045]) (z0j rfl (z0a (zp (zs ?_))))
    refine z0a (zp (zp (zs ?_)))
    refine z0a (zb rfl (z0C h2 (z7V a0 v757) rfl rfl (by simp [z7V]) fun s o1 h3 hr1 => ?_))
    obtain ⟨w759, w760⟩ := s
    simp only [z6C] at h3
    simp only [z7V]
    refine zp (zs ?_)
    refine z0a (zp ?_)
    by_cases c1050 : w759 < (v757.length : Int)
    ·rw [if_pos c1050] at h3
     refine z0t rfl (by simp [c1050]) (z0j rfl (z0a (zp (zb rfl (zp ?_)))))
     obtain ⟨v762, f1051, h4⟩ := z0I h3
     refine zr rfl rfl rfl (by simp [f1051]; rfl) ?_
     refine z0a (zs ?_)
     refine z0h (z0a (zs ?_))
     have ho := z0c h4
     refine z0i ho ?_
     simp [z7V]
    ·rw [if_neg c1050] at h3
     refine z0r rfl (by simp [c1050]) (z0X rfl (z0w ?_))
     obtain ⟨rr1, h4, ho1⟩ := z0k h3
     have hs1 := hr1 _ ho1
     subst hs1
     refine z0s ho1 (z0g rfl (z0a (zp ?_)))
     obtain ⟨f1052, h5⟩ := zng h4
     refine zr rfl rfl rfl (by simp [f1052]; rfl) ?_
     refine z0a (zp (zp (zr rfl rfl rfl (by simp [f1052]; rfl) ?_)))
     refine z0a (zb rfl (z0C h5 (z7U a0 v757) rfl rfl (by simp [z7U]) fun s o2 h6 hr2 => ?_))
     obtain ⟨w763, w764⟩ := s
     simp only [z8a] at h6
     simp only [z7U]
     refine zp (zs ?_)
     refine z0a (zp ?_)
     by_cases c1059 : w763 < (v757.length : Int)
     ·rw [if_pos c1059] at h6
      refine z0t rfl (by simp [c1059]) (z0j rfl (z0a (zp (zb rfl (zp (zs ?_))))))
      refine z0a ?_
      obtain ⟨f1060, h7⟩ := zxV h6
      obtain ⟨v766, f1061, h8⟩ := z0I h7
      refine zr rfl rfl rfl (by simp [f1060, f1061]; rfl) ?_
      refine z0h (z0a (zs ?_))
      have ho := z0c h8
      refine z0i ho ?_
      simp [z7U]
     ·rw [if_neg c1059] at h6
      refine z0r rfl (by simp [c1059]) (z0X rfl (z0w ?_))
      obtain ⟨rr2, h7, ho2⟩ := z0k h6
      have hs2 := hr2 _ ho2
      subst hs2
      refine z0s ho2 (z0g rfl (z0a (zp (zp (zs ?_)))))
      refine z0a (zb rfl (z0C h7 (z7T a0 v757) rfl rfl (by simp [z7T]) fun s o3 h8 hr3 => ?_))
      obtain ⟨w807, w808⟩ := s
      simp only [z7Z] at h8
      simp only [z7T]
      refine zp (zs ?_)
      refine z0a (zp ?_)
      by_cases c1170 : w807 < (v757.length : Int)
      ·rw [if_pos c1170] at h8
       refine z0t rfl (by simp [c1170]) (z0j rfl (z0a (zp (zb rfl (zp ?_)))))
       obtain ⟨v849, f1171, h9⟩ := z0I h8
       refine zr rfl rfl rfl (by simp [f1171]; rfl) ?_
       refine z0a (zp ?_)
       obtain ⟨v850, f1172, h10⟩ := z0d h9
       have f1172k := z6f f1172
       try simp at f1172k
       refine zr rfl rfl rfl (by simp [f1172k]; rfl) ?_
       refine z0a (zp (zs ?_))
       refine z0a (zb rfl (z0C h10 (z7S a0 v757 w807 v850) rfl rfl (by simp [z7S]) fun s o4 h11 hr4 => ?_))
       obtain ⟨w863, w864⟩ := s
       simp only [z6B] at h11
       simp only [z7S]
       refine zp (zs ?_)
       refine z0a (zp ?_)
       by_cases c1207 : w863 < (v850.1.length : Int)
       ·rw [if_pos c1207] at h11
        refine z0t rfl (by simp [c1207]) (z0j rfl (z0a (zp (zb rfl (zp ?_)))))
        obtain ⟨v877, f1208, h12⟩ := z0I h11
        refine zr rfl rfl rfl (by simp [f1208]; rfl) ?_
        refine z0a (zp (zs ?_))
        refine z0a (zb rfl (z0C h12 (z6r a0 v757 w807 v850 w863 v877) rfl rfl (by simp [z6r]) fun s o5 h13 hr5 => ?_))
        obtain ⟨w881, w882⟩ := s
        simp only [z6A] at h13
        simp only [z6r]
        refine zp (zs ?_)
        refine z0a (zp ?_)
        by_cases c1219 : w881 < (v757.length : Int)
        ·rw [if_pos c1219] at h13
         refine z0t rfl (by simp [c1219]) (z0j rfl (z0a (zp (zb rfl (zp ?_)))))
         obtain ⟨v886, f1220, h14⟩ := z0I h13
         refine zr rfl rfl rfl (by simp [f1220]; rfl) ?_
         refine z0a (zp (zs ?_))
         refine z0a ?_
         by_cases c1221 : (z2A .i64 v886 v877) = v886
         ·rw [if_pos c1221] at h14
          have c1221e := eq_true c1221
          refine z0t rfl (by simp [c1221e]) ?_
          obtain ⟨v887, f1222, h15⟩ := z0I h14
          obtain ⟨v888, f1223, h16⟩ := z0I h15
          refine zr rfl rfl rfl (by simp [f1222, f1223]; rfl) ?_
          refine z0h (z0a (zr rfl rfl rfl (by simp [f1222]; rfl) ?_))
          have ho := z0c h16
          refine z0i ho ?_
          simp [z6r]
         ·rw [if_neg c1221] at h14
          have c1221e := eq_false c1221
          refine z0r rfl (by simp [c1221e]) (z0j rfl (z0h (z0a (zs ?_))))
          have ho := z0c h14
          refine z0i ho ?_
          simp [z6r]
        ·rw [if_neg c1219] at h13
         refine z0r rfl (by simp [c1219]) (z0X rfl (z0w ?_))
         obtain ⟨rr5, h14, ho5⟩ := z0k h13
         have hs5 := hr5 _ ho5
         subst hs5
         refine z0s ho5 (z0g rfl (z0h (z0a (zs ?_))))
         have ho := z0c h14
         refine z0i ho ?_
         simp [z7S]
       ·rw [if_neg c1207] at h11
        refine z0r rfl (by simp [c1207]) (z0X rfl (z0w ?_))
        obtain ⟨rr4, h12, ho4⟩ := z0k h11
        have hs4 := hr4 _ ho4
        subst hs4
        refine z0s ho4 (z0g rfl (z0h (z0a (zs ?_))))
        have ho := z0c h12
        refine z0i ho ?_
        simp [z7T]
      ·rw [if_neg c1170] at h8
       refine z0r rfl (by simp [c1170]) (z0X rfl (z0w ?_))
       obtain ⟨rr3, h9, ho3⟩ := z0k h8
       have hs3 := hr3 _ ho3
       subst hs3
       refine z0s ho3 (z0g rfl (z0a (zp ?_)))
       obtain ⟨f1224, h10⟩ := zng h9
       refine zr rfl rfl rfl (by simp [f1224]; rfl) ?_
       refine z0a (zp (zp (zr rfl rfl rfl (by simp [f1224]; rfl) ?_)))
       refine z0a (zb rfl (z0C h10 (z6q a0 v757 w808) rfl rfl (by simp [z6q]) fun s o6 h11 hr6 => ?_))
       obtain ⟨w908, w909⟩ := s
       simp only [z7Y] at h11
       simp only [z6q]
       refine zp (zs ?_)
       refine z0a (zp ?_)
       by_cases c1279 : w908 < (v757.length : Int)
       ·rw [if_pos c1279] at h11
        refine z0t rfl (by simp [c1279]) (z0j rfl (z0a (zp (zb rfl (zp (zs ?_))))))
        refine z0a (zp ?_)
        obtain ⟨v930, f1280, h12⟩ := z0I h11
        refine zr rfl rfl rfl (by simp [f1280]; rfl) ?_
        refine z0a (zp (zs ?_))
        refine z0a (zb rfl (z0C h12 (z6p a0 v757 w808 w908 w909) rfl rfl (by simp [z6p]) fun s o7 h13 hr7 => ?_))
        obtain ⟨w937, hs7⟩ : ∃ y, y = s := ⟨_, rfl⟩
        subst hs7
        simp only [z6z] at h13
        simp only [z6p]
        refine zp (zp (zs ?_))
        refine z0a ?_
        by_cases c1299 : w937 < w908
        ·rw [if_pos c1299] at h13
         refine z0t rfl (by simp [c1299]) (z0j rfl (z0a (zp (zb rfl (zp ?_)))))
         obtain ⟨v944, f1300, h14⟩ := z0I h13
         obtain ⟨v945, f1301, h15⟩ := z0I h14
         by_cases c1302 : v945 = true
         ·rw [if_pos c1302] at h15
          obtain ⟨v946, f1303, h16⟩ := z0I h15
          obtain ⟨v947, f1304, h17⟩ := z0I h16
          refine zr rfl rfl rfl (by simp [f1300, f1301, c1302, f1303, f1304]; rfl) ?_
          refine z0a ?_
          by_cases c1305 : v947 = true
          ·rw [if_pos c1305] at h17
           refine z0t rfl (by simp [c1305]) (zp ?_)
           obtain ⟨v948, f1306, h18⟩ := z0d h17
           obtain ⟨f1306a, f1306b, f1306c, f1306d, f1306e⟩ := z8e f1306
           try simp only [List.length_set] at f1306b f1306c
           have f1306s : ∀ hh, ((w909.set w908.toNat w908).map (fun x0 : Int => (.sc (.int .i64 x0) : T)))[w937.toNat]'hh = (fun x0 : Int => (.sc (.int .i64 x0) : T)) v948 := fun hh => by rw [List.getElem_map]; exact congrArg (fun x0 : Int => (.sc (.int .i64 x0) : T)) (f1306e _)
           try simp only [List.map_set] at f1306s
           obtain ⟨v949, f1307, h19⟩ := z0d h18
           obtain ⟨f1307a, f1307b, f1307c, f1307d, f1307e⟩ := z8e f1307
           try simp only [List.length_set] at f1307b f1307c
           have f1307s : ∀ hh, ((w909.set w908.toNat w908).map (fun x0 : Int => (.sc (.int .i64 x0) : T)))[w908.toNat]'hh = (fun x0 : Int => (.sc (.int .i64 x0) : T)) v949 := fun hh => by rw [List.getElem_map]; exact congrArg (fun x0 : Int => (.sc (.int .i64 x0) : T)) (f1307e _)
           try simp only [List.map_set] at f1307s
           refine zr rfl rfl rfl (by simp [f1300, f1303, f1306a, f1306b, f1306c, f1306d, f1306e, f1306s, f1307a, f1307b, f1307c, f1307d, f1307e, f1307s]; rfl) ?_
           refine z0a (z0X rfl (z9w rfl (z0w ?_)))
           obtain ⟨rr7, h20, ho7⟩ := z0k h19
           have hs7 := hr7 _ ho7
           subst hs7
           refine z0s ho7 (z0g rfl (z0h (z0a (zr rfl rfl rfl (by simp [f1300, f1303]; rfl) ?_))))
           have ho := z0c h20
           refine z0i ho ?_
           simp [z6q, c1302, c1305]
          ·rw [if_neg c1305] at h17
           refine z0r rfl (by simp [c1305]) (z0j rfl (z0h (z0a (zr rfl rfl rfl (by simp [f1300, f1303]; rfl) ?_))))
           have ho := z0c h17
           refine z0i ho ?_
           simp [z6p, c1302, c1305]
         ·rw [if_neg c1302] at h15
          refine zr rfl rfl rfl (by simp [f1300, f1301, c1302]; rfl) ?_
          refine z0a (z0r rfl (by simp) (z0j rfl (z0h (z0a (zr rfl rfl rfl (by simp [f1300]; rfl) ?_)))))
          have ho := z0c h15
          refine z0i ho ?_
          simp [z6p, c1302]
        ·rw [if_neg c1299] at h13
         refine z0r rfl (by simp [c1299]) (z0X rfl (z0w ?_))
         obtain ⟨rr7, h14, ho7⟩ := z0k h13
         have hs7 := hr7 _ ho7
         subst hs7
         refine z0s ho7 (z0g rfl (z0h (z0a (zs ?_))))
         have ho := z0c h14
         refine z0i ho ?_
         simp [z6q]
       ·rw [if_neg c1279] at h11
        refine z0r rfl (by simp [c1279]) (z0X rfl (z0w ?_))
        obtain ⟨rr6, h12, ho6⟩ := z0k h11
        have hs6 := hr6 _ ho6
        subst hs6
        refine z0s ho6 (z0g rfl (z0a (zp ?_)))
        obtain ⟨v950, f1308, h13⟩ := z0d h12
        have f1308k := zcU f1308
        try simp at f1308k
        refine zr rfl rfl rfl (by simp [f1308k]; rfl) ?_
        refine z0a (zp ?_)
        obtain ⟨f1309, h14⟩ := zng h13
        obtain ⟨f1310, h15⟩ := zng h14
        obtain ⟨f1311, h16⟩ := zng h15
        refine zeQ rfl rfl rfl rfl ?_
        refine zm6 [(0, 0, 0, 1), (1, 2, 3, 2), (2, 4, 3, 3), (3, 6, 3, 4), (4, 1, 1, 5), (4, 3, 1, 6), (4, 5, 1, 7), (4, 7, 1, 8), (5, 8, 0, 12), (6, 1, 1, 9), (6, 5, 1, 13), (6, 7, 1, 14), (7, 1, 1, 10), (7, 3, 1, 13), (7, 7, 1, 15), (8, 1, 1, 11), (8, 3, 1, 14), (8, 5, 1, 15), (9, 8, 0, 18), (10, 8, 0, 20), (11, 8, 0, 21), (12, 3, 1, 18), (12, 5, 1, 20), (12, 7, 1, 21), (12, 9, 2, 22), (13, 1, 1, 16), (13, 7, 1, 23), (14, 1, 1, 17), (14, 5, 1, 23), (15, 1, 1, 19), (15, 3, 1, 23), (16, 8, 0, 25), (17, 8, 0, 26), (18, 5, 1, 25), (18, 7, 1, 26), (18, 9, 2, 27), (19, 8, 0, 28), (20, 3, 1, 25), (20, 7, 1, 28), (20, 9, 2, 29), (21, 3, 1, 26), (21, 5, 1, 28), (21, 9, 2, 30), (22, 3, 1, 27), (22, 5, 1, 29), (22, 7, 1, 30), (23, 1, 1, 24), (24, 8, 0, 31), (25, 7, 1, 31), (25, 9, 2, 32), (26, 5, 1, 31), (26, 9, 2, 33), (27, 10, 0, 34), (28, 3, 1, 31), (28, 9, 2, 35), (29, 3, 1, 32), (29, 7, 1, 35), (30, 3, 1, 33), (30, 5, 1, 35), (31, 9, 2, 36), (32, 10, 0, 37), (33, 10, 0, 38), (34, 5, 1, 37), (34, 7, 1, 38), (34, 11, 2, 39), (35, 3, 1, 36), (36, 10, 0, 40), (37, 7, 1, 40), (37, 11, 2, 41), (38, 5, 1, 40), (38, 11, 2, 42), (39, 5, 1, 41), (39, 7, 1, 42), (40, 11, 2, 43), (41, 12, 0, 44), (42, 5, 1, 43), (43, 12, 0, 45), (44, 7, 1, 45), (44, 13, 2, 46), (45, 13, 2, 47), (46, 7, 1, 47), (47, 14, 0, 48), (48, 15, 2, 49)] 49 (by kernel_rfl) ?_
        iterate 13 (refine z0n rfl rfl rfl rfl (by simp [z0f, z0e, f1309, f1310, f1311]; rfl) ?_)
        refine z0p rfl rfl rfl rfl (by simp [z0f, z0e, f1309, f1310, f1311]) ?_
        refine z0n rfl rfl rfl rfl (by simp [z0f, z0e, f1309, f1310, f1311]; rfl) ?_
        refine z0n rfl rfl rfl rfl (by simp [z0f, z0e, f1309, f1310, f1311]; rfl) ?_
        refine z0p rfl rfl rfl rfl (by simp [z0f, z0e, f1309, f1310, f1311]) ?_
        refine z0p rfl rfl rfl rfl (by simp [z0f, z0e, f1309, f1310, f1311]) ?_
        iterate 3 (refine z0n rfl rfl rfl rfl (by simp [z0f, z0e, f1309, f1310, f1311]; rfl) ?_)
        iterate 3 (refine z0p rfl rfl rfl rfl (by simp [z0f, z0e, f1309, f1310, f1311]) ?_)
        iterate 4 (refine z0n rfl rfl rfl rfl (by simp [z0f, z0e, f1309, f1310, f1311]; rfl) ?_)
        refine z0p rfl rfl rfl rfl (by simp [z0f, z0e, f1309, f1310, f1311]) ?_
        refine z0n rfl rfl rfl rfl (by simp [z0f, z0e, f1309, f1310, f1311]; rfl) ?_
        refine z0p rfl rfl rfl rfl (by simp [z0f, z0e, f1309, f1310, f1311]) ?_
        refine z0n rfl rfl rfl rfl (by simp [z0f, z0e, f1309, f1310, f1311]; rfl) ?_
        refine z0n rfl rfl rfl rfl (by simp [z0f, z0e, f1309, f1310, f1311]; rfl) ?_
        refine z0p rfl rfl rfl rfl (by simp [z0f, z0e, f1309, f1310, f1311]) ?_
        refine z0p rfl rfl rfl rfl (by simp [z0f, z0e, f1309, f1310, f1311]) ?_
        refine z0n rfl rfl rfl rfl (by simp [z0f, z0e, f1309, f1310, f1311]; rfl) ?_
        refine z0n rfl rfl rfl rfl (by simp [z0f, z0e, f1309, f1310, f1311]; rfl) ?_
        refine z0p rfl rfl rfl rfl (by simp [z0f, z0e, f1309, f1310, f1311]) ?_
        refine z0p rfl rfl rfl rfl (by simp [z0f, z0e, f1309, f1310, f1311]) ?_
        refine z0n rfl rfl rfl rfl (by simp [z0f, z0e, f1309, f1310, f1311]; rfl) ?_
        refine z0p rfl rfl rfl rfl (by simp [z0f, z0e, f1309, f1310, f1311]) ?_
        refine z0p rfl rfl rfl rfl (by simp [z0f, z0e, f1309, f1310, f1311]) ?_
        refine z0n rfl rfl rfl rfl (by simp [z0f, z0e, f1309, f1310, f1311]; rfl) ?_
        iterate 3 (refine z0p rfl rfl rfl rfl (by simp [z0f, z0e, f1309, f1310, f1311]) ?_)
        refine z0n rfl rfl rfl rfl (by simp [z0f, z0e, f1309, f1310, f1311]; rfl) ?_
        refine z0n rfl rfl rfl rfl (by simp [z0f, z0e, f1309, f1310, f1311]; rfl) ?_
        refine z0p rfl rfl rfl rfl (by simp [z0f, z0e, f1309, f1310, f1311]) ?_
        refine z0n rfl rfl rfl rfl (by simp [z0f, z0e, f1309, f1310, f1311]; rfl) ?_
        refine z0p rfl rfl rfl rfl (by simp [z0f, z0e, f1309, f1310, f1311]) ?_
        refine z0n rfl rfl rfl rfl (by simp [z0f, z0e, f1309, f1310, f1311]; rfl) ?_
        refine z0n rfl rfl rfl rfl (by simp [z0f, z0e, f1309, f1310, f1311]; rfl) ?_
        refine z0p rfl rfl rfl rfl (by simp [z0f, z0e, f1309, f1310, f1311]) ?_
        refine z0n rfl rfl rfl rfl (by simp [z0f, z0e, f1309, f1310, f1311]; rfl) ?_
        iterate 4 (refine z0p rfl rfl rfl rfl (by simp [z0f, z0e, f1309, f1310, f1311]) ?_)
        iterate 3 (refine z0n rfl rfl rfl rfl (by simp [z0f, z0e, f1309, f1310, f1311]; rfl) ?_)
        refine z0p rfl rfl rfl rfl (by simp [z0f, z0e, f1309, f1310, f1311]) ?_
        refine z0p rfl rfl rfl rfl (by simp [z0f, z0e, f1309, f1310, f1311]) ?_
        refine z0n rfl rfl rfl rfl (by simp [z0f, z0e, f1309, f1310, f1311]; rfl) ?_
        refine z0p rfl rfl rfl rfl (by simp [z0f, z0e, f1309, f1310, f1311]) ?_
        refine z0n rfl rfl rfl rfl (by simp [z0f, z0e, f1309, f1310, f1311]; rfl) ?_
        refine z0p rfl rfl rfl rfl (by simp [z0f, z0e, f1309, f1310, f1311]) ?_
        refine z0n rfl rfl rfl rfl (by simp [z0f, z0e, f1309, f1310, f1311]; rfl) ?_
        refine z0p rfl rfl rfl rfl (by simp [z0f, z0e, f1309, f1310, f1311]) ?_
        refine z0n rfl rfl rfl rfl (by simp [z0f, z0e, f1309, f1310, f1311]; rfl) ?_
        refine z0p rfl rfl rfl rfl (by simp [z0f, z0e, f1309, f1310, f1311]) ?_
        refine z0p rfl rfl rfl rfl (by simp [z0f, z0e, f1309, f1310, f1311]) ?_
        refine z0n rfl rfl rfl rfl (by simp [z0f, z0e, f1309, f1310, f1311]; rfl) ?_
        refine z0n rfl rfl rfl rfl (by simp [z0f, z0e, f1309, f1310, f1311]; rfl) ?_
        refine z0p rfl rfl rfl rfl (by simp [z0f, z0e, f1309, f1310, f1311]) ?_
        refine z0n rfl rfl rfl rfl (by simp [z0f, z0e, f1309, f1310, f1311]; rfl) ?_
        refine z0p rfl rfl rfl rfl (by simp [z0f, z0e, f1309, f1310, f1311]) ?_
        refine z0n rfl rfl rfl rfl (by simp [z0f, z0e, f1309, f1310, f1311]; rfl) ?_
        refine z0n rfl rfl rfl rfl (by simp [z0f, z0e, f1309, f1310, f1311]; rfl) ?_
        refine z0p rfl rfl rfl rfl (by simp [z0f, z0e, f1309, f1310, f1311]) ?_
        refine z0n rfl rfl rfl rfl (by simp [z0f, z0e, f1309, f1310, f1311]; rfl) ?_
        refine z0n rfl rfl rfl rfl (by simp [z0f, z0e, f1309, f1310, f1311]; rfl) ?_
        refine zn4 rfl ?_
        refine zeM rfl (by simp [f1309, f1310, f1311]; rfl) ?_
        refine z0a (zp (zp (zs ?_)))
        refine z0a (zb rfl (z0C h16 (z7R a0 v757 w808 v950) rfl rfl (by simp [z7R]) fun s o8 h17 hr8 => ?_))
        obtain ⟨w1055, w1056⟩ := s
        simp only [z6y] at h17
        simp only [z7R]
        refine zp (zp (zs ?_))
        refine z0a ?_
        by_cases c1567 : w1055 = true
        ·rw [if_pos c1567] at h17
         refine z0t rfl (by simp [c1567]) (z0j rfl (z0a (zb rfl (zp (zs ?_)))))
         refine z0a (zp (zs ?_))
         refine z0a (zb rfl (z0C h17 (z7Q a0 v757 w808 v950) rfl rfl (by simp [z7Q]) fun s o9 h18 hr9 => ?_))
         obtain ⟨w1204, w1205, w1206⟩ := s
         simp only [z6x] at h18
         simp only [z7Q]
         refine zp (zs ?_)
         refine z0a (zp ?_)
         by_cases c1655 : w1205 < (v757.length : Int)
         ·rw [if_pos c1655] at h18
          refine z0t rfl (by simp [c1655]) (z0j rfl (z0a (zp (zb rfl (zp (zs ?_))))))
          refine z0a (zp (zs ?_))
          refine z0a (zb rfl (z0C h18 (z4m a0 v757 w808 v950 w1205) rfl rfl (by simp [z4m]) fun s o10 h19 hr10 => ?_))
          obtain ⟨w1251, w1250, w1252⟩ := s
          simp only [z6w] at h19
          simp only [z4m]
          refine zp (zs ?_)
          refine z0a (zp ?_)
          by_cases c1682 : w1250 < (v757.length : Int)
          ·rw [if_pos c1682] at h19
           refine z0t rfl (by simp [c1682]) (z0j rfl (z0a (zp (zb rfl (zp (zs ?_))))))
           refine z0a (zp ?_)
           obtain ⟨v1263, f1683, h20⟩ := z0I h19
           obtain ⟨v1264, f1684, h21⟩ := z0d h20
           have f1684k := z4K f1684
           try simp at f1684k
           by_cases c1685 : 1 < v1264
           ·rw [if_pos c1685] at h21
            obtain ⟨v1265, f1686, h22⟩ := z0I h21
            obtain ⟨v1266, f1687, h23⟩ := z0I h22
            by_cases c1688 : v1266 = true
            ·rw [if_pos c1688] at h23
             obtain ⟨v1267, f1689, h24⟩ := z0I h23
             obtain ⟨v1268, f1690, h25⟩ := z0I h24
             by_cases c1691 : v1268 = true
             ·rw [if_pos c1691] at h25
              refine z1c rfl rfl rfl rfl ?_; repeat' (first | (refine z0q rfl rfl fun Q' hQ => ?_; simp [f1683, f1684k, c1685, f1686, f1687, c1688, f1689, f1690, c1691]; refine hQ.out _ ?_; clear hQ; clear Q') | (refine z1g rfl rfl fun Q1 Q2 h1 h2 => ?_; simp [f1683, f1684k, c1685, f1686, f1687, c1688, f1689, f1690, c1691, z1Q]; (first | refine h1.out ?_ | refine h2.out ?_); clear h1 h2; clear Q1 Q2; intro Q' hQ; simp [f1683, f1684k, c1685, f1686, f1687, c1688, f1689, f1690, c1691]; refine hQ.out _ ?_; clear hQ; clear Q') | (refine z0m rfl fun Q' hQ => ?_; simp [f1683, f1684k, c1685, f1686, f1687, c1688, f1689, f1690, c1691]; refine hQ.out _ ?_; clear hQ; clear Q'))
              refine z0a (z0r rfl (by simp) (z0j rfl (z0h (z0a (zr rfl rfl rfl (by simp [f1686, f1689]; rfl) ?_)))))
              have ho := z0c h25
              refine z0i ho ?_
              simp [z4m, c1688, c1691]
             ·rw [if_neg c1691] at h25
              obtain ⟨v1269, f1692, h26⟩ := z0I h25
              obtain ⟨v1270, f1693, h27⟩ := z0I h26
              refine z1c rfl rfl rfl rfl ?_; repeat' (first | (refine z0q rfl rfl fun Q' hQ => ?_; simp [f1683, f1684k, c1685, f1686, f1687, c1688, f1689, f1690, c1691, f1692, f1693]; refine hQ.out _ ?_; clear hQ; clear Q') | (refine z1g rfl rfl fun Q1 Q2 h1 h2 => ?_; simp [f1683, f1684k, c1685, f1686, f1687, c1688, f1689, f1690, c1691, f1692, f1693, z1Q]; (first | refine h1.out ?_ | refine h2.out ?_); clear h1 h2; clear Q1 Q2; intro Q' hQ; simp [f1683, f1684k, c1685, f1686, f1687, c1688, f1689, f1690, c1691, f1692, f1693]; refine hQ.out _ ?_; clear hQ; clear Q') | (refine z0m rfl fun Q' hQ => ?_; simp [f1683, f1684k, c1685, f1686, f1687, c1688, f1689, f1690, c1691, f1692, f1693]; refine hQ.out _ ?_; clear hQ; clear Q'))
              refine z0a ?_
              by_cases c1694 : v1269 <= v1270
              ·rw [if_pos c1694] at h27
               refine z0t rfl (by simp [c1694]) (zp ?_)
               refine z1c rfl rfl rfl rfl ?_; repeat' ((first | refine z0q rfl rfl fun Q' hQ => ?_ | refine z0m rfl fun Q' hQ => ?_); simp [f1686, f1689, f1693, f1692]; refine hQ.out _ ?_; clear hQ; clear Q')
               refine z0a (zr rfl rfl rfl (by simp [f1686, f1689]; rfl) ?_)
               refine z0h (z0a (zr rfl rfl rfl (by simp [f1686, f1689]; rfl) ?_))
               have ho := z0c h27
               refine z0i ho ?_
               simp [z4m, c1688, c1691]
              ·rw [if_neg c1694] at h27
               refine z0r rfl (by simp [c1694]) (z0j rfl (z0h (z0a (zr rfl rfl rfl (by simp [f1686, f1689]; rfl) ?_))))
               have ho := z0c h27
               refine z0i ho ?_
               simp [z4m, c1688, c1691]
            ·rw [if_neg c1688] at h23
             refine z1c rfl rfl rfl rfl ?_; repeat' (first | (refine z0q rfl rfl fun Q' hQ => ?_; simp [f1683, f1684k, c1685, f1686, f1687, c1688]; refine hQ.out _ ?_; clear hQ; clear Q') | (refine z1g rfl rfl fun Q1 Q2 h1 h2 => ?_; simp [f1683, f1684k, c1685, f1686, f1687, c1688, z1Q]; (first | refine h1.out ?_ | refine h2.out ?_); clear h1 h2; clear Q1 Q2; intro Q' hQ; simp [f1683, f1684k, c1685, f1686, f1687, c1688]; refine hQ.out _ ?_; clear hQ; clear Q') | (refine z0m rfl fun Q' hQ => ?_; simp [f1683, f1684k, c1685, f1686, f1687, c1688]; refine hQ.out _ ?_; clear hQ; clear Q'))
             refine z0a (z0r rfl (by simp) (z0j rfl (z0h (z0a (zr rfl rfl rfl (by simp [f1686]; rfl) ?_)))))
             have ho := z0c h23
             refine z0i ho ?_
             simp [z4m, c1688]
           ·rw [if_neg c1685] at h21
            refine z1c rfl rfl rfl rfl ?_; repeat' (first | (refine z0q rfl rfl fun Q' hQ => ?_; simp [f1683, f1684k, c1685]; refine hQ.out _ ?_; clear hQ; clear Q') | (refine z1g rfl rfl fun Q1 Q2 h1 h2 => ?_; simp [f1683, f1684k, c1685, z1Q]; (first | refine h1.out ?_ | refine h2.out ?_); clear h1 h2; clear Q1 Q2; intro Q' hQ; simp [f1683, f1684k, c1685]; refine hQ.out _ ?_; clear hQ; clear Q') | (refine z0m rfl fun Q' hQ => ?_; simp [f1683, f1684k, c1685]; refine hQ.out _ ?_; clear hQ; clear Q'))
            refine z0a (z0r rfl (by simp) (z0j rfl (z0h (z0a (zs ?_)))))
            have ho := z0c h21
            refine z0i ho ?_
            simp [z4m]
          ·rw [if_neg c1682] at h19
           refine z0r rfl (by simp [c1682]) (z0X rfl (z0w ?_))
           obtain ⟨rr10, h20, ho10⟩ := z0k h19
           have hs10 := hr10 _ ho10
           subst hs10
           refine z0s ho10 (z0g rfl (z0h (z0a (zs ?_))))
           have ho := z0c h20
           refine z0i ho ?_
           simp [z7Q]
         ·rw [if_neg c1655] at h18
          refine z0r rfl (by simp [c1655]) (z0X rfl (z0w ?_))
          obtain ⟨rr9, h19, ho9⟩ := z0k h18
          have hs9 := hr9 _ ho9
          subst hs9
          refine z0s ho9 (z0g rfl (z0h ?_))
          have ho := z0c h19
          refine z0i ho ?_
          simp [z7R]
        ·rw [if_neg c1567] at h17
         refine z0r rfl (by simp [c1567]) (z0X rfl (z0w ?_))
         obtain ⟨rr8, h18, ho8⟩ := z0k h17
         have hs8 := hr8 _ ho8
         subst hs8
         refine z0s ho8 (z0g rfl (z0a (zp (zp (zs ?_)))))
         refine z0a (zb rfl (z0C h18 (z6o a0 v757 v950 w1056) rfl rfl (by simp [z6o]) fun s o11 h19 hr11 => ?_))
         obtain ⟨w1311, w1312⟩ := s
         simp only [z5q] at h19
         simp only [z6o]
         refine zp (zs ?_)
         refine z0a (zp ?_)
         by_cases c1855 : w1311 < (v757.length : Int)
         ·rw [if_pos c1855] at h19
          refine z0t rfl (by simp [c1855]) (z0j rfl (z0a (zp (zb rfl (zp (zs ?_))))))
          refine z0a (zp (zp ?_))
          obtain ⟨v1353, f1856, h20⟩ := z0I h19
          obtain ⟨v1354, f1857, h21⟩ := z0d h20
          have f1857k := z4K f1857
          try simp at f1857k
          refine zr rfl rfl rfl (by simp [f1856, f1857k]; rfl) ?_
          refine z0a ?_
          by_cases c1858 : v1354 = 1
          ·rw [if_pos c1858] at h21
           have c1858e := eq_true c1858
           refine z0t rfl (by simp [c1858e]) (z0X rfl (z0w (z0g rfl (z0a (zs ?_)))))
           have ho := z0c h21
           refine z0i ho ?_
           simp [z6o]
          ·rw [if_neg c1858] at h21
           have c1858e := eq_false c1858
           refine z0r rfl (by simp [c1858e]) (z0j rfl (z0a (zp (zs ?_))))
           refine z0a (zb rfl (z0C h21 (z4B a0 v757 v950 w1056 w1311) rfl rfl (by simp [z4B]) fun s o12 h22 hr12 => ?_))
           obtain ⟨w1367, w1368⟩ := s
           simp only [z6v] at h22
           simp only [z4B]
           refine zp (zs ?_)
           refine z0a (zp ?_)
           by_cases c1913 : w1367 < (v757.length : Int)
           ·rw [if_pos c1913] at h22
            refine z0t rfl (by simp [c1913]) (z0j rfl (z0a (zp (zb rfl (zp ?_)))))
            obtain ⟨v1381, f1914, h23⟩ := z0I h22
            refine zr rfl rfl rfl (by simp [f1914]; rfl) ?_
            refine z0a (zp (zp ?_))
            obtain ⟨v1382, f1915, h24⟩ := z0I h23
            by_cases c1916 : (z2A .i64 v1381 v1382) = v1381
            ·rw [if_pos c1916] at h24
             have c1916e := eq_true c1916
             refine zr rfl rfl rfl (by simp [f1915, c1916e]; rfl) ?_
             refine z0a ?_
             by_cases c1917 : w1367 = w1311
             ·rw [if_pos c1917] at h24
              have c1917e := eq_true c1917
              refine z0t rfl (by simp [c1917e]) (z0X rfl (z0w (z0g rfl (z0a (zs ?_)))))
              have ho := z0c h24
              refine z0i ho ?_
              simp [z4B]
             ·rw [if_neg c1917] at h24
              have c1917e := eq_false c1917
              refine z0r rfl (by simp [c1917e]) (z0j rfl (z0a (zp (zs ?_))))
              refine z0a (zp (zp (zs ?_)))
              refine z0a (zb rfl (z0C h24 (z4l a0 v757 v950 w1056 w1311 w1367 w1368 v1381) rfl rfl (by simp [z4l]) fun s o13 h25 hr13 => ?_))
              obtain ⟨w1385, w1386⟩ := s
              simp only [z6u] at h25
              simp only [z4l]
              refine zp (zs ?_)
              refine z0a (zp ?_)
              by_cases c1931 : w1386 < (v757.length : Int)
              ·rw [if_pos c1931] at h25
               refine z0t rfl (by simp [c1931]) (z0j rfl (z0a (zp (zb rfl (zp ?_)))))
               obtain ⟨v1389, f1932, h26⟩ := z0I h25
               refine zr rfl rfl rfl (by simp [f1932]; rfl) ?_
               refine z0a ?_
               by_cases c1933 : w1385 = true
               ·rw [if_pos c1933] at h26
                by_cases c1934 : w1386 = w1367
                ·rw [if_pos c1934] at h26
                 have c1934e := eq_true c1934
                 refine zr rfl rfl rfl (by simp [c1933, c1934e]; rfl) ?_
                 refine z0h (z0a (zs ?_))
                 have ho := z0c h26
                 refine z0i ho ?_
                 simp [z4l, c1933]
                ·rw [if_neg c1934] at h26
                 have c1934e := eq_false c1934
                 by_cases c1935 : w1386 = w1311
                 ·rw [if_pos c1935] at h26
                  have c1935e := eq_true c1935
                  refine zr rfl rfl rfl (by simp [c1933, c1934e, c1935e]; rfl) ?_
                  refine z0h (z0a (zs ?_))
                  have ho := z0c h26
                  refine z0i ho ?_
                  simp [z4l, c1933]
                 ·rw [if_neg c1935] at h26
                  have c1935e := eq_false c1935
                  obtain ⟨v1390, f1936, h27⟩ := z0I h26
                  by_cases c1937 : (z2A .i64 v1389 v1390) = v1389
                  ·rw [if_pos c1937] at h27
                   have c1937e := eq_true c1937
                   refine zr rfl rfl rfl (by simp [c1933, c1934e, c1935e, f1936, c1937e]; rfl) ?_
                   refine z0h (z0a (zs ?_))
                   have ho := z0c h27
                   refine z0i ho ?_
                   simp [z4l, c1933]
                  ·rw [if_neg c1937] at h27
                   have c1937e := eq_false c1937
                   refine zr rfl rfl rfl (by simp [c1933, c1934e, c1935e, f1936, c1937e]; rfl) ?_
                   refine z0h (z0a (zs ?_))
                   have ho := z0c h27
                   refine z0i ho ?_
                   simp [z4l, c1933]
               ·rw [if_neg c1933] at h26
                refine zr rfl rfl rfl (by simp [c1933]; rfl) ?_
                refine z0h (z0a (zs ?_))
                have ho := z0c h26
                refine z0i ho ?_
                simp [z4l, c1933]
              ·rw [if_neg c1931] at h25
               refine z0r rfl (by simp [c1931]) (z0X rfl (z0w ?_))
               obtain ⟨rr13, h26, ho13⟩ := z0k h25
               have hs13 := hr13 _ ho13
               subst hs13
               refine z0s ho13 (z0g rfl (z0a (zp (zs ?_))))
               refine z0a ?_
               by_cases c1938 : w1385 = true
               ·rw [if_pos c1938] at h26
                refine z0t rfl (by simp [c1938]) ?_
                obtain ⟨v1391, f1939, h27⟩ := z0I h26
                obtain ⟨f1940, h28⟩ := z5I h27
                refine zeQ rfl rfl rfl rfl ?_
                refine zm6 [(0, 0, 3, 1), (1, 2, 3, 2), (2, 3, 3, 3), (3, 5, 3, 4), (4, 8, 3, 5), (5, 1, 2, 6), (5, 4, 2, 7), (5, 9, 1, 8), (6, 4, 2, 9), (6, 9, 1, 10), (7, 6, 3, 11), (8, 1, 2, 10), (8, 4, 2, 12), (9, 6, 0, 13), (10, 4, 2, 14), (11, 1, 2, 13), (11, 7, 2, 15), (11, 9, 1, 16), (12, 6, 3, 16), (13, 7, 2, 17), (13, 9, 1, 18), (14, 6, 0, 18), (15, 1, 2, 17), (15, 9, 1, 19), (16, 1, 2, 18), (16, 7, 2, 19), (17, 9, 1, 20), (18, 7, 2, 20), (19, 1, 2, 20), (19, 10, 2, 21), (20, 10, 2, 22), (21, 1, 2, 22), (22, 11, 0, 23), (23, 12, 2, 24)] 24 (by kernel_rfl) ?_
                iterate 11 (refine z0n rfl rfl rfl rfl (by simp [z0f, z0e, f1939, f1940]; rfl) ?_)
                refine z0p rfl rfl rfl rfl (by simp [z0f, z0e, f1939, f1940]) ?_
                iterate 3 (refine z0n rfl rfl rfl rfl (by simp [z0f, z0e, f1939, f1940]; rfl) ?_)
                refine z0p rfl rfl rfl rfl (by simp [z0f, z0e, f1939, f1940]) ?_
                refine z0n rfl rfl rfl rfl (by simp [z0f, z0e, f1939, f1940]; rfl) ?_
                refine z0n rfl rfl rfl rfl (by simp [z0f, z0e, f1939, f1940]; rfl) ?_
                refine z0p rfl rfl rfl rfl (by simp [z0f, z0e, f1939, f1940]) ?_
                refine z0n rfl rfl rfl rfl (by simp [z0f, z0e, f1939, f1940]; rfl) ?_
                refine z0n rfl rfl rfl rfl (by simp [z0f, z0e, f1939, f1940]; rfl) ?_
                refine z0p rfl rfl rfl rfl (by simp [z0f, z0e, f1939, f1940]) ?_
                refine z0p rfl rfl rfl rfl (by simp [z0f, z0e, f1939, f1940]) ?_
                refine z0n rfl rfl rfl rfl (by simp [z0f, z0e, f1939, f1940]; rfl) ?_
                refine z0p rfl rfl rfl rfl (by simp [z0f, z0e, f1939, f1940]) ?_
                refine z0p rfl rfl rfl rfl (by simp [z0f, z0e, f1939, f1940]) ?_
                refine z0n rfl rfl rfl rfl (by simp [z0f, z0e, f1939, f1940]; rfl) ?_
                refine z0p rfl rfl rfl rfl (by simp [z0f, z0e, f1939, f1940]) ?_
                refine z0p rfl rfl rfl rfl (by simp [z0f, z0e, f1939, f1940]) ?_
                refine z0n rfl rfl rfl rfl (by simp [z0f, z0e, f1939, f1940]; rfl) ?_
                refine z0n rfl rfl rfl rfl (by simp [z0f, z0e, f1939, f1940]; rfl) ?_
                refine z0p rfl rfl rfl rfl (by simp [z0f, z0e, f1939, f1940]) ?_
                refine z0n rfl rfl rfl rfl (by simp [z0f, z0e, f1939, f1940]; rfl) ?_
                refine z0n rfl rfl rfl rfl (by simp [z0f, z0e, f1939, f1940]; rfl) ?_
                refine zn4 rfl ?_
                refine zeM rfl (by simp [f1939, f1940]; rfl) ?_
                refine z0h (z0a (zs ?_))
                have ho := z0c h28
                refine z0i ho ?_
                simp [z4B, c1938]
               ·rw [if_neg c1938] at h26
                refine z0r rfl (by simp [c1938]) (z0j rfl (z0h (z0a (zs ?_))))
                have ho := z0c h26
                refine z0i ho ?_
                simp [z4B, c1938]
            ·rw [if_neg c1916] at h24
             have c1916e := eq_false c1916
             refine zr rfl rfl rfl (by simp [f1915, c1916e]; rfl) ?_
             refine z0a (z0t rfl (by simp) (z0X rfl (z0w (z0g rfl (z0a (zs ?_))))))
             have ho := z0c h24
             refine z0i ho ?_
             simp [z4B]
           ·rw [if_neg c1913] at h22
            refine z0r rfl (by simp [c1913]) (z0X rfl (z0w ?_))
            obtain ⟨rr12, h23, ho12⟩ := z0k h22
            have hs12 := hr12 _ ho12
            subst hs12
            refine z0s ho12 (z0g rfl (z0h (z0a (zs ?_))))
            have ho := z0c h23
            refine z0i ho ?_
            simp [z6o]
         ·rw [if_neg c1855] at h19
          refine z0r rfl (by simp [c1855]) (z0X rfl (z0w ?_))
          obtain ⟨rr11, h20, ho11⟩ := z0k h19
          have hs11 := hr11 _ ho11
          subst hs11
          refine z0s ho11 (z0g rfl (z0a (zp (zp (zs ?_)))))
          refine z0a (zb rfl (z0C h20 (z7P a0 v757 v950 w1056 w1312) rfl rfl (by simp [z7P]) fun s o14 h21 hr14 => ?_))
          obtain ⟨w1430, w1431, w1432⟩ := s
          simp only [z7X] at h21
          simp only [z7P]
          refine zp (zs ?_)
          refine z0a (zp ?_)
          by_cases c2038 : w1430 < (v757.length : Int)
          ·rw [if_pos c2038] at h21
           refine z0t rfl (by simp [c2038]) (z0j rfl (z0a (zp (zb rfl (zp (zs ?_))))))
           refine z0a (zp (zs ?_))
           refine z0a (zp (zb rfl (z0C h21 (z7O a0 v757 v950 w1056 w1312 w1430 w1431 w1432) rfl rfl (by simp [z7O]) fun s o15 h22 hr15 => ?_)))
           obtain ⟨w1474, hs15⟩ : ∃ y, y = s := ⟨_, rfl⟩
           subst hs15
           simp only [z7W] at h22
           simp only [z7O]
           refine zp (zp ?_)
           obtain ⟨v1477, f2045, h23⟩ := z0I h22
           obtain ⟨v1478, f2046, h24⟩ := z0I h23
           refine z1c rfl rfl rfl rfl ?_; repeat' ((first | refine z0q rfl rfl fun Q' hQ => ?_ | refine z0m rfl fun Q' hQ => ?_); simp [f2045, f2046]; refine hQ.out _ ?_; clear hQ; clear Q')
           refine z0a ?_
           by_cases c2047 : v1477 = v1478
           ·rw [if_pos c2047] at h24
            have c2047e := eq_true c2047
            refine z0r rfl (by simp [c2047e]) (z0X rfl (z0w ?_))
            obtain ⟨rr15, h25, ho15⟩ := z0k h24
            have hs15 := hr15 _ ho15
            subst hs15
            refine z0s ho15 (z0g rfl (z0a (zp ?_)))
            obtain ⟨v1479, f2048, h26⟩ := z0I h25
            obtain ⟨v1480, f2049, h27⟩ := z0d h26
            have f2049k := z6f f2049
            try simp at f2049k
            refine z1c rfl rfl rfl rfl ?_; repeat' ((first | refine z0q rfl rfl fun Q' hQ => ?_ | refine z0m rfl fun Q' hQ => ?_); simp [f2048, f2049k]; refine hQ.out _ ?_; clear hQ; clear Q')
            refine z0a (zp (zp (zs ?_)))
            refine z0a (zb rfl (z0C h27 (z6n a0 v757 v950 w1056 w1312 w1430 w1432 w1474 v1480) rfl rfl (by simp [z6n]) fun s o16 h28 hr16 => ?_))
            obtain ⟨w1485, w1486⟩ := s
            simp only [z6t] at h28
            simp only [z6n]
            refine zp (zs ?_)
            refine z0a (zp ?_)
            by_cases c2062 : w1485 < (v1480.1.length : Int)
            ·rw [if_pos c2062] at h28
             refine z0t rfl (by simp [c2062]) (z0j rfl (z0a (zp (zb rfl (zp ?_)))))
             obtain ⟨v1491, f2063, h29⟩ := z0I h28
             refine zr rfl rfl rfl (by simp [f2063]; rfl) ?_
             refine z0a (zp ?_)
             obtain ⟨v1492, f2064, h30⟩ := z0I h29
             refine zr rfl rfl rfl (by simp [f2064]; rfl) ?_
             refine z0a ?_
             by_cases c2065 : v1491 = v1492
             ·rw [if_pos c2065] at h30
              have c2065e := eq_true c2065
              refine z0t rfl (by simp [c2065e]) ?_
              obtain ⟨v1493, f2066, h31⟩ := z0I h30
              obtain ⟨v1494, f2067, h32⟩ := z0I h31
              refine z1c rfl rfl rfl rfl ?_; repeat' ((first | refine z0q rfl rfl fun Q' hQ => ?_ | refine z0m rfl fun Q' hQ => ?_); simp [f2066, f2067]; refine hQ.out _ ?_; clear hQ; clear Q')
              refine z0h (z0a (zs ?_))
              have ho := z0c h32
              refine z0i ho ?_
              simp [z6n]
             ·rw [if_neg c2065] at h30
              have c2065e := eq_false c2065
              refine z0r rfl (by simp [c2065e]) (z0j rfl (z0h (z0a (zs ?_))))
              have ho := z0c h30
              refine z0i ho ?_
              simp [z6n]
            ·rw [if_neg c2062] at h28
             refine z0r rfl (by simp [c2062]) (z0X rfl (z0w ?_))
             obtain ⟨rr16, h29, ho16⟩ := z0k h28
             have hs16 := hr16 _ ho16
             subst hs16
             refine z0s ho16 (z0g rfl (z0a (zp ?_)))
             obtain ⟨v1495, f2068, h30⟩ := z0I h29
             obtain ⟨v1496, f2069, h31⟩ := z0d h30
             have f2069k := z6f f2069
             try simp at f2069k
             refine z1c rfl rfl rfl rfl ?_; repeat' ((first | refine z0q rfl rfl fun Q' hQ => ?_ | refine z0m rfl fun Q' hQ => ?_); simp [f2068, f2069k]; refine hQ.out _ ?_; clear hQ; clear Q')
             refine z0a (zp (zs ?_))
             refine z0a (zb rfl (z0C h31 (z6m a0 v757 v950 w1056 w1312 w1430 w1474 w1486 v1496) rfl rfl (by simp [z6m]) fun s o17 h32 hr17 => ?_))
             obtain ⟨w1501, w1502⟩ := s
             simp only [z6s] at h32
             simp only [z6m]
             refine zp (zs ?_)
             refine z0a (zp ?_)
             by_cases c2082 : w1501 < (v1496.1.length : Int)
             ·rw [if_pos c2082] at h32
              refine z0t rfl (by simp [c2082]) (z0j rfl (z0a (zp (zb rfl (zp ?_)))))
              obtain ⟨v1507, f2083, h33⟩ := z0I h32
              refine zr rfl rfl rfl (by simp [f2083]; rfl) ?_
              refine z0a (zp ?_)
              obtain ⟨v1508, f2084, h34⟩ := z0I h33
              refine zr rfl rfl rfl (by simp [f2084]; rfl) ?_
              refine z0a ?_
              by_cases c2085 : v1507 = v1508
              ·rw [if_pos c2085] at h34
               have c2085e := eq_true c2085
               refine z0t rfl (by simp [c2085e]) ?_
               obtain ⟨v1509, f2086, h35⟩ := z0I h34
               obtain ⟨v1510, f2087, h36⟩ := z0I h35
               refine z1c rfl rfl rfl rfl ?_; repeat' ((first | refine z0q rfl rfl fun Q' hQ => ?_ | refine z0m rfl fun Q' hQ => ?_); simp [f2086, f2087]; refine hQ.out _ ?_; clear hQ; clear Q')
               refine z0h (z0a (zs ?_))
               have ho := z0c h36
               refine z0i ho ?_
               simp [z6m]
              ·rw [if_neg c2085] at h34
               have c2085e := eq_false c2085
               refine z0r rfl (by simp [c2085e]) (z0j rfl (z0h (z0a (zs ?_))))
               have ho := z0c h34
               refine z0i ho ?_
               simp [z6m]
             ·rw [if_neg c2082] at h32
              refine z0r rfl (by simp [c2082]) (z0X rfl (z0w ?_))
              obtain ⟨rr17, h33, ho17⟩ := z0k h32
              have hs17 := hr17 _ ho17
              subst hs17
              refine z0s ho17 (z0g rfl (z0h (z0a (zs ?_))))
              have ho := z0c h33
              refine z0i ho ?_
              simp [z7P]
           ·rw [if_neg c2047] at h24
            have c2047e := eq_false c2047
            refine z0t rfl (by simp [c2047e]) (z0j rfl (z0a (zb rfl (zs ?_))))
            refine z0h ?_
            have ho := z0c h24
            refine z0i ho ?_
            simp [z7O]
          ·rw [if_neg c2038] at h21
           refine z0r rfl (by simp [c2038]) (z0X rfl (z0w ?_))
           obtain ⟨rr14, h22, ho14⟩ := z0k h21
           have hs14 := hr14 _ ho14
           subst hs14
           refine z0s ho14 (z0g rfl (z0a (zp (zs ?_))))
           refine z0a (z1f rfl ?_)
           cases h22
           simp
  ·rw [if_neg c1043] at h1
   have c1043e := eq_false c1043
   refine z0t rfl (by simp [c1043e]) (zp (zs ?_))
   refine z0a (z1f rfl (z0Q ?_))
   cases h1
   simp
end
end Go.Proofs.Ytbnnipkanechoaa
end
section
namespace Go.Proofs.Ytbnnipkanechoaa
open Go
set_option maxRecDepth 100000
theorem zfz : ∀ s : Nat, s < 128 -> z4L (s : Int) = some ((szN s : Nat) : Int) := by decide +kernel
theorem zu6 {a b : Nat} (ha : a < 128) (hb : b < 128) : z6l (a : Int) (b : Int) = some (!zrD b a) := by
 unfold z6l
 rw [zfz a ha, Option.bind_some, zfz b hb, Option.bind_some]
 by_cases h : szN a = szN b
 ·rw [if_pos (by omega)]
  congr 1
  rw [Bool.eq_iff_iff]
  simp only [decide_eq_true_eq, Bool.not_eq_true', zop]
  omega
 ·rw [if_neg (by omega), Option.bind_some, Option.bind_some]
  congr 1
  rw [Bool.eq_iff_iff]
  simp only [decide_eq_true_eq, Bool.not_eq_true', zop]
  omega
theorem zw4 {S R : List Nat} {x : Nat} (hv : ∀ y ∈ S ++ [x], y < 128) (hs : znh S) (hl : S.length < 2 ^ 40) {w : Nat} (hw : w = S.length) :
  ∃ S', z1b (z4Y (w : Int)) LFm ((w : Int), toI (S ++ x :: R)) = some (.inl (((w + 1 : Nat) : Int), toI (S' ++ R))) /\ znh S' /\ S'.Perm (S ++ [x]) := by
 refine Exists.elim (z1T (b := z4Y (w : Int)) (fun z => ∃ S1 S2, S1 ++ S2 = S /\ z = (((S1.length : Nat) : Int), toI (S1 ++ x :: (S2 ++ R))) /\ ∀ y ∈ S2, zrD x y = true) (fun z => z.1.toNat)
  (fun r => ∃ S', r = .inl (((w + 1 : Nat) : Int), toI (S' ++ R)) /\ znh S' /\ S'.Perm (S ++ [x])) ?_ LFm ((w : Int), toI (S ++ x :: R)) ⟨S, [], by simp, by rw [hw]; simp, by simp⟩ (by simp only [LFm]; omega)) fun r h => by
   obtain ⟨h1, S', rfl, h2, h3⟩ := h
   exact ⟨S', h1, h2, h3⟩
 rintro z ⟨S1, S2, rfl, rfl, h2⟩
 have hlen : S1.length + S2.length < 2 ^ 40 := by rw [List.length_append] at hl; omega
 have fin : (∀ y ∈ S1, zrD y x = true) -> znh (S1 ++ x :: S2) /\ (S1 ++ x :: S2).Perm (S1 ++ S2 ++ [x]) := fun hle => by
  refine ⟨?_, ?_⟩
  ·rw [znh, List.pairwise_append] at hs ⊢
   refine ⟨hs.1, List.pairwise_cons.2 ⟨fun y hy => h2 y hy, hs.2.1⟩, fun a ha b hb => ?_⟩
   rcases List.mem_cons.1 hb with rfl | hb
   ·exact hle a ha
   ·exact hs.2.2 a ha b hb
  ·rw [List.append_assoc]
   exact List.Perm.append_left _ (List.perm_append_singleton x S2).symm
 simp only [z4Y]
 rcases List.eq_nil_or_concat S1 with rfl | ⟨S0, y, rfl⟩
 ·right
  rw [if_neg (by simp)]
  obtain ⟨f1, f2⟩ := fin (fun y hy => by simp at hy)
  refine ⟨_, rfl, x :: S2, ?_, by simpa using f1, by simpa using f2⟩
  have : IntKind.i64.wrap ((w : Int) + 1) = ((w + 1 : Nat) : Int) := by rw [z2E (by omega) (by omega)]; omega
  rw [this]; simp
 ·simp only [List.concat_eq_append] at *
  have hy : y < 128 := hv y (by simp)
  have hx : x < 128 := hv x (by simp)
  have e1 : toI (S0 ++ [y] ++ x :: (S2 ++ R)) = toI S0 ++ (y : Int) :: (x : Int) :: toI (S2 ++ R) := by simp [toI]
  have hn : (S0 ++ [y]).length = (toI S0).length + 1 := by simp [toI]
  have hj : IntKind.i64.wrap ((((toI S0).length + 1 : Nat) : Int) - 1) = (((toI S0).length : Nat) : Int) := by
   rw [hn] at hlen
   rw [z2E (by omega) (by omega)]; omega
  rw [e1, hn, if_pos (by omega), at1 _ _ _ _ rfl, Option.bind_some, hj, at0 _ _ _ rfl, Option.bind_some, zu6 hx hy, Option.bind_some]
  cases hlt : zrD y x with
  | false =>
   left
   rw [if_pos (by rfl), Int.toNat_natCast, zxT _ _ _ _ _ rfl, at0 _ _ _ rfl, Option.bind_some, Int.toNat_natCast, zw9 _ _ _ _ rfl]
   refine ⟨_, rfl, ⟨S0, y :: S2, by simp, ?_, fun z hz => ?_⟩, by simp only; omega⟩
   ·simp [toI]
   ·rcases List.mem_cons.1 hz with rfl | hz
    ·rw [zop] at hlt; rw [zeI]; omega
    ·exact h2 z hz
  | true =>
   right
   rw [if_neg (by simp)]
   obtain ⟨f1, f2⟩ := fin (fun z hz => by
    rcases List.mem_append.1 hz with hz | hz
    ·rw [znh, List.pairwise_append, List.pairwise_append] at hs
     have := hs.1.2.2 z hz y (by simp)
     rw [zeI] at *
     omega
    ·obtain rfl := List.mem_singleton.1 hz; exact hlt)
   refine ⟨_, rfl, S0 ++ [y] ++ x :: S2, ?_, f1, f2⟩
   have : IntKind.i64.wrap ((w : Int) + 1) = ((w + 1 : Nat) : Int) := by rw [z2E (by omega) (by omega)]; omega
   rw [this]; simp [toI]
theorem zuN {X : List Nat} (hv : ∀ y ∈ X, y < 128) (hl : X.length < 2 ^ 40) (V : List Int) (hV : V.length = X.length) : ∃ S, z1b (z4Z V) LFm (0, toI X) = some (toI S) /\ znh S /\ S.Perm X := by
 refine Exists.elim (z1T (b := z4Z V) (fun z => ∃ S U, z = (((S.length : Nat) : Int), toI (S ++ U)) /\ znh S /\ (S ++ U).Perm X) (fun z => X.length - z.1.toNat)
  (fun r => ∃ S, r = toI S /\ znh S /\ S.Perm X) ?_ LFm (0, toI X) ⟨[], X, by simp, by simp, .refl _⟩ (by simp only [LFm]; omega)) fun r h => by
   obtain ⟨h1, S, rfl, h2, h3⟩ := h
   exact ⟨S, h1, h2, h3⟩
 rintro z ⟨S, U, rfl, h1, h2⟩
 have hlen := h2.length_eq
 rw [List.length_append] at hlen
 simp only [z4Z]
 cases U with
 | nil =>
  right
  rw [if_neg (by simp at hlen ⊢; omega)]
  exact ⟨_, rfl, S, by simp, h1, by simpa using h2⟩
 | cons u U =>
  left
  rw [if_pos (by simp at hlen ⊢; omega)]
  have hvS : ∀ y ∈ S ++ [u], y < 128 := fun y hy => hv y (h2.mem_iff.1 (by
   rcases List.mem_append.1 hy with hy | hy
   ·exact List.mem_append.2 (.inl hy)
   ·obtain rfl := List.mem_singleton.1 hy; simp))
  obtain ⟨S', e, s1, s2⟩ := zw4 (S := S) (R := U) (x := u) hvS h1 (by simp at hlen hl ⊢; omega) rfl
  rw [e]
  have hS' := s2.length_eq
  simp at hS'
  refine ⟨_, rfl, ⟨S', U, ?_, s1, ?_⟩, ?_⟩
  ·simp only [hS']
  ·refine List.Perm.trans ?_ h2
   have : S ++ u :: U = S ++ [u] ++ U := by simp
   rw [this]
   exact s2.append_right U
  ·simp at hlen ⊢; omega
theorem zwG {d : DFA} {m n : Nat} (hd : DfaOk d m n) (hn : n <= 7) : z8V d = some (toI (z5t d m n)) := by
 have hp := Nat.two_pow_pos n
 have h128 : 2 ^ n <= 128 := Nat.pow_le_pow_right (n := 2) (by omega) hn
 have hf : 2 ^ n - 1 < 2 ^ n := by omega
 have hi := z4E hd hf
 have hl := z1r hi.nd hi.lt
 unfold z8V
 rw [zxP hd (by omega), Option.bind_some, zfJ hd (by omega) hf, Option.bind_some]
 refine z1I (s := ((0 : Int), toI (z1s d m n (2 ^ n - 1)).1)) n (fun q => ((q : Int), toI (z8o (z1s d m n (2 ^ n - 1)).1 q))) rfl (by simp only [LFm]; omega) (fun q hq => ?_) ?_
 ·have h3' := (z6a hi.nd q).2.2
  simp only [z6W]
  rw [if_pos (by rw [hd.fin]; omega), znk (by omega), z0K _ (by omega)]
  generalize hX : z8o (z1s d m n (2 ^ n - 1)).1 q = X at *
  refine z1I (s := (false, (0 : Int))) X.length (fun k => (decide (2 ^ q ∈ X.take k), (k : Int))) (by simp) (by simp only [LFm]; omega) (fun k hk => ?_) ?_
  ·have ht : X.take (k + 1) = X.take k ++ [X.getD k 0] := by rw [List.getD, List.getElem?_eq_getElem hk, Option.getD_some, List.take_append_getElem]
   simp only [z6V]
   rw [if_pos (by rw [z0v]; omega), z2Q hk, Option.bind_some, znk (by omega), z6T (by omega), z1X (by omega), ht]
   by_cases h : 2 ^ q ∈ X.take k
   ·rw [if_pos (by simpa using h)]
    congr 2
    simp [h]
   ·rw [if_neg (by simpa using h)]
    congr 2
    rw [Bool.eq_iff_iff, decide_eq_true_iff, decide_eq_true_iff, List.mem_append, List.mem_singleton]
    constructor
    ·intro h'; exact .inr (by omega)
    ·rintro (h' | h')
     ·exact absurd h' h
     ·omega
  ·simp only [z6V]
   rw [if_neg (by rw [z0v]; omega), List.take_length, z1X (by omega), z8o, hX]
   by_cases h : 2 ^ q ∈ X
   ·rw [if_pos (by simpa using h), if_pos h]
   ·rw [if_neg (by simpa using h), if_neg h, z0K _ (by unfold z2i; rw [z0v]; omega), znk (by omega), z6T (by omega), z6Q]
 ·obtain ⟨h1, h2, h3⟩ := z6a hi.nd n
  simp only [z6W]
  rw [if_neg (by rw [hd.fin]; omega), z0K _ (by unfold z2i; rw [z0v]; omega)]
  have hv : ∀ y ∈ z8o (z1s d m n (2 ^ n - 1)).1 n, y < 128 := fun y hy => by
   rcases (h2 y).1 hy with h | ⟨i, hi', rfl⟩
   ·have := hi.lt y h; omega
   ·have : 2 ^ i < 2 ^ n := Nat.pow_lt_pow_right (by omega) hi'
    omega
  obtain ⟨S, e, s1, s2⟩ := zuN hv (by omega) (toI (z8o (z1s d m n (2 ^ n - 1)).1 n)) (z0v _)
  rw [e]
  have : S = z5t d m n := zjh (s2.trans (zaE _).symm) s1 (z9P _)
  rw [this]
end Go.Proofs.Ytbnnipkanechoaa
end
section
namespace Go.Proofs.Ytbnnipkanechoaa
open Go
set_option maxRecDepth 100000
theorem zmY {N : Nat} {e : Nat -> Nat -> Bool} (he : EqvN N e) {i : Nat} (hi : i < N) :
  (z7t e N i < (z1G e i).length /\ (z1G e i).getD (z7t e N i) 0 = (z1G e N).getD (z7t e N i) 0 /\ z1G e (i + 1) = z1G e i) ∨
  (z7t e N i = (z1G e i).length /\ (z1G e N).getD (z7t e N i) 0 = i /\ z1G e (i + 1) = z1G e i ++ [i]) := by
 have hc := zvO he hi
 by_cases h : (z1G e i).any (e i) = true
 ·left
  obtain ⟨x, hx, hp⟩ := List.any_eq_true.1 h
  have hlt : z7t e N i < (z1G e i).length := by rw [← hc]; exact List.findIdx_lt_length_of_exists ⟨x, hx, hp⟩
  refine ⟨hlt, ?_, by rw [z1G, if_pos h]⟩
  obtain ⟨R, hR⟩ := zhI e (i := i) N (by omega)
  rw [hR, List.getD, List.getD, List.getElem?_append_left hlt]
 ·right
  have hlt : z7t e N i = (z1G e i).length := by
   rw [← hc]
   exact List.findIdx_eq_length.2 fun x hx => by
    cases hh : e i x with
    | false => rfl
    | true => exact absurd (List.any_eq_true.2 ⟨x, hx, hh⟩) h
  refine ⟨hlt, ?_, by rw [z1G, if_neg h]⟩
  obtain ⟨R, hR⟩ := zhI e (i := i + 1) N (by omega)
  rw [hR, z1G, if_neg h, hlt, List.getD, List.append_assoc, List.getElem?_append_right (Nat.le_refl _), Nat.sub_self]
  rfl
def zeT (N : Nat) (f : Nat -> Nat -> Bool) : List (List Bool) := (List.range N).map fun a => (List.range N).map (f a)
theorem z6E {N : Nat} {f g : Nat -> Nat -> Bool} (h : ∀ a b, a < N -> b < N -> f a b = g a b) : zeT N f = zeT N g :=
 List.map_congr_left fun a ha => List.map_congr_left fun b hb => h a b (List.mem_range.1 ha) (List.mem_range.1 hb)
theorem zwh {N : Nat} {f : Nat -> Nat -> Bool} {i j : Nat} (hi : i < N) (hj : j < N) (v : Bool) : (zeT N f).set i (((List.range N).map (f i)).set j v) = zeT N fun a b => if a = i /\ b = j then v else f a b := by
 apply List.ext_getElem (by simp [zeT])
 intro k h1 h2
 simp only [zeT, List.getElem_set, List.getElem_map, List.getElem_range]
 by_cases e : i = k
 ·subst e
  rw [if_pos rfl]
  apply List.ext_getElem (by simp)
  intro l h3 h4
  simp only [List.getElem_set, List.getElem_map, List.getElem_range]
  by_cases e2 : j = l
  ·subst e2; simp
  ·rw [if_neg e2, if_neg (by omega)]
 ·rw [if_neg e]
  apply List.ext_getElem (by simp)
  intro l h3 h4
  simp only [List.getElem_map, List.getElem_range]
  rw [if_neg (by omega)]
theorem zmG {N : Nat} {f : Nat -> Nat -> Bool} {i : Nat} (h : i < N) : atI (zeT N f) (i : Int) = some ((List.range N).map (f i)) := z3m h
section
variable {d : DFA} {m n : Nat} {S : List Nat} (hd : DfaOk d m n) (hn : n <= 7) (hS : SetsP d m n S)
def pOf (S : List Nat) (a x : Nat) : Bool := decide (S.getD a 0 &&& x = S.getD a 0)
include hd hn hS
theorem zw2 {j x : Nat} (hj : j < S.length) (hx : x < 2 ^ n) (w : Nat) (hw : w < 4611686018427387904) (f : Nat -> Nat -> Bool) :
  z1b (z6A (toI S) (j : Int) (w : Int) (x : Int)) LFm (0, zeT S.length f) = z0B (((w + 1 : Nat) : Int), zeT S.length fun a b => if b = j then f a b || pOf S a x else f a b) := by
 have _u := hd
 have h128 : 2 ^ n <= 128 := Nat.pow_le_pow_right (n := 2) (by omega) hn
 have hSl := z1r hS.nd hS.lt
 refine z1I (s := ((0 : Int), zeT S.length f)) S.length (fun i => ((i : Int), zeT S.length fun a b => if b = j /\ a < i then f a b || pOf S a x else f a b)) ?_ (by simp only [LFm]; omega) (fun i hi => ?_) ?_
 ·refine Prod.ext rfl ?_
  exact z6E fun a b _ _ => by simp
 ·have hil := hS.lt _ (z1x hi)
  simp only [z6A]
  rw [if_pos (by rw [z0v]; omega), z2Q hi, Option.bind_some, zdo (by omega) (by omega), z1X (by omega)]
  by_cases h : S.getD i 0 &&& x = S.getD i 0
  ·rw [if_pos (by omega), zmG hi, Option.bind_some, z3m hj, Option.bind_some, Int.toNat_natCast, Int.toNat_natCast, zwh hi hj]
   congr 2
   refine z6E fun a b _ _ => ?_
   by_cases e : a = i /\ b = j
   ·obtain ⟨rfl, rfl⟩ := e
    have : pOf S a x = true := decide_eq_true h
    rw [if_pos ⟨rfl, rfl⟩, if_pos ⟨rfl, by omega⟩, this, Bool.or_true]
   ·rw [if_neg e]
    by_cases e2 : b = j /\ a < i
    ·rw [if_pos e2, if_pos ⟨e2.1, by omega⟩]
    ·rw [if_neg e2, if_neg (by omega)]
  ·rw [if_neg (by omega)]
   congr 2
   refine z6E fun a b _ _ => ?_
   by_cases e : a = i /\ b = j
   ·obtain ⟨rfl, rfl⟩ := e
    have : pOf S a x = false := decide_eq_false h
    rw [if_neg (by omega), if_pos ⟨rfl, by omega⟩, this, Bool.or_false]
   ·by_cases e2 : b = j /\ a < i
    ·rw [if_pos e2, if_pos ⟨e2.1, by omega⟩]
    ·rw [if_neg e2, if_neg (by omega)]
 ·simp only [z6A]
  rw [if_neg (by rw [z0v]; omega), z1X hw]
  congr 2
  refine Prod.ext rfl ?_
  refine z6E fun a b ha _ => ?_
  by_cases e : b = j
  ·rw [if_pos ⟨e, ha⟩, if_pos e]
  ·rw [if_neg (fun h => e h.1), if_neg e]
theorem zw3 {j : Nat} (hj : j < S.length) (W : List ByteArray) :
  z1b (z6B (toI S) (j : Int) (toI (z1s d m n (S.getD j 0)).1, W)) LFm (0, zeT S.length fun a b => decide (b < j) && z3D d m n S a b) = z0B (((j + 1 : Nat) : Int), zeT S.length fun a b => decide (b < j + 1) && z3D d m n S a b) := by
 have h128 : 2 ^ n <= 128 := Nat.pow_le_pow_right (n := 2) (by omega) hn
 have hSl := z1r hS.nd hS.lt
 have hinv := z4E hd (hS.lt _ (z1x hj))
 have hlt := hinv.lt
 have hl := z1r hinv.nd hinv.lt
 generalize hR : (z1s d m n (S.getD j 0)).1 = R at *
 refine z1I (s := ((0 : Int), zeT S.length fun a b => decide (b < j) && z3D d m n S a b)) R.length (fun k => ((k : Int), zeT S.length fun a b => if b = j then (R.take k).any (pOf S a) else decide (b < j) && z3D d m n S a b)) ?_ (by simp only [LFm]; omega) (fun k hk => ?_) ?_
 ·refine Prod.ext rfl ?_
  refine z6E fun a b _ _ => ?_
  by_cases e : b = j
  ·subst e; simp
  ·rw [if_neg e]
 ·have hx := hlt _ (z1x hk)
  simp only [z6B]
  rw [if_pos (by rw [z0v]; omega), z2Q hk, Option.bind_some, zw2 hd hn hS hj hx k (by omega)]
  congr 2
  refine z6E fun a b _ _ => ?_
  by_cases e : b = j
  ·rw [if_pos e, if_pos e, if_pos e, List.take_succ_eq_append_getElem hk, List.any_append, List.getD, List.getElem?_eq_getElem hk, Option.getD_some]
   simp
  ·rw [if_neg e, if_neg e, if_neg e]
 ·simp only [z6B]
  rw [if_neg (by rw [z0v]; omega), z1X (by omega)]
  congr 2
  refine Prod.ext rfl ?_
  refine z6E fun a b _ _ => ?_
  by_cases e : b = j
  ·rw [if_pos e, List.take_length, ← hR, e, decide_eq_true (Nat.lt_succ_self j), Bool.true_and]
   rfl
  ·rw [if_neg e]
   congr 1
   exact decide_eq_decide.2 (by omega)
theorem zpp {i : Nat} (hi : i < S.length) : z5F d m n S i <= i := by
 have _u := hn
 rcases zmY (zdh hd hS) hi with ⟨h1, h2, _⟩ | ⟨h1, h2, _⟩
 ·have := zdf (z2L d m n S) i _ (z1x h1)
  rw [h2] at this
  exact Nat.le_of_lt this
 ·exact Nat.le_of_eq h2
theorem zoa {i : Nat} (hi : i < S.length) : z2L d m n S i (z5F d m n S i) = true := by
 have _u := hn
 exact (zhU (zdh hd hS) hi).2
theorem zpo {i j : Nat} (hi : i < S.length) (hj : j < S.length) (h : z2L d m n S i j = true) : z5F d m n S i = z5F d m n S j := by
 have _u := hn
 unfold z5F
 rw [(zky (zdh hd hS) hi hj).2 h]
theorem zvf {i : Nat} (hi : i < S.length) (Lc : List Int) (hL : Lc = z1N S.length (fun i => ((z5F d m n S i : Nat) : Int)) 0 i) :
  z1b (z6z (zeT S.length (z3D d m n S)) (i : Int) Lc) LFm 0 = z0B (((i + 1 : Nat) : Int), z1N S.length (fun i => ((z5F d m n S i : Nat) : Int)) 0 (i + 1)) := by
 have h128 : 2 ^ n <= 128 := Nat.pow_le_pow_right (n := 2) (by omega) hn
 have hSl := z1r hS.nd hS.lt
 have hLl : Lc.length = S.length := by rw [hL, zaN]
 have hset : Lc.set i ((z5F d m n S i : Nat) : Int) = z1N S.length (fun i => ((z5F d m n S i : Nat) : Int)) 0 (i + 1) := by
  rw [hL]; exact z4r (f := fun i => ((z5F d m n S i : Nat) : Int)) (z := 0) hi
 rw [z9Z (s := (0 : Int)) i (fun k => (k : Int)) (fun k => z2L d m n S i k) (fun k => z0B (((i + 1 : Nat) : Int), Lc.set i ((z5F d m n S k : Nat) : Int))) (x := z0B (((i + 1 : Nat) : Int), Lc.set i (i : Int))) rfl (by simp only [LFm]; omega)]
 ·cases hf : (List.range i).find? fun k => z2L d m n S i k with
  | none =>
   have h0 := zhP.1 hf
   have : z5F d m n S i = i := by
    have h1 := zpp hd hn hS hi
    refine Classical.byContradiction fun hne => ?_
    have := h0 (z5F d m n S i) (by omega)
    rw [zoa hd hn hS hi] at this
    cases this
   simp only
   rw [← hset, this]
  | some k =>
   obtain ⟨k1, k2, _⟩ := zhO.1 hf
   simp only
   rw [← hset, zpo hd hn hS hi (by omega) k2]
 ·intro k hk
  have hks : k < S.length := by omega
  have hat : atI (Lc.set i (i : Int)) (k : Int) = some ((z5F d m n S k : Nat) : Int) := by
   rw [z1P (by simp; omega)]
   simp only [List.getElem_set]
   rw [if_neg (by omega)]
   simp only [hL, z1N, List.getElem_map, List.getElem_range]
   rw [if_pos hk]
  simp only [z6z]
  rw [if_pos (by omega), zmG hi, Option.bind_some, z3m hks, Option.bind_some, z1X (by omega)]
  by_cases h1 : z3D d m n S i k = true
  ·rw [if_pos h1, zmG hks, Option.bind_some, z3m hi, Option.bind_some]
   by_cases h2 : z3D d m n S k i = true
   ·rw [if_pos h2, if_pos (by simp [z2L, h1, h2]), Int.toNat_natCast, hat, Option.bind_some, zji (by omega), Option.bind_some, zhj]
   ·rw [if_neg h2, if_neg (by simp [z2L, h2]), z1X (by omega)]
  ·rw [if_neg h1, if_neg (by simp [z2L, h1]), z1X (by omega)]
 ·simp only [z6z]
  rw [if_neg (by omega), z1X (by omega), Int.toNat_natCast]
end
def mpC : List Nat -> Nat -> List (Int × Int)
 | [], _ => []
 | f :: l, c => (((f : Nat) : Int), ((c : Nat) : Int)) :: mpC l (c + 1)
theorem ztC : ∀ (l : List Nat) (c0 c : Nat), l.Nodup -> c < l.length -> zhG ((l.getD c 0 : Nat) : Int) (mpC l c0) = some ((c0 + c : Nat) : Int)
 | [], c0, c, _, h2 => by rw [List.length_nil] at h2; omega
 | f :: l, c0, 0, _, h2 => by
  simp only [mpC, zhG, List.getD_cons_zero]
  rw [if_pos trivial]; rfl
 | f :: l, c0, c + 1, h1, h2 => by
  rw [List.length_cons] at h2
  rw [List.nodup_cons] at h1
  have hm := z1x (l := l) (i := c) (by omega)
  have hne : ¬ ((f : Nat) : Int) = ((l.getD c 0 : Nat) : Int) := fun e => h1.1 (by rw [show f = l.getD c 0 by omega]; exact hm)
  simp only [mpC, zhG, List.getD_cons_succ]
  rw [if_neg hne, ztC l (c0 + 1) c h1.2 (by omega)]
  congr 2; omega
theorem zpi (x : Nat) : ∀ (l : List Nat) (c0 : Nat), x ∉ l -> zhG ((x : Nat) : Int) (mpC l c0) = none
 | [], c0, _ => rfl
 | f :: l, c0, h => by
  simp only [mpC, zhG]
  rw [List.mem_cons] at h
  rw [if_neg (fun e => h (.inl (by omega))), zpi x l (c0 + 1) (fun hx => h (.inr hx))]
theorem zsL (x v : Nat) : ∀ (l : List Nat) (c0 : Nat), x ∉ l -> v = c0 + l.length -> zk6 ((x : Nat) : Int) ((v : Nat) : Int) (mpC l c0) = mpC (l ++ [x]) c0
 | [], c0, _, h => by rw [List.length_nil] at h; subst h; rfl
 | f :: l, c0, h, hv => by
  rw [List.mem_cons] at h
  rw [List.length_cons] at hv
  simp only [mpC, zk6, List.cons_append]
  rw [if_neg (fun e => h (.inl (by omega))), zsL x v l (c0 + 1) (fun hx => h (.inr hx)) (by omega)]
theorem zmX (e : Nat -> Nat -> Bool) : ∀ i, (z1G e i).Nodup
 | 0 => by simp [z1G]
 | i + 1 => by
  have ih := zmX e i
  unfold z1G
  split
  ·exact ih
  ·refine List.nodup_append.2 ⟨ih, by simp, fun a ha b hb => ?_⟩
   have := zdf e i a ha
   obtain rfl := List.mem_singleton.1 hb
   omega
theorem znd {d : DFA} {m n : Nat} {S : List Nat} (hd : DfaOk d m n) (hn : n <= 7) (hS : SetsP d m n S) : z4D ((List.range S.length).map fun i => ((z5F d m n S i : Nat) : Int)) = some (zpE d m n S) := by
 have h128 : 2 ^ n <= 128 := Nat.pow_le_pow_right (n := 2) (by omega) hn
 have hSl := z1r hS.nd hS.lt
 have he := zdh hd hS
 have hlen : ((List.range S.length).map fun i => ((z5F d m n S i : Nat) : Int)).length = S.length := by simp
 unfold z4D
 rw [hlen, if_neg (by omega), z0K _ (by unfold z2k; omega), Int.toNat_natCast]
 have f1 : List.replicate S.length (0 : Int) = z1N S.length (fun i => ((z7t (z2L d m n S) S.length i : Nat) : Int)) 0 0 := (z7J _ _ _).symm
 rw [f1]
 refine z1I (s := ((0 : Int), (0 : Int), z1N S.length (fun i => ((z7t (z2L d m n S) S.length i : Nat) : Int)) 0 0, ([] : List (Int × Int)))) S.length (fun i => ((((z1G (z2L d m n S) i).length : Nat) : Int), (i : Int), z1N S.length (fun i => ((z7t (z2L d m n S) S.length i : Nat) : Int)) 0 i, mpC (z1G (z2L d m n S) i) 0)) rfl (by simp only [LFm]; omega) (fun i hi => ?_) ?_
 ·have hF := zhJ (z2L d m n S) i
  have hset := z4r (f := fun i => ((z7t (z2L d m n S) S.length i : Nat) : Int)) (z := (0 : Int)) hi
  simp only [z4v]
  rw [if_pos (by rw [hlen]; omega), z3m hi, Option.bind_some, z5X hi, Option.bind_some, Int.toNat_natCast, z1X (by omega)]
  rcases zmY he hi with ⟨q1, q2, q3⟩ | ⟨q1, q2, q3⟩
  ·have g := ztC (z1G (z2L d m n S) i) 0 _ (zmX _ i) q1
   rw [q2, Nat.zero_add] at g
   have g : zhG ((z5F d m n S i : Nat) : Int) (mpC (z1G (z2L d m n S) i) 0) = some ((z7t (z2L d m n S) S.length i : Nat) : Int) := g
   rw [g, if_pos (by rfl), Option.getD_some, hset, q3]
  ·have hni : i ∉ z1G (z2L d m n S) i := fun h => by have := zdf _ _ _ h; omega
   have ef : z5F d m n S i = i := q2
   rw [ef, zpi i _ 0 hni, if_neg (by simp), Option.bind_some, z1X (by omega), zsL i _ _ 0 hni (by omega), q3, ← q1, hset, q1, List.length_append, List.length_singleton]
 ·simp only [z4v]
  rw [if_neg (by rw [hlen]; omega), z7I]
  rfl
end Go.Proofs.Ytbnnipkanechoaa
end
section
namespace Go.Proofs.Ytbnnipkanechoaa
open Go
set_option maxRecDepth 100000
def z7B (f : Nat -> Nat) : Nat -> Nat
 | 0 => 0
 | k + 1 => z7B f k + f k
theorem zk0 {f g : Nat -> Nat} : ∀ k, (∀ i, i < k -> f i <= g i) -> z7B f k <= z7B g k
 | 0, _ => Nat.le_refl _
 | k + 1, h => Nat.add_le_add (zk0 k fun i hi => h i (by omega)) (h k (by omega))
theorem zvx {f g : Nat -> Nat} {p : Nat} : ∀ k, (∀ i, i < k -> f i <= g i) -> p < k -> f p < g p -> z7B f k < z7B g k
 | 0, _, hp, _ => by omega
 | k + 1, h, hp, hl => by
  simp only [z7B]
  have h1 := h k (by omega)
  by_cases e : p = k
  ·subst e
   have := zk0 p fun i hi => h i (by omega)
   omega
  ·have := zvx k (fun i hi => h i (by omega)) (by omega) hl
   omega
theorem zm9 {f : Nat -> Nat} {B : Nat} : ∀ k, (∀ i, i < k -> f i <= B) -> z7B f k <= k * B
 | 0, _ => by simp [z7B]
 | k + 1, h => by
  have h1 := zm9 k fun i hi => h i (by omega)
  have h2 := h k (by omega)
  simp only [z7B, Nat.add_mul, Nat.one_mul]
  omega
def hL (N : Nat) (h : Nat -> Nat) : List Int := (List.range N).map fun i => ((h i : Nat) : Int)
theorem zxB {N : Nat} {h : Nat -> Nat} {i : Nat} (hi : i < N) (v : Nat) : (hL N h).set i ((v : Nat) : Int) = hL N fun a => if a = i then v else h a := by
 apply List.ext_getElem (by simp [hL])
 intro k h1 h2
 simp only [hL, List.getElem_set, List.getElem_map, List.getElem_range]
 by_cases e : i = k
 ·rw [if_pos e, if_pos e.symm]
 ·rw [if_neg e, if_neg (fun h => e h.symm)]
def okH (b : Nat -> Nat -> Bool) (z : Nat -> Bool) (h : Nat -> Nat) (i j : Nat) : Prop := z i = false -> sbN b j i = true -> h j < h i
theorem zv3 {N : Nat} {b : Nat -> Nat -> Bool} (hb : BelN N b) {z : Nat -> Bool} {i j : Nat} (hi : i < N) (hj : j < N) (hz : z i = false) (hs : sbN b j i = true) : zo8 N b z j < zo8 N b z i := by
 rw [zpe hb z i hi, hz]
 have := zuU (g := fun j => if sbN b j i = true then zo8 N b z j + 1 else 0) hj
 simp only [hs, if_true] at this
 simp only [Bool.false_eq_true, if_false]
 omega
theorem zwp {N : Nat} {b : Nat -> Nat -> Bool} (hb : BelN N b) {z : Nat -> Bool} {h : Nat -> Nat} (hle : ∀ i, i < N -> h i <= zo8 N b z i) (ho : ∀ i j, i < N -> j < N -> okH b z h i j) : ∀ i, i < N -> h i = zo8 N b z i := by
 have : ∀ L i, i < N -> zic N b i <= L -> zo8 N b z i <= h i := by
  intro L
  induction L with
  | zero =>
   intro i hi hl
   exfalso
   have := zjv (p := fun _ => false) (q := fun j => b j i) (k := N) (i := i) (fun j _ hf => by simp at hf) hi rfl (hb.refl i hi)
   unfold zic at hl; omega
  | succ L ih =>
   intro i hi hl
   rw [zpe hb z i hi]
   cases hz : z i with
   | true => simp
   | false =>
    simp only [Bool.false_eq_true, if_false]
    refine zbq fun j hj => ?_
    by_cases hs : sbN b j i = true
    ·have h1 := zp6 hb hi hj hs
     have h2 := ih j hj (by omega)
     have h3 := ho i j hi hj hz hs
     simp only [hs, if_true]
     omega
    ·simp [hs]
 exact fun i hi => Nat.le_antisymm (hle i hi) (this _ i hi (Nat.le_refl _))
structure RndH (N : Nat) (b : Nat -> Nat -> Bool) (z : Nat -> Bool) (h0 : Nat -> Nat) (ch : Bool) (h : Nat -> Nat) : Prop where
 lo : ∀ i, i < N -> h0 i <= h i
 hi : ∀ i, i < N -> h i <= zo8 N b z i
 no : ch = false -> ∀ i, i < N -> h i = h0 i
 yes : ch = true -> ∃ i, i < N /\ h0 i < h i
theorem zx4 : ∀ s : Nat, s < 128 -> s ≠ 0 -> szN s ≠ 0 := by decide +kernel
section
variable {d : DFA} {m n : Nat} {S : List Nat} (hd : DfaOk d m n) (hn : n <= 7) (hS : SetsP d m n S) (hpos : ∀ x ∈ S, x ≠ 0)
include hd hn hS hpos
theorem zwo {h0 : Nat -> Nat} {i : Nat} (hi : i < S.length) (ch : Bool) (h : Nat -> Nat) (hr : RndH S.length (z3D d m n S) (za8 S) h0 ch h) (hk : ch = false -> ∀ i', i' < i -> ∀ j, j < S.length -> okH (z3D d m n S) (za8 S) h0 i' j) :
  ∃ ch' h', z1b (z6w (toI S) (zeT S.length (z3D d m n S)) (i : Int)) LFm (ch, 0, hL S.length h) = z0B (ch', ((i + 1 : Nat) : Int), hL S.length h') /\ RndH S.length (z3D d m n S) (za8 S) h0 ch' h' /\ (ch' = false -> ∀ i', i' < i + 1 -> ∀ j, j < S.length -> okH (z3D d m n S) (za8 S) h0 i' j) := by
 have h128 : 2 ^ n <= 128 := Nat.pow_le_pow_right (n := 2) (by omega) hn
 have hSl := z1r hS.nd hS.lt
 have hb := zpL hd hS
 refine Exists.elim (z1T (b := z6w (toI S) (zeT S.length (z3D d m n S)) (i : Int)) (fun z => ∃ (ch : Bool) (j : Nat) (h : Nat -> Nat), j <= S.length /\ z = (ch, (j : Int), hL S.length h) /\ RndH S.length (z3D d m n S) (za8 S) h0 ch h /\ (ch = false -> (∀ i', i' < i -> ∀ j, j < S.length -> okH (z3D d m n S) (za8 S) h0 i' j) /\ ∀ j', j' < j -> okH (z3D d m n S) (za8 S) h0 i j')) (fun z => S.length - z.2.1.toNat)
  (fun r => ∃ ch' h', r = .inl (ch', ((i + 1 : Nat) : Int), hL S.length h') /\ RndH S.length (z3D d m n S) (za8 S) h0 ch' h' /\ (ch' = false -> ∀ i', i' < i + 1 -> ∀ j, j < S.length -> okH (z3D d m n S) (za8 S) h0 i' j)) ?_ LFm (ch, 0, hL S.length h) ⟨ch, 0, h, by omega, rfl, hr, fun e => ⟨hk e, fun j' hj' => by omega⟩⟩ (by simp only [LFm]; omega)) fun r hh => by
   obtain ⟨e1, ch', h', rfl, e2, e3⟩ := hh
   exact ⟨ch', h', e1, e2, e3⟩
 rintro z ⟨ch, j, h, hj, rfl, r1, r2⟩
 simp only [z6w]
 by_cases hlt : j < S.length
 ·left
  have hil := hS.lt _ (z1x hi)
  have hz0 := zx4 _ (by omega) (hpos _ (z1x hi))
  have hgi := zmV hb (za8 S) hi
  have hgj := zmV hb (za8 S) hlt
  have hhj := r1.hi j hlt
  have hhi := r1.hi i hi
  rw [if_pos (by rw [z0v]; omega), z2Q hi, Option.bind_some, zfz _ (by omega), Option.bind_some, z1X (by omega)]
  have keep : okH (z3D d m n S) (za8 S) h i j -> RndH S.length (z3D d m n S) (za8 S) h0 ch h /\ (ch = false -> (∀ i', i' < i -> ∀ j, j < S.length -> okH (z3D d m n S) (za8 S) h0 i' j) /\ ∀ j', j' < j + 1 -> okH (z3D d m n S) (za8 S) h0 i j') := fun ho => ⟨r1, fun e => ⟨(r2 e).1, fun j' hj' => by
   by_cases ej : j' = j
   ·subst ej
    intro q1 q2
    have := ho q1 q2
    rw [r1.no e i hi, r1.no e j' hlt] at this
    exact this
   ·exact (r2 e).2 j' (by omega)⟩⟩
  have same : okH (z3D d m n S) (za8 S) h i j -> ∃ s', (z0B (ch, ((j + 1 : Nat) : Int), hL S.length h) : Option ((Bool × Int × List Int) ⊕ ((Bool × Int × List Int) ⊕ ((Bool × List Int) ⊕ (Imgs × Int))))) = some (.inl s') /\ (∃ (ch : Bool) (j : Nat) (h : Nat -> Nat), j <= S.length /\ s' = (ch, (j : Int), hL S.length h) /\ RndH S.length (z3D d m n S) (za8 S) h0 ch h /\ (ch = false -> (∀ i', i' < i -> ∀ j, j < S.length -> okH (z3D d m n S) (za8 S) h0 i' j) /\ ∀ j', j' < j -> okH (z3D d m n S) (za8 S) h0 i j')) /\ S.length - s'.2.1.toNat < S.length - (ch, (j : Int), hL S.length h).2.1.toNat := fun ho =>
   ⟨_, rfl, ⟨ch, j + 1, h, by omega, rfl, (keep ho).1, (keep ho).2⟩, by simp only [Int.toNat_natCast]; omega⟩
  by_cases hz : szN (S.getD i 0) = 1
  ·rw [if_neg (by omega)]
   exact same fun q1 _ => absurd hz (of_decide_eq_false q1)
  ·rw [if_pos (by omega), zmG hlt, Option.bind_some, z3m hi, Option.bind_some]
   have hbz : za8 S i = false := decide_eq_false hz
   by_cases h1 : z3D d m n S j i = true
   ·rw [if_pos h1, zmG hi, Option.bind_some, z3m hlt, Option.bind_some]
    by_cases h2 : z3D d m n S i j = true
    ·rw [if_pos h2]
     exact same fun _ q2 => by simp [sbN, h2] at q2
    ·have hs : sbN (z3D d m n S) j i = true := by simp [sbN, h1, h2]
     have hst := zv3 hb hi hlt hbz hs
     have a1 : atI (hL S.length h) (i : Int) = some ((h i : Nat) : Int) := z3m hi
     have a2 : atI (hL S.length h) (j : Int) = some ((h j : Nat) : Int) := z3m hlt
     rw [if_neg h2, a1, Option.bind_some, a2, Option.bind_some]
     by_cases h3 : h i <= h j
     ·rw [if_pos (by omega), z1X (by omega), Int.toNat_natCast, zxB hi]
      refine ⟨_, rfl, ⟨true, j + 1, _, by omega, rfl, ⟨fun a ha => ?_, fun a ha => ?_, (fun e => by cases e), fun _ => ⟨i, hi, ?_⟩⟩, (fun e => by cases e)⟩, by simp only [Int.toNat_natCast]; omega⟩
      ·have := r1.lo a ha
       by_cases e : a = i
       ·subst e; rw [if_pos rfl]; omega
       ·rw [if_neg e]; exact this
      ·have := r1.hi a ha
       by_cases e : a = i
       ·subst e; rw [if_pos rfl]; omega
       ·rw [if_neg e]; exact this
      ·have := r1.lo i hi
       rw [if_pos rfl]; omega
     ·rw [if_neg (by omega)]
      exact same fun _ _ => by omega
   ·rw [if_neg h1]
    exact same fun _ q2 => by simp [sbN, h1] at q2
 ·right
  obtain rfl : j = S.length := by omega
  rw [if_neg (by rw [z0v]; omega), z1X (by omega)]
  refine ⟨_, rfl, ch, h, rfl, r1, fun e i' hi' => ?_⟩
  by_cases e2 : i' = i
  ·subst e2; exact (r2 e).2
  ·exact (r2 e).1 i' (by omega)
theorem zrk {h0 : Nat -> Nat} (h1 : ∀ i, i < S.length -> h0 i <= z9a d m n S i) :
  ∃ ch' h', z1b (z6x (toI S) (zeT S.length (z3D d m n S))) LFm (false, 0, hL S.length h0) = z0B (ch', hL S.length h') /\ RndH S.length (z3D d m n S) (za8 S) h0 ch' h' /\ (ch' = false -> ∀ i', i' < S.length -> ∀ j, j < S.length -> okH (z3D d m n S) (za8 S) h0 i' j) := by
 have h128 : 2 ^ n <= 128 := Nat.pow_le_pow_right (n := 2) (by omega) hn
 have hSl := z1r hS.nd hS.lt
 refine Exists.elim (z1T (b := z6x (toI S) (zeT S.length (z3D d m n S))) (fun z => ∃ (ch : Bool) (i : Nat) (h : Nat -> Nat), i <= S.length /\ z = (ch, (i : Int), hL S.length h) /\ RndH S.length (z3D d m n S) (za8 S) h0 ch h /\ (ch = false -> ∀ i', i' < i -> ∀ j, j < S.length -> okH (z3D d m n S) (za8 S) h0 i' j)) (fun z => S.length - z.2.1.toNat)
  (fun r => ∃ ch' h', r = .inl (ch', hL S.length h') /\ RndH S.length (z3D d m n S) (za8 S) h0 ch' h' /\ (ch' = false -> ∀ i', i' < S.length -> ∀ j, j < S.length -> okH (z3D d m n S) (za8 S) h0 i' j)) ?_ LFm (false, 0, hL S.length h0) ⟨false, 0, h0, by omega, rfl, ⟨fun _ _ => Nat.le_refl _, h1, fun _ _ _ => rfl, fun e => by cases e⟩, fun _ i' hi' => by omega⟩ (by simp only [LFm]; omega)) fun r hh => by
   obtain ⟨e1, ch', h', rfl, e2, e3⟩ := hh
   exact ⟨ch', h', e1, e2, e3⟩
 rintro z ⟨ch, i, h, hi, rfl, r1, r2⟩
 simp only [z6x]
 by_cases hlt : i < S.length
 ·left
  obtain ⟨ch', h', e1, e2, e3⟩ := zwo hd hn hS hpos hlt ch h r1 r2
  rw [if_pos (by rw [z0v]; omega), e1]
  exact ⟨_, rfl, ⟨ch', i + 1, h', by omega, rfl, e2, e3⟩, by simp only [Int.toNat_natCast]; omega⟩
 ·right
  obtain rfl : i = S.length := by omega
  rw [if_neg (by rw [z0v]; omega)]
  exact ⟨_, rfl, ch, h, rfl, r1, r2⟩
theorem zv4 {r : Imgs × Int} (C : List Int)
  (hr : z1b (z5q d (toI S) C (zvJ d m n S)) LFm (0, List.replicate S.length ([] : List Int)) = some r) :
  z1b (z6y d (toI S) (zeT S.length (z3D d m n S)) C) LFm (true, List.replicate S.length (0 : Int)) = some r := by
 have h128 : 2 ^ n <= 128 := Nat.pow_le_pow_right (n := 2) (by omega) hn
 have hSl := z1r hS.nd hS.lt
 have hb := zpL hd hS
 have f1 : List.replicate S.length (0 : Int) = hL S.length fun _ => 0 := by
  apply List.ext_getElem (by simp [hL]); intro i h1 h2; simp [hL]
 rw [f1]
 have hbound : z7B (fun i => z9a d m n S i - 0) S.length <= S.length * S.length := zm9 _ fun i hi => by
  have := zmV hb (za8 S) hi
  show zo8 _ _ _ i - 0 <= _
  omega
 have hsq : S.length * S.length <= 128 * 128 := Nat.mul_le_mul (by omega) (by omega)
 have mea : ∀ (ch : Bool) (h : Nat -> Nat), (z7B (fun i => z9a d m n S i - ((hL S.length h).getD i 0).toNat) S.length + (if ch = true then 1 else 0)) = z7B (fun i => z9a d m n S i - h i) S.length + (if ch = true then 1 else 0) := fun ch h => by
  congr 1
  have : ∀ k, k <= S.length -> z7B (fun i => z9a d m n S i - ((hL S.length h).getD i 0).toNat) k = z7B (fun i => z9a d m n S i - h i) k := by
   intro k
   induction k with
   | zero => intro _; rfl
   | succ k ih =>
    intro hk
    simp only [z7B]
    rw [ih (by omega)]
    congr 2
    simp [hL, List.getD, show k < S.length by omega]
  exact this _ (Nat.le_refl _)
 refine zd5 (fun z : Bool × List Int => ∃ h, z.2 = hL S.length h /\ (∀ i, i < S.length -> h i <= z9a d m n S i) /\ (z.1 = false -> ∀ i, i < S.length -> ∀ j, j < S.length -> okH (z3D d m n S) (za8 S) h i j)) (fun z => z7B (fun i => z9a d m n S i - (z.2.getD i 0).toNat) S.length + (if z.1 = true then 1 else 0)) (s := (true, hL S.length fun _ => 0)) ⟨fun _ => 0, rfl, fun _ _ => Nat.zero_le _, fun e => by cases e⟩ (by show z7B (fun i => z9a d m n S i - ((hL S.length fun _ => 0).getD i 0).toNat) S.length + (if true = true then 1 else 0) < LFm; rw [mea]; simp only [LFm, if_true]; omega) ?_
 rintro ⟨ch, z⟩ ⟨h, rfl, q1, q2⟩
 cases ch with
 | false =>
  right
  have e : hL S.length h = zvJ d m n S := List.map_congr_left fun i hi => by
   rw [zwp hb (z := za8 S) q1 (fun i j hi hj => q2 rfl i hi j hj) i (List.mem_range.1 hi)]
   rfl
  simp only [z6y]
  rw [if_neg (by simp), z0v, Int.toNat_natCast, e, hr]
 | true =>
  left
  obtain ⟨ch', h', e1, e2, e3⟩ := zrk hd hn hS hpos q1
  simp only [z6y]
  rw [if_pos trivial, e1]
  refine ⟨_, rfl, ⟨h', rfl, e2.hi, fun e i hi j hj => ?_⟩, ?_⟩
  ·intro p1 p2
   have := e3 e i hi j hj p1 p2
   rw [e2.no e i hi, e2.no e j hj]
   exact this
  ·show z7B (fun i => z9a d m n S i - ((hL S.length h').getD i 0).toNat) S.length + (if ch' = true then 1 else 0) < z7B (fun i => z9a d m n S i - ((hL S.length h).getD i 0).toNat) S.length + (if true = true then 1 else 0)
   rw [mea, mea]
   cases ch' with
   | false =>
    have : z7B (fun i => z9a d m n S i - h' i) S.length <= z7B (fun i => z9a d m n S i - h i) S.length := zk0 _ fun i hi => by
     have := e2.lo i hi; omega
    simp only [if_true, Bool.false_eq_true, if_false]
    omega
   | true =>
    obtain ⟨p, p1, p2⟩ := e2.yes rfl
    have hp := e2.hi p p1
    have : z7B (fun i => z9a d m n S i - h' i) S.length < z7B (fun i => z9a d m n S i - h i) S.length := zvx _ (fun i hi => by have := e2.lo i hi; omega) p1 (by
     show zo8 _ _ _ p - h' p < zo8 _ _ _ p - h p
     omega)
    simp only [if_true]
    omega
end
end Go.Proofs.Ytbnnipkanechoaa
end
section
namespace Go.Proofs.Ytbnnipkanechoaa
open Go
set_option maxRecDepth 100000
def zhw (S : List Nat) (i j k : Nat) : Bool := !zf1 S i k || (decide (k = j) || !decide (S.getD j 0 &&& S.getD k 0 = S.getD j 0))
def zmD (S : List Nat) (i j : Nat) : Nat -> Bool
 | 0 => true
 | k + 1 => zmD S i j k && zhw S i j k
theorem zmC (S : List Nat) (i j : Nat) : ∀ k, zmD S i j k = true ↔ ∀ x, x < k -> zhw S i j x = true
 | 0 => by simp [zmD]
 | k + 1 => by
  simp only [zmD, Bool.and_eq_true]
  rw [zmC S i j k]
  constructor
  ·rintro ⟨h1, h2⟩ x hx
   by_cases e : x = k
   ·subst e; exact h2
   ·exact h1 x (by omega)
  ·intro h
   exact ⟨fun x hx => h x (by omega), h k (by omega)⟩
theorem zta (S : List Nat) (i j : Nat) : zmD S i j S.length = zi8 S i j := by
 rw [Bool.eq_iff_iff, zmC, zi8, List.all_eq_true]
 constructor
 ·intro h x hx
  obtain ⟨h1, h2⟩ := List.mem_filter.1 hx
  have := h x (List.mem_range.1 h1)
  simp only [zhw, h2, Bool.not_true, Bool.false_or] at this
  exact this
 ·intro h x hx
  unfold zhw
  cases hp : zf1 S i x with
  | false => rfl
  | true =>
   have := h x (List.mem_filter.2 ⟨List.mem_range.2 hx, hp⟩)
   simp only [Bool.not_true, Bool.false_or]
   exact this
def tlN (S : List Nat) (i j : Nat) : List Nat := ((List.range j).filter (zf1 S i)).filter (zi8 S i)
theorem zvW (S : List Nat) (i j : Nat) : tlN S i (j + 1) = tlN S i j ++ (if zf1 S i j = true /\ zi8 S i j = true then [j] else []) := by
 unfold tlN
 rw [List.range_succ, List.filter_append, List.filter_append]
 congr 1
 by_cases h1 : zf1 S i j = true
 ·by_cases h2 : zi8 S i j = true
  ·simp [h1, h2]
  ·simp [h1, h2]
 ·simp [h1]
theorem zx2 (S : List Nat) (i j : Nat) : (tlN S i j).length <= j := by
 have h1 := List.length_filter_le (zi8 S i) ((List.range j).filter (zf1 S i))
 have h2 := List.length_filter_le (zf1 S i) (List.range j)
 rw [List.length_range] at h2
 unfold tlN; omega
def zAQ (S : List Nat) : Nat -> List (Int × Int)
 | 0 => []
 | k + 1 => zk6 ((S.getD k 0 : Nat) : Int) (k : Int) (zAQ S k)
section
variable {d : DFA} {m n : Nat} {S : List Nat} (hd : DfaOk d m n) (hn : n <= 7) (hS : SetsP d m n S) (hpos : ∀ x ∈ S, x ≠ 0)
include hd hn hS hpos
theorem zt9 {i j : Nat} (hi : i < S.length) (hj : j < S.length) (R : List (List Int)) (r : List Int) (hr : atI R (i : Int) = some r) (hrl : r.length <= 1000) :
  z1b (z6u (toI S) (i : Int) (j : Int) R ((S.getD j 0 : Nat) : Int)) LFm (true, 0) = z0B (((j + 1 : Nat) : Int), if zi8 S i j = true then R.set i (r ++ [(j : Int)]) else R) := by
 have _u := hd
 have _u := hpos
 have h128 : 2 ^ n <= 128 := Nat.pow_le_pow_right (n := 2) (by omega) hn
 have hSl := z1r hS.nd hS.lt
 have hil := hS.lt _ (z1x hi)
 have hjl := hS.lt _ (z1x hj)
 refine z1I (s := (true, (0 : Int))) S.length (fun k => (zmD S i j k, (k : Int))) rfl (by simp only [LFm]; omega) (fun k hk => ?_) ?_
 ·have hkl := hS.lt _ (z1x hk)
  have tr : zhw S i j k = true -> (z0B ((!false : Bool), ((k + 1 : Nat) : Int)) : Option ((Bool × Int) ⊕ ((Int × List (List Int)) ⊕ ((Int × List (List Int)) ⊕ (Imgs × Int))))) = z0B (true && zhw S i j k, ((k + 1 : Nat) : Int)) := fun h => by rw [h]; rfl
  simp only [z6u]
  rw [if_pos (by rw [z0v]; omega), z2Q hk, Option.bind_some, z1X (by omega), zmD]
  cases hm : zmD S i j k with
  | false => rw [if_neg (by simp)]; rfl
  | true =>
   rw [if_pos rfl]
   by_cases e1 : k = j
   ·rw [if_pos (by omega)]
    exact tr (by simp [zhw, e1])
   ·rw [if_neg (by omega)]
    by_cases e2 : k = i
    ·rw [if_pos (by omega)]
     exact tr (by simp [zhw, zf1, e2])
    ·rw [if_neg (by omega), z2Q hi, Option.bind_some, zdo (by omega) (by omega), zdo (by omega) (by omega)]
     by_cases e3 : S.getD k 0 &&& S.getD i 0 = S.getD k 0
     ·have hp : zf1 S i k = true := by
       unfold zf1
       rw [decide_eq_false e2, decide_eq_true e3]; rfl
      have hq : zhw S i j k = !decide (S.getD j 0 &&& S.getD k 0 = S.getD j 0) := by
       unfold zhw
       rw [hp, decide_eq_false e1]; rfl
      rw [if_pos (by omega), hq, show decide (((S.getD j 0 &&& S.getD k 0 : Nat) : Int) = ((S.getD j 0 : Nat) : Int)) = decide (S.getD j 0 &&& S.getD k 0 = S.getD j 0) from decide_eq_decide.2 (by omega)]
      rfl
     ·rw [if_neg (by omega)]
      exact tr (by unfold zhw zf1; rw [decide_eq_false e3]; simp)
 ·simp only [z6u]
  rw [if_neg (by rw [z0v]; omega), zta]
  by_cases h : zi8 S i j = true
  ·rw [if_pos h, if_pos h, hr, Option.bind_some, z0K _ (by unfold z2i; omega), z1X (by omega), Int.toNat_natCast]
  ·rw [if_neg h, if_neg h, z1X (by omega)]
theorem zuz {i : Nat} (hi : i < S.length) (hz : szN (S.getD i 0) ≠ 1) (R : List (List Int)) (hR : R = z1N S.length (fun i => toI (zeN S i)) [] i) :
  z1b (z6v (toI S) (i : Int)) LFm (0, R) = z0B (((i + 1 : Nat) : Int), z1N S.length (fun i => toI (zeN S i)) [] (i + 1)) := by
 have h128 : 2 ^ n <= 128 := Nat.pow_le_pow_right (n := 2) (by omega) hn
 have hSl := z1r hS.nd hS.lt
 have hRl : R.length = S.length := by rw [hR, zaN]
 have hil := hS.lt _ (z1x hi)
 have hfin : R.set i (toI (tlN S i S.length)) = z1N S.length (fun i => toI (zeN S i)) [] (i + 1) := by
  have : tlN S i S.length = zeN S i := by unfold zeN; rw [if_neg hz]; rfl
  rw [this, hR]
  exact z4r (f := fun i => toI (zeN S i)) (z := []) hi
 have h0 : R = R.set i (toI (tlN S i 0)) := by
  have e : R[i]'(by omega) = [] := by simp [hR, z1N]
  have : toI (tlN S i 0) = R[i]'(by omega) := by rw [e]; rfl
  rw [this, List.set_getElem_self]
 refine z1I (s := ((0 : Int), R)) S.length (fun j => ((j : Int), R.set i (toI (tlN S i j)))) (by rw [← h0]; rfl) (by simp only [LFm]; omega) (fun j hj => ?_) ?_
 ·have hjl := hS.lt _ (z1x hj)
  have hl := zx2 S i j
  simp only [z6v]
  rw [if_pos (by rw [z0v]; omega), z2Q hj, Option.bind_some, z2Q hi, Option.bind_some, zdo (by omega) (by omega), zvW]
  by_cases e1 : S.getD j 0 &&& S.getD i 0 = S.getD j 0
  ·rw [if_pos (by omega)]
   by_cases e2 : j = i
   ·have hp : ¬ (zf1 S i j = true /\ zi8 S i j = true) := fun h => by
     have := h.1
     simp [zf1, e2] at this
    rw [if_pos (by omega), if_neg hp, List.append_nil, z1X (by omega)]
   ·have hp : zf1 S i j = true := by
     unfold zf1
     rw [decide_eq_false e2, decide_eq_true e1]; rfl
    rw [if_neg (by omega), zt9 hd hn hS hpos hi hj _ (toI (tlN S i j)) (zji (by omega)) (by rw [z0v]; omega)]
    by_cases h : zi8 S i j = true
    ·rw [if_pos h, if_pos ⟨hp, h⟩, zhj, z6Q]
    ·rw [if_neg h, if_neg (fun hh => h hh.2), List.append_nil]
  ·have hp : ¬ (zf1 S i j = true /\ zi8 S i j = true) := fun h => by
    have := h.1
    simp only [zf1, Bool.and_eq_true, decide_eq_true_eq] at this
    exact e1 this.2
   rw [if_neg (by omega), if_neg hp, List.append_nil, z1X (by omega)]
 ·simp only [z6v]
  rw [if_neg (by rw [z0v]; omega), hfin, z1X (by omega)]
omit hpos in
theorem zu8 {i k : Nat} (hi : i < S.length) (hk : k < S.length) (hm : S.getD k 0 ∈ (z1s d m n (S.getD i 0)).1) (he : k = z5F d m n S i) (W' B : List ByteArray) (hB : B = z1N S.length (zoq d m n S) ByteArray.empty i) :
  z1b (z6s (toI S) (i : Int) (k : Int) W' (toI (z1s d m n (S.getD i 0)).1, (z1s d m n (S.getD i 0)).2)) LFm (0, B) = z0B (((i + 1 : Nat) : Int), W', z1N S.length (zoq d m n S) ByteArray.empty (i + 1)) := by
 have h128 : 2 ^ n <= 128 := Nat.pow_le_pow_right (n := 2) (by omega) hn
 have hSl := z1r hS.nd hS.lt
 have hinv := z4E hd (hS.lt _ (z1x hi))
 have hnd := hinv.nd
 have hlen := hinv.len
 have hl := z1r hinv.nd hinv.lt
 have hfin : B.set i ((z1s d m n (S.getD i 0)).2.getD ((z1s d m n (S.getD i 0)).1.idxOf (S.getD k 0)) ByteArray.empty) = z1N S.length (zoq d m n S) ByteArray.empty (i + 1) := by
  have e := z4r (f := zoq d m n S) (z := ByteArray.empty) hi
  rw [hB, ← e]
  unfold zoq z6k
  rw [← he]
 have hat : atI B (i : Int) = some ByteArray.empty := by rw [hB, z5X hi, if_neg (by omega)]
 generalize (z1s d m n (S.getD i 0)).1 = l at *
 generalize (z1s d m n (S.getD i 0)).2 = ws at *
 have hix := zdd hm
 have hgx := z9t hm
 refine z1I (s := ((0 : Int), B)) l.length (fun q => ((q : Int), if l.idxOf (S.getD k 0) < q then B.set i (ws.getD (l.idxOf (S.getD k 0)) ByteArray.empty) else B)) (by rw [if_neg (by omega)]; rfl) (by simp only [LFm]; omega) (fun q hq => ?_) ?_
 ·simp only [z6s]
  rw [if_pos (by rw [z0v]; omega), z2Q hq, Option.bind_some, z2Q hk, Option.bind_some, z1X (by omega)]
  by_cases e : l.getD q 0 = S.getD k 0
  ·have hqi := z9r hnd hq
   rw [e] at hqi
   rw [if_pos (by omega), zk1 (by omega), Option.bind_some, if_neg (by omega), hat, Option.bind_some, Int.toNat_natCast, if_pos (by omega), hqi]
  ·have hqi : l.idxOf (S.getD k 0) ≠ q := fun h => e (by rw [← h]; exact hgx)
   rw [if_neg (by omega)]
   by_cases h : l.idxOf (S.getD k 0) < q
   ·rw [if_pos h, if_pos (by omega)]
   ·rw [if_neg h, if_neg (by omega)]
 ·simp only [z6s]
  rw [if_neg (by rw [z0v]; omega), if_pos hix, hfin, z1X (by omega)]
omit hpos in
theorem zrR {i k : Nat} (hi : i < S.length) (hk : k < S.length) (hm : S.getD i 0 ∈ (z1s d m n (S.getD k 0)).1) (hm' : S.getD k 0 ∈ (z1s d m n (S.getD i 0)).1) (he : k = z5F d m n S i) (W B : List ByteArray) (hW : W = z1N S.length (zi6 d m n S) ByteArray.empty i) (hB : B = z1N S.length (zoq d m n S) ByteArray.empty i) :
  z1b (z6t d (toI S) (i : Int) B (k : Int) (toI (z1s d m n (S.getD k 0)).1, (z1s d m n (S.getD k 0)).2)) LFm (0, W) = z0B (((i + 1 : Nat) : Int), z1N S.length (zi6 d m n S) ByteArray.empty (i + 1), z1N S.length (zoq d m n S) ByteArray.empty (i + 1)) := by
 have h128 : 2 ^ n <= 128 := Nat.pow_le_pow_right (n := 2) (by omega) hn
 have hSl := z1r hS.nd hS.lt
 have hinv := z4E hd (hS.lt _ (z1x hk))
 have hnd := hinv.nd
 have hlen := hinv.len
 have hl := z1r hinv.nd hinv.lt
 have hfin : W.set i ((z1s d m n (S.getD k 0)).2.getD ((z1s d m n (S.getD k 0)).1.idxOf (S.getD i 0)) ByteArray.empty) = z1N S.length (zi6 d m n S) ByteArray.empty (i + 1) := by
  have e := z4r (f := zi6 d m n S) (z := ByteArray.empty) hi
  rw [hW, ← e]
  unfold zi6 z6k
  rw [← he]
 have hat : atI W (i : Int) = some ByteArray.empty := by rw [hW, z5X hi, if_neg (by omega)]
 have hback := zu8 hd hn hS hi hk hm' he (z1N S.length (zi6 d m n S) ByteArray.empty (i + 1)) B hB
 have hrch := zfJ hd (show n <= 12 by omega) (hS.lt _ (z1x hi))
 generalize (z1s d m n (S.getD k 0)).1 = l at *
 generalize (z1s d m n (S.getD k 0)).2 = ws at *
 have hix := zdd hm
 have hgx := z9t hm
 refine z1I (s := ((0 : Int), W)) l.length (fun q => ((q : Int), if l.idxOf (S.getD i 0) < q then W.set i (ws.getD (l.idxOf (S.getD i 0)) ByteArray.empty) else W)) (by rw [if_neg (by omega)]; rfl) (by simp only [LFm]; omega) (fun q hq => ?_) ?_
 ·simp only [z6t]
  rw [if_pos (by rw [z0v]; omega), z2Q hq, Option.bind_some, z2Q hi, Option.bind_some, z1X (by omega)]
  by_cases e : l.getD q 0 = S.getD i 0
  ·have hqi := z9r hnd hq
   rw [e] at hqi
   rw [if_pos (by omega), zk1 (by omega), Option.bind_some, if_neg (by omega), hat, Option.bind_some, Int.toNat_natCast, if_pos (by omega), hqi]
  ·have hqi : l.idxOf (S.getD i 0) ≠ q := fun h => e (by rw [← h]; exact hgx)
   rw [if_neg (by omega)]
   by_cases h : l.idxOf (S.getD i 0) < q
   ·rw [if_pos h, if_pos (by omega)]
   ·rw [if_neg h, if_neg (by omega)]
 ·simp only [z6t]
  rw [if_neg (by rw [z0v]; omega), if_pos hix, hfin, z2Q hi, Option.bind_some, hrch, Option.bind_some, hback]
theorem zw1 : z1b (z5q d (toI S) (zpE d m n S) (zvJ d m n S)) LFm (0, List.replicate S.length ([] : List Int)) = some (z5S d m n S, 0) := by
 have h128 : 2 ^ n <= 128 := Nat.pow_le_pow_right (n := 2) (by omega) hn
 have hSl := z1r hS.nd hS.lt
 have he := zdh hd hS
 have f1 : List.replicate S.length ([] : List Int) = z1N S.length (fun i => toI (zeN S i)) [] 0 := (z7J _ _ _).symm
 rw [f1]
 refine z1I (s := ((0 : Int), z1N S.length (fun i => toI (zeN S i)) [] 0)) S.length (fun i => ((i : Int), z1N S.length (fun i => toI (zeN S i)) [] i)) rfl (by simp only [LFm]; omega) (fun i hi => ?_) ?_
 ·have hil := hS.lt _ (z1x hi)
  simp only [z5q]
  rw [if_pos (by rw [z0v]; omega), z2Q hi, Option.bind_some, zfz _ (by omega), Option.bind_some]
  by_cases hz : szN (S.getD i 0) = 1
  ·have : toI (zeN S i) = [] := by unfold zeN; rw [if_pos hz]; rfl
   rw [if_pos (by omega), z1X (by omega), zn1 (f := fun i => toI (zeN S i)) (z := []) this]
  ·rw [if_neg (by omega)]
   exact zuz hd hn hS hpos hi hz _ rfl
 ·simp only [z5q]
  rw [if_neg (by rw [z0v]; omega), z0v, Int.toNat_natCast]
  congr 1
  have f2 : List.replicate S.length (ByteArray.empty : ByteArray) = z1N S.length (zi6 d m n S) ByteArray.empty 0 := (z7J _ _ _).symm
  have f3 : List.replicate S.length (ByteArray.empty : ByteArray) = z1N S.length (zoq d m n S) ByteArray.empty 0 := (z7J _ _ _).symm
  refine z1I (s := ((0 : Int), List.replicate S.length (ByteArray.empty : ByteArray), List.replicate S.length (ByteArray.empty : ByteArray))) S.length (fun i => ((i : Int), z1N S.length (zi6 d m n S) ByteArray.empty i, z1N S.length (zoq d m n S) ByteArray.empty i)) (by rw [← f2, ← f3]; rfl) (by simp only [LFm]; omega) (fun i hi => ?_) ?_
  ·have hle := zpp hd hn hS hi
   have heq := zoa hd hn hS hi
   have hk : z5F d m n S i < S.length := by omega
   have heq' := he.symm _ _ hi hk heq
   obtain ⟨_, z2⟩ := zkv hd hn hS hk hi heq
   obtain ⟨_, z4⟩ := zkv hd hn hS hi hk heq'
   simp only [z7X]
   rw [if_pos (by rw [z0v]; omega)]
   refine z1I (s := (0 : Int)) (z5F d m n S i) (fun q => (q : Int)) rfl (by simp only [LFm]; omega) (fun q hq => ?_) ?_
   ·have hqs : q < S.length := by omega
    have hne : z7t (z2L d m n S) S.length q ≠ z7t (z2L d m n S) S.length i := fun h => by
     have h1 := zpo hd hn hS hqs hi ((zky he hqs hi).1 h)
     have h2 := zpp hd hn hS hqs
     omega
    simp only [z7W]
    rw [zpE, z3m hqs, Option.bind_some, z3m hi, Option.bind_some, if_neg (by omega), z1X (by omega)]
   ·have hcl := (zky he hk hi).2 heq'
    simp only [z7W]
    rw [zpE, z3m hk, Option.bind_some, z3m hi, Option.bind_some, if_pos (by omega), z2Q hk, Option.bind_some, zfJ hd (by omega) (hS.lt _ (z1x hk)), Option.bind_some, zrR hd hn hS hi hk z2 z4 rfl _ _ rfl rfl]
  ·simp only [z7X]
   rw [if_neg (by rw [z0v]; omega), z7I, z7I, z7I]
   rfl
theorem zwC : z1b (z6C d (toI S)) LFm (0, ([] : List (Int × Int))) = some (z5S d m n S, 0) := by
 have h128 : 2 ^ n <= 128 := Nat.pow_le_pow_right (n := 2) (by omega) hn
 have hSl := z1r hS.nd hS.lt
 have hrest := zw1 hd hn hS hpos
 refine z1I (s := ((0 : Int), ([] : List (Int × Int)))) S.length (fun k => ((k : Int), zAQ S k)) rfl (by simp only [LFm]; omega) (fun k hk => ?_) ?_
 ·simp only [z6C]
  rw [if_pos (by rw [z0v]; omega), z2Q hk, Option.bind_some, z1X (by omega)]
  rfl
 ·simp only [z6C]
  rw [if_neg (by rw [z0v]; omega), z0v, z0K _ (by unfold z2k; omega), Int.toNat_natCast]
  congr 1
  have f1 : List.replicate S.length ([] : List Bool) = z1N S.length (fun _ => List.replicate S.length false) [] 0 := (z7J _ _ _).symm
  rw [f1]
  refine z1I (s := ((0 : Int), z1N S.length (fun _ => List.replicate S.length false) [] 0)) S.length (fun k => ((k : Int), z1N S.length (fun _ => List.replicate S.length false) [] k)) rfl (by simp only [LFm]; omega) (fun k hk => ?_) ?_
  ·have hs := z4r (f := fun _ : Nat => List.replicate S.length false) (z := ([] : List Bool)) hk
   simp only [z8a]
   rw [if_pos (by rw [z0v]; omega), z0v, z0K _ (by unfold z2k; omega), z5X hk, Option.bind_some, z1X (by omega), Int.toNat_natCast, Int.toNat_natCast, hs]
  ·simp only [z8a]
   rw [if_neg (by rw [z0v]; omega), z7I]
   congr 1
   have f2 : ((List.range S.length).map fun _ => List.replicate S.length false) = zeT S.length fun a b => decide (b < 0) && z3D d m n S a b := by
    refine List.map_congr_left fun a _ => ?_
    apply List.ext_getElem (by simp)
    intro b h1 h2
    simp
   rw [f2]
   refine z1I (s := ((0 : Int), zeT S.length fun a b => decide (b < 0) && z3D d m n S a b)) S.length (fun j => ((j : Int), zeT S.length fun a b => decide (b < j) && z3D d m n S a b)) rfl (by simp only [LFm]; omega) (fun j hj => ?_) ?_
   ·simp only [z7Z]
    rw [if_pos (by rw [z0v]; omega), z2Q hj, Option.bind_some, zfJ hd (by omega) (hS.lt _ (z1x hj)), Option.bind_some]
    exact zw3 hd hn hS hj _
   ·have f3 : (zeT S.length fun a b => decide (b < S.length) && z3D d m n S a b) = zeT S.length (z3D d m n S) := z6E fun a b _ hb => by rw [decide_eq_true hb, Bool.true_and]
    simp only [z7Z]
    rw [if_neg (by rw [z0v]; omega), z0v, z0K _ (by unfold z2k; omega), Int.toNat_natCast, f3]
    congr 1
    have f4 : List.replicate S.length (0 : Int) = z1N S.length (fun i => ((z5F d m n S i : Nat) : Int)) 0 0 := (z7J _ _ _).symm
    rw [f4]
    refine z1I (s := ((0 : Int), z1N S.length (fun i => ((z5F d m n S i : Nat) : Int)) 0 0)) S.length (fun i => ((i : Int), z1N S.length (fun i => ((z5F d m n S i : Nat) : Int)) 0 i)) rfl (by simp only [LFm]; omega) (fun i hi => ?_) ?_
    ·simp only [z7Y]
     rw [if_pos (by rw [z0v]; omega), z5X hi, Option.bind_some]
     exact zvf hd hn hS hi _ rfl
    ·simp only [z7Y]
     rw [if_neg (by rw [z0v]; omega), z7I, znd hd hn hS, Option.bind_some, z0v, z0K _ (by unfold z2k; omega), z0K _ (by unfold z2k; omega), z0K _ (by unfold z2k; omega), Int.toNat_natCast, zv4 hd hn hS hpos _ hrest]
end
theorem zuO {d : DFA} {m n : Nat} (hd : DfaOk d m n) (hn : n <= 7) : zcT d = some (z5S d m n (z5t d m n), 0) := by
 have h128 : 2 ^ n <= 128 := Nat.pow_le_pow_right (n := 2) (by omega) hn
 have hS := zk5 hd
 have hSl := z1r hS.nd hS.lt
 unfold zcT
 rw [zxO (zvM hd (by omega)), zvF hd (by omega), Option.bind_some, if_pos rfl, zwG hd hn, Option.bind_some, if_neg (by rw [z0v]; omega)]
 exact zwC hd hn hS fun x hx => zuE hd hx
end Go.Proofs.Ytbnnipkanechoaa
end
section
namespace Go.Proofs.Ytbnnipkanechoaa
def Mo (C0 C1 : z0H) : Prop := ∀ f a o, C0 f a = some o -> C1 f a = some o
section
variable {P : Program} {C0 C1 : z0H}
theorem zfI (hMo : Mo C0 C1) {wio : FuncId -> Nat -> Bool} {fr fr' : Fr} {f : FuncId} {args : List E} {dst : Option Nat} (h : zdl C0 wio fr f args dst = some fr') : Ev fun m => zdl C1 wio fr f args dst = some fr' := by
 unfold zdl at h ⊢
 split at h
 ·cases h
 ·rename_i ts deps io ha
  split at h
  ·cases h
  ·rename_i r outs hc
   refine ⟨0, fun m _ => ?_⟩
   show (match C1 f ts with | none => none | some (r, outs) => _) = _
   rw [hMo _ _ _ hc]
   exact h
theorem zt5 (hMo : Mo C0 C1) {wio : FuncId -> Nat -> Bool} {fr fr' : Fr} {o : Oper} (h : opF P C0 wio fr o = some fr') : Ev fun m => opF P C1 wio fr o = some fr' := by
 unfold opF at h ⊢
 split at h
 ·exact .pure fun _ => h
 ·split at h
  ·exact zfI hMo h
  ·cases h
 ·exact .pure fun _ => h
 ·exact .pure fun _ => h
theorem zpF (hMo : Mo C0 C1) {wio : FuncId -> Nat -> Bool} {fr fr' : Fr} {o : Oper} (h : zaW P C0 wio fr o = some fr') : Ev fun m => zaW P C1 wio fr o = some fr' := by
 unfold zaW at h ⊢
 split at h
 ·split at h
  ·split at h
   ·exact zfI hMo h
   ·cases h
  ·cases h
 ·exact .pure fun _ => h
theorem zvs (hMo : Mo C0 C1) {wio : FuncId -> Nat -> Bool} {M : Nat -> Bool} {fr fr' : Fr} {o : Oper} (h : wrF P C0 wio M fr o = some fr') : Ev fun m => wrF P C1 wio M fr o = some fr' := by
 unfold wrF at h ⊢
 split at h
 ·split at h
  ·cases h
  ·split at h
   ·exact zfI hMo h
   ·split at h
    ·rename_i hM
     simp only [hM, if_true]
     exact zfI hMo h
    ·cases h
   ·cases h
 ·exact .pure fun _ => h
 ·exact .pure fun _ => h
 ·exact .pure fun _ => h
 ·cases h
theorem znR (hMo : Mo C0 C1) {wio : FuncId -> Nat -> Bool} {ops : Array Oper} : ∀ {l : List Oper} {fr fr' : Fr}, znf P C0 wio ops l fr = some fr' -> Ev fun m => znf P C1 wio ops l fr = some fr'
 | [], fr, fr', h => .pure fun _ => h
 | o :: rest, fr, fr', h => by
  simp only [znf] at h ⊢
  split at h
  ·cases h
  ·split at h
   ·rename_i fr1 h1
    exact (zt5 hMo h1).both (znR hMo h) fun m a1 a2 => by rw [a1]; exact a2
   ·cases h
  ·split at h
   ·rename_i fr1 h1
    exact (znR hMo h)
   ·cases h
theorem zfF (hMo : Mo C0 C1) {wio : FuncId -> Nat -> Bool} {same : Bool} {M : Nat -> Bool} {ops : Array Oper} : ∀ {l : List (Nat × Oper × Nat)} {fr fr' : Fr}, za5 P C0 wio same M ops l fr = some fr' -> Ev fun m => za5 P C1 wio same M ops l fr = some fr'
 | [], fr, fr', h => .pure fun _ => h
 | (k, o, mk) :: rest, fr, fr', h => by
  simp only [za5] at h ⊢
  split at h
  ·cases h
  ·split at h
   ·exact zfF hMo h
   ·cases h
  ·split at h
   ·rename_i hm
    simp only [if_pos hm]
    split at h
    ·split at h
     ·exact zfF hMo h
     ·cases h
    ·cases h
   ·rename_i hm
    simp only [if_neg hm]
    split at h
    ·rename_i fr1 h1
     have h2 : Ev fun m => (if mk = 2 then opF P C1 wio fr o else if same = true then zaW P C1 wio fr o else wrF P C1 wio M fr o) = some fr1 := by
      by_cases e : mk = 2
      ·simp only [if_pos e] at h1 ⊢; exact zt5 hMo h1
      ·simp only [if_neg e] at h1 ⊢
       by_cases e2 : same = true
       ·simp only [if_pos e2] at h1 ⊢; exact zpF hMo h1
       ·simp only [if_neg e2] at h1 ⊢; exact zvs hMo h1
     exact h2.both (zfF hMo h) fun m a1 a2 => by rw [a1]; exact a2
    ·cases h
theorem zaO (hMo : Mo C0 C1) {wio : FuncId -> Nat -> Bool} {same : Bool} {M : Nat -> Bool} {ops : Array Oper} : ∀ {l : SchT} {fr fr' : Fr}, z5Y P C0 wio same M ops l fr = some fr' -> Ev fun m => z5Y P C1 wio same M ops l fr = some fr'
 | .nil, fr, fr', h => .pure fun _ => h
 | .alt x y, fr, fr', h => by
  simp only [z5Y] at h ⊢
  split at h
  ·rename_i f1 f2 h1 h2
   obtain ⟨rfl, hs⟩ := zex h
   exact (zaO hMo h1).both (zaO hMo h2) fun m a1 a2 => by rw [a1, a2]; exact zfB hs
  ·cases h
 | .op k mk rest, fr, fr', h => by
  simp only [z5Y] at h ⊢
  split at h
  ·cases h
  rename_i o ho
  try simp only [ho]
  split at h
  ·cases h
  ·split at h
   ·exact zaO hMo h
   ·cases h
  ·split at h
   ·rename_i hm
    simp only [if_pos hm]
    split at h
    ·split at h
     ·exact zaO hMo h
     ·cases h
    ·cases h
   ·rename_i hm
    simp only [if_neg hm]
    split at h
    ·rename_i fr1 h1
     have h2 : Ev fun m => (if mk = 2 then opF P C1 wio fr o else if same = true then zaW P C1 wio fr o else wrF P C1 wio M fr o) = some fr1 := by
      by_cases e : mk = 2
      ·simp only [if_pos e] at h1 ⊢; exact zt5 hMo h1
      ·simp only [if_neg e] at h1 ⊢
       by_cases e2 : same = true
       ·simp only [if_pos e2] at h1 ⊢; exact zpF hMo h1
       ·simp only [if_neg e2] at h1 ⊢; exact zvs hMo h1
     exact h2.both (zaO hMo h) fun m a1 a2 => by rw [a1]; exact a2
    ·cases h
theorem zrs (hMo : Mo C0 C1) {c : Cfg} {id : Nat} {ops : Array Oper} {fr fr' : Fr} (h : z8n P C0 c id ops fr = some fr') : Ev fun m => z8n P C1 c id ops fr = some fr' := by
 unfold z8n at h ⊢
 split at h
 ·exact zaO hMo h
 ·split at h
  ·exact zfF hMo h
  ·cases h
theorem zp9 (hMo : Mo C0 C1) {B : z0H -> Fr -> Option (X × Fr)} {cn : Fr -> Fr} (hB : ∀ fr o, B C0 fr = some o -> Ev fun m => B C1 fr = some o) : ∀ {n : Nat} {fr : Fr} {o : X × Fr}, zdb (B C0) cn n fr = some o -> Ev fun m => zdb (B C1) cn n fr = some o
 | 0, fr, o, h => by cases h
 | n + 1, fr, o, h => by
  simp only [zdb] at h ⊢
  split at h
  ·rename_i fr1 h1
   exact (hB _ _ h1).both (zp9 hMo hB h) fun m a1 a2 => by rw [a1]; exact a2
  ·rename_i x fr1 hne h1
   refine (hB _ _ h1).imp fun m a1 => ?_
   rw [a1]
   cases x with
   | n => exact absurd rfl hne
   | x i => exact h
   | r => exact h
  ·cases h
theorem zpC (hMo : Mo C0 C1) {c : Cfg} {LF : Nat} : ∀ (b : Code) {fr : Fr} {o : X × Fr}, z3h P C0 c LF b fr = some o -> Ev fun m => z3h P C1 c LF b fr = some o := by
 intro b
 induction b with
 | skip => intro fr o h; exact .pure fun _ => h
 | label l => intro fr o h; exact .pure fun _ => h
 | exit id => intro fr o h; exact .pure fun _ => h
 | ret => intro fr o h; exact .pure fun _ => h
 | goto l => intro fr o h; cases h
 | scope c ih => intro fr o h; simp only [z3h] at h ⊢; exact ih h
 | refuse s => intro fr o h; cases h
 | rangeFunc => intro fr o h; cases h
 | region id ops draw =>
  intro fr o h
  simp only [z3h] at h ⊢
  split at h
  ·rename_i hd
   simp only [hd, if_true]
   split at h
   ·rename_i fr1 h1
    exact (zrs hMo h1).imp fun m a1 => by rw [a1]; exact h
   ·cases h
  ·rename_i hd
   simp only [hd, Bool.false_eq_true, if_false]
   split at h
   ·rename_i fr1 h1
    exact (znR hMo h1).imp fun m a1 => by rw [a1]; exact h
   ·cases h
 | seq a b ih1 ih2 =>
  intro fr o h
  simp only [z3h] at h ⊢
  split at h
  ·rename_i fr1 h1
   exact (ih1 h1).both (ih2 h) fun m a1 a2 => by rw [a1]; exact a2
  ·rename_i hne
   refine (ih1 h).imp fun m a1 => ?_
   rw [a1]
   obtain ⟨x, fr1⟩ := o
   cases x with
   | n => exact absurd h (hne _)
   | x i => rfl
   | r => rfl
 | cond c x y ih1 ih2 =>
  intro fr o h
  simp only [z3h] at h ⊢
  split at h
  ·exact ih1 h
  ·exact ih2 h
  ·cases h
 | block id c ih =>
  intro fr o h
  simp only [z3h] at h ⊢
  split at h
  ·rename_i i fr1 h1
   exact (ih h1).imp fun m a1 => by rw [a1]; exact h
  ·rename_i hne
   refine (ih h).imp fun m a1 => ?_
   rw [a1]
   obtain ⟨x, fr1⟩ := o
   cases x with
   | n => rfl
   | x i => exact absurd h (hne _ _)
   | r => rfl
 | loop b ih =>
  intro fr o h
  simp only [z3h] at h ⊢
  exact zp9 hMo (B := fun C fr => z3h P C c LF b fr) (fun fr o h => ih h) h
theorem zsO (hMo : Mo C0 C1) {c : Cfg} {LF : Nat} {fn : Func} {args : List T} {o : T × List T} (h : zkK P C0 c LF fn args = some o) : Ev fun m => zkK P C1 c LF fn args = some o := by
 unfold zkK at h ⊢
 split at h
 ·rename_i hc
  simp only [if_pos hc]
  split at h
  ·cases h
  ·rename_i b hb
   split at h
   ·rename_i fr h1
    exact (zpC hMo _ h1).imp fun m a1 => by rw [a1]; exact h
   ·rename_i fr h1
    exact (zpC hMo _ h1).imp fun m a1 => by rw [a1]; exact h
   ·cases h
 ·cases h
end
theorem zp4 {P : Program} {X : z0H} {cf : FuncId -> Option Cfg} : ∀ n, Mo (z3C P X cf n) (z3C P X cf (n + 1))
 | 0 => fun f a o h => by
  simp only [z3C] at h ⊢
  split at h
  ·cases h
  ·rename_i hc
   first
    | exact h
    | (rw [hc]; exact h)
 | n + 1 => fun f a o h => by
  simp only [z3C] at h
  split at h
  ·rename_i c hc
   split at h
   ·rename_i fn hfn
    obtain ⟨k, hk⟩ := zsO (zp4 n) h
    exact zmK hc hfn (hk k (Nat.le_refl _))
   ·cases h
  ·rename_i hc
   simp only [z3C, hc]
   exact h
theorem zd6 {P : Program} {X : z0H} {cf : FuncId -> Option Cfg} (n : Nat) {f : FuncId} {a : List T} {o : T × List T} (h : z3C P X cf n f a = some o) : Lim P X cf f a = some o := by
 refine ztj (d := n) fun m hm => ?_
 obtain ⟨k, rfl⟩ := Nat.exists_eq_add_of_le hm
 clear hm
 induction k with
 | zero => exact h
 | succ k ih => exact zp4 (n + k) f a o ih
def tab : List (FuncId × List T × T × List T) -> z0H
 | [] => fun _ _ => none
 | (g, b, r, os) :: l => fun f a => if (Nat.beq g f && zpz b a) = true then some (r, os) else tab l f a
theorem zvw {C : z0H} : ∀ {l : List (FuncId × List T × T × List T)}, (∀ x ∈ l, C x.1 x.2.1 = some x.2.2) -> Mo (tab l) C
 | [], _ => fun f a o h => by cases h
 | (g, b, r, os) :: l, hl => fun f a o h => by
  simp only [tab] at h
  split at h
  ·rename_i hc
   simp only [Bool.and_eq_true] at hc
   cases h
   have := hl _ (List.mem_cons_self ..)
   rw [← Nat.eq_of_beq_eq_true hc.1, ← z8m hc.2]
   exact this
  ·exact zvw (fun x hx => hl x (List.mem_cons_of_mem _ hx)) f a o h
noncomputable def zmM (P : Program) (X : z0H) (cf : FuncId -> Option Cfg) (S : z0H) : Nat -> z0H
 | 0 => S
 | n + 1 => fun f a => match S f a with
  | some o => some o
  | none => match cf f with
   | some c => (match P.funcs[f]? with | some fn => zkK P (zmM P X cf S n) c LFm fn a | none => none)
   | none => X f a
theorem zmL {P : Program} {X : z0H} {cf : FuncId -> Option Cfg} {S : z0H} (hS : Mo S (Lim P X cf)) : ∀ n, Mo (zmM P X cf S n) (Lim P X cf)
 | 0 => hS
 | n + 1 => fun f a o h => by
  simp only [zmM] at h
  split at h
  ·rename_i o' ho
   cases h
   exact hS f a o ho
  ·split at h
   ·rename_i c hc
    split at h
    ·rename_i fn hfn
     obtain ⟨k, hk⟩ := zsO (zmL hS n) h
     exact zti hc hfn (hk k (Nat.le_refl _))
    ·cases h
   ·rename_i hc
    exact ztk hc h
theorem zwj {P : Program} {X : z0H} {cf : FuncId -> Option Cfg} (l : List (FuncId × List T × T × List T)) (n : Nat) {f : FuncId} {a : List T} {o : T × List T} (h : zmM P X cf (tab l) n f a = some o) (hl : ∀ x ∈ l, Lim P X cf x.1 x.2.1 = some x.2.2) : Lim P X cf f a = some o :=
 zmL (zvw hl) n f a o h
end Go.Proofs.Ytbnnipkanechoaa
end
section
namespace Go.Proofs.Ytbnnipkanechoaa
open Go
set_option maxRecDepth 100000
def exT : T := .agg [.sc (.int .i64 2), .sc (.int .i64 0), .sl 3 [.sc (.bool true), .sc (.bool false), .sc (.bool false)], .sl 3 [.sl 2 [.sc (.int .i64 1), .sc (.int .i64 0)], .sl 2 [.sc (.int .i64 2), .sc (.int .i64 0)], .sl 2 [.sc (.int .i64 0), .sc (.int .i64 2)]]]
def zpx : List T := [.sc (.int .i64 7), .sc (.int .i64 3), .sc (.int .i64 5), .sc (.int .i64 6), .sc (.int .i64 1), .sc (.int .i64 2), .sc (.int .i64 4)]
def dgT : T := .agg [.sl 7 [.sc (.int .i64 7), .sc (.int .i64 3), .sc (.int .i64 5), .sc (.int .i64 6), .sc (.int .i64 1), .sc (.int .i64 2), .sc (.int .i64 4)], .sl 7 [.sl 2 [.sc (.int .i64 0), .sc (.int .i64 2)], .sl 2 [.sc (.int .i64 3), .sc (.int .i64 4)], .sl 2 [.sc (.int .i64 1), .sc (.int .i64 2)], .sl 2 [.sc (.int .i64 2), .sc (.int .i64 2)], .sl 2 [.sc (.int .i64 5), .sc (.int .i64 4)], .sl 2 [.sc (.int .i64 6), .sc (.int .i64 4)], .sl 2 [.sc (.int .i64 4), .sc (.int .i64 6)]], .sl 7 [.sl 7 [.sc (.bool true), .sc (.bool false), .sc (.bool false), .sc (.bool false), .sc (.bool false), .sc (.bool false), .sc (.bool false)], .sl 7 [.sc (.bool true), .sc (.bool true), .sc (.bool true), .sc (.bool true), .sc (.bool false), .sc (.bool false), .sc (.bool false)], .sl 7 [.sc (.bool true), .sc (.bool true), .sc (.bool true), .sc (.bool true), .sc (.bool false), .sc (.bool false), .sc (.bool false)], .sl 7 [.sc (.bool true), .sc (.bool true), .sc (.bool true), .sc (.bool true), .sc (.bool false), .sc (.bool false), .sc (.bool false)], .sl 7 [.sc (.bool true), .sc (.bool true), .sc (.bool true), .sc (.bool true), .sc (.bool true), .sc (.bool true), .sc (.bool true)], .sl 7 [.sc (.bool true), .sc (.bool true), .sc (.bool true), .sc (.bool true), .sc (.bool true), .sc (.bool true), .sc (.bool true)], .sl 7 [.sc (.bool true), .sc (.bool true), .sc (.bool true), .sc (.bool true), .sc (.bool true), .sc (.bool true), .sc (.bool true)]]]
theorem e36 : z3C Try.prog xt z2c 10 36 [exT] = some (.os 1 7 zpx, [.dead]) := by kernel_rfl
theorem e37 : z3C Try.prog xt z2c 10 37 [exT, .sl 7 zpx] = some (.agg [.sl 7 [.sc (.int .i64 7), .sc (.int .i64 3), .sc (.int .i64 5), .sc (.int .i64 6), .sc (.int .i64 1), .sc (.int .i64 2), .sc (.int .i64 4)], .os 1 7 [.os 1 2 [.sc (.int .i64 0), .sc (.int .i64 2)], .os 1 2 [.sc (.int .i64 3), .sc (.int .i64 4)], .os 1 2 [.sc (.int .i64 1), .sc (.int .i64 2)], .os 1 2 [.sc (.int .i64 2), .sc (.int .i64 2)], .os 1 2 [.sc (.int .i64 5), .sc (.int .i64 4)], .os 1 2 [.sc (.int .i64 6), .sc (.int .i64 4)], .os 1 2 [.sc (.int .i64 4), .sc (.int .i64 6)]], .os 1 7 [.os 1 7 [.sc (.bool true), .sc (.bool false), .sc (.bool false), .sc (.bool false), .sc (.bool false), .sc (.bool false), .sc (.bool false)], .os 1 7 [.sc (.bool true), .sc (.bool true), .sc (.bool true), .sc (.bool true), .sc (.bool false), .sc (.bool false), .sc (.bool false)], .os 1 7 [.sc (.bool true), .sc (.bool true), .sc (.bool true), .sc (.bool true), .sc (.bool false), .sc (.bool false), .sc (.bool false)], .os 1 7 [.sc (.bool true), .sc (.bool true), .sc (.bool true), .sc (.bool true), .sc (.bool false), .sc (.bool false), .sc (.bool false)], .os 1 7 [.sc (.bool true), .sc (.bool true), .sc (.bool true), .sc (.bool true), .sc (.bool true), .sc (.bool true), .sc (.bool true)], .os 1 7 [.sc (.bool true), .sc (.bool true), .sc (.bool true), .sc (.bool true), .sc (.bool true), .sc (.bool true), .sc (.bool true)], .os 1 7 [.sc (.bool true), .sc (.bool true), .sc (.bool true), .sc (.bool true), .sc (.bool true), .sc (.bool true), .sc (.bool true)]]], [.dead, .dead]) := by kernel_rfl
def sr0 : T := .tup [.os 1 7 [.sc (.int .i64 0), .sc (.int .i64 2), .sc (.int .i64 1), .sc (.int .i64 3), .sc (.int .i64 4), .sc (.int .i64 5), .sc (.int .i64 6)], .os 1 7 [.sc (.string ByteArray.empty), .sc (.string ⟨#[98, 97]⟩), .sc (.string ⟨#[98]⟩), .sc (.string ⟨#[98, 97, 97]⟩), .sc (.string ⟨#[98, 97, 98]⟩), .sc (.string ⟨#[98, 97, 98, 97]⟩), .sc (.string ⟨#[98, 97, 98, 97, 97]⟩)]]
theorem zyA : z3C Try.prog xt z2c 6 41 [dgT, .sc (.int .i64 0)] = some (sr0, [.dead, .dead]) := by kernel_rfl
def sr1 : T := .tup [.os 1 6 [.sc (.int .i64 1), .sc (.int .i64 3), .sc (.int .i64 4), .sc (.int .i64 2), .sc (.int .i64 5), .sc (.int .i64 6)], .os 1 7 [.sc (.string ByteArray.empty), .sc (.string ByteArray.empty), .sc (.string ⟨#[97, 97]⟩), .sc (.string ⟨#[97]⟩), .sc (.string ⟨#[98]⟩), .sc (.string ⟨#[98, 97]⟩), .sc (.string ⟨#[98, 97, 97]⟩)]]
theorem zyz : z3C Try.prog xt z2c 6 41 [dgT, .sc (.int .i64 1)] = some (sr1, [.dead, .dead]) := by kernel_rfl
def sr2 : T := .tup [.os 1 6 [.sc (.int .i64 2), .sc (.int .i64 1), .sc (.int .i64 3), .sc (.int .i64 4), .sc (.int .i64 5), .sc (.int .i64 6)], .os 1 7 [.sc (.string ByteArray.empty), .sc (.string ⟨#[97]⟩), .sc (.string ByteArray.empty), .sc (.string ⟨#[97, 97]⟩), .sc (.string ⟨#[97, 98]⟩), .sc (.string ⟨#[97, 98, 97]⟩), .sc (.string ⟨#[97, 98, 97, 97]⟩)]]
theorem zyy : z3C Try.prog xt z2c 6 41 [dgT, .sc (.int .i64 2)] = some (sr2, [.dead, .dead]) := by kernel_rfl
def sr3 : T := .tup [.os 1 6 [.sc (.int .i64 3), .sc (.int .i64 2), .sc (.int .i64 1), .sc (.int .i64 4), .sc (.int .i64 5), .sc (.int .i64 6)], .os 1 7 [.sc (.string ByteArray.empty), .sc (.string ⟨#[97, 97]⟩), .sc (.string ⟨#[97]⟩), .sc (.string ByteArray.empty), .sc (.string ⟨#[97, 97, 98]⟩), .sc (.string ⟨#[97, 97, 98, 97]⟩), .sc (.string ⟨#[97, 97, 98, 97, 97]⟩)]]
theorem zyx : z3C Try.prog xt z2c 6 41 [dgT, .sc (.int .i64 3)] = some (sr3, [.dead, .dead]) := by kernel_rfl
def sr4 : T := .tup [.os 1 3 [.sc (.int .i64 4), .sc (.int .i64 5), .sc (.int .i64 6)], .os 1 7 [.sc (.string ByteArray.empty), .sc (.string ByteArray.empty), .sc (.string ByteArray.empty), .sc (.string ByteArray.empty), .sc (.string ByteArray.empty), .sc (.string ⟨#[97]⟩), .sc (.string ⟨#[97, 97]⟩)]]
theorem zyw : z3C Try.prog xt z2c 6 41 [dgT, .sc (.int .i64 4)] = some (sr4, [.dead, .dead]) := by kernel_rfl
def sr5 : T := .tup [.os 1 3 [.sc (.int .i64 5), .sc (.int .i64 6), .sc (.int .i64 4)], .os 1 7 [.sc (.string ByteArray.empty), .sc (.string ByteArray.empty), .sc (.string ByteArray.empty), .sc (.string ByteArray.empty), .sc (.string ⟨#[98]⟩), .sc (.string ByteArray.empty), .sc (.string ⟨#[97]⟩)]]
theorem zyv : z3C Try.prog xt z2c 6 41 [dgT, .sc (.int .i64 5)] = some (sr5, [.dead, .dead]) := by kernel_rfl
def sr6 : T := .tup [.os 1 3 [.sc (.int .i64 6), .sc (.int .i64 4), .sc (.int .i64 5)], .os 1 7 [.sc (.string ByteArray.empty), .sc (.string ByteArray.empty), .sc (.string ByteArray.empty), .sc (.string ByteArray.empty), .sc (.string ⟨#[97]⟩), .sc (.string ⟨#[97, 97]⟩), .sc (.string ByteArray.empty)]]
theorem zyu : z3C Try.prog xt z2c 6 41 [dgT, .sc (.int .i64 6)] = some (sr6, [.dead, .dead]) := by kernel_rfl
def zv8 : List (FuncId × List T × T × List T) := [(36, [exT], .os 1 7 zpx, [.dead]), (37, [exT, .sl 7 zpx], .agg [.sl 7 [.sc (.int .i64 7), .sc (.int .i64 3), .sc (.int .i64 5), .sc (.int .i64 6), .sc (.int .i64 1), .sc (.int .i64 2), .sc (.int .i64 4)], .os 1 7 [.os 1 2 [.sc (.int .i64 0), .sc (.int .i64 2)], .os 1 2 [.sc (.int .i64 3), .sc (.int .i64 4)], .os 1 2 [.sc (.int .i64 1), .sc (.int .i64 2)], .os 1 2 [.sc (.int .i64 2), .sc (.int .i64 2)], .os 1 2 [.sc (.int .i64 5), .sc (.int .i64 4)], .os 1 2 [.sc (.int .i64 6), .sc (.int .i64 4)], .os 1 2 [.sc (.int .i64 4), .sc (.int .i64 6)]], .os 1 7 [.os 1 7 [.sc (.bool true), .sc (.bool false), .sc (.bool false), .sc (.bool false), .sc (.bool false), .sc (.bool false), .sc (.bool false)], .os 1 7 [.sc (.bool true), .sc (.bool true), .sc (.bool true), .sc (.bool true), .sc (.bool false), .sc (.bool false), .sc (.bool false)], .os 1 7 [.sc (.bool true), .sc (.bool true), .sc (.bool true), .sc (.bool true), .sc (.bool false), .sc (.bool false), .sc (.bool false)], .os 1 7 [.sc (.bool true), .sc (.bool true), .sc (.bool true), .sc (.bool true), .sc (.bool false), .sc (.bool false), .sc (.bool false)], .os 1 7 [.sc (.bool true), .sc (.bool true), .sc (.bool true), .sc (.bool true), .sc (.bool true), .sc (.bool true), .sc (.bool true)], .os 1 7 [.sc (.bool true), .sc (.bool true), .sc (.bool true), .sc (.bool true), .sc (.bool true), .sc (.bool true), .sc (.bool true)], .os 1 7 [.sc (.bool true), .sc (.bool true), .sc (.bool true), .sc (.bool true), .sc (.bool true), .sc (.bool true), .sc (.bool true)]]], [.dead, .dead]), (41, [dgT, .sc (.int .i64 0)], sr0, [.dead, .dead]), (41, [dgT, .sc (.int .i64 1)], sr1, [.dead, .dead]), (41, [dgT, .sc (.int .i64 2)], sr2, [.dead, .dead]), (41, [dgT, .sc (.int .i64 3)], sr3, [.dead, .dead]), (41, [dgT, .sc (.int .i64 4)], sr4, [.dead, .dead]), (41, [dgT, .sc (.int .i64 5)], sr5, [.dead, .dead]), (41, [dgT, .sc (.int .i64 6)], sr6, [.dead, .dead])]
theorem zv7 : ∀ x ∈ zv8, L x.1 x.2.1 = some x.2.2 := by
 simp only [zv8, List.forall_mem_cons]
 exact ⟨zd6 10 e36, zd6 10 e37, zd6 6 zyA, zd6 6 zyz, zd6 6 zyy, zd6 6 zyx, zd6 6 zyw, zd6 6 zyv, zd6 6 zyu, fun x h => by cases h⟩
theorem zD2 : zmM Try.prog xt z2c (tab zv8) 14 17 [] = some (.sc (.bool true), []) := by kernel_rfl
theorem c17 : L 17 [] = some (.sc (.bool true), []) := zwj zv8 14 zD2 zv7
def zbx : Option Bool := some true
theorem z7v {r : Bool} (h : zbx = some r) : L 17 [] = some (.sc (.bool r), []) := by cases h; exact c17
end Go.Proofs.Ytbnnipkanechoaa
end
section
namespace Go.Proofs.Ytbnnipkanechoaa
open Go Go.IntKind
noncomputable section
set_option maxRecDepth 100000
set_option maxHeartbeats 40000000
def z5p (a0 : List Int) (a1 : List Int) : Int -> Option (Int ⊕ Bool)
 | w10 =>
 if w10 < (a0.length : Int) then
 (atI a0 w10).bind fun v13 =>
 (atI a1 w10).bind fun v14 =>
 if v13 = v14 then
 z0B (i64.wrap (w10 + 1))
 else
 z1m <|
 some false
 else
 z1m <|
 some true
def z3l (a0 : List Int) (a1 : List Int) : Int -> Fr
 | w10 => ⟨26, [(0, .one (.t none (.sl a0.length (a0.map fun x0 => .sc (.int .i64 x0))))), (1, .one (.t none (.sl a1.length (a1.map fun x0 => .sc (.int .i64 x0))))), (12, .one (.t none (.sc (.int .i64 (a0.length : Int))))), (13, .one (.t none (.sc (.int .i64 w10))))], []⟩
def z2s (a0 : List Int) (a1 : List Int) : Option (Bool) :=
 if (a0.length : Int) = (a1.length : Int) then
 z1b (z5p a0 a1) LFm 0
 else
 some false
theorem z3k {a0 : List Int} {a1 : List Int} {r : Bool} (h0 : z2s a0 a1 = some r) : L 52 [.sl a0.length (a0.map fun x0 => .sc (.int .i64 x0)), .sl a1.length (a1.map fun x0 => .sc (.int .i64 x0))] = some (.sc (.bool r), [.dead, .dead]) := by
  simp only [z2s] at h0
  refine z2F zAe zBH (z1w zDt ⟨of_decide_eq_true rfl, of_decide_eq_true rfl⟩ ?_)
  simp only [z1E, z1C, z1B, z1F, z3u]
  refine zp (zs ?_)
  refine z0a (zp (zp (zs ?_)))
  refine z0a ?_
  by_cases c14 : (a0.length : Int) = (a1.length : Int)
  ·rw [if_pos c14] at h0
   have c14e := eq_true c14
   refine z0r rfl (by simp [c14e]) (z0j rfl (z0a (zp (zp (zs ?_)))))
   refine z0a (zb rfl (z0C h0 (z3l a0 a1) rfl rfl (by simp [z3l]) fun s o1 h1 hr1 => ?_))
   obtain ⟨w10, hs1⟩ : ∃ y, y = s := ⟨_, rfl⟩
   subst hs1
   simp only [z5p] at h1
   simp only [z3l]
   refine zp (zs ?_)
   refine z0a (zp ?_)
   by_cases c23 : w10 < (a0.length : Int)
   ·rw [if_pos c23] at h1
    refine z0t rfl (by simp [c23]) (z0j rfl (z0a (zp (zb rfl (zp (zs ?_))))))
    refine z0a (zp ?_)
    obtain ⟨v13, f24, h2⟩ := z0I h1
    obtain ⟨v14, f25, h3⟩ := z0I h2
    refine z1c rfl rfl rfl rfl ?_; repeat' ((first | refine z0q rfl rfl fun Q' hQ => ?_ | refine z0m rfl fun Q' hQ => ?_); simp [f24, f25]; refine hQ.out _ ?_; clear hQ; clear Q')
    refine z0a ?_
    by_cases c26 : v13 = v14
    ·rw [if_pos c26] at h3
     have c26e := eq_true c26
     refine z0r rfl (by simp [c26e]) (z0j rfl (z0h (z0a (zs ?_))))
     have ho := z0c h3
     refine z0i ho ?_
     simp [z3l]
    ·rw [if_neg c26] at h3
     have c26e := eq_false c26
     refine z0t rfl (by simp [c26e]) (zp (zs ?_))
     refine z0a (z1f rfl (z1H (z0Q ?_)))
     obtain ⟨rr1, h4, ho1⟩ := z0k h3
     have hs1 := hr1 _ ho1
     subst hs1
     refine z3F ho1 (z1H (z0Q ?_))
     cases h4
     simp
   ·rw [if_neg c23] at h1
    refine z0r rfl (by simp [c23]) (z0X rfl (z0w ?_))
    obtain ⟨rr1, h2, ho1⟩ := z0k h1
    have hs1 := hr1 _ ho1
    subst hs1
    refine z0s ho1 (z0g rfl (z0a (zp (zs ?_))))
    refine z0a (z1f rfl ?_)
    cases h2
    simp
  ·rw [if_neg c14] at h0
   have c14e := eq_false c14
   refine z0t rfl (by simp [c14e]) (zp (zs ?_))
   refine z0a (z1f rfl (z0Q ?_))
   cases h0
   simp
def z4k (a0 : List ByteArray) (a1 : List ByteArray) : Int -> Option (Int ⊕ Bool)
 | w10 =>
 if w10 < (a0.length : Int) then
 (atI a0 w10).bind fun v13 =>
 (atI a1 w10).bind fun v14 =>
 if v13 = v14 then
 z0B (i64.wrap (w10 + 1))
 else
 z1m <|
 some false
 else
 z1m <|
 some true
def z2j (a0 : List ByteArray) (a1 : List ByteArray) : Int -> Fr
 | w10 => ⟨26, [(0, .one (.t none (.sl a0.length (a0.map fun x0 => .sc (.string x0))))), (1, .one (.t none (.sl a1.length (a1.map fun x0 => .sc (.string x0))))), (12, .one (.t none (.sc (.int .i64 (a0.length : Int))))), (13, .one (.t none (.sc (.int .i64 w10))))], []⟩
def z2C (a0 : List ByteArray) (a1 : List ByteArray) : Option (Bool) :=
 if (a0.length : Int) = (a1.length : Int) then
 z1b (z4k a0 a1) LFm 0
 else
 some false
theorem z4j {a0 : List ByteArray} {a1 : List ByteArray} {r : Bool} (h0 : z2C a0 a1 = some r) : L 54 [.sl a0.length (a0.map fun x0 => .sc (.string x0)), .sl a1.length (a1.map fun x0 => .sc (.string x0))] = some (.sc (.bool r), [.dead, .dead]) := by
  simp only [z2C] at h0
  refine z2F zAc zBF (z1w zDr ⟨of_decide_eq_true rfl, of_decide_eq_true rfl⟩ ?_)
  simp only [z1E, z1C, z1B, z1F, z3u]
  refine zp (zs ?_)
  refine z0a (zp (zp (zs ?_)))
  refine z0a ?_
  by_cases c14 : (a0.length : Int) = (a1.length : Int)
  ·rw [if_pos c14] at h0
   have c14e := eq_true c14
   refine z0r rfl (by simp [c14e]) (z0j rfl (z0a (zp (zp (zs ?_)))))
   refine z0a (zb rfl (z0C h0 (z2j a0 a1) rfl rfl (by simp [z2j]) fun s o1 h1 hr1 => ?_))
   obtain ⟨w10, hs1⟩ : ∃ y, y = s := ⟨_, rfl⟩
   subst hs1
   simp only [z4k] at h1
   simp only [z2j]
   refine zp (zs ?_)
   refine z0a (zp ?_)
   by_cases c23 : w10 < (a0.length : Int)
   ·rw [if_pos c23] at h1
    refine z0t rfl (by simp [c23]) (z0j rfl (z0a (zp (zb rfl (zp (zs ?_))))))
    refine z0a (zp ?_)
    obtain ⟨v13, f24, h2⟩ := z0I h1
    obtain ⟨v14, f25, h3⟩ := z0I h2
    refine z1c rfl rfl rfl rfl ?_; repeat' ((first | refine z0q rfl rfl fun Q' hQ => ?_ | refine z0m rfl fun Q' hQ => ?_); simp [f24, f25]; refine hQ.out _ ?_; clear hQ; clear Q')
    refine z0a ?_
    by_cases c26 : v13 = v14
    ·rw [if_pos c26] at h3
     have c26e := eq_true c26
     refine z0r rfl (by simp [c26e]) (z0j rfl (z0h (z0a (zs ?_))))
     have ho := z0c h3
     refine z0i ho ?_
     simp [z2j]
    ·rw [if_neg c26] at h3
     have c26e := eq_false c26
     refine z0t rfl (by simp [c26e]) (zp (zs ?_))
     refine z0a (z1f rfl (z1H (z0Q ?_)))
     obtain ⟨rr1, h4, ho1⟩ := z0k h3
     have hs1 := hr1 _ ho1
     subst hs1
     refine z3F ho1 (z1H (z0Q ?_))
     cases h4
     simp
   ·rw [if_neg c23] at h1
    refine z0r rfl (by simp [c23]) (z0X rfl (z0w ?_))
    obtain ⟨rr1, h2, ho1⟩ := z0k h1
    have hs1 := hr1 _ ho1
    subst hs1
    refine z0s ho1 (z0g rfl (z0a (zp (zs ?_))))
    refine z0a (z1f rfl ?_)
    cases h2
    simp
  ·rw [if_neg c14] at h0
   have c14e := eq_false c14
   refine z0t rfl (by simp [c14e]) (zp (zs ?_))
   refine z0a (z1f rfl (z0Q ?_))
   cases h0
   simp
def z1L (a0 : List (List Int)) (a1 : List (List Int)) : Int -> Option (Int ⊕ Bool)
 | w14 =>
 if w14 < (a0.length : Int) then
 (atI a0 w14).bind fun v18 =>
 (atI a1 w14).bind fun v19 =>
 (z2s v18 v19).bind fun v20 =>
 if v20 = true then
 z0B (i64.wrap (w14 + 1))
 else
 z1m <|
 some false
 else
 z1m <|
 some true
def z0W (a0 : List (List Int)) (a1 : List (List Int)) : Int -> Fr
 | w14 => ⟨32, [(1, .one (.t none (.sl a1.length (a1.map fun x0 => .sl x0.length (x0.map fun x1 => .sc (.int .i64 x1)))))), (2, .one (.t none (.sc (.func (.func 52) #[] #[])))), (15, .one (.t none (.sl a0.length (a0.map fun x0 => .sl x0.length (x0.map fun x1 => .sc (.int .i64 x1)))))), (16, .one (.t none (.sc (.int .i64 (a0.length : Int))))), (17, .one (.t none (.sc (.int .i64 w14))))], []⟩
def z1v (a0 : List (List Int)) (a1 : List (List Int)) : Option (Bool) :=
 if (a0.length : Int) = (a1.length : Int) then
 z1b (z1L a0 a1) LFm 0
 else
 some false
theorem z2D {a0 : List (List Int)} {a1 : List (List Int)} {r : Bool} (h0 : z1v a0 a1 = some r) : L 53 [.sl a0.length (a0.map fun x0 => .sl x0.length (x0.map fun x1 => .sc (.int .i64 x1))), .sl a1.length (a1.map fun x0 => .sl x0.length (x0.map fun x1 => .sc (.int .i64 x1))), .sc (.func (.func 52) #[] #[])] = some (.sc (.bool r), [.dead, .dead, .dead]) := by
  simp only [z1v] at h0
  refine z2F zAd zBG (z1w zDs ⟨of_decide_eq_true rfl, of_decide_eq_true rfl⟩ ?_)
  simp only [z1E, z1C, z1B, z1F, z3u]
  refine zp (zs ?_)
  refine z0a (zp (zp (zs ?_)))
  refine z0a ?_
  by_cases c17 : (a0.length : Int) = (a1.length : Int)
  ·rw [if_pos c17] at h0
   have c17e := eq_true c17
   refine z0r rfl (by simp [c17e]) (z0j rfl (z0a (zp (zp (zs ?_)))))
   refine z0a (zb rfl (z0C h0 (z0W a0 a1) rfl rfl (by simp [z0W]) fun s o1 h1 hr1 => ?_))
   obtain ⟨w14, hs1⟩ : ∃ y, y = s := ⟨_, rfl⟩
   subst hs1
   simp only [z1L] at h1
   simp only [z0W]
   refine zp (zs ?_)
   refine z0a (zp ?_)
   by_cases c28 : w14 < (a0.length : Int)
   ·rw [if_pos c28] at h1
    refine z0t rfl (by simp [c28]) (z0j rfl (z0a (zp (zb rfl (zp ?_)))))
    obtain ⟨v18, f29, h2⟩ := z0I h1
    refine zr rfl rfl rfl (by simp [f29]; rfl) ?_
    refine z0a (zp ?_)
    obtain ⟨v19, f30, h3⟩ := z0I h2
    refine zr rfl rfl rfl (by simp [f30]; rfl) ?_
    refine z0a (zp ?_)
    obtain ⟨v20, f31, h4⟩ := z0d h3
    have f31k := z3k f31
    try simp at f31k
    refine zr rfl rfl rfl (by simp [f31k]; rfl) ?_
    refine z0a ?_
    by_cases c32 : v20 = true
    ·rw [if_pos c32] at h4
     refine z0r rfl (by simp [c32]) (z0j rfl (z0h (z0a (zs ?_))))
     have ho := z0c h4
     refine z0i ho ?_
     simp [z0W, c32]
    ·rw [if_neg c32] at h4
     refine z0t rfl (by simp [c32]) (zp (zs ?_))
     refine z0a (z1f rfl (z1H (z0Q ?_)))
     obtain ⟨rr1, h5, ho1⟩ := z0k h4
     have hs1 := hr1 _ ho1
     subst hs1
     refine z3F ho1 (z1H (z0Q ?_))
     cases h5
     simp [c32]
   ·rw [if_neg c28] at h1
    refine z0r rfl (by simp [c28]) (z0X rfl (z0w ?_))
    obtain ⟨rr1, h2, ho1⟩ := z0k h1
    have hs1 := hr1 _ ho1
    subst hs1
    refine z0s ho1 (z0g rfl (z0a (zp (zs ?_))))
    refine z0a (z1f rfl ?_)
    cases h2
    simp
  ·rw [if_neg c17] at h0
   have c17e := eq_false c17
   refine z0t rfl (by simp [c17e]) (zp (zs ?_))
   refine z0a (z1f rfl (z0Q ?_))
   cases h0
   simp
def z2z (a0 : DFA) (a1 : Imgs) : Option (Bool) :=
 (z7G a0).bind fun v8 =>
 if v8.2 = 0 then
 (z2s a1.sets v8.1.sets).bind fun v9 =>
 if v9 = true then
 (z2s a1.class_ v8.1.class_).bind fun v10 =>
 if v10 = true then
 (z2s a1.height v8.1.height).bind fun v11 =>
 if v11 = true then
 (z1v a1.tiles v8.1.tiles).bind fun v12 =>
 if v12 = true then
 (z2C a1.words v8.1.words).bind fun v13 =>
 if v13 = true then
 (z2C a1.back v8.1.back).bind fun v14 =>
 some v14
 else
 some false
 else
 some false
 else
 some false
 else
 some false
 else
 some false
 else
 some false
theorem z3g {a0 : DFA} {a1 : Imgs} {r : Bool} (h0 : z2z a0 a1 = some r) : L 22 [.agg [.sc (.int .i64 a0.letters), .sc (.int .i64 a0.start), .sl a0.final.length (a0.final.map fun x0 => .sc (.bool x0)), .sl a0.next.length (a0.next.map fun x0 => .sl x0.length (x0.map fun x1 => .sc (.int .i64 x1)))], .agg [.sl a1.sets.length (a1.sets.map fun x0 => .sc (.int .i64 x0)), .sl a1.class_.length (a1.class_.map fun x0 => .sc (.int .i64 x0)), .sl a1.height.length (a1.height.map fun x0 => .sc (.int .i64 x0)), .sl a1.tiles.length (a1.tiles.map fun x0 => .sl x0.length (x0.map fun x1 => .sc (.int .i64 x1))), .sl a1.words.length (a1.words.map fun x0 => .sc (.string x0)), .sl a1.back.length (a1.back.map fun x0 => .sc (.string x0))]] = some (.sc (.bool r), [.dead, .dead]) := by
  simp only [z2z] at h0
  refine z2F zAA zC2 (z1w zDO ⟨of_decide_eq_true rfl, of_decide_eq_true rfl⟩ ?_)
  simp only [z1E, z1C, z1B, z1F, z3u]
  refine zp (zs ?_)
  refine z0a (zp ?_)
  obtain ⟨v8, f14, h1⟩ := z0d h0
  have f14k := zmU f14
  try simp at f14k
  refine zr rfl rfl rfl (by simp [f14k]; rfl) ?_
  refine z0a (zp ?_)
  by_cases c15 : v8.2 = 0
  ·rw [if_pos c15] at h1
   have c15e := eq_true c15
   obtain ⟨v9, f16, h2⟩ := z0d h1
   have f16k := z3k f16
   try simp at f16k
   by_cases c17 : v9 = true
   ·rw [if_pos c17] at h2
    obtain ⟨v10, f18, h3⟩ := z0d h2
    have f18k := z3k f18
    try simp at f18k
    by_cases c19 : v10 = true
    ·rw [if_pos c19] at h3
     obtain ⟨v11, f20, h4⟩ := z0d h3
     have f20k := z3k f20
     try simp at f20k
     by_cases c21 : v11 = true
     ·rw [if_pos c21] at h4
      obtain ⟨v12, f22, h5⟩ := z0d h4
      have f22k := z2D f22
      try simp at f22k
      by_cases c23 : v12 = true
      ·rw [if_pos c23] at h5
       obtain ⟨v13, f24, h6⟩ := z0d h5
       have f24k := z4j f24
       try simp at f24k
       by_cases c25 : v13 = true
       ·rw [if_pos c25] at h6
        obtain ⟨v14, f26, h7⟩ := z0d h6
        have f26k := z4j f26
        try simp at f26k
        refine zr rfl rfl rfl (by simp [c15e, f16k, c17, f18k, c19, f20k, c21, f22k, c23, f24k, c25, f26k]; rfl) ?_
        refine z0a (z1f rfl ?_)
        cases h7
        simp [c17, c19, c21, c23, c25]
       ·rw [if_neg c25] at h6
        refine zr rfl rfl rfl (by simp [c15e, f16k, c17, f18k, c19, f20k, c21, f22k, c23, f24k, c25]; rfl) ?_
        refine z0a (z1f rfl ?_)
        cases h6
        simp [c17, c19, c21, c23, c25]
      ·rw [if_neg c23] at h5
       refine zr rfl rfl rfl (by simp [c15e, f16k, c17, f18k, c19, f20k, c21, f22k, c23]; rfl) ?_
       refine z0a (z1f rfl ?_)
       cases h5
       simp [c17, c19, c21, c23]
     ·rw [if_neg c21] at h4
      refine zr rfl rfl rfl (by simp [c15e, f16k, c17, f18k, c19, f20k, c21]; rfl) ?_
      refine z0a (z1f rfl ?_)
      cases h4
      simp [c17, c19, c21]
    ·rw [if_neg c19] at h3
     refine zr rfl rfl rfl (by simp [c15e, f16k, c17, f18k, c19]; rfl) ?_
     refine z0a (z1f rfl ?_)
     cases h3
     simp [c17, c19]
   ·rw [if_neg c17] at h2
    refine zr rfl rfl rfl (by simp [c15e, f16k, c17]; rfl) ?_
    refine z0a (z1f rfl ?_)
    cases h2
    simp [c17]
  ·rw [if_neg c15] at h1
   have c15e := eq_false c15
   refine zr rfl rfl rfl (by simp [c15e]; rfl) ?_
   refine z0a (z1f rfl ?_)
   cases h1
   simp
def z7a (a0 : List (List Int)) : Int × List (List Int) -> Option ((Int × List (List Int)) ⊕ List (List Int))
 | (w7, w8) =>
 if w7 < (a0.length : Int) then
 (atI a0 w7).bind fun v10 =>
 chk (z2i 8 (v10.length)) <|
 chk (z2i 24 (w8.length + 1)) <|
 z0B (i64.wrap (w7 + 1), w8 ++ [v10])
 else
 z1m <|
 some w8
def z6Z (a0 : List (List Int)) : Int × List (List Int) -> Fr
 | (w7, w8) => ⟨20, [(3, .one (.h 3 [])), (6, .one (.t none (.sl a0.length (a0.map fun x0 => .sl x0.length (x0.map fun x1 => .sc (.int .i64 x1)))))), (7, .one (.t none (.sc (.int .i64 (a0.length : Int))))), (8, .one (.t none (.sc (.int .i64 w7))))], [(3, .os 1 w8.length (w8.map fun x0 => .os 1 x0.length (x0.map fun x1 => .sc (.int .i64 x1))))]⟩
def z8W (a0 : List (List Int)) : Option (List (List Int)) :=
 z1b (z7a a0) LFm (0, [])
theorem zkb {a0 : List (List Int)} {r : List (List Int)} (h0 : z8W a0 = some r) : L 23 [.sl a0.length (a0.map fun x0 => .sl x0.length (x0.map fun x1 => .sc (.int .i64 x1)))] = some (.os 1 r.length (r.map fun x0 => .os 1 x0.length (x0.map fun x1 => .sc (.int .i64 x1))), [.dead]) := by
  simp only [z8W] at h0
  refine z2F zAz zC1 (z1w zDN ⟨of_decide_eq_true rfl, of_decide_eq_true rfl⟩ ?_)
  simp only [z1E, z1C, z1B, z1F, z3u]
  refine zp (zs ?_)
  refine z0a (zp (zs ?_))
  refine z0a (zp (zp (zs ?_)))
  refine z0a (zb rfl (z0C h0 (z6Z a0) rfl rfl (by simp [z6Z]) fun s o1 h1 hr1 => ?_))
  obtain ⟨w7, w8⟩ := s
  simp only [z7a] at h1
  simp only [z6Z]
  refine zp (zs ?_)
  refine z0a (zp ?_)
  by_cases c19 : w7 < (a0.length : Int)
  ·rw [if_pos c19] at h1
   refine z0t rfl (by simp [c19]) (z0j rfl (z0a (zp (zb rfl (zp ?_)))))
   obtain ⟨v10, f20, h2⟩ := z0I h1
   refine zr rfl rfl rfl (by simp [f20]; rfl) ?_
   refine z0a ?_
   obtain ⟨f21, h3⟩ := z5I h2
   obtain ⟨f22, h4⟩ := z5I h3
   refine zr rfl rfl rfl (by simp [f21, f22]; rfl) ?_
   refine z0h (z0a (zs ?_))
   have ho := z0c h4
   refine z0i ho ?_
   simp [z6Z]
  ·rw [if_neg c19] at h1
   refine z0r rfl (by simp [c19]) (z0X rfl (z0w ?_))
   obtain ⟨rr1, h2, ho1⟩ := z0k h1
   have hs1 := hr1 _ ho1
   subst hs1
   refine z0s ho1 (z0g rfl (z0a (zp (zs ?_))))
   refine z0a (z1f rfl ?_)
   cases h2
   simp
def z4w (a0 : List Int) (a1 : Int) (a2 : Int) (a3 : Int) : Option (Bool) :=
 (zd4 a0).bind fun v42 =>
 (z4e v42).bind fun v43 =>
 (z4R v43.2 v43.1 4).bind fun v44 =>
 (zcT v44.1).bind fun v45 =>
 if v45.2 = 0 then
 (z2z v44.1 v45.1).bind fun v46 =>
 if v46 = true then
 (z5A a2 (v45.1.sets.length : Int)).bind fun v47 =>
 chk (z2i 8 (v45.1.sets.length)) <|
 chk (z2i 8 (v45.1.class_.length)) <|
 chk (z2i 8 (v45.1.height.length)) <|
 (z8W v45.1.tiles).bind fun v48 =>
 chk (z2i 16 (v45.1.words.length)) <|
 chk (z2i 16 (v45.1.back.length)) <|
 (z5A a1 6).bind fun v49 =>
 if v49 = 0 then
 (z5A a3 16).bind fun v50 =>
 (atI v45.1.sets v47).bind fun v51 =>
 (z2z v44.1 (⟨(v45.1.sets.set v47.toNat v50), v45.1.class_, v45.1.height, v48, v45.1.words, v45.1.back⟩ : Imgs)).bind fun v52 =>
 (z2l v45.1 (⟨(v45.1.sets.set v47.toNat v50), v45.1.class_, v45.1.height, v48, v45.1.words, v45.1.back⟩ : Imgs)).bind fun v53 =>
 if (v52 == v53) = true then
 (zbx).bind fun v54 =>
 some v54
 else
 some false
 else
 if v49 = 1 then
 (z5A a3 5).bind fun v55 =>
 (atI v45.1.class_ v47).bind fun v56 =>
 (z2z v44.1 (⟨v45.1.sets, (v45.1.class_.set v47.toNat v55), v45.1.height, v48, v45.1.words, v45.1.back⟩ : Imgs)).bind fun v57 =>
 (z2l v45.1 (⟨v45.1.sets, (v45.1.class_.set v47.toNat v55), v45.1.height, v48, v45.1.words, v45.1.back⟩ : Imgs)).bind fun v58 =>
 if (v57 == v58) = true then
 (zbx).bind fun v59 =>
 some v59
 else
 some false
 else
 if v49 = 2 then
 (z5A a3 4).bind fun v60 =>
 (atI v45.1.height v47).bind fun v61 =>
 (z2z v44.1 (⟨v45.1.sets, v45.1.class_, (v45.1.height.set v47.toNat v60), v48, v45.1.words, v45.1.back⟩ : Imgs)).bind fun v62 =>
 (z2l v45.1 (⟨v45.1.sets, v45.1.class_, (v45.1.height.set v47.toNat v60), v48, v45.1.words, v45.1.back⟩ : Imgs)).bind fun v63 =>
 if (v62 == v63) = true then
 (zbx).bind fun v64 =>
 some v64
 else
 some false
 else
 if v49 = 3 then
 (atI v48 v47).bind fun v65 =>
 (z5A a3 5).bind fun v66 =>
 chk (z2i 8 (v65.length + 1)) <|
 (z2z v44.1 (⟨v45.1.sets, v45.1.class_, v45.1.height, (v48.set v47.toNat (v65 ++ [v66])), v45.1.words, v45.1.back⟩ : Imgs)).bind fun v68 =>
 (z2l v45.1 (⟨v45.1.sets, v45.1.class_, v45.1.height, (v48.set v47.toNat (v65 ++ [v66])), v45.1.words, v45.1.back⟩ : Imgs)).bind fun v69 =>
 if (v68 == v69) = true then
 (zbx).bind fun v70 =>
 some v70
 else
 some false
 else
 if v49 = 4 then
 (atI v45.1.words v47).bind fun v71 =>
 chk (z9E v71 ⟨#[97]⟩) <|
 (z2z v44.1 (⟨v45.1.sets, v45.1.class_, v45.1.height, v48, (v45.1.words.set v47.toNat (v71 ++ ⟨#[97]⟩)), v45.1.back⟩ : Imgs)).bind fun v73 =>
 (z2l v45.1 (⟨v45.1.sets, v45.1.class_, v45.1.height, v48, (v45.1.words.set v47.toNat (v71 ++ ⟨#[97]⟩)), v45.1.back⟩ : Imgs)).bind fun v74 =>
 if (v73 == v74) = true then
 (zbx).bind fun v75 =>
 some v75
 else
 some false
 else
 if v49 = 5 then
 (z6O v45.1.back 0 v47).bind fun v76 =>
 (z2z v44.1 (⟨v45.1.sets, v45.1.class_, v45.1.height, v48, v45.1.words, v76⟩ : Imgs)).bind fun v77 =>
 (z2l v45.1 (⟨v45.1.sets, v45.1.class_, v45.1.height, v48, v45.1.words, v76⟩ : Imgs)).bind fun v78 =>
 if (v77 == v78) = true then
 (zbx).bind fun v79 =>
 some v79
 else
 some false
 else
 (z2z v44.1 (⟨v45.1.sets, v45.1.class_, v45.1.height, v48, v45.1.words, v45.1.back⟩ : Imgs)).bind fun v80 =>
 (z2l v45.1 (⟨v45.1.sets, v45.1.class_, v45.1.height, v48, v45.1.words, v45.1.back⟩ : Imgs)).bind fun v81 =>
 if (v80 == v81) = true then
 (zbx).bind fun v82 =>
 some v82
 else
 some false
 else
 some false
 else
 some false
theorem za0 {a0 : List Int} {a1 : Int} {a2 : Int} {a3 : Int} {r : Bool} (h0 : z4w a0 a1 a2 a3 = some r) : L 7 [.sl a0.length (a0.map fun x0 => .sc (.int .i64 x0)), .sc (.int .i64 a1), .sc (.int .i64 a2), .sc (.int .i64 a3)] = some (.sc (.bool r), [.dead, .dead, .dead, .dead]) := by
  simp only [z4w] at h0
  refine z2F zCa fn7 (z1w bd7 ⟨of_decide_eq_true rfl, of_decide_eq_true rfl⟩ ?_)
  simp only [z1E, z1C, z1B, z1F, z3u]
  refine zp (zs ?_)
  refine z0a (zp ?_)
  obtain ⟨v42, f62, h1⟩ := z0d h0
  have f62k := zo1 f62
  try simp at f62k
  refine zr rfl rfl rfl (by simp [f62k]; rfl) ?_
  refine z0a (zp ?_)
  obtain ⟨v43, f63, h2⟩ := z0d h1
  have f63k := zaS f63
  try simp at f63k
  obtain ⟨v44, f64, h3⟩ := z0d h2
  have f64k := zeY f64
  try simp at f64k
  refine zr rfl rfl rfl (by simp [f63k, f64k]; rfl) ?_
  refine z0a (zp ?_)
  obtain ⟨v45, f65, h4⟩ := z0d h3
  have f65k := znS f65
  try simp at f65k
  refine zr rfl rfl rfl (by simp [f65k]; rfl) ?_
  refine z0a (zp (zp (zs ?_)))
  refine z0a ?_
  by_cases c66 : v45.2 = 0
  ·rw [if_pos c66] at h4
   have c66e := eq_true c66
   refine z0r rfl (by simp [c66e]) (z0j rfl (z0a (zp (zp ?_))))
   obtain ⟨v46, f67, h5⟩ := z0d h4
   have f67k := z3g f67
   try simp at f67k
   refine zr rfl rfl rfl (by simp [f67k]; rfl) ?_
   refine z0a ?_
   by_cases c68 : v46 = true
   ·rw [if_pos c68] at h5
    refine z0r rfl (by simp [c68]) (z0j rfl (z0a (zp (zeX rfl rfl (by simp; rfl) ?_))))
    obtain ⟨v47, f69, h6⟩ := z0d h5
    have f69k := z5m f69
    try simp at f69k
    refine zr rfl rfl rfl (by simp [f69k]; rfl) ?_
    refine z0a (zp ?_)
    obtain ⟨f70, h7⟩ := z5I h6
    obtain ⟨f71, h8⟩ := z5I h7
    obtain ⟨f72, h9⟩ := z5I h8
    obtain ⟨v48, f73, h10⟩ := z0d h9
    have f73k := zkb f73
    try simp at f73k
    obtain ⟨f74, h11⟩ := z5I h10
    obtain ⟨f75, h12⟩ := z5I h11
    refine zeQ rfl rfl rfl rfl ?_
    refine zm6 [(0, 1, 0, 1), (1, 2, 0, 2), (2, 5, 3, 3), (3, 6, 3, 4), (4, 9, 3, 5), (5, 10, 3, 6), (6, 12, 3, 7), (7, 13, 3, 8), (8, 16, 3, 9), (9, 17, 3, 10), (10, 20, 3, 11), (11, 21, 3, 12), (12, 0, 1, 13), (12, 4, 1, 14), (12, 8, 1, 15), (12, 15, 1, 16), (12, 19, 1, 17), (12, 24, 1, 18), (13, 3, 2, 19), (13, 4, 1, 20), (13, 8, 1, 21), (13, 15, 1, 22), (13, 19, 1, 23), (13, 24, 1, 24), (14, 0, 1, 20), (14, 8, 1, 25), (14, 15, 1, 26), (14, 19, 1, 27), (14, 24, 1, 28), (15, 0, 1, 21), (15, 4, 1, 25), (15, 15, 1, 29), (15, 19, 1, 30), (15, 24, 1, 31), (16, 0, 1, 22), (16, 4, 1, 26), (16, 8, 1, 29), (16, 19, 1, 32), (16, 24, 1, 33), (17, 0, 1, 23), (17, 4, 1, 27), (17, 8, 1, 30), (17, 15, 1, 32), (17, 24, 1, 34), (18, 0, 1, 24), (18, 4, 1, 28), (18, 8, 1, 31), (18, 15, 1, 33), (18, 19, 1, 34), (19, 4, 1, 35), (19, 8, 1, 36), (19, 15, 1, 37), (19, 19, 1, 38), (19, 24, 1, 39), (20, 3, 2, 35), (20, 8, 1, 40), (20, 15, 1, 41), (20, 19, 1, 42), (20, 24, 1, 43), (21, 3, 2, 36), (21, 4, 1, 40), (21, 15, 1, 44), (21, 19, 1, 45), (21, 24, 1, 46), (22, 3, 2, 37), (22, 4, 1, 41), (22, 8, 1, 44), (22, 19, 1, 47), (22, 24, 1, 48), (23, 3, 2, 38), (23, 4, 1, 42), (23, 8, 1, 45), (23, 15, 1, 47), (23, 24, 1, 49), (24, 3, 2, 39), (24, 4, 1, 43), (24, 8, 1, 46), (24, 15, 1, 48), (24, 19, 1, 49), (25, 0, 1, 40), (25, 15, 1, 50), (25, 19, 1, 51), (25, 24, 1, 52), (26, 0, 1, 41), (26, 8, 1, 50), (26, 19, 1, 53), (26, 24, 1, 54), (27, 0, 1, 42), (27, 8, 1, 51), (27, 15, 1, 53), (27, 24, 1, 55), (28, 0, 1, 43), (28, 8, 1, 52), (28, 15, 1, 54), (28, 19, 1, 55), (29, 0, 1, 44), (29, 4, 1, 50), (29, 19, 1, 56), (29, 24, 1, 57), (30, 0, 1, 45), (30, 4, 1, 51), (30, 15, 1, 56), (30, 24, 1, 58), (31, 0, 1, 46), (31, 4, 1, 52), (31, 15, 1, 57), (31, 19, 1, 58), (32, 0, 1, 47), (32, 4, 1, 53), (32, 8, 1, 56), (32, 24, 1, 59), (33, 0, 1, 48), (33, 4, 1, 54), (33, 8, 1, 57), (33, 19, 1, 59), (34, 0, 1, 49), (34, 4, 1, 55), (34, 8, 1, 58), (34, 15, 1, 59), (35, 7, 2, 60), (35, 8, 1, 61), (35, 15, 1, 62), (35, 19, 1, 63), (35, 24, 1, 64), (36, 4, 1, 61), (36, 15, 1, 65), (36, 19, 1, 66), (36, 24, 1, 67), (37, 4, 1, 62), (37, 8, 1, 65), (37, 19, 1, 68), (37, 24, 1, 69), (38, 4, 1, 63), (38, 8, 1, 66), (38, 15, 1, 68), (38, 24, 1, 70), (39, 4, 1, 64), (39, 8, 1, 67), (39, 15, 1, 69), (39, 19, 1, 70), (40, 3, 2, 61), (40, 15, 1, 71), (40, 19, 1, 72), (40, 24, 1, 73), (41, 3, 2, 62), (41, 8, 1, 71), (41, 19, 1, 74), (41, 24, 1, 75), (42, 3, 2, 63), (42, 8, 1, 72), (42, 15, 1, 74), (42, 24, 1, 76), (43, 3, 2, 64), (43, 8, 1, 73), (43, 15, 1, 75), (43, 19, 1, 76), (44, 3, 2, 65), (44, 4, 1, 71), (44, 19, 1, 77), (44, 24, 1, 78), (45, 3, 2, 66), (45, 4, 1, 72), (45, 15, 1, 77), (45, 24, 1, 79), (46, 3, 2, 67), (46, 4, 1, 73), (46, 15, 1, 78), (46, 19, 1, 79), (47, 3, 2, 68), (47, 4, 1, 74), (47, 8, 1, 77), (47, 24, 1, 80), (48, 3, 2, 69), (48, 4, 1, 75), (48, 8, 1, 78), (48, 19, 1, 80), (49, 3, 2, 70), (49, 4, 1, 76), (49, 8, 1, 79), (49, 15, 1, 80), (50, 0, 1, 71), (50, 19, 1, 81), (50, 24, 1, 82), (51, 0, 1, 72), (51, 15, 1, 81), (51, 24, 1, 83), (52, 0, 1, 73), (52, 15, 1, 82), (52, 19, 1, 83), (53, 0, 1, 74), (53, 8, 1, 81), (53, 24, 1, 84), (54, 0, 1, 75), (54, 8, 1, 82), (54, 19, 1, 84), (55, 0, 1, 76), (55, 8, 1, 83), (55, 15, 1, 84), (56, 0, 1, 77), (56, 4, 1, 81), (56, 24, 1, 85), (57, 0, 1, 78), (57, 4, 1, 82), (57, 19, 1, 85), (58, 0, 1, 79), (58, 4, 1, 83), (58, 15, 1, 85), (59, 0, 1, 80), (59, 4, 1, 84), (59, 8, 1, 85), (60, 8, 1, 86), (60, 15, 1, 87), (60, 19, 1, 88), (60, 24, 1, 89), (61, 7, 2, 86), (61, 15, 1, 90), (61, 19, 1, 91), (61, 24, 1, 92), (62, 7, 2, 87), (62, 8, 1, 90), (62, 19, 1, 93), (62, 24, 1, 94), (63, 7, 2, 88), (63, 8, 1, 91), (63, 15, 1, 93), (63, 24, 1, 95), (64, 7, 2, 89), (64, 8, 1, 92), (64, 15, 1, 94), (64, 19, 1, 95), (65, 4, 1, 90), (65, 19, 1, 96), (65, 24, 1, 97), (66, 4, 1, 91), (66, 15, 1, 96), (66, 24, 1, 98), (67, 4, 1, 92), (67, 15, 1, 97), (67, 19, 1, 98), (68, 4, 1, 93), (68, 8, 1, 96), (68, 24, 1, 99), (69, 4, 1, 94), (69, 8, 1, 97), (69, 19, 1, 99), (70, 4, 1, 95), (70, 8, 1, 98), (70, 15, 1, 99), (71, 3, 2, 90), (71, 19, 1, 100), (71, 24, 1, 101), (72, 3, 2, 91), (72, 15, 1, 100), (72, 24, 1, 102), (73, 3, 2, 92), (73, 15, 1, 101), (73, 19, 1, 102), (74, 3, 2, 93), (74, 8, 1, 100), (74, 24, 1, 103), (75, 3, 2, 94), (75, 8, 1, 101), (75, 19, 1, 103), (76, 3, 2, 95), (76, 8, 1, 102), (76, 15, 1, 103), (77, 3, 2, 96), (77, 4, 1, 100), (77, 24, 1, 104), (78, 3, 2, 97), (78, 4, 1, 101), (78, 19, 1, 104), (79, 3, 2, 98), (79, 4, 1, 102), (79, 15, 1, 104), (80, 3, 2, 99), (80, 4, 1, 103), (80, 8, 1, 104), (81, 0, 1, 100), (81, 24, 1, 105), (82, 0, 1, 101), (82, 19, 1, 105), (83, 0, 1, 102), (83, 15, 1, 105), (84, 0, 1, 103), (84, 8, 1, 105), (85, 0, 1, 104), (85, 4, 1, 105), (86, 11, 2, 106), (86, 15, 1, 107), (86, 19, 1, 108), (86, 24, 1, 109), (87, 8, 1, 107), (87, 19, 1, 110), (87, 24, 1, 111), (88, 8, 1, 108), (88, 15, 1, 110), (88, 24, 1, 112), (89, 8, 1, 109), (89, 15, 1, 111), (89, 19, 1, 112), (90, 7, 2, 107), (90, 19, 1, 113), (90, 24, 1, 114), (91, 7, 2, 108), (91, 15, 1, 113), (91, 24, 1, 115), (92, 7, 2, 109), (92, 15, 1, 114), (92, 19, 1, 115), (93, 7, 2, 110), (93, 8, 1, 113), (93, 24, 1, 116), (94, 7, 2, 111), (94, 8, 1, 114), (94, 19, 1, 116), (95, 7, 2, 112), (95, 8, 1, 115), (95, 15, 1, 116), (96, 4, 1, 113), (96, 24, 1, 117), (97, 4, 1, 114), (97, 19, 1, 117), (98, 4, 1, 115), (98, 15, 1, 117), (99, 4, 1, 116), (99, 8, 1, 117), (100, 3, 2, 113), (100, 24, 1, 118), (101, 3, 2, 114), (101, 19, 1, 118), (102, 3, 2, 115), (102, 15, 1, 118), (103, 3, 2, 116), (103, 8, 1, 118), (104, 3, 2, 117), (104, 4, 1, 118), (105, 0, 1, 118), (106, 14, 1, 119), (106, 15, 1, 120), (106, 19, 1, 121), (106, 24, 1, 122), (107, 11, 2, 120), (107, 19, 1, 123), (107, 24, 1, 124), (108, 11, 2, 121), (108, 15, 1, 123), (108, 24, 1, 125), (109, 11, 2, 122), (109, 15, 1, 124), (109, 19, 1, 125), (110, 8, 1, 123), (110, 24, 1, 126), (111, 8, 1, 124), (111, 19, 1, 126), (112, 8, 1, 125), (112, 15, 1, 126), (113, 7, 2, 123), (113, 24, 1, 127), (114, 7, 2, 124), (114, 19, 1, 127), (115, 7, 2, 125), (115, 15, 1, 127), (116, 7, 2, 126), (116, 8, 1, 127), (117, 4, 1, 127), (118, 3, 2, 127), (119, 15, 1, 128), (119, 19, 1, 129), (119, 24, 1, 130), (120, 14, 1, 128), (120, 19, 1, 131), (120, 24, 1, 132), (121, 14, 1, 129), (121, 15, 1, 131), (121, 24, 1, 133), (122, 14, 1, 130), (122, 15, 1, 132), (122, 19, 1, 133), (123, 11, 2, 131), (123, 24, 1, 134), (124, 11, 2, 132), (124, 19, 1, 134), (125, 11, 2, 133), (125, 15, 1, 134), (126, 8, 1, 134), (127, 7, 2, 134), (128, 18, 2, 135), (128, 19, 1, 136), (128, 24, 1, 137), (129, 15, 1, 136), (129, 24, 1, 138), (130, 15, 1, 137), (130, 19, 1, 138), (131, 14, 1, 136), (131, 24, 1, 139), (132, 14, 1, 137), (132, 19, 1, 139), (133, 14, 1, 138), (133, 15, 1, 139), (134, 11, 2, 139), (135, 19, 1, 140), (135, 24, 1, 141), (136, 18, 2, 140), (136, 24, 1, 142), (137, 18, 2, 141), (137, 19, 1, 142), (138, 15, 1, 142), (139, 14, 1, 142), (140, 22, 2, 143), (140, 24, 1, 144), (141, 19, 1, 144), (142, 18, 2, 144), (143, 23, 0, 145), (144, 22, 2, 146), (145, 24, 1, 147), (146, 23, 0, 147), (147, 25, 2, 148)] 148 (by kernel_rfl) ?_
    iterate 24 (refine z0n rfl rfl rfl rfl (by simp [z0f, z0e, f70, f71, f72, f73k, f74, f75]; rfl) ?_)
    refine z0p rfl rfl rfl rfl (by simp [z0f, z0e, f70, f71, f72, f73k, f74, f75]) ?_
    iterate 4 (refine z0n rfl rfl rfl rfl (by simp [z0f, z0e, f70, f71, f72, f73k, f74, f75]; rfl) ?_)
    refine z0p rfl rfl rfl rfl (by simp [z0f, z0e, f70, f71, f72, f73k, f74, f75]) ?_
    refine z0p rfl rfl rfl rfl (by simp [z0f, z0e, f70, f71, f72, f73k, f74, f75]) ?_
    iterate 3 (refine z0n rfl rfl rfl rfl (by simp [z0f, z0e, f70, f71, f72, f73k, f74, f75]; rfl) ?_)
    iterate 3 (refine z0p rfl rfl rfl rfl (by simp [z0f, z0e, f70, f71, f72, f73k, f74, f75]) ?_)
    refine z0n rfl rfl rfl rfl (by simp [z0f, z0e, f70, f71, f72, f73k, f74, f75]; rfl) ?_
    refine z0n rfl rfl rfl rfl (by simp [z0f, z0e, f70, f71, f72, f73k, f74, f75]; rfl) ?_
    iterate 4 (refine z0p rfl rfl rfl rfl (by simp [z0f, z0e, f70, f71, f72, f73k, f74, f75]) ?_)
    refine z0n rfl rfl rfl rfl (by simp [z0f, z0e, f70, f71, f72, f73k, f74, f75]; rfl) ?_
    iterate 5 (refine z0p rfl rfl rfl rfl (by simp [z0f, z0e, f70, f71, f72, f73k, f74, f75]) ?_)
    iterate 5 (refine z0n rfl rfl rfl rfl (by simp [z0f, z0e, f70, f71, f72, f73k, f74, f75]; rfl) ?_)
    refine z0p rfl rfl rfl rfl (by simp [z0f, z0e, f70, f71, f72, f73k, f74, f75]) ?_
    iterate 4 (refine z0n rfl rfl rfl rfl (by simp [z0f, z0e, f70, f71, f72, f73k, f74, f75]; rfl) ?_)
    refine z0p rfl rfl rfl rfl (by simp [z0f, z0e, f70, f71, f72, f73k, f74, f75]) ?_
    refine z0p rfl rfl rfl rfl (by simp [z0f, z0e, f70, f71, f72, f73k, f74, f75]) ?_
    iterate 3 (refine z0n rfl rfl rfl rfl (by simp [z0f, z0e, f70, f71, f72, f73k, f74, f75]; rfl) ?_)
    iterate 3 (refine z0p rfl rfl rfl rfl (by simp [z0f, z0e, f70, f71, f72, f73k, f74, f75]) ?_)
    refine z0n rfl rfl rfl rfl (by simp [z0f, z0e, f70, f71, f72, f73k, f74, f75]; rfl) ?_
    refine z0n rfl rfl rfl rfl (by simp [z0f, z0e, f70, f71, f72, f73k, f74, f75]; rfl) ?_
    iterate 4 (refine z0p rfl rfl rfl rfl (by simp [z0f, z0e, f70, f71, f72, f73k, f74, f75]) ?_)
    refine z0n rfl rfl rfl rfl (by simp [z0f, z0e, f70, f71, f72, f73k, f74, f75]; rfl) ?_
    iterate 6 (refine z0p rfl rfl rfl rfl (by simp [z0f, z0e, f70, f71, f72, f73k, f74, f75]) ?_)
    iterate 3 (refine z0n rfl rfl rfl rfl (by simp [z0f, z0e, f70, f71, f72, f73k, f74, f75]; rfl) ?_)
    refine z0p rfl rfl rfl rfl (by simp [z0f, z0e, f70, f71, f72, f73k, f74, f75]) ?_
    refine z0p rfl rfl rfl rfl (by simp [z0f, z0e, f70, f71, f72, f73k, f74, f75]) ?_
    refine z0n rfl rfl rfl rfl (by simp [z0f, z0e, f70, f71, f72, f73k, f74, f75]; rfl) ?_
    refine z0n rfl rfl rfl rfl (by simp [z0f, z0e, f70, f71, f72, f73k, f74, f75]; rfl) ?_
    iterate 3 (refine z0p rfl rfl rfl rfl (by simp [z0f, z0e, f70, f71, f72, f73k, f74, f75]) ?_)
    refine z0n rfl rfl rfl rfl (by simp [z0f, z0e, f70, f71, f72, f73k, f74, f75]; rfl) ?_
    iterate 6 (refine z0p rfl rfl rfl rfl (by simp [z0f, z0e, f70, f71, f72, f73k, f74, f75]) ?_)
    refine z0n rfl rfl rfl rfl (by simp [z0f, z0e, f70, f71, f72, f73k, f74, f75]; rfl) ?_
    refine z0n rfl rfl rfl rfl (by simp [z0f, z0e, f70, f71, f72, f73k, f74, f75]; rfl) ?_
    iterate 3 (refine z0p rfl rfl rfl rfl (by simp [z0f, z0e, f70, f71, f72, f73k, f74, f75]) ?_)
    refine z0n rfl rfl rfl rfl (by simp [z0f, z0e, f70, f71, f72, f73k, f74, f75]; rfl) ?_
    iterate 7 (refine z0p rfl rfl rfl rfl (by simp [z0f, z0e, f70, f71, f72, f73k, f74, f75]) ?_)
    refine z0n rfl rfl rfl rfl (by simp [z0f, z0e, f70, f71, f72, f73k, f74, f75]; rfl) ?_
    iterate 8 (refine z0p rfl rfl rfl rfl (by simp [z0f, z0e, f70, f71, f72, f73k, f74, f75]) ?_)
    iterate 5 (refine z0n rfl rfl rfl rfl (by simp [z0f, z0e, f70, f71, f72, f73k, f74, f75]; rfl) ?_)
    refine z0p rfl rfl rfl rfl (by simp [z0f, z0e, f70, f71, f72, f73k, f74, f75]) ?_
    iterate 3 (refine z0n rfl rfl rfl rfl (by simp [z0f, z0e, f70, f71, f72, f73k, f74, f75]; rfl) ?_)
    refine z0p rfl rfl rfl rfl (by simp [z0f, z0e, f70, f71, f72, f73k, f74, f75]) ?_
    refine z0p rfl rfl rfl rfl (by simp [z0f, z0e, f70, f71, f72, f73k, f74, f75]) ?_
    refine z0n rfl rfl rfl rfl (by simp [z0f, z0e, f70, f71, f72, f73k, f74, f75]; rfl) ?_
    refine z0n rfl rfl rfl rfl (by simp [z0f, z0e, f70, f71, f72, f73k, f74, f75]; rfl) ?_
    iterate 3 (refine z0p rfl rfl rfl rfl (by simp [z0f, z0e, f70, f71, f72, f73k, f74, f75]) ?_)
    refine z0n rfl rfl rfl rfl (by simp [z0f, z0e, f70, f71, f72, f73k, f74, f75]; rfl) ?_
    iterate 5 (refine z0p rfl rfl rfl rfl (by simp [z0f, z0e, f70, f71, f72, f73k, f74, f75]) ?_)
    iterate 3 (refine z0n rfl rfl rfl rfl (by simp [z0f, z0e, f70, f71, f72, f73k, f74, f75]; rfl) ?_)
    refine z0p rfl rfl rfl rfl (by simp [z0f, z0e, f70, f71, f72, f73k, f74, f75]) ?_
    refine z0p rfl rfl rfl rfl (by simp [z0f, z0e, f70, f71, f72, f73k, f74, f75]) ?_
    refine z0n rfl rfl rfl rfl (by simp [z0f, z0e, f70, f71, f72, f73k, f74, f75]; rfl) ?_
    refine z0n rfl rfl rfl rfl (by simp [z0f, z0e, f70, f71, f72, f73k, f74, f75]; rfl) ?_
    iterate 3 (refine z0p rfl rfl rfl rfl (by simp [z0f, z0e, f70, f71, f72, f73k, f74, f75]) ?_)
    refine z0n rfl rfl rfl rfl (by simp [z0f, z0e, f70, f71, f72, f73k, f74, f75]; rfl) ?_
    iterate 6 (refine z0p rfl rfl rfl rfl (by simp [z0f, z0e, f70, f71, f72, f73k, f74, f75]) ?_)
    refine z0n rfl rfl rfl rfl (by simp [z0f, z0e, f70, f71, f72, f73k, f74, f75]; rfl) ?_
    refine z0n rfl rfl rfl rfl (by simp [z0f, z0e, f70, f71, f72, f73k, f74, f75]; rfl) ?_
    iterate 3 (refine z0p rfl rfl rfl rfl (by simp [z0f, z0e, f70, f71, f72, f73k, f74, f75]) ?_)
    refine z0n rfl rfl rfl rfl (by simp [z0f, z0e, f70, f71, f72, f73k, f74, f75]; rfl) ?_
    iterate 7 (refine z0p rfl rfl rfl rfl (by simp [z0f, z0e, f70, f71, f72, f73k, f74, f75]) ?_)
    refine z0n rfl rfl rfl rfl (by simp [z0f, z0e, f70, f71, f72, f73k, f74, f75]; rfl) ?_
    iterate 9 (refine z0p rfl rfl rfl rfl (by simp [z0f, z0e, f70, f71, f72, f73k, f74, f75]) ?_)
    refine z0n rfl rfl rfl rfl (by simp [z0f, z0e, f70, f71, f72, f73k, f74, f75]; rfl) ?_
    refine z0n rfl rfl rfl rfl (by simp [z0f, z0e, f70, f71, f72, f73k, f74, f75]; rfl) ?_
    refine z0p rfl rfl rfl rfl (by simp [z0f, z0e, f70, f71, f72, f73k, f74, f75]) ?_
    refine z0p rfl rfl rfl rfl (by simp [z0f, z0e, f70, f71, f72, f73k, f74, f75]) ?_
    refine z0n rfl rfl rfl rfl (by simp [z0f, z0e, f70, f71, f72, f73k, f74, f75]; rfl) ?_
    iterate 5 (refine z0p rfl rfl rfl rfl (by simp [z0f, z0e, f70, f71, f72, f73k, f74, f75]) ?_)
    refine z0n rfl rfl rfl rfl (by simp [z0f, z0e, f70, f71, f72, f73k, f74, f75]; rfl) ?_
    iterate 8 (refine z0p rfl rfl rfl rfl (by simp [z0f, z0e, f70, f71, f72, f73k, f74, f75]) ?_)
    refine z0n rfl rfl rfl rfl (by simp [z0f, z0e, f70, f71, f72, f73k, f74, f75]; rfl) ?_
    iterate 9 (refine z0p rfl rfl rfl rfl (by simp [z0f, z0e, f70, f71, f72, f73k, f74, f75]) ?_)
    iterate 4 (refine z0n rfl rfl rfl rfl (by simp [z0f, z0e, f70, f71, f72, f73k, f74, f75]; rfl) ?_)
    refine z0p rfl rfl rfl rfl (by simp [z0f, z0e, f70, f71, f72, f73k, f74, f75]) ?_
    iterate 3 (refine z0n rfl rfl rfl rfl (by simp [z0f, z0e, f70, f71, f72, f73k, f74, f75]; rfl) ?_)
    refine z0p rfl rfl rfl rfl (by simp [z0f, z0e, f70, f71, f72, f73k, f74, f75]) ?_
    refine z0p rfl rfl rfl rfl (by simp [z0f, z0e, f70, f71, f72, f73k, f74, f75]) ?_
    refine z0n rfl rfl rfl rfl (by simp [z0f, z0e, f70, f71, f72, f73k, f74, f75]; rfl) ?_
    refine z0n rfl rfl rfl rfl (by simp [z0f, z0e, f70, f71, f72, f73k, f74, f75]; rfl) ?_
    iterate 3 (refine z0p rfl rfl rfl rfl (by simp [z0f, z0e, f70, f71, f72, f73k, f74, f75]) ?_)
    refine z0n rfl rfl rfl rfl (by simp [z0f, z0e, f70, f71, f72, f73k, f74, f75]; rfl) ?_
    iterate 5 (refine z0p rfl rfl rfl rfl (by simp [z0f, z0e, f70, f71, f72, f73k, f74, f75]) ?_)
    refine z0n rfl rfl rfl rfl (by simp [z0f, z0e, f70, f71, f72, f73k, f74, f75]; rfl) ?_
    refine z0n rfl rfl rfl rfl (by simp [z0f, z0e, f70, f71, f72, f73k, f74, f75]; rfl) ?_
    refine z0p rfl rfl rfl rfl (by simp [z0f, z0e, f70, f71, f72, f73k, f74, f75]) ?_
    refine z0p rfl rfl rfl rfl (by simp [z0f, z0e, f70, f71, f72, f73k, f74, f75]) ?_
    refine z0n rfl rfl rfl rfl (by simp [z0f, z0e, f70, f71, f72, f73k, f74, f75]; rfl) ?_
    iterate 5 (refine z0p rfl rfl rfl rfl (by simp [z0f, z0e, f70, f71, f72, f73k, f74, f75]) ?_)
    refine z0n rfl rfl rfl rfl (by simp [z0f, z0e, f70, f71, f72, f73k, f74, f75]; rfl) ?_
    iterate 7 (refine z0p rfl rfl rfl rfl (by simp [z0f, z0e, f70, f71, f72, f73k, f74, f75]) ?_)
    refine z0n rfl rfl rfl rfl (by simp [z0f, z0e, f70, f71, f72, f73k, f74, f75]; rfl) ?_
    refine z0n rfl rfl rfl rfl (by simp [z0f, z0e, f70, f71, f72, f73k, f74, f75]; rfl) ?_
    refine z0p rfl rfl rfl rfl (by simp [z0f, z0e, f70, f71, f72, f73k, f74, f75]) ?_
    refine z0p rfl rfl rfl rfl (by simp [z0f, z0e, f70, f71, f72, f73k, f74, f75]) ?_
    refine z0n rfl rfl rfl rfl (by simp [z0f, z0e, f70, f71, f72, f73k, f74, f75]; rfl) ?_
    iterate 5 (refine z0p rfl rfl rfl rfl (by simp [z0f, z0e, f70, f71, f72, f73k, f74, f75]) ?_)
    refine z0n rfl rfl rfl rfl (by simp [z0f, z0e, f70, f71, f72, f73k, f74, f75]; rfl) ?_
    iterate 8 (refine z0p rfl rfl rfl rfl (by simp [z0f, z0e, f70, f71, f72, f73k, f74, f75]) ?_)
    refine z0n rfl rfl rfl rfl (by simp [z0f, z0e, f70, f71, f72, f73k, f74, f75]; rfl) ?_
    iterate 10 (refine z0p rfl rfl rfl rfl (by simp [z0f, z0e, f70, f71, f72, f73k, f74, f75]) ?_)
    refine z0n rfl rfl rfl rfl (by simp [z0f, z0e, f70, f71, f72, f73k, f74, f75]; rfl) ?_
    iterate 8 (refine z0p rfl rfl rfl rfl (by simp [z0f, z0e, f70, f71, f72, f73k, f74, f75]) ?_)
    iterate 4 (refine z0n rfl rfl rfl rfl (by simp [z0f, z0e, f70, f71, f72, f73k, f74, f75]; rfl) ?_)
    refine z0p rfl rfl rfl rfl (by simp [z0f, z0e, f70, f71, f72, f73k, f74, f75]) ?_
    refine z0n rfl rfl rfl rfl (by simp [z0f, z0e, f70, f71, f72, f73k, f74, f75]; rfl) ?_
    refine z0n rfl rfl rfl rfl (by simp [z0f, z0e, f70, f71, f72, f73k, f74, f75]; rfl) ?_
    refine z0p rfl rfl rfl rfl (by simp [z0f, z0e, f70, f71, f72, f73k, f74, f75]) ?_
    refine z0p rfl rfl rfl rfl (by simp [z0f, z0e, f70, f71, f72, f73k, f74, f75]) ?_
    refine z0n rfl rfl rfl rfl (by simp [z0f, z0e, f70, f71, f72, f73k, f74, f75]; rfl) ?_
    iterate 4 (refine z0p rfl rfl rfl rfl (by simp [z0f, z0e, f70, f71, f72, f73k, f74, f75]) ?_)
    refine z0n rfl rfl rfl rfl (by simp [z0f, z0e, f70, f71, f72, f73k, f74, f75]; rfl) ?_
    refine z0n rfl rfl rfl rfl (by simp [z0f, z0e, f70, f71, f72, f73k, f74, f75]; rfl) ?_
    refine z0p rfl rfl rfl rfl (by simp [z0f, z0e, f70, f71, f72, f73k, f74, f75]) ?_
    refine z0p rfl rfl rfl rfl (by simp [z0f, z0e, f70, f71, f72, f73k, f74, f75]) ?_
    refine z0n rfl rfl rfl rfl (by simp [z0f, z0e, f70, f71, f72, f73k, f74, f75]; rfl) ?_
    iterate 5 (refine z0p rfl rfl rfl rfl (by simp [z0f, z0e, f70, f71, f72, f73k, f74, f75]) ?_)
    refine z0n rfl rfl rfl rfl (by simp [z0f, z0e, f70, f71, f72, f73k, f74, f75]; rfl) ?_
    iterate 7 (refine z0p rfl rfl rfl rfl (by simp [z0f, z0e, f70, f71, f72, f73k, f74, f75]) ?_)
    refine z0n rfl rfl rfl rfl (by simp [z0f, z0e, f70, f71, f72, f73k, f74, f75]; rfl) ?_
    iterate 7 (refine z0p rfl rfl rfl rfl (by simp [z0f, z0e, f70, f71, f72, f73k, f74, f75]) ?_)
    refine z0n rfl rfl rfl rfl (by simp [z0f, z0e, f70, f71, f72, f73k, f74, f75]; rfl) ?_
    iterate 9 (refine z0p rfl rfl rfl rfl (by simp [z0f, z0e, f70, f71, f72, f73k, f74, f75]) ?_)
    iterate 4 (refine z0n rfl rfl rfl rfl (by simp [z0f, z0e, f70, f71, f72, f73k, f74, f75]; rfl) ?_)
    refine z0p rfl rfl rfl rfl (by simp [z0f, z0e, f70, f71, f72, f73k, f74, f75]) ?_
    refine z0n rfl rfl rfl rfl (by simp [z0f, z0e, f70, f71, f72, f73k, f74, f75]; rfl) ?_
    refine z0n rfl rfl rfl rfl (by simp [z0f, z0e, f70, f71, f72, f73k, f74, f75]; rfl) ?_
    refine z0p rfl rfl rfl rfl (by simp [z0f, z0e, f70, f71, f72, f73k, f74, f75]) ?_
    refine z0p rfl rfl rfl rfl (by simp [z0f, z0e, f70, f71, f72, f73k, f74, f75]) ?_
    refine z0n rfl rfl rfl rfl (by simp [z0f, z0e, f70, f71, f72, f73k, f74, f75]; rfl) ?_
    iterate 4 (refine z0p rfl rfl rfl rfl (by simp [z0f, z0e, f70, f71, f72, f73k, f74, f75]) ?_)
    refine z0n rfl rfl rfl rfl (by simp [z0f, z0e, f70, f71, f72, f73k, f74, f75]; rfl) ?_
    iterate 5 (refine z0p rfl rfl rfl rfl (by simp [z0f, z0e, f70, f71, f72, f73k, f74, f75]) ?_)
    refine z0n rfl rfl rfl rfl (by simp [z0f, z0e, f70, f71, f72, f73k, f74, f75]; rfl) ?_
    iterate 8 (refine z0p rfl rfl rfl rfl (by simp [z0f, z0e, f70, f71, f72, f73k, f74, f75]) ?_)
    iterate 3 (refine z0n rfl rfl rfl rfl (by simp [z0f, z0e, f70, f71, f72, f73k, f74, f75]; rfl) ?_)
    refine z0p rfl rfl rfl rfl (by simp [z0f, z0e, f70, f71, f72, f73k, f74, f75]) ?_
    refine z0n rfl rfl rfl rfl (by simp [z0f, z0e, f70, f71, f72, f73k, f74, f75]; rfl) ?_
    refine z0n rfl rfl rfl rfl (by simp [z0f, z0e, f70, f71, f72, f73k, f74, f75]; rfl) ?_
    refine z0p rfl rfl rfl rfl (by simp [z0f, z0e, f70, f71, f72, f73k, f74, f75]) ?_
    refine z0p rfl rfl rfl rfl (by simp [z0f, z0e, f70, f71, f72, f73k, f74, f75]) ?_
    refine z0n rfl rfl rfl rfl (by simp [z0f, z0e, f70, f71, f72, f73k, f74, f75]; rfl) ?_
    iterate 4 (refine z0p rfl rfl rfl rfl (by simp [z0f, z0e, f70, f71, f72, f73k, f74, f75]) ?_)
    refine z0n rfl rfl rfl rfl (by simp [z0f, z0e, f70, f71, f72, f73k, f74, f75]; rfl) ?_
    iterate 6 (refine z0p rfl rfl rfl rfl (by simp [z0f, z0e, f70, f71, f72, f73k, f74, f75]) ?_)
    iterate 3 (refine z0n rfl rfl rfl rfl (by simp [z0f, z0e, f70, f71, f72, f73k, f74, f75]; rfl) ?_)
    refine z0p rfl rfl rfl rfl (by simp [z0f, z0e, f70, f71, f72, f73k, f74, f75]) ?_
    refine z0n rfl rfl rfl rfl (by simp [z0f, z0e, f70, f71, f72, f73k, f74, f75]; rfl) ?_
    iterate 3 (refine z0p rfl rfl rfl rfl (by simp [z0f, z0e, f70, f71, f72, f73k, f74, f75]) ?_)
    refine z0n rfl rfl rfl rfl (by simp [z0f, z0e, f70, f71, f72, f73k, f74, f75]; rfl) ?_
    iterate 5 (refine z0p rfl rfl rfl rfl (by simp [z0f, z0e, f70, f71, f72, f73k, f74, f75]) ?_)
    refine z0n rfl rfl rfl rfl (by simp [z0f, z0e, f70, f71, f72, f73k, f74, f75]; rfl) ?_
    refine z0n rfl rfl rfl rfl (by simp [z0f, z0e, f70, f71, f72, f73k, f74, f75]; rfl) ?_
    refine z0p rfl rfl rfl rfl (by simp [z0f, z0e, f70, f71, f72, f73k, f74, f75]) ?_
    refine z0n rfl rfl rfl rfl (by simp [z0f, z0e, f70, f71, f72, f73k, f74, f75]; rfl) ?_
    iterate 4 (refine z0p rfl rfl rfl rfl (by simp [z0f, z0e, f70, f71, f72, f73k, f74, f75]) ?_)
    refine z0n rfl rfl rfl rfl (by simp [z0f, z0e, f70, f71, f72, f73k, f74, f75]; rfl) ?_
    refine z0n rfl rfl rfl rfl (by simp [z0f, z0e, f70, f71, f72, f73k, f74, f75]; rfl) ?_
    refine z0p rfl rfl rfl rfl (by simp [z0f, z0e, f70, f71, f72, f73k, f74, f75]) ?_
    refine z0p rfl rfl rfl rfl (by simp [z0f, z0e, f70, f71, f72, f73k, f74, f75]) ?_
    iterate 3 (refine z0n rfl rfl rfl rfl (by simp [z0f, z0e, f70, f71, f72, f73k, f74, f75]; rfl) ?_)
    refine z0p rfl rfl rfl rfl (by simp [z0f, z0e, f70, f71, f72, f73k, f74, f75]) ?_
    refine z0n rfl rfl rfl rfl (by simp [z0f, z0e, f70, f71, f72, f73k, f74, f75]; rfl) ?_
    refine zn4 rfl ?_
    refine zeM rfl (by simp [f70, f71, f72, f73k, f74, f75]; rfl) ?_
    refine z0a (zp (zp ?_))
    obtain ⟨v49, f76, h13⟩ := z0d h12
    have f76k := z5m f76
    try simp at f76k
    refine zr rfl rfl rfl (by simp [f76k]; rfl) ?_
    refine z0a (zb rfl (zp (zs ?_)))
    refine z0a ?_
    by_cases c77 : v49 = 0
    ·rw [if_pos c77] at h13
     have c77e := eq_true c77
     refine z0t rfl (by simp [c77e]) ?_
     obtain ⟨v50, f78, h14⟩ := z0d h13
     have f78k := z5m f78
     try simp at f78k
     obtain ⟨v51, f79, h15⟩ := z0I h14
     refine z1c rfl rfl rfl rfl ?_; repeat' ((first | refine z0q rfl rfl fun Q' hQ => ?_ | refine z0m rfl fun Q' hQ => ?_); simp [f78k, f79]; refine hQ.out _ ?_; clear hQ; clear Q')
     refine z0h (z0a (zp (zeX rfl rfl (by simp; rfl) ?_)))
     obtain ⟨v52, f80, h16⟩ := z0d h15
     have f80k := z3g f80
     try simp at f80k
     obtain ⟨v53, f81, h17⟩ := z0d h16
     have f81k := z4p f81
     try simp at f81k
     by_cases c82 : (v52 == v53) = true
     ·rw [if_pos c82] at h17
      obtain ⟨v54, f83, h18⟩ := z0d h17
      have f83k := z7v f83
      try simp at f83k
      refine z1c rfl rfl rfl rfl ?_; repeat' (first | (refine z0q rfl rfl fun Q' hQ => ?_; simp [f80k, f81k, c82, f83k]; refine hQ.out _ ?_; clear hQ; clear Q') | (refine z1g rfl rfl fun Q1 Q2 h1 h2 => ?_; simp [f80k, f81k, c82, f83k, z1Q]; (first | refine h1.out ?_ | refine h2.out ?_); clear h1 h2; clear Q1 Q2; intro Q' hQ; simp [f80k, f81k, c82, f83k]; refine hQ.out _ ?_; clear hQ; clear Q') | (refine z0m rfl fun Q' hQ => ?_; simp [f80k, f81k, c82, f83k]; refine hQ.out _ ?_; clear hQ; clear Q'))
      refine z0a (z1f rfl ?_)
      cases h18
      simp [c68, c82]
     ·rw [if_neg c82] at h17
      refine z1c rfl rfl rfl rfl ?_; repeat' (first | (refine z0q rfl rfl fun Q' hQ => ?_; simp [f80k, f81k, c82]; refine hQ.out _ ?_; clear hQ; clear Q') | (refine z1g rfl rfl fun Q1 Q2 h1 h2 => ?_; simp [f80k, f81k, c82, z1Q]; (first | refine h1.out ?_ | refine h2.out ?_); clear h1 h2; clear Q1 Q2; intro Q' hQ; simp [f80k, f81k, c82]; refine hQ.out _ ?_; clear hQ; clear Q') | (refine z0m rfl fun Q' hQ => ?_; simp [f80k, f81k, c82]; refine hQ.out _ ?_; clear hQ; clear Q'))
      refine z0a (z1f rfl ?_)
      cases h17
      simp [c68, c82]
    ·rw [if_neg c77] at h13
     have c77e := eq_false c77
     refine z0r rfl (by simp [c77e]) (zp (zs ?_))
     refine z0a ?_
     by_cases c84 : v49 = 1
     ·rw [if_pos c84] at h13
      have c84e := eq_true c84
      refine z0t rfl (by simp [c84e]) ?_
      obtain ⟨v55, f85, h14⟩ := z0d h13
      have f85k := z5m f85
      try simp at f85k
      obtain ⟨v56, f86, h15⟩ := z0I h14
      refine z1c rfl rfl rfl rfl ?_; repeat' ((first | refine z0q rfl rfl fun Q' hQ => ?_ | refine z0m rfl fun Q' hQ => ?_); simp [f85k, f86]; refine hQ.out _ ?_; clear hQ; clear Q')
      refine z0h (z0a (zp (zeX rfl rfl (by simp; rfl) ?_)))
      obtain ⟨v57, f87, h16⟩ := z0d h15
      have f87k := z3g f87
      try simp at f87k
      obtain ⟨v58, f88, h17⟩ := z0d h16
      have f88k := z4p f88
      try simp at f88k
      by_cases c89 : (v57 == v58) = true
      ·rw [if_pos c89] at h17
       obtain ⟨v59, f90, h18⟩ := z0d h17
       have f90k := z7v f90
       try simp at f90k
       refine z1c rfl rfl rfl rfl ?_; repeat' (first | (refine z0q rfl rfl fun Q' hQ => ?_; simp [f87k, f88k, c89, f90k]; refine hQ.out _ ?_; clear hQ; clear Q') | (refine z1g rfl rfl fun Q1 Q2 h1 h2 => ?_; simp [f87k, f88k, c89, f90k, z1Q]; (first | refine h1.out ?_ | refine h2.out ?_); clear h1 h2; clear Q1 Q2; intro Q' hQ; simp [f87k, f88k, c89, f90k]; refine hQ.out _ ?_; clear hQ; clear Q') | (refine z0m rfl fun Q' hQ => ?_; simp [f87k, f88k, c89, f90k]; refine hQ.out _ ?_; clear hQ; clear Q'))
       refine z0a (z1f rfl ?_)
       cases h18
       simp [c68, c89]
      ·rw [if_neg c89] at h17
       refine z1c rfl rfl rfl rfl ?_; repeat' (first | (refine z0q rfl rfl fun Q' hQ => ?_; simp [f87k, f88k, c89]; refine hQ.out _ ?_; clear hQ; clear Q') | (refine z1g rfl rfl fun Q1 Q2 h1 h2 => ?_; simp [f87k, f88k, c89, z1Q]; (first | refine h1.out ?_ | refine h2.out ?_); clear h1 h2; clear Q1 Q2; intro Q' hQ; simp [f87k, f88k, c89]; refine hQ.out _ ?_; clear hQ; clear Q') | (refine z0m rfl fun Q' hQ => ?_; simp [f87k, f88k, c89]; refine hQ.out _ ?_; clear hQ; clear Q'))
       refine z0a (z1f rfl ?_)
       cases h17
       simp [c68, c89]
     ·rw [if_neg c84] at h13
      have c84e := eq_false c84
      refine z0r rfl (by simp [c84e]) (zp (zs ?_))
      refine z0a ?_
      by_cases c91 : v49 = 2
      ·rw [if_pos c91] at h13
       have c91e := eq_true c91
       refine z0t rfl (by simp [c91e]) ?_
       obtain ⟨v60, f92, h14⟩ := z0d h13
       have f92k := z5m f92
       try simp at f92k
       obtain ⟨v61, f93, h15⟩ := z0I h14
       refine z1c rfl rfl rfl rfl ?_; repeat' ((first | refine z0q rfl rfl fun Q' hQ => ?_ | refine z0m rfl fun Q' hQ => ?_); simp [f92k, f93]; refine hQ.out _ ?_; clear hQ; clear Q')
       refine z0h (z0a (zp (zeX rfl rfl (by simp; rfl) ?_)))
       obtain ⟨v62, f94, h16⟩ := z0d h15
       have f94k := z3g f94
       try simp at f94k
       obtain ⟨v63, f95, h17⟩ := z0d h16
       have f95k := z4p f95
       try simp at f95k
       by_cases c96 : (v62 == v63) = true
       ·rw [if_pos c96] at h17
        obtain ⟨v64, f97, h18⟩ := z0d h17
        have f97k := z7v f97
        try simp at f97k
        refine z1c rfl rfl rfl rfl ?_; repeat' (first | (refine z0q rfl rfl fun Q' hQ => ?_; simp [f94k, f95k, c96, f97k]; refine hQ.out _ ?_; clear hQ; clear Q') | (refine z1g rfl rfl fun Q1 Q2 h1 h2 => ?_; simp [f94k, f95k, c96, f97k, z1Q]; (first | refine h1.out ?_ | refine h2.out ?_); clear h1 h2; clear Q1 Q2; intro Q' hQ; simp [f94k, f95k, c96, f97k]; refine hQ.out _ ?_; clear hQ; clear Q') | (refine z0m rfl fun Q' hQ => ?_; simp [f94k, f95k, c96, f97k]; refine hQ.out _ ?_; clear hQ; clear Q'))
        refine z0a (z1f rfl ?_)
        cases h18
        simp [c68, c96]
       ·rw [if_neg c96] at h17
        refine z1c rfl rfl rfl rfl ?_; repeat' (first | (refine z0q rfl rfl fun Q' hQ => ?_; simp [f94k, f95k, c96]; refine hQ.out _ ?_; clear hQ; clear Q') | (refine z1g rfl rfl fun Q1 Q2 h1 h2 => ?_; simp [f94k, f95k, c96, z1Q]; (first | refine h1.out ?_ | refine h2.out ?_); clear h1 h2; clear Q1 Q2; intro Q' hQ; simp [f94k, f95k, c96]; refine hQ.out _ ?_; clear hQ; clear Q') | (refine z0m rfl fun Q' hQ => ?_; simp [f94k, f95k, c96]; refine hQ.out _ ?_; clear hQ; clear Q'))
        refine z0a (z1f rfl ?_)
        cases h17
        simp [c68, c96]
      ·rw [if_neg c91] at h13
       have c91e := eq_false c91
       refine z0r rfl (by simp [c91e]) (zp (zs ?_))
       refine z0a ?_
       by_cases c98 : v49 = 3
       ·rw [if_pos c98] at h13
        have c98e := eq_true c98
        refine z0t rfl (by simp [c98e]) ?_
        obtain ⟨v65, f99, h14⟩ := z0I h13
        obtain ⟨v66, f100, h15⟩ := z0d h14
        have f100k := z5m f100
        try simp at f100k
        obtain ⟨f101, h16⟩ := z5I h15
        refine zeQ rfl rfl rfl rfl ?_
        iterate 8 (refine z4o rfl rfl (by simp [z0f, z0e, f99, f100k, f101]; rfl) ?_)
        refine z5M ?_
        iterate 6 (refine z4o rfl rfl (by simp [z0f, z0e, f99, f100k, f101]; rfl) ?_)
        refine z6N ?_
        refine ⟨?_, ?_⟩
        ·refine z4o rfl rfl (by simp [z0f, z0e, f99, f100k, f101]; rfl) ?_
         refine z5M ?_
         iterate 5 (refine z4o rfl rfl (by simp [z0f, z0e, f99, f100k, f101]; rfl) ?_)
         refine z6N ?_
         refine ⟨?_, ?_⟩
         ·refine z4o rfl rfl (by simp [z0f, z0e, f99, f100k, f101]; rfl) ?_
          refine z5M ?_
          iterate 4 (refine z4o rfl rfl (by simp [z0f, z0e, f99, f100k, f101]; rfl) ?_)
          refine z6N ?_
          refine ⟨?_, ?_⟩
          ·refine z4o rfl rfl (by simp [z0f, z0e, f99, f100k, f101]; rfl) ?_
           iterate 3 (refine z4o rfl rfl (by simp [z0f, z0e, f99, f100k, f101]; rfl) ?_)
           refine z6N ?_
           simp [z8f, f99, f100k, f101]
          simp [z8f, f99, f100k, f101]
         simp [z8f, f99, f100k, f101]
        refine zeM rfl (by simp [f99, f100k, f101]; rfl) ?_
        refine z0h (z0a (zp (zeX rfl rfl (by simp; rfl) ?_)))
        obtain ⟨v68, f102, h17⟩ := z0d h16
        have f102k := z3g f102
        try simp at f102k
        obtain ⟨v69, f103, h18⟩ := z0d h17
        have f103k := z4p f103
        try simp at f103k
        by_cases c104 : (v68 == v69) = true
        ·rw [if_pos c104] at h18
         obtain ⟨v70, f105, h19⟩ := z0d h18
         have f105k := z7v f105
         try simp at f105k
         refine z1c rfl rfl rfl rfl ?_; repeat' (first | (refine z0q rfl rfl fun Q' hQ => ?_; simp [f102k, f103k, c104, f105k]; refine hQ.out _ ?_; clear hQ; clear Q') | (refine z1g rfl rfl fun Q1 Q2 h1 h2 => ?_; simp [f102k, f103k, c104, f105k, z1Q]; (first | refine h1.out ?_ | refine h2.out ?_); clear h1 h2; clear Q1 Q2; intro Q' hQ; simp [f102k, f103k, c104, f105k]; refine hQ.out _ ?_; clear hQ; clear Q') | (refine z0m rfl fun Q' hQ => ?_; simp [f102k, f103k, c104, f105k]; refine hQ.out _ ?_; clear hQ; clear Q'))
         refine z0a (z1f rfl ?_)
         cases h19
         simp [c68, c104]
        ·rw [if_neg c104] at h18
         refine z1c rfl rfl rfl rfl ?_; repeat' (first | (refine z0q rfl rfl fun Q' hQ => ?_; simp [f102k, f103k, c104]; refine hQ.out _ ?_; clear hQ; clear Q') | (refine z1g rfl rfl fun Q1 Q2 h1 h2 => ?_; simp [f102k, f103k, c104, z1Q]; (first | refine h1.out ?_ | refine h2.out ?_); clear h1 h2; clear Q1 Q2; intro Q' hQ; simp [f102k, f103k, c104]; refine hQ.out _ ?_; clear hQ; clear Q') | (refine z0m rfl fun Q' hQ => ?_; simp [f102k, f103k, c104]; refine hQ.out _ ?_; clear hQ; clear Q'))
         refine z0a (z1f rfl ?_)
         cases h18
         simp [c68, c104]
       ·rw [if_neg c98] at h13
        have c98e := eq_false c98
        refine z0r rfl (by simp [c98e]) (zp (zs ?_))
        refine z0a ?_
        by_cases c106 : v49 = 4
        ·rw [if_pos c106] at h13
         have c106e := eq_true c106
         refine z0t rfl (by simp [c106e]) ?_
         obtain ⟨v71, f107, h14⟩ := z0I h13
         obtain ⟨f108, h15⟩ := z1M h14
         refine zr rfl rfl rfl (by simp [f107, f108]; rfl) ?_
         refine z0h (z0a (zp (zeX rfl rfl (by simp; rfl) ?_)))
         obtain ⟨v73, f109, h16⟩ := z0d h15
         have f109k := z3g f109
         try simp at f109k
         obtain ⟨v74, f110, h17⟩ := z0d h16
         have f110k := z4p f110
         try simp at f110k
         by_cases c111 : (v73 == v74) = true
         ·rw [if_pos c111] at h17
          obtain ⟨v75, f112, h18⟩ := z0d h17
          have f112k := z7v f112
          try simp at f112k
          refine z1c rfl rfl rfl rfl ?_; repeat' (first | (refine z0q rfl rfl fun Q' hQ => ?_; simp [f109k, f110k, c111, f112k]; refine hQ.out _ ?_; clear hQ; clear Q') | (refine z1g rfl rfl fun Q1 Q2 h1 h2 => ?_; simp [f109k, f110k, c111, f112k, z1Q]; (first | refine h1.out ?_ | refine h2.out ?_); clear h1 h2; clear Q1 Q2; intro Q' hQ; simp [f109k, f110k, c111, f112k]; refine hQ.out _ ?_; clear hQ; clear Q') | (refine z0m rfl fun Q' hQ => ?_; simp [f109k, f110k, c111, f112k]; refine hQ.out _ ?_; clear hQ; clear Q'))
          refine z0a (z1f rfl ?_)
          cases h18
          simp [c68, c111]
         ·rw [if_neg c111] at h17
          refine z1c rfl rfl rfl rfl ?_; repeat' (first | (refine z0q rfl rfl fun Q' hQ => ?_; simp [f109k, f110k, c111]; refine hQ.out _ ?_; clear hQ; clear Q') | (refine z1g rfl rfl fun Q1 Q2 h1 h2 => ?_; simp [f109k, f110k, c111, z1Q]; (first | refine h1.out ?_ | refine h2.out ?_); clear h1 h2; clear Q1 Q2; intro Q' hQ; simp [f109k, f110k, c111]; refine hQ.out _ ?_; clear hQ; clear Q') | (refine z0m rfl fun Q' hQ => ?_; simp [f109k, f110k, c111]; refine hQ.out _ ?_; clear hQ; clear Q'))
          refine z0a (z1f rfl ?_)
          cases h17
          simp [c68, c111]
        ·rw [if_neg c106] at h13
         have c106e := eq_false c106
         refine z0r rfl (by simp [c106e]) (zp (zs ?_))
         refine z0a ?_
         by_cases c113 : v49 = 5
         ·rw [if_pos c113] at h13
          have c113e := eq_true c113
          refine z0t rfl (by simp [c113e]) (zeX rfl rfl (by simp; rfl) ?_)
          obtain ⟨v76, f114, h14⟩ := z0d h13
          obtain ⟨f114a, f114b, f114c, -⟩ := z5P f114
          obtain ⟨f114d, f114g⟩ := zcY f114a f114b
          have f114e := zaH (g := fun x : ByteArray => (.sc (.string x) : T)) f114
          try simp at f114e
          have f114f := zaG f114
          try simp only [Int.reduceToNat, Int.toNat_natCast, Nat.sub_zero] at f114f
          refine zr rfl rfl rfl (by simp [f114a, f114b, f114c, f114d, f114g, f114e, f114f]; rfl) ?_
          refine z0h (z0a (zp (zeX rfl rfl (by simp; rfl) ?_)))
          obtain ⟨v77, f115, h15⟩ := z0d h14
          have f115k := z3g f115
          try simp at f115k
          obtain ⟨v78, f116, h16⟩ := z0d h15
          have f116k := z4p f116
          try simp at f116k
          by_cases c117 : (v77 == v78) = true
          ·rw [if_pos c117] at h16
           obtain ⟨v79, f118, h17⟩ := z0d h16
           have f118k := z7v f118
           try simp at f118k
           refine z1c rfl rfl rfl rfl ?_; repeat' (first | (refine z0q rfl rfl fun Q' hQ => ?_; simp [f115k, f116k, c117, f118k]; refine hQ.out _ ?_; clear hQ; clear Q') | (refine z1g rfl rfl fun Q1 Q2 h1 h2 => ?_; simp [f115k, f116k, c117, f118k, z1Q]; (first | refine h1.out ?_ | refine h2.out ?_); clear h1 h2; clear Q1 Q2; intro Q' hQ; simp [f115k, f116k, c117, f118k]; refine hQ.out _ ?_; clear hQ; clear Q') | (refine z0m rfl fun Q' hQ => ?_; simp [f115k, f116k, c117, f118k]; refine hQ.out _ ?_; clear hQ; clear Q'))
           refine z0a (z1f rfl ?_)
           cases h17
           simp [c68, c117]
          ·rw [if_neg c117] at h16
           refine z1c rfl rfl rfl rfl ?_; repeat' (first | (refine z0q rfl rfl fun Q' hQ => ?_; simp [f115k, f116k, c117]; refine hQ.out _ ?_; clear hQ; clear Q') | (refine z1g rfl rfl fun Q1 Q2 h1 h2 => ?_; simp [f115k, f116k, c117, z1Q]; (first | refine h1.out ?_ | refine h2.out ?_); clear h1 h2; clear Q1 Q2; intro Q' hQ; simp [f115k, f116k, c117]; refine hQ.out _ ?_; clear hQ; clear Q') | (refine z0m rfl fun Q' hQ => ?_; simp [f115k, f116k, c117]; refine hQ.out _ ?_; clear hQ; clear Q'))
           refine z0a (z1f rfl ?_)
           cases h16
           simp [c68, c117]
         ·rw [if_neg c113] at h13
          have c113e := eq_false c113
          refine z0r rfl (by simp [c113e]) (z0j rfl (z0h (z0a (zp (zeX rfl rfl (by simp; rfl) ?_)))))
          obtain ⟨v80, f119, h14⟩ := z0d h13
          have f119k := z3g f119
          try simp at f119k
          obtain ⟨v81, f120, h15⟩ := z0d h14
          have f120k := z4p f120
          try simp at f120k
          by_cases c121 : (v80 == v81) = true
          ·rw [if_pos c121] at h15
           obtain ⟨v82, f122, h16⟩ := z0d h15
           have f122k := z7v f122
           try simp at f122k
           refine z1c rfl rfl rfl rfl ?_; repeat' (first | (refine z0q rfl rfl fun Q' hQ => ?_; simp [f119k, f120k, c121, f122k]; refine hQ.out _ ?_; clear hQ; clear Q') | (refine z1g rfl rfl fun Q1 Q2 h1 h2 => ?_; simp [f119k, f120k, c121, f122k, z1Q]; (first | refine h1.out ?_ | refine h2.out ?_); clear h1 h2; clear Q1 Q2; intro Q' hQ; simp [f119k, f120k, c121, f122k]; refine hQ.out _ ?_; clear hQ; clear Q') | (refine z0m rfl fun Q' hQ => ?_; simp [f119k, f120k, c121, f122k]; refine hQ.out _ ?_; clear hQ; clear Q'))
           refine z0a (z1f rfl ?_)
           cases h16
           simp [c68, c121]
          ·rw [if_neg c121] at h15
           refine z1c rfl rfl rfl rfl ?_; repeat' (first | (refine z0q rfl rfl fun Q' hQ => ?_; simp [f119k, f120k, c121]; refine hQ.out _ ?_; clear hQ; clear Q') | (refine z1g rfl rfl fun Q1 Q2 h1 h2 => ?_; simp [f119k, f120k, c121, z1Q]; (first | refine h1.out ?_ | refine h2.out ?_); clear h1 h2; clear Q1 Q2; intro Q' hQ; simp [f119k, f120k, c121]; refine hQ.out _ ?_; clear hQ; clear Q') | (refine z0m rfl fun Q' hQ => ?_; simp [f119k, f120k, c121]; refine hQ.out _ ?_; clear hQ; clear Q'))
           refine z0a (z1f rfl ?_)
           cases h15
           simp [c68, c121]
   ·rw [if_neg c68] at h5
    refine z0t rfl (by simp [c68]) (zp (zs ?_))
    refine z0a (z1f rfl (z0Q ?_))
    cases h5
    simp [c68]
  ·rw [if_neg c66] at h4
   have c66e := eq_false c66
   refine z0t rfl (by simp [c66e]) (zp (zs ?_))
   refine z0a (z1f rfl (z0Q ?_))
   cases h4
   simp
end
end Go.Proofs.Ytbnnipkanechoaa
end
section
namespace Go.Proofs.Ytbnnipkanechoaa
open Go
set_option maxRecDepth 100000
theorem zcR (a : List Int) (h : a.length < 4611686018427387904 /\ a.length < LFm) : z3x a a = some true := by
 unfold z3x
 rw [if_pos rfl]
 refine z1I (s := (0 : Int)) a.length (fun k => (k : Int)) rfl h.2 (fun k hk => ?_) ?_
 ·simp only [z3r]
  rw [if_pos (by omega), z1P hk, Option.bind_some, Option.bind_some, if_pos rfl, z1X (by omega)]
 ·simp only [z3r]
  rw [if_neg (by omega)]
theorem zsR (a : List (List Int)) (h : a.length < 4611686018427387904 /\ a.length < LFm) (hr : ∀ x ∈ a, x.length < 4611686018427387904 /\ x.length < LFm) : z2B a a = some true := by
 unfold z2B
 rw [if_pos rfl]
 refine z1I (s := (0 : Int)) a.length (fun k => (k : Int)) rfl h.2 (fun k hk => ?_) ?_
 ·simp only [z2d]
  rw [if_pos (by omega), z1P hk, Option.bind_some, Option.bind_some, zcR _ (hr _ (List.getElem_mem hk)), Option.bind_some, if_pos rfl, z1X (by omega)]
 ·simp only [z2d]
  rw [if_neg (by omega)]
theorem zmd (a : List ByteArray) (h : a.length < 4611686018427387904 /\ a.length < LFm) : z4c a a = some true := by
 unfold z4c
 rw [if_pos rfl]
 refine z1I (s := (0 : Int)) a.length (fun k => (k : Int)) rfl h.2 (fun k hk => ?_) ?_
 ·simp only [z3s]
  rw [if_pos (by omega), z1P hk, Option.bind_some, Option.bind_some, if_pos rfl, z1X (by omega)]
 ·simp only [z3s]
  rw [if_neg (by omega)]
theorem zcQ (a b : List Int) (h : b.length < 4611686018427387904 /\ b.length < LFm) : ∃ v, z3x a b = some v := by
 unfold z3x
 by_cases hl : (a.length : Int) = (b.length : Int)
 ·rw [if_pos hl]
  refine Exists.elim (z1T (b := z3r a b) (fun st => ∃ k : Nat, k <= a.length /\ st = (k : Int)) (fun st => a.length - st.toNat) (fun _ => True) ?_ LFm 0 ⟨0, by omega, rfl⟩ (by omega)) fun r hr => ⟨r, hr.1⟩
  rintro _ ⟨k, hk, rfl⟩
  simp only [z3r]
  by_cases hlt : k < a.length
  ·rw [if_pos (by omega), z1P hlt, Option.bind_some, z1P (show k < b.length by omega), Option.bind_some, z1X (by omega)]
   split
   ·exact .inl ⟨_, rfl, ⟨k + 1, by omega, rfl⟩, by simp only [Int.toNat_natCast]; omega⟩
   ·exact .inr ⟨_, rfl, trivial⟩
  ·rw [if_neg (by omega)]
   exact .inr ⟨_, rfl, trivial⟩
 ·rw [if_neg hl]; exact ⟨_, rfl⟩
theorem zsQ (a b : List (List Int)) (h : b.length < 4611686018427387904 /\ b.length < LFm) (hr : ∀ x ∈ b, x.length < 4611686018427387904 /\ x.length < LFm) : ∃ v, z2B a b = some v := by
 unfold z2B
 by_cases hl : (a.length : Int) = (b.length : Int)
 ·rw [if_pos hl]
  refine Exists.elim (z1T (b := z2d a b) (fun st => ∃ k : Nat, k <= a.length /\ st = (k : Int)) (fun st => a.length - st.toNat) (fun _ => True) ?_ LFm 0 ⟨0, by omega, rfl⟩ (by omega)) fun r hr => ⟨r, hr.1⟩
  rintro _ ⟨k, hk, rfl⟩
  simp only [z2d]
  by_cases hlt : k < a.length
  ·have hkb : k < b.length := by omega
   obtain ⟨v, hv⟩ := zcQ a[k] b[k] (hr _ (List.getElem_mem hkb))
   rw [if_pos (by omega), z1P hlt, Option.bind_some, z1P hkb, Option.bind_some, hv, Option.bind_some, z1X (by omega)]
   split
   ·exact .inl ⟨_, rfl, ⟨k + 1, by omega, rfl⟩, by simp only [Int.toNat_natCast]; omega⟩
   ·exact .inr ⟨_, rfl, trivial⟩
  ·rw [if_neg (by omega)]
   exact .inr ⟨_, rfl, trivial⟩
 ·rw [if_neg hl]; exact ⟨_, rfl⟩
theorem zmc (a b : List ByteArray) (h : b.length < 4611686018427387904 /\ b.length < LFm) : ∃ v, z4c a b = some v := by
 unfold z4c
 by_cases hl : (a.length : Int) = (b.length : Int)
 ·rw [if_pos hl]
  refine Exists.elim (z1T (b := z3s a b) (fun st => ∃ k : Nat, k <= a.length /\ st = (k : Int)) (fun st => a.length - st.toNat) (fun _ => True) ?_ LFm 0 ⟨0, by omega, rfl⟩ (by omega)) fun r hr => ⟨r, hr.1⟩
  rintro _ ⟨k, hk, rfl⟩
  simp only [z3s]
  by_cases hlt : k < a.length
  ·rw [if_pos (by omega), z1P hlt, Option.bind_some, z1P (show k < b.length by omega), Option.bind_some, z1X (by omega)]
   split
   ·exact .inl ⟨_, rfl, ⟨k + 1, by omega, rfl⟩, by simp only [Int.toNat_natCast]; omega⟩
   ·exact .inr ⟨_, rfl, trivial⟩
  ·rw [if_neg (by omega)]
   exact .inr ⟨_, rfl, trivial⟩
 ·rw [if_neg hl]; exact ⟨_, rfl⟩
structure ImgL (z : Imgs) : Prop where
 s1 : z.sets.length <= 128
 s2 : z.class_.length <= 128
 s3 : z.height.length <= 128
 s4 : z.tiles.length <= 128
 s5 : ∀ x ∈ z.tiles, x.length <= 128
 s6 : z.words.length <= 128
 s7 : z.back.length <= 128
theorem zv1 {d : DFA} {m n : Nat} {S : List Nat} (hS : S.length <= 128) : ImgL (z5S d m n S) where
 s1 := by simp only [z5S, z0v]; omega
 s2 := by simp only [z5S, zpE, List.length_map, List.length_range]; omega
 s3 := by simp only [z5S, zvJ, List.length_map, List.length_range]; omega
 s4 := by simp only [z5S, List.length_map, List.length_range]; omega
 s5 x hx := by
  simp only [z5S, List.mem_map] at hx
  obtain ⟨i, hi, rfl⟩ := hx
  have htl : (zeN S i).length <= S.length := z1r (zsr S i) fun t ht => ztu (zvX ht).1
  simp only [z0v]; omega
 s6 := by simp only [z5S, List.length_map, List.length_range]; omega
 s7 := by simp only [z5S, List.length_map, List.length_range]; omega
theorem z4t {k : Nat} (h : k <= 128) : k < 4611686018427387904 /\ k < LFm := by simp only [LFm]; omega
theorem zty {z : Imgs} (h : ImgL z) : z2l z z = some true := by
 unfold z2l
 rw [zcR _ (z4t h.s1), Option.bind_some, if_pos rfl, zcR _ (z4t h.s2), Option.bind_some, if_pos rfl, zcR _ (z4t h.s3), Option.bind_some, if_pos rfl, zsR _ (z4t h.s4) (fun x hx => z4t (h.s5 x hx)), Option.bind_some, if_pos rfl, zmd _ (z4t h.s6), Option.bind_some, if_pos rfl, zmd _ (z4t h.s7), Option.bind_some]
theorem ztx (x : Imgs) {z : Imgs} (h : ImgL z) : ∃ v, z2l x z = some v := by
 obtain ⟨v1, e1⟩ := zcQ x.sets z.sets (z4t h.s1)
 obtain ⟨v2, e2⟩ := zcQ x.class_ z.class_ (z4t h.s2)
 obtain ⟨v3, e3⟩ := zcQ x.height z.height (z4t h.s3)
 obtain ⟨v4, e4⟩ := zsQ x.tiles z.tiles (z4t h.s4) (fun x hx => z4t (h.s5 x hx))
 obtain ⟨v5, e5⟩ := zmc x.words z.words (z4t h.s6)
 obtain ⟨v6, e6⟩ := zmc x.back z.back (z4t h.s7)
 unfold z2l
 rw [e1, e2, e3, e4, e5, e6]
 simp only [Option.bind_some]
 cases v1 <;> cases v2 <;> cases v3 <;> cases v4 <;> cases v5 <;> exact ⟨_, rfl⟩
theorem zjw {d : DFA} {z : Imgs} (h : z7G d = some (z, 0)) (x : Imgs) : z2z d x = z2l x z := by
 unfold z2z
 rw [h, Option.bind_some, if_pos rfl]
 rfl
theorem znl {d : DFA} {m n : Nat} (hd : DfaOk d m n) (hn : n <= 7) : ∀ w ∈ (z5S d m n (z5t d m n)).words, w.size <= 1000 := by
 have h128 : 2 ^ n <= 128 := Nat.pow_le_pow_right (n := 2) (by omega) hn
 have hS := zk5 hd
 intro w hw
 generalize z5t d m n = S at *
 simp only [z5S, List.mem_map, List.mem_range] at hw
 obtain ⟨i, hi, rfl⟩ := hw
 have hle := zpp hd hn hS hi
 have hk : z5F d m n S i < S.length := by omega
 obtain ⟨_, z2⟩ := zkv hd hn hS hk hi (zoa hd hn hS hi)
 have := (zrS hd (hS.lt _ (z1x hk)) z2).2.1
 unfold zi6
 omega
theorem zsZ {α : Type} {l : List α} {k : Nat} (h : k <= l.length) : z6O l 0 (k : Int) = some ((l.drop (0 : Int).toNat).take ((k : Int).toNat - (0 : Int).toNat)) := by
 unfold z6O
 rw [if_pos ⟨by omega, by omega, by omega⟩]
end Go.Proofs.Ytbnnipkanechoaa
end
section
namespace Go.Proofs.Ytbnnipkanechoaa
open Go
set_option maxRecDepth 100000
def zxX (a : Nat) : ByteArray := ⟨#[UInt8.ofNat (IntKind.u8.wrap (IntKind.i64.wrap (97 + (a : Int)))).toNat]⟩
def zvA (W : List ByteArray) (w : ByteArray) : Nat -> Option (List Int)
  | 0 => some []
  | a + 1 => match zvA W w a with
    | none => none
    | some row => if z9E w (zxX a) then (match z1b (z3B W (a : Int) row) LFm (w ++ zxX a, -1) with
      | some (.inl (x, r)) => if x = ((a + 1 : Nat) : Int) then some r else none
      | _ => none) else none
def zwT (m L : Nat) : Bool := match zaK m L with
  | none => false
  | some W => decide (1 <= W.length) && decide (W.length <= 7) && W.all fun w => match zvA W w m with
    | none => false
    | some r => decide (r.length = m) && r.all fun x => decide (0 <= x /\ x < (W.length : Int))
theorem zwx : zwT 1 1 = true /\ zwT 1 2 = true /\ zwT 2 1 = true /\ zwT 2 2 = true := ⟨by kernel_rfl, by kernel_rfl, by kernel_rfl, by kernel_rfl⟩
theorem zxL {m : Nat} {W : List ByteArray} {i : Int} {fs : List Bool} {rs : List (List Int)} {w : ByteArray} {v : Int × Tape} {r : List Int} (hm : m <= 6) (h : zvA W w m = some r) :
    z1b (z3b (m : Int) W i fs rs w v) LFm (0, []) = chk (z2i 24 (rs.length + 1)) (z0B (IntKind.i64.wrap (i + 1), v.2.l, v.2.at_, fs ++ [decide (v.1 = 1)], rs ++ [r])) := by
  have key : ∀ a, a <= m -> ∃ r', zvA W w a = some r' := by
    have : ∀ j a, a + j = m -> ∃ r', zvA W w a = some r' := by
      intro j
      induction j with
      | zero => intro a ha; obtain rfl : a = m := by omega
                exact ⟨r, h⟩
      | succ j ih =>
        intro a ha
        obtain ⟨r', hr'⟩ := ih (a + 1) (by omega)
        rw [zvA] at hr'
        split at hr'
        · cases hr'
        · rename_i row hrow; exact ⟨row, hrow⟩
    intro a ha
    exact this (m - a) a (by omega)
  refine z1I (s := ((0 : Int), ([] : List Int))) m (fun a => ((a : Int), (zvA W w a).getD [])) rfl (by simp only [LFm]; omega) (fun a ha => ?_) ?_
  · obtain ⟨r1, h1⟩ := key a (by omega)
    obtain ⟨r2, h2⟩ := key (a + 1) (by omega)
    rw [h1, h2, Option.getD_some, Option.getD_some]
    rw [zvA, h1] at h2
    simp only [z3b]
    rw [if_pos (by omega)]
    dsimp only at h2
    split at h2
    case isFalse => cases h2
    rename_i hc
    change chk (z9E w (zxX a)) (z1b (z3B W (a : Int) r1) LFm (w ++ zxX a, -1)) = _
    rw [z0K _ hc]
    split at h2
    · rename_i x q hq
      split at h2
      · rename_i hx
        cases h2
        rw [← hx]
        exact hq
      · cases h2
    · cases h2
  · simp only [z3b]
    rw [if_neg (by omega), h, Option.getD_some]
theorem zok {t : Tape} (ht : TapeOk t) (m : Nat) (hm : 1 <= m /\ m <= 2) : ∃ d t' n, z3K t m = some (d, t') /\ DfaOk d m n /\ n <= 7 /\ TapeOk t' := by
  unfold z3K
  obtain ⟨v, t1, e1, v0, v1, ht1⟩ := z6K ht 2 (by omega) (by omega)
  simp only [e1, Option.bind_some]
  obtain ⟨k, rfl⟩ := Int.eq_ofNat_of_zero_le v0
  have hw : IntKind.i64.wrap (1 + (k : Int)) = ((k + 1 : Nat) : Int) := by rw [z2E (by omega) (by omega)]; omega
  rw [hw]
  have hchk : zwT m (k + 1) = true := by
    obtain ⟨c1, c2, c3, c4⟩ := zwx
    rcases (by omega : (m = 1 /\ k = 0) ∨ (m = 1 /\ k = 1) ∨ (m = 2 /\ k = 0) ∨ (m = 2 /\ k = 1)) with ⟨rfl, rfl⟩ | ⟨rfl, rfl⟩ | ⟨rfl, rfl⟩ | ⟨rfl, rfl⟩
    · exact c1
    · exact c2
    · exact c3
    · exact c4
  unfold zwT at hchk
  split at hchk
  · cases hchk
  rename_i W hW
  simp only [Bool.and_eq_true, decide_eq_true_eq, List.all_eq_true] at hchk
  obtain ⟨⟨hW1, hW7⟩, hrow⟩ := hchk
  rw [hW, Option.bind_some]
  refine Exists.elim (z1T (b := z3J (m : Int) W) (fun z => 0 <= z.1 /\ z.1 <= W.length /\ TapeOk ⟨z.2.1, z.2.2.1⟩ /\ (z.2.2.2.1.length : Int) = z.1 /\ (z.2.2.2.2.length : Int) = z.1 /\ ∀ r ∈ z.2.2.2.2, z9e m W.length r) (fun z => W.length + 1 - z.1.toNat)
    (fun r => DfaOk r.1 m W.length /\ TapeOk r.2) ?_ LFm (0, t1.l, t1.at_, [], []) ⟨by simp, by simp, ht1, by simp, by simp, by simp⟩ (by simp only [LFm]; omega)) fun r h => ⟨r.1, r.2, W.length, h.1, h.2.1, hW7, h.2.2⟩
  rintro ⟨i, tl, ta, fs, rs⟩ ⟨i0, i1, i2, i3, i4, i5⟩
  simp only at i0 i1 i2 i3 i4 i5 ⊢
  obtain ⟨i, rfl⟩ := Int.eq_ofNat_of_zero_le i0
  simp only [z3J]
  by_cases hi : (i : Int) < (W.length : Int)
  · left
    have hi' : i < W.length := by omega
    rw [if_pos hi, z1P hi', Option.bind_some]
    obtain ⟨u, t3, e3, u0, u1, ht3⟩ := z6K i2 2 (by omega) (by omega)
    rw [e3, Option.bind_some, z0K _ (by unfold z2i; omega)]
    have hr := hrow _ (List.getElem_mem hi')
    split at hr
    · cases hr
    rename_i r hr0
    simp only [Bool.and_eq_true, decide_eq_true_eq, List.all_eq_true] at hr
    rw [zxL (by omega) hr0, z0K _ (by unfold z2i; omega), z2E (by omega) (by omega)]
    refine ⟨_, rfl, ⟨by simp only; omega, by simp only; omega, ht3, by simp only [List.length_append, List.length_singleton]; omega, by simp only [List.length_append, List.length_singleton]; omega, fun y hy => ?_⟩, by simp only; omega⟩
    rcases zd0.1 hy with h | rfl
    · exact i5 y h
    · exact ⟨hr.1, fun x hx => hr.2 x hx⟩
  · right
    rw [if_neg hi]
    exact ⟨_, rfl, ⟨rfl, by omega, by omega, by omega, by simp only; omega, by simp only; omega, by simp only; omega, by simp only; omega, i5⟩, i2⟩
theorem zxN {t : Tape} (ht : TapeOk t) (m most : Nat) (hm : 1 <= m /\ m <= 2) (hk : 1 <= most /\ most <= 7) : ∃ d t' n, z4R t m most = some (d, t') /\ DfaOk d m n /\ n <= 7 /\ TapeOk t' := by
  unfold z4R
  obtain ⟨v, t1, e1, v0, v1, ht1⟩ := z6K ht 6 (by omega) (by omega)
  simp only [e1, Option.bind_some]
  split
  · obtain ⟨d, t', n, e, h1, h2, h3⟩ := zqZ ht1 m most (by omega) (by omega)
    exact ⟨d, t', n, by rw [e, Option.bind_some], h1, by omega, h3⟩
  · split
    · have : (if (4 : Int) < (most : Int) then (4 : Int) else (most : Int)) = ((min most 4 : Nat) : Int) := by split <;> omega
      rw [this]
      obtain ⟨d, t', n, e, h1, h2, h3⟩ := zuR ht1 m (min most 4) (by omega) (by omega)
      exact ⟨d, t', n, by rw [e, Option.bind_some], h1, by omega, h3⟩
    · split
      · obtain ⟨d, t', n, e, h1, h2, h3⟩ := zok ht1 m hm
        exact ⟨d, t', n, by rw [e, Option.bind_some], h1, h2, h3⟩
      · obtain ⟨d, t', n, e, h1, h2, h3⟩ := zvL ht1 m most (by omega) (by omega)
        exact ⟨d, t', n, by rw [e, Option.bind_some], h1, by omega, h3⟩
end Go.Proofs.Ytbnnipkanechoaa
end
section
namespace Go.Proofs.Ytbnnipkanechoaa
open Go
set_option maxRecDepth 100000
theorem zcP (a b : List Int) : z3x a b = z3x b a := by
 unfold z3x
 by_cases hl : (a.length : Int) = (b.length : Int)
 ·rw [if_pos hl, if_pos hl.symm]
  have : z3r a b = z3r b a := by
   funext w
   simp only [z3r]
   rw [hl]
   split
   ·cases atI a w <;> cases atI b w
    ·rfl
    ·rfl
    ·rfl
    ·rename_i x y
     simp only [Option.bind_some]
     by_cases h : x = y
     ·rw [if_pos h, if_pos h.symm]
     ·rw [if_neg h, if_neg (fun e => h e.symm)]
   ·rfl
  rw [this]
 ·rw [if_neg hl, if_neg (fun e => hl e.symm)]
theorem zsP (a b : List (List Int)) : z2B a b = z2B b a := by
 unfold z2B
 by_cases hl : (a.length : Int) = (b.length : Int)
 ·rw [if_pos hl, if_pos hl.symm]
  have : z2d a b = z2d b a := by
   funext w
   simp only [z2d]
   rw [hl]
   split
   ·cases atI a w <;> cases atI b w
    ·rfl
    ·rfl
    ·rfl
    ·rename_i x y
     simp only [Option.bind_some]
     rw [zcP x y]
   ·rfl
  rw [this]
 ·rw [if_neg hl, if_neg (fun e => hl e.symm)]
theorem zmb (a b : List ByteArray) : z4c a b = z4c b a := by
 unfold z4c
 by_cases hl : (a.length : Int) = (b.length : Int)
 ·rw [if_pos hl, if_pos hl.symm]
  have : z3s a b = z3s b a := by
   funext w
   simp only [z3s]
   rw [hl]
   split
   ·cases atI a w <;> cases atI b w
    ·rfl
    ·rfl
    ·rfl
    ·rename_i x y
     simp only [Option.bind_some]
     by_cases h : x = y
     ·rw [if_pos h, if_pos h.symm]
     ·rw [if_neg h, if_neg (fun e => h e.symm)]
   ·rfl
  rw [this]
 ·rw [if_neg hl, if_neg (fun e => hl e.symm)]
theorem ztw (x y : Imgs) : z2l x y = z2l y x := by
 unfold z2l
 rw [zcP x.sets, zcP x.class_, zcP x.height, zsP x.tiles, zmb x.words, zmb x.back]
theorem zwI (a : List (List Int)) (h : a.length <= 1000) (hr : ∀ x ∈ a, x.length <= 1000) : z8W a = some a := by
 unfold z8W
 refine z1I (s := ((0 : Int), ([] : List (List Int)))) a.length (fun k => ((k : Int), a.take k)) rfl (by simp only [LFm]; omega) (fun k hk => ?_) ?_
 ·have h1 := hr _ (List.getElem_mem hk)
  have h2 : (a.take k).length <= k := by rw [List.length_take]; omega
  simp only [z7a]
  rw [if_pos (by omega), z1P hk, Option.bind_some, z0K _ (by unfold z2i; omega), z0K _ (by unfold z2i; omega), z1X (by omega), List.take_succ_eq_append_getElem hk]
 ·simp only [z7a]
  rw [if_neg (by omega), List.take_length]
theorem zeG {d : DFA} {z : Imgs} (h : z7G d = some (z, 0)) (hl : ImgL z) (y : Imgs) {R : Bool -> Bool -> Option Bool} (hR : ∀ v, R v v = some true) : ((z2z d y).bind fun a => (z2l z y).bind fun b => R a b) = some true := by
 obtain ⟨v, hv⟩ := ztx y hl
 rw [zjw h, hv, Option.bind_some, ztw z y, hv, Option.bind_some, hR]
theorem zjt (v : Bool) : (if (v == v) = true then (zbx).bind fun q => some q else some false) = some true := by
 rw [if_pos (by simp)]; rfl
theorem zto (l : List Int) (w0 : l.length <= maxLen) (z0 : ∀ x ∈ l, (Lit.int .i64 x).wf = true) (a : Int) (w1 : (Lit.int .i64 a).wf = true) (b : Int) (w2 : (Lit.int .i64 b).wf = true) (c : Int) (w3 : (Lit.int .i64 c).wf = true) : ∃ outs, L 7 [.sl l.length (l.map fun x => .sc (.int .i64 x)), .sc (.int .i64 a), .sc (.int .i64 b), .sc (.int .i64 c)] = some (bT true, outs) := by
 obtain ⟨t0, e0, h0⟩ := zxm l
 obtain ⟨m, t1, e1, m1, m2, h1⟩ := zr5 h0
 obtain ⟨d, t2, n, e2, hd, hn, h2⟩ := zxN h1 m 4 ⟨m1, m2⟩ (by omega)
 have h128 : 2 ^ n <= 128 := Nat.pow_le_pow_right (n := 2) (by omega) hn
 have hS := zk5 hd
 have hSl := z1r hS.nd hS.lt
 have h1S := hS.one 0 (by have := hd.n1; omega)
 have hpos := List.length_pos_of_mem h1S
 have hOf := zAM hd hn
 have hl := zv1 (d := d) (m := m) (n := n) (S := z5t d m n) (by omega)
 have l1 : (z5S d m n (z5t d m n)).sets.length = (z5t d m n).length := z0v _
 have l2 : (z5S d m n (z5t d m n)).class_.length = (z5t d m n).length := by simp [z5S, zpE]
 have l3 : (z5S d m n (z5t d m n)).height.length = (z5t d m n).length := by simp [z5S, zvJ]
 have l4 : (z5S d m n (z5t d m n)).tiles.length = (z5t d m n).length := by simp [z5S]
 have l5 : (z5S d m n (z5t d m n)).words.length = (z5t d m n).length := by simp [z5S]
 have l6 : (z5S d m n (z5t d m n)).back.length = (z5t d m n).length := by simp [z5S]
 have hw : ∀ w ∈ (z5S d m n (z5t d m n)).words, w.size <= 1000 := znl hd hn
 obtain ⟨k, e4, k0, k1⟩ := z5R b ((z5t d m n).length : Int) (by omega) (by omega)
 obtain ⟨k, rfl⟩ := Int.eq_ofNat_of_zero_le k0
 have hk : k < (z5t d m n).length := by omega
 obtain ⟨q, e5, q0, q1⟩ := z5R a 6 (by omega) (by omega)
 obtain ⟨p1, f1, _, _⟩ := z5R c 16 (by omega) (by omega)
 obtain ⟨p2, f2, _, _⟩ := z5R c 5 (by omega) (by omega)
 obtain ⟨p3, f3, _, _⟩ := z5R c 4 (by omega) (by omega)
 have key : z4w l a b c = some true := by
  unfold z4w
  have e2' : z4R t1 (m : Int) 4 = some (d, t2) := e2
  rw [e0, Option.bind_some, e1, Option.bind_some]
  simp only
  rw [e2', Option.bind_some]
  simp only
  rw [zuO hd hn, Option.bind_some, if_pos rfl]
  generalize z5S d m n (z5t d m n) = x at *
  simp only
  have g1 := hl.s1
  have g2 := hl.s2
  have g3 := hl.s3
  have g4 := hl.s4
  have g6 := hl.s6
  have g7 := hl.s7
  rw [zjw hOf, zty hl, Option.bind_some, if_pos rfl, l1, e4, Option.bind_some, z0K _ (by unfold z2i; omega), z0K _ (by unfold z2i; omega), z0K _ (by unfold z2i; omega), zwI _ (by omega) (fun r hr => by have := hl.s5 r hr; omega), Option.bind_some, z0K _ (by unfold z2i; omega), z0K _ (by unfold z2i; omega), e5, Option.bind_some]
  by_cases c0 : q = 0
  ·rw [if_pos c0, f1, Option.bind_some, z1P (show k < x.sets.length by omega), Option.bind_some]
   exact zeG hOf hl _ zjt
  rw [if_neg c0]
  by_cases c1 : q = 1
  ·rw [if_pos c1, f2, Option.bind_some, z1P (show k < x.class_.length by omega), Option.bind_some]
   exact zeG hOf hl _ zjt
  rw [if_neg c1]
  by_cases c2 : q = 2
  ·rw [if_pos c2, f3, Option.bind_some, z1P (show k < x.height.length by omega), Option.bind_some]
   exact zeG hOf hl _ zjt
  rw [if_neg c2]
  by_cases c3 : q = 3
  ·have hkt : k < x.tiles.length := by omega
   have := hl.s5 _ (List.getElem_mem hkt)
   rw [if_pos c3, z1P hkt, Option.bind_some, f2, Option.bind_some, z0K _ (by unfold z2i; omega)]
   exact zeG hOf hl _ zjt
  rw [if_neg c3]
  by_cases c4 : q = 4
  ·have hkw : k < x.words.length := by omega
   have := hw _ (List.getElem_mem hkw)
   rw [if_pos c4, z1P hkw, Option.bind_some, z0K _ (by unfold z9E; simp; omega)]
   exact zeG hOf hl _ zjt
  rw [if_neg c4]
  rw [if_pos (by omega), zsZ (l := x.back) (by omega), Option.bind_some]
  exact zeG hOf hl _ zjt
 exact ⟨_, za0 key⟩
end Go.Proofs.Ytbnnipkanechoaa
end
section
namespace Go.Proofs.Ytbnnipkanechoaa
open Go.RowKit
def Arr (w : World) (g n : Nat) (f : Nat -> Value) : Prop :=
 ∀ i, i < n -> w.cell? ⟨g, i, none⟩ = some (f i) /\ w.frozen? ⟨g, i, none⟩ = false
theorem Arr.set {w : World} {g n : Nat} {f : Nat -> Value} (h : Arr w g n f) (j : Nat) (hj : j < n) (c : Value) :
  Arr (w.setCell ⟨g, j, none⟩ c) g n (fun i => if i = j then c else f i) := by
 intro i hi
 refine ⟨?_, by rw [World.frozen?_setCell]; exact (h i hi).2⟩
 by_cases hij : i = j
 ·subst hij
  rw [World.cell?_setCell_same _ _ _ (h i hi).1]; simp
 ·rw [World.cell?_setCell_other _ _ _ _ (fun e => hij (by cases e; rfl)), (h i hi).1]; simp [hij]
theorem Arr.setOther {w : World} {g n : Nat} {f : Nat -> Value} (h : Arr w g n f) {g' : Nat} (hg : g ≠ g') (j : Nat) (c : Value) : Arr (w.setCell ⟨g', j, none⟩ c) g n f := by
 intro i hi
 refine ⟨?_, by rw [World.frozen?_setCell]; exact (h i hi).2⟩
 rw [World.cell?_setCell_other _ _ _ _ (fun e => hg (by cases e; rfl))]; exact (h i hi).1
theorem Arr.drew {w : World} {g n : Nat} {f : Nat -> Value} (h : Arr w g n f) : Arr w.drew g n f := h
theorem Arr.congr {w : World} {g n : Nat} {f f' : Nat -> Value} (h : Arr w g n f) (e : ∀ i, i < n -> f i = f' i) : Arr w g n f' :=
 fun i hi => by rw [← e i hi]; exact h i hi
theorem Arr.below {w w' : World} {g n B : Nat} {f : Nat -> Value} (h : Arr w g n f) (hb : Below B w w') (hg : g < B) : Arr w' g n f :=
 fun i hi => ⟨(hb.cell (p := ⟨g, i, none⟩) hg).trans (h i hi).1, (hb.frozen (p := ⟨g, i, none⟩) hg).trans (h i hi).2⟩
theorem Arr.grown {w w' : World} {g n : Nat} {row : Option Nat} {f : Nat -> Value} (h : Arr w g n f) (hb : w.grownBy w' row) (hg : some g ≠ row) : Arr w' g n f :=
 fun i hi => by
  have hlt := World.block_lt_of_cell? w _ (h i hi).1
  have e := hb.block g hlt hg
  exact ⟨(World.cell?_of_block (a := ⟨g, i, none⟩) e).trans (h i hi).1, (World.frozen?_of_block (a := ⟨g, i, none⟩) e).trans (h i hi).2⟩
theorem Arr.made (w : World) (z : Value) (n : Nat) (e : TypeId) : Arr (w.alloc (.cells (madeCells #[z] n) e)) w.heap.size n (fun _ => z) := by
 intro i hi
 refine ⟨?_, by rw [World.frozen?_alloc_new]⟩
 rw [World.cell?_alloc_new]
 simp [madeCells, hi, Nat.mod_one]
theorem Arr.lt {w : World} {g n : Nat} {f : Nat -> Value} (h : Arr w g n f) (hn : 0 < n) : g < w.heap.size := World.block_lt_of_cell? w _ (h 0 hn).1
theorem Arr.get {w : World} {g n : Nat} {f : Nat -> Value} (h : Arr w g n f) (i : Nat) (hi : i < n) {v : Value} (e : f i = v) : w.cell? ⟨g, i, none⟩ = some v := by rw [(h i hi).1, e]
theorem Arr.free {w : World} {g n : Nat} {f : Nat -> Value} (h : Arr w g n f) (i : Nat) (hi : i < n) : w.frozen? ⟨g, i, none⟩ = false := (h i hi).2
end Go.Proofs.Ytbnnipkanechoaa
end
