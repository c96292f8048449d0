/- Proved here: a part of the proof of the law at hand, in one text: no condition. -/
import Derived.Test.YtodliknibbafeaaMHD3
set_option linter.unusedVariables false
set_option linter.unusedSimpArgs false
section
namespace Go.Proofs.Ytodliknibbafeaa
open Go
set_option maxRecDepth 100000
def zuB (a : Nat) : ByteArray := ⟨#[UInt8.ofNat (97 + a)]⟩
abbrev RS := List Nat × List ByteArray
def zkd (d : DFA) (i a : Nat) (st : RS) : RS := if mvN d (st.1.getD i 0) a ∈ st.1 then st else (st.1 ++ [mvN d (st.1.getD i 0) a], st.2 ++ [st.2.getD i ByteArray.empty ++ zuB a])
def z6A (d : DFA) (i : Nat) (st : RS) : Nat → RS
  | 0 => st
  | a + 1 => zkd d i a (z6A d i st a)
def z5x (d : DFA) (m s : Nat) : Nat → RS
  | 0 => ([s], [ByteArray.empty])
  | k + 1 => if k < (z5x d m s k).1.length then z6A d k (z5x d m s k) m else z5x d m s k
structure RInv (d : DFA) (m n s : Nat) (st : RS) : Prop where
  nd : st.1.Nodup
  lt : ∀ x ∈ st.1, x < 2 ^ n
  len : st.2.length = st.1.length
  f0 : st.1[0]? = some s
  w0 : st.2[0]? = some ByteArray.empty
  ok : ∀ i, i < st.1.length → (st.2.getD i ByteArray.empty).size ≤ i ∧ (∀ c ∈ (st.2.getD i ByteArray.empty).data.toList, 97 ≤ c.toNat ∧ c.toNat < 97 + m) ∧ z4q d s (st.2.getD i ByteArray.empty).data.toList = st.1.getD i 0
theorem z5a {α : Type} {l r : List α} {i : Nat} (d : α) (h : i < l.length) : (l ++ r).getD i d = l.getD i d := by
  rw [List.getD, List.getD, List.getElem?_append_left h]
theorem z7j {α : Type} {l : List α} {x d : α} {i : Nat} (h : i = l.length) : (l ++ [x]).getD i d = x := by
  subst h; simp [List.getD]
theorem z0F {l : List Nat} {i : Nat} (h : i < l.length) : l.getD i 0 ∈ l := by
  rw [List.getD, List.getElem?_eq_getElem h]; exact List.getElem_mem h
theorem zhU {α : Type} : ∀ {l r : List α}, l.Nodup → (∀ x ∈ l, x ∈ r) → l.length ≤ r.length
  | [], r, _, _ => by simp
  | x :: l, r, hn, hs => by
    obtain ⟨a, b, rfl⟩ := List.append_of_mem (hs x (List.mem_cons_self ..))
    have hn' := List.nodup_cons.1 hn
    have := zhU (r := a ++ b) hn'.2 fun y hy => by
      have h1 := hs y (List.mem_cons_of_mem _ hy)
      have hne : y ≠ x := fun e => hn'.1 (e ▸ hy)
      rcases List.mem_append.1 h1 with h | h
      · exact List.mem_append.2 (.inl h)
      · rcases List.mem_cons.1 h with h | h
        · exact absurd h hne
        · exact List.mem_append.2 (.inr h)
    simp only [List.length_cons, List.length_append] at *
    omega
theorem z1E {l : List Nat} {N : Nat} (hn : l.Nodup) (hl : ∀ x ∈ l, x < N) : l.length ≤ N := by
  have := zhU hn (r := List.range N) fun x hx => List.mem_range.2 (hl x hx)
  simpa using this
theorem z7e (a : Nat) : (zuB a).data.toList = [UInt8.ofNat (97 + a)] := rfl
theorem zig (u v : ByteArray) : (u ++ v).data.toList = u.data.toList ++ v.data.toList := by simp
theorem zcK (u v : ByteArray) : (u ++ v).size = u.size + v.size := by simp
theorem z5r (a : Nat) : (zuB a).size = 1 := rfl
theorem zcB {a : Nat} (h : a < 26) : (UInt8.ofNat (97 + a)).toNat = 97 + a := by simp [UInt8.toNat_ofNat']; omega
theorem zu9 {d : DFA} {m n s : Nat} (hd : DfaOk d m n) {st : RS} (h : RInv d m n s st) {i a : Nat} (hi : i < st.1.length) (ha : a < m) :
    RInv d m n s (zkd d i a st) ∧ mvN d (st.1.getD i 0) a ∈ (zkd d i a st).1 ∧ ∃ S W, (zkd d i a st).1 = st.1 ++ S ∧ (zkd d i a st).2 = st.2 ++ W := by
  have hm6 := hd.m6
  unfold zkd
  split
  · rename_i hm
    exact ⟨h, hm, [], [], by simp, by simp⟩
  · rename_i hm
    obtain ⟨o1, o2, o3⟩ := h.ok i hi
    refine ⟨⟨?_, ?_, by simp [h.len], ?_, ?_, ?_⟩, by simp, _, _, rfl, rfl⟩
    · refine List.nodup_append.2 ⟨h.nd, by simp, fun x hx y hy => ?_⟩
      obtain rfl : y = _ := by simpa using hy
      exact fun e => hm (e ▸ hx)
    · intro x hx
      rcases List.mem_append.1 hx with hx | hx
      · exact h.lt x hx
      · obtain rfl : x = _ := by simpa using hx
        exact zhi hd ha
    · rw [List.getElem?_append_left (by omega)]; exact h.f0
    · rw [List.getElem?_append_left (by rw [h.len]; omega)]; exact h.w0
    · intro j hj
      simp only [List.length_append, List.length_singleton] at hj
      by_cases e : j = st.1.length
      · rw [z7j e, z7j (by rw [h.len]; exact e), zcK, zig, z7e, z5r, z6v, o3]
        refine ⟨by omega, fun c hc => ?_, ?_⟩
        · rcases List.mem_append.1 hc with hc | hc
          · exact o2 c hc
          · obtain rfl := List.mem_singleton.1 hc
            rw [zcB (by omega)]; omega
        · simp only [z4q]
          rw [zcB (by omega), Nat.add_sub_cancel_left]
      · rw [z5a _ (show j < st.2.length by rw [h.len]; omega), z5a _ (show j < st.1.length by omega)]
        exact h.ok j (by omega)
theorem zhY {d : DFA} {m n s : Nat} (hd : DfaOk d m n) {st : RS} (h : RInv d m n s st) {i : Nat} (hi : i < st.1.length) : ∀ a, a ≤ m →
    RInv d m n s (z6A d i st a) ∧ (∀ b, b < a → mvN d (st.1.getD i 0) b ∈ (z6A d i st a).1) ∧ (∃ S W, (z6A d i st a).1 = st.1 ++ S ∧ (z6A d i st a).2 = st.2 ++ W)
  | 0, _ => ⟨h, fun b hb => by omega, [], [], by simp [z6A], by simp [z6A]⟩
  | a + 1, ha => by
    obtain ⟨h1, h2, S, W, h3, h4⟩ := zhY hd h hi a (by omega)
    have hi' : i < (z6A d i st a).1.length := by rw [h3, List.length_append]; omega
    obtain ⟨k1, k2, S', W', k3, k4⟩ := zu9 hd h1 hi' (show a < m by omega)
    have e : (z6A d i st a).1.getD i 0 = st.1.getD i 0 := by rw [h3, z5a _ hi]
    rw [e] at k2
    refine ⟨k1, fun b hb => ?_, S ++ S', W ++ W', by rw [z6A, k3, h3, List.append_assoc], by rw [z6A, k4, h4, List.append_assoc]⟩
    by_cases hb' : b = a
    · subst hb'; exact k2
    · rw [z6A, k3]; exact List.mem_append.2 (.inl (h2 b (by omega)))
theorem z8V {d : DFA} {m n s : Nat} (hd : DfaOk d m n) (hs : s < 2 ^ n) : ∀ k, RInv d m n s (z5x d m s k) ∧ ∀ j, j < k → j < (z5x d m s k).1.length → ∀ a, a < m → mvN d ((z5x d m s k).1.getD j 0) a ∈ (z5x d m s k).1
  | 0 => ⟨⟨by simp [z5x], by simpa [z5x] using hs, rfl, rfl, rfl, fun i hi => by
      obtain rfl : i = 0 := by simpa [z5x] using hi
      exact ⟨Nat.le_refl _, fun c hc => by simp [z5x, List.getD] at hc, rfl⟩⟩, fun j hj => by omega⟩
  | k + 1 => by
    obtain ⟨h1, h2⟩ := z8V hd hs k
    unfold z5x
    split
    · rename_i hk
      obtain ⟨k1, k2, S, W, k3, k4⟩ := zhY hd h1 hk m (Nat.le_refl _)
      refine ⟨k1, fun j hj hjl a ha => ?_⟩
      by_cases e : j = k
      · subst e
        have := k2 a ha
        rwa [show (z6A d j (z5x d m s j) m).1.getD j 0 = (z5x d m s j).1.getD j 0 by rw [k3, z5a _ hk]]
      · have hj' : j < (z5x d m s k).1.length := by omega
        have := h2 j (by omega) hj' a ha
        rw [show (z6A d k (z5x d m s k) m).1.getD j 0 = (z5x d m s k).1.getD j 0 by rw [k3, z5a _ hj'], k3]
        exact List.mem_append.2 (.inl this)
    · rename_i hk
      exact ⟨h1, fun j hj hjl a ha => h2 j (by omega) hjl a ha⟩
theorem zmb {d : DFA} {m n s : Nat} (hd : DfaOk d m n) (hs : s < 2 ^ n) (k : Nat) : (z5x d m s k).1.length ≤ 2 ^ n := z1E (z8V hd hs k).1.nd (z8V hd hs k).1.lt
theorem zhB {d : DFA} {m s : Nat} {k : Nat} (h : ¬ k < (z5x d m s k).1.length) : ∀ j, k ≤ j → z5x d m s j = z5x d m s k
  | 0, hj => by
    obtain rfl : k = 0 := by omega
    rfl
  | j + 1, hj => by
    by_cases e : k = j + 1
    · rw [e]
    · have ih := zhB h j (by omega)
      rw [z5x, ih, if_neg (by omega)]
def z1d (d : DFA) (m n s : Nat) : RS := z5x d m s (2 ^ n)
theorem zcl {d : DFA} {m n s : Nat} (hd : DfaOk d m n) (hs : s < 2 ^ n) {x a : Nat} (hx : x ∈ (z1d d m n s).1) (ha : a < m) : mvN d x a ∈ (z1d d m n s).1 := by
  obtain ⟨i, hi, rfl⟩ := List.getElem_of_mem hx
  have hl := zmb hd hs (2 ^ n)
  have := (z8V hd hs (2 ^ n)).2 i (by unfold z1d at hi; omega) hi a ha
  have e : (z5x d m s (2 ^ n)).1.getD i 0 = (z1d d m n s).1[i] := by
    show (z1d d m n s).1.getD i 0 = _
    rw [List.getD, List.getElem?_eq_getElem hi, Option.getD_some]
  rw [e] at this
  exact this
theorem z6b {d : DFA} {m n s : Nat} (hd : DfaOk d m n) (hs : s < 2 ^ n) : RInv d m n s (z1d d m n s) := (z8V hd hs _).1
def toI (l : List Nat) : List Int := l.map fun x => ((x : Nat) : Int)
theorem z0l (l : List Nat) : (toI l).length = l.length := by simp [toI]
theorem z4R (l : List Nat) (x : Nat) : toI (l ++ [x]) = toI l ++ [((x : Nat) : Int)] := by simp [toI]
theorem z2C {l : List Nat} {i : Nat} (h : i < l.length) : atI (toI l) (i : Int) = some ((l.getD i 0 : Nat) : Int) := by
  rw [z2y (by rw [z0l]; exact h)]
  simp [toI, List.getD, h]
theorem zvM {l : List ByteArray} {i : Nat} (h : i < l.length) : atI l (i : Int) = some (l.getD i ByteArray.empty) := by
  rw [z2y h, List.getD, List.getElem?_eq_getElem h, Option.getD_some]
def zkx (n : Nat) (S : List Nat) : List Bool := (List.range (2 ^ n)).map fun x => decide (x ∈ S)
theorem zxz {n : Nat} {S : List Nat} {x : Nat} (h : x < 2 ^ n) : atI (zkx n S) (x : Int) = some (decide (x ∈ S)) := by
  rw [z2y (by simpa [zkx] using h)]; simp [zkx]
theorem zsL {n : Nat} {S : List Nat} {x : Nat} : (zkx n S).set x true = zkx n (S ++ [x]) := by
  apply List.ext_getElem (by simp [zkx])
  intro i h1 h2
  simp only [zkx, List.getElem_set, List.getElem_map, List.getElem_range, List.mem_append, List.mem_singleton]
  by_cases e : x = i
  · subst e; simp
  · rw [if_neg e]
    have : ¬ i = x := fun h => e h.symm
    simp [this]
theorem zsM {n s : Nat} : (List.replicate (2 ^ n) false).set s true = zkx n [s] := by
  have : List.replicate (2 ^ n) false = zkx n [] := by
    apply List.ext_getElem (by simp [zkx])
    intro i h1 h2
    simp [zkx]
  rw [this, zsL]; rfl
def zyU (S : List Nat) : List (Int × Bool) := S.map fun x => (((x : Nat) : Int), true)
theorem map_set {x : Nat} : ∀ {S : List Nat}, x ∉ S → zfc ((x : Nat) : Int) true (zyU S) = zyU (S ++ [x])
  | [], _ => rfl
  | y :: S, h => by
    have ih := map_set (x := x) (S := S) (fun hh => h (List.mem_cons_of_mem _ hh))
    have hne : y ≠ x := fun e => h (by simp [e])
    simp only [zyU, List.map_cons, zfc, List.cons_append]
    rw [if_neg (by omega)]
    congr 1
theorem zmr {a : Nat} (h : a < 26) : (⟨#[UInt8.ofNat (IntKind.u8.wrap (IntKind.i64.wrap (97 + (a : Int)))).toNat]⟩ : ByteArray) = zuB a := by
  rw [z2B (by omega) (by omega), zyu (by omega) (by omega)]
  have : (97 + (a : Int)).toNat = 97 + a := by omega
  rw [this]; rfl
theorem zmw {d : DFA} {m n s : Nat} (hd : DfaOk d m n) (hn : n ≤ 12) {st : RS} (h : RInv d m n s st) {i : Nat} (hi : i < st.1.length) :
    z0u (z3u d i) LFm (0, zkx n st.1, toI st.1, st.2) = z0n (((i + 1 : Nat) : Int), zkx n (z6A d i st m).1, toI (z6A d i st m).1, (z6A d i st m).2) := by
  have h12 := zhK hn
  have hm6 := hd.m6
  have hl := z1E h.nd h.lt
  refine z1a (s := ((0 : Int), zkx n st.1, toI st.1, st.2)) m (fun a => ((a : Int), zkx n (z6A d i st a).1, toI (z6A d i st a).1, (z6A d i st a).2)) rfl (by simp only [LFm]; omega) (fun a ha => ?_) ?_
  · obtain ⟨k1, _, S, W, k3, k4⟩ := zhY hd h hi a (by omega)
    have hl2 := z1E k1.nd k1.lt
    have hi' : i < (z6A d i st a).1.length := by rw [k3, List.length_append]; omega
    have hx : (z6A d i st a).1.getD i 0 < 2 ^ n := k1.lt _ (z0F hi')
    obtain ⟨o1, _, _⟩ := k1.ok i hi'
    simp only [z3u]
    rw [if_pos (by rw [hd.lt]; omega), z2C hi']
    simp only [Option.bind_some]
    rw [zsJ hd hn hx ha]
    simp only [Option.bind_some]
    rw [zxz (zhi hd ha)]
    simp only [Option.bind_some, decide_eq_true_eq]
    rw [z1O (by omega), z6A]
    unfold zkd
    have hml := zhi hd (s := (z6A d i st a).1.getD i 0) ha
    have hlt := hd.lt
    clear hd h k3 k4
    revert hml
    generalize z6A d i st a = st' at *
    generalize mvN d (st'.1.getD i 0) a = x
    intro hml
    by_cases hm : x ∈ st'.1
    · rw [if_pos hm, if_pos hm]
    · rw [if_neg hm, if_neg hm, z0w _ (by unfold z2Q; rw [z0l]; omega), zvM (by rw [k1.len]; exact hi'), Option.bind_some]
      rw [zmr (by omega), z0w _ (by unfold zap; rw [z5r]; omega), z0w _ (by unfold z2Q; rw [k1.len]; omega), Int.toNat_natCast, zsL]
      rw [z4R]
  · simp only [z3u]
    rw [if_neg (by rw [hd.lt]; omega), z1O (by omega)]
theorem zuk {d : DFA} {m n s : Nat} (hd : DfaOk d m n) (hn : n ≤ 12) (hs : s < 2 ^ n) : z4I d (s : Int) = some (toI (z1d d m n s).1, (z1d d m n s).2) := by
  have h12 := zhK hn
  have hp := Nat.two_pow_pos n
  unfold z4I
  rw [hd.fin, z0w _ (by omega), z8c (by omega), z0w _ (by unfold z1L; omega), z0w _ (by omega), Int.toNat_natCast, Int.toNat_natCast, zsM]
  refine zhR (s := ((0 : Int), zkx n [s], [(s : Int)], [ByteArray.empty])) (fun z => ∃ k : Nat, k ≤ 2 ^ n ∧ z = ((k : Int), zkx n (z5x d m s k).1, toI (z5x d m s k).1, (z5x d m s k).2)) (fun z => 2 ^ n + 1 - z.1.toNat) ⟨0, by omega, rfl⟩ (by simp only [LFm]; omega) ?_
  rintro z ⟨k, hk, rfl⟩
  have hl := zmb hd hs k
  simp only [z5s]
  by_cases h : k < (z5x d m s k).1.length
  · left
    rw [if_pos (by rw [z0l]; omega), zmw hd hn (z8V hd hs k).1 h]
    refine ⟨_, rfl, ⟨k + 1, by omega, ?_⟩, by simp only; omega⟩
    rw [z5x, if_pos h]
  · right
    rw [if_neg (by rw [z0l]; omega)]
    unfold z1d
    rw [zhB h _ hk]
end Go.Proofs.Ytodliknibbafeaa
end
section
namespace Go.Proofs.Ytodliknibbafeaa
open Go
set_option maxRecDepth 100000
theorem zvr (x y : Int) : ∃ c, cmp_Compare_int x y = some c ∧ (c < 0 ↔ x < y) := by
  simp only [cmp_Compare_int, cmp_isNaN_int, decide_true, Bool.not_true, Option.bind_some, Bool.false_eq_true, if_false]
  by_cases h1 : x < y
  · rw [if_pos h1]; exact ⟨_, rfl, by omega⟩
  · rw [if_neg h1]
    by_cases h2 : y < x
    · rw [if_pos h2]; exact ⟨_, rfl, by omega⟩
    · rw [if_neg h2]; exact ⟨_, rfl, by omega⟩
def kv (K : List Int) (x : Int) : Int := K.getD x.toNat 0
def zB6 (K : List Int) (x : Int) : Prop := 0 ≤ x ∧ x < K.length
abbrev zBx (K : List Int) (l : List Int) : Prop := ∀ x ∈ l, zB6 K x
abbrev zE2 (K : List Int) (l : List Int) : Prop := l.Pairwise fun x y => kv K x ≤ kv K y
def zww (K : List Int) : SrtC where
  cmp x y := z0K x y K
  key x := kv K x * 1048576 + x
  ok x := zB6 K x ∧ x < 1048576
  law x y hx hy h := by
    obtain ⟨i, rfl⟩ := Int.eq_ofNat_of_zero_le hx.1.1
    obtain ⟨j, rfl⟩ := Int.eq_ofNat_of_zero_le hy.1.1
    have hi : i < K.length := by have := hx.1.2; omega
    have hj : j < K.length := by have := hy.1.2; omega
    obtain ⟨c, h1, h2⟩ := zvr K[i] K[j]
    refine ⟨c, ?_, ?_⟩
    · unfold z0K
      rw [z2y hi, Option.bind_some, z2y hj, Option.bind_some, h1]; rfl
    · rw [h2]
      have e1 : kv K (i : Int) = K[i] := by simp [kv, List.getD, hi]
      have e2 : kv K (j : Int) = K[j] := by simp [kv, List.getD, hj]
      have := hx.2
      have := hy.2
      omega
theorem znt : ∀ k, z0g k = fun l a m b K => zvo k l a m b (zww K)
  | 0 => rfl
  | k + 1 => by
    show z0v (z0g k) = _
    rw [znt k]
    rfl
theorem zua (l K : List Int) : z0i l K = zye l (zww K) := by
  have h9 : z0x = fun a K w => zc6 a (zww K) w := by
    unfold z0x
    rw [znt]
    all_goals rfl
  have h7 : z0y = fun a K => zeS a (zww K) := by
    unfold z0y
    rw [h9]
    all_goals rfl
  have h2 : z0z = fun a K => zeT a (zww K) := by
    unfold z0z
    rw [h7]
    all_goals rfl
  unfold z0i z0C
  rw [h2]
  all_goals rfl
theorem ztM (n : Nat) : ((List.range n).map fun x => ((x : Nat) : Int)).Pairwise (· < ·) := List.Pairwise.map _ (fun a b (h : a < b) => by omega) List.pairwise_lt_range
theorem zs8 {K : List Int} {n : Nat} (hv : zBx K (toI (List.range n))) (hn : (toI (List.range n)).length ≤ 5000) : ∃ S, z0i (toI (List.range n)) K = some S ∧ zE2 K S ∧ S.Perm (toI (List.range n)) := by
  have hok : ∀ x ∈ toI (List.range n), (zww K).ok x := fun x hx => ⟨hv x hx, by
    rw [z0l, List.length_range] at hn
    obtain ⟨i, hi, rfl⟩ := List.mem_map.1 hx
    have := List.mem_range.1 hi
    omega⟩
  obtain ⟨S, e, h1, h2⟩ := zs9 (K := zww K) hok (ztM n) hn
  refine ⟨S, by rw [zua, e], ?_, h2⟩
  refine List.Pairwise.imp_of_mem (fun {x y} hx hy h => ?_) h1
  have o1 := hok x (h2.mem_iff.1 hx)
  have o2 := hok y (h2.mem_iff.1 hy)
  have a1 := o1.1.1
  have a2 := o1.2
  have b1 := o2.1.1
  have b2 := o2.2
  have h3 : kv K x * 1048576 + x ≤ kv K y * 1048576 + y := h
  show kv K x ≤ kv K y
  omega
end Go.Proofs.Ytodliknibbafeaa
end
section
namespace Go.Proofs.Ytodliknibbafeaa
open Go
noncomputable section
set_option maxRecDepth 100000
set_option maxHeartbeats 6000000
def z1h (a0 : Int) (a1 : Int) (a2_0 : List Int) (a2_1 : List Int) (a2_2 : List Int) (a2_3 : List (List Int)) (a2_4 : List ByteArray) (a2_5 : List ByteArray) (a3_0 : List (List Int)) : Option (Int) :=
  (atI a3_0 a1).bind fun v8 =>
  (atI v8 0).bind fun v9 =>
  (atI a2_2 v9).bind fun v10 =>
  (atI a3_0 a0).bind fun v11 =>
  (atI v11 0).bind fun v12 =>
  (atI a2_2 v12).bind fun v13 =>
  (cmp_Compare_int v10 v13).bind fun v14 =>
  some v14
instance holonomy_classes_1_ok {a0 : Int} {a1 : Int} {a2_0 : List Int} {a2_1 : List Int} {a2_2 : List Int} {a2_3 : List (List Int)} {a2_4 : List ByteArray} {a2_5 : List ByteArray} {a3_0 : List (List Int)} : Ok (z1h a0 a1 a2_0 a2_1 a2_2 a2_3 a2_4 a2_5 a3_0) (fun r => L 53 [.sc (.int .i64 a0), .sc (.int .i64 a1), .pr [.sl a2_0.length (a2_0.map fun x0 => .sc (.int .i64 x0)), .sl a2_1.length (a2_1.map fun x0 => .sc (.int .i64 x0)), .sl a2_2.length (a2_2.map fun x0 => .sc (.int .i64 x0)), .sl a2_3.length (a2_3.map fun x0 => .sl x0.length (x0.map fun x1 => .sc (.int .i64 x1))), .sl a2_4.length (a2_4.map fun x0 => .sc (.string x0)), .sl a2_5.length (a2_5.map fun x0 => .sc (.string x0))], .pr [.sl a3_0.length (a3_0.map fun x0 => .sl x0.length (x0.map fun x1 => .sc (.int .i64 x1)))]] = some (.sc (.int .i64 r), [.dead, .dead, .dead, .dead])) := ⟨fun r h => by have h := z5B h; unfold z1h at h; exact z5O zAH zCg zDG⟩
abbrev z1e (a1 : Int) (a3_0_0 : List Int) (a3_0_1 : List Int) (a3_0_2 : List Int) (a3_0_3 : List (List Int)) (a3_0_4 : List ByteArray) (a3_0_5 : List ByteArray) (a3_1_0 : List (List Int)) (w95 : Int) : Int × List Int → Option ((Int × List Int) ⊕ ((Int × List Int) ⊕ List Int))
  | (w127, w128) =>
  if a1 < w127 then
    (atI w128 w127).bind fun v136 =>
    (atI w128 (IntKind.i64.wrap (w127 - 1))).bind fun v137 =>
    (z1h v136 v137 a3_0_0 a3_0_1 a3_0_2 a3_0_3 a3_0_4 a3_0_5 a3_1_0).bind fun v138 =>
    if v138 < 0 then
      (atI (w128.set w127.toNat v137) (IntKind.i64.wrap (w127 - 1))).bind fun v142 =>
      z0n (IntKind.i64.wrap (w127 - 1), ((w128.set w127.toNat v137).set (IntKind.i64.wrap (w127 - 1)).toNat v136))
    else
      z0A <|
      z0n (IntKind.i64.wrap (w95 + 1), w128)
  else
    z0A <|
    z0n (IntKind.i64.wrap (w95 + 1), w128)
instance {a1 : Int} {a3_0_0 : List Int} {a3_0_1 : List Int} {a3_0_2 : List Int} {a3_0_3 : List (List Int)} {a3_0_4 : List ByteArray} {a3_0_5 : List ByteArray} {a3_1_0 : List (List Int)} {w95 : Int} : Hd (z1e a1 a3_0_0 a3_0_1 a3_0_2 a3_0_3 a3_0_4 a3_0_5 a3_1_0 w95) := ⟨fun (w127, w128) => ([(9, xI w127)], [(0, .os 1 w128.length (w128.map fun x0 => .sc (.int .i64 x0)))])⟩
abbrev z1f (a1 : Int) (a2 : Int) (a3_0_0 : List Int) (a3_0_1 : List Int) (a3_0_2 : List Int) (a3_0_3 : List (List Int)) (a3_0_4 : List ByteArray) (a3_0_5 : List ByteArray) (a3_1_0 : List (List Int)) : Int × List Int → Option ((Int × List Int) ⊕ List Int)
  | (w95, w96) =>
  if w95 < a2 then
    z0u (z1e a1 a3_0_0 a3_0_1 a3_0_2 a3_0_3 a3_0_4 a3_0_5 a3_1_0 w95) LFm (w95, w96)
  else
    z0A <|
    some w96
instance {a1 : Int} {a2 : Int} {a3_0_0 : List Int} {a3_0_1 : List Int} {a3_0_2 : List Int} {a3_0_3 : List (List Int)} {a3_0_4 : List ByteArray} {a3_0_5 : List ByteArray} {a3_1_0 : List (List Int)} : Hd (z1f a1 a2 a3_0_0 a3_0_1 a3_0_2 a3_0_3 a3_0_4 a3_0_5 a3_1_0) := ⟨fun (w95, w96) => ([(8, xI w95)], [(0, .os 1 w96.length (w96.map fun x0 => .sc (.int .i64 x0)))])⟩
def z0B (a0 : List Int) (a1 : Int) (a2 : Int) (a3_0_0 : List Int) (a3_0_1 : List Int) (a3_0_2 : List Int) (a3_0_3 : List (List Int)) (a3_0_4 : List ByteArray) (a3_0_5 : List ByteArray) (a3_1_0 : List (List Int)) : Option (List Int) :=
  z0u (z1f a1 a2 a3_0_0 a3_0_1 a3_0_2 a3_0_3 a3_0_4 a3_0_5 a3_1_0) LFm (IntKind.i64.wrap (a1 + 1), a0)
instance slices_insertionSortCmpFunc_int_holonomy_classes_1_ok {a0 : List Int} {a1 : Int} {a2 : Int} {a3_0_0 : List Int} {a3_0_1 : List Int} {a3_0_2 : List Int} {a3_0_3 : List (List Int)} {a3_0_4 : List ByteArray} {a3_0_5 : List ByteArray} {a3_1_0 : List (List Int)} : Ok (z0B a0 a1 a2 a3_0_0 a3_0_1 a3_0_2 a3_0_3 a3_0_4 a3_0_5 a3_1_0) (fun r => L 84 [.os 1 a0.length (a0.map fun x0 => .sc (.int .i64 x0)), .sc (.int .i64 a1), .sc (.int .i64 a2), .cl 53 [.pr [.sl a3_0_0.length (a3_0_0.map fun x0 => .sc (.int .i64 x0)), .sl a3_0_1.length (a3_0_1.map fun x0 => .sc (.int .i64 x0)), .sl a3_0_2.length (a3_0_2.map fun x0 => .sc (.int .i64 x0)), .sl a3_0_3.length (a3_0_3.map fun x0 => .sl x0.length (x0.map fun x1 => .sc (.int .i64 x1))), .sl a3_0_4.length (a3_0_4.map fun x0 => .sc (.string x0)), .sl a3_0_5.length (a3_0_5.map fun x0 => .sc (.string x0))], .pr [.sl a3_1_0.length (a3_1_0.map fun x0 => .sl x0.length (x0.map fun x1 => .sc (.int .i64 x1)))]]] = some (.tup [], [.os 1 r.length (r.map fun x0 => .sc (.int .i64 x0)), .dead, .dead, .dead])) := ⟨fun r h => by have h := z5B h; unfold z0B at h; exact z5O zxZ zBg zBs⟩
abbrev z1r (a1 : Int) (a2 : Int) (a3 : Int) : Int × List Int → Option ((Int × List Int) ⊕ List Int)
  | (w19, w20) =>
  if w19 < a3 then
    (atI w20 (IntKind.i64.wrap (a2 + w19))).bind fun v25 =>
    (atI w20 (IntKind.i64.wrap (a1 + w19))).bind fun v26 =>
    (atI (w20.set (IntKind.i64.wrap (a1 + w19)).toNat v25) (IntKind.i64.wrap (a2 + w19))).bind fun v28 =>
    z0n (IntKind.i64.wrap (w19 + 1), ((w20.set (IntKind.i64.wrap (a1 + w19)).toNat v25).set (IntKind.i64.wrap (a2 + w19)).toNat v26))
  else
    z0A <|
    some w20
instance {a1 : Int} {a2 : Int} {a3 : Int} : Hd (z1r a1 a2 a3) := ⟨fun (w19, w20) => ([(10, xI w19)], [(0, .os 1 w20.length (w20.map fun x0 => .sc (.int .i64 x0)))])⟩
def z0t (a0 : List Int) (a1 : Int) (a2 : Int) (a3 : Int) (a4_0_0 : List Int) (a4_0_1 : List Int) (a4_0_2 : List Int) (a4_0_3 : List (List Int)) (a4_0_4 : List ByteArray) (a4_0_5 : List ByteArray) (a4_1_0 : List (List Int)) : Option (List Int) :=
  z0u (z1r a1 a2 a3) LFm (0, a0)
instance slices_swapRangeCmpFunc_int_holonomy_classes_1_ok {a0 : List Int} {a1 : Int} {a2 : Int} {a3 : Int} {a4_0_0 : List Int} {a4_0_1 : List Int} {a4_0_2 : List Int} {a4_0_3 : List (List Int)} {a4_0_4 : List ByteArray} {a4_0_5 : List ByteArray} {a4_1_0 : List (List Int)} : Ok (z0t a0 a1 a2 a3 a4_0_0 a4_0_1 a4_0_2 a4_0_3 a4_0_4 a4_0_5 a4_1_0) (fun r => L 103 [.os 1 a0.length (a0.map fun x0 => .sc (.int .i64 x0)), .sc (.int .i64 a1), .sc (.int .i64 a2), .sc (.int .i64 a3), .cl 53 [.pr [.sl a4_0_0.length (a4_0_0.map fun x0 => .sc (.int .i64 x0)), .sl a4_0_1.length (a4_0_1.map fun x0 => .sc (.int .i64 x0)), .sl a4_0_2.length (a4_0_2.map fun x0 => .sc (.int .i64 x0)), .sl a4_0_3.length (a4_0_3.map fun x0 => .sl x0.length (x0.map fun x1 => .sc (.int .i64 x1))), .sl a4_0_4.length (a4_0_4.map fun x0 => .sc (.string x0)), .sl a4_0_5.length (a4_0_5.map fun x0 => .sc (.string x0))], .pr [.sl a4_1_0.length (a4_1_0.map fun x0 => .sl x0.length (x0.map fun x1 => .sc (.int .i64 x1)))]]] = some (.tup [], [.os 1 r.length (r.map fun x0 => .sc (.int .i64 x0)), .dead, .dead, .dead, .dead])) := ⟨fun r h => by have h := z5B h; unfold z0t at h; exact z5O zvv zxP zy2⟩
abbrev z1z (a2 : Int) (a4_0_0 : List Int) (a4_0_1 : List Int) (a4_0_2 : List Int) (a4_0_3 : List (List Int)) (a4_0_4 : List ByteArray) (a4_0_5 : List ByteArray) (a4_1_0 : List (List Int)) : Int × Int × List Int → Option ((Int × Int × List Int) ⊕ List Int)
  | (w13, w15, w14) =>
  if w13 = w15 then
    z0A <|
    (z0t w14 (IntKind.i64.wrap (a2 - w13)) a2 w13 a4_0_0 a4_0_1 a4_0_2 a4_0_3 a4_0_4 a4_0_5 a4_1_0).bind fun v18 =>
    some v18
  else
    if w15 < w13 then
      (z0t w14 (IntKind.i64.wrap (a2 - w13)) a2 w15 a4_0_0 a4_0_1 a4_0_2 a4_0_3 a4_0_4 a4_0_5 a4_1_0).bind fun v19 =>
      z0n (IntKind.i64.wrap (w13 - w15), w15, v19)
    else
      (z0t w14 (IntKind.i64.wrap (a2 - w13)) (IntKind.i64.wrap ((IntKind.i64.wrap (a2 + w15)) - w13)) w13 a4_0_0 a4_0_1 a4_0_2 a4_0_3 a4_0_4 a4_0_5 a4_1_0).bind fun v20 =>
      z0n (w13, IntKind.i64.wrap (w15 - w13), v20)
instance {a2 : Int} {a4_0_0 : List Int} {a4_0_1 : List Int} {a4_0_2 : List Int} {a4_0_3 : List (List Int)} {a4_0_4 : List ByteArray} {a4_0_5 : List ByteArray} {a4_1_0 : List (List Int)} : Hd (z1z a2 a4_0_0 a4_0_1 a4_0_2 a4_0_3 a4_0_4 a4_0_5 a4_1_0) := ⟨fun (w13, w15, w14) => ([(10, xI w13), (11, xI w15)], [(0, .os 1 w14.length (w14.map fun x0 => .sc (.int .i64 x0)))])⟩
def z0N (a0 : List Int) (a1 : Int) (a2 : Int) (a3 : Int) (a4_0_0 : List Int) (a4_0_1 : List Int) (a4_0_2 : List Int) (a4_0_3 : List (List Int)) (a4_0_4 : List ByteArray) (a4_0_5 : List ByteArray) (a4_1_0 : List (List Int)) : Option (List Int) :=
  z0u (z1z a2 a4_0_0 a4_0_1 a4_0_2 a4_0_3 a4_0_4 a4_0_5 a4_1_0) LFm (IntKind.i64.wrap (a2 - a1), IntKind.i64.wrap (a3 - a2), a0)
instance slices_rotateCmpFunc_int_holonomy_classes_1_ok {a0 : List Int} {a1 : Int} {a2 : Int} {a3 : Int} {a4_0_0 : List Int} {a4_0_1 : List Int} {a4_0_2 : List Int} {a4_0_3 : List (List Int)} {a4_0_4 : List ByteArray} {a4_0_5 : List ByteArray} {a4_1_0 : List (List Int)} : Ok (z0N a0 a1 a2 a3 a4_0_0 a4_0_1 a4_0_2 a4_0_3 a4_0_4 a4_0_5 a4_1_0) (fun r => L 97 [.os 1 a0.length (a0.map fun x0 => .sc (.int .i64 x0)), .sc (.int .i64 a1), .sc (.int .i64 a2), .sc (.int .i64 a3), .cl 53 [.pr [.sl a4_0_0.length (a4_0_0.map fun x0 => .sc (.int .i64 x0)), .sl a4_0_1.length (a4_0_1.map fun x0 => .sc (.int .i64 x0)), .sl a4_0_2.length (a4_0_2.map fun x0 => .sc (.int .i64 x0)), .sl a4_0_3.length (a4_0_3.map fun x0 => .sl x0.length (x0.map fun x1 => .sc (.int .i64 x1))), .sl a4_0_4.length (a4_0_4.map fun x0 => .sc (.string x0)), .sl a4_0_5.length (a4_0_5.map fun x0 => .sc (.string x0))], .pr [.sl a4_1_0.length (a4_1_0.map fun x0 => .sl x0.length (x0.map fun x1 => .sc (.int .i64 x1)))]]] = some (.tup [], [.os 1 r.length (r.map fun x0 => .sc (.int .i64 x0)), .dead, .dead, .dead, .dead])) := ⟨fun r h => by have h := z5B h; unfold z0N at h; exact z5O zxX zBe zBq⟩
abbrev z1u (w102 : Int) : Int × List Int → Option ((Int × List Int) ⊕ List Int)
  | (w114, w115) =>
  if w114 < (IntKind.i64.wrap (w102 - 1)) then
    (atI w115 (IntKind.i64.wrap (w114 + 1))).bind fun v120 =>
    (atI w115 w114).bind fun v121 =>
    (atI (w115.set w114.toNat v120) (IntKind.i64.wrap (w114 + 1))).bind fun v123 =>
    z0n (IntKind.i64.wrap (w114 + 1), ((w115.set w114.toNat v120).set (IntKind.i64.wrap (w114 + 1)).toNat v121))
  else
    z0A <|
    some w115
instance {w102 : Int} : Hd (z1u w102) := ⟨fun (w114, w115) => ([(13, xI w114)], [(0, .os 1 w115.length (w115.map fun x0 => .sc (.int .i64 x0)))])⟩
abbrev z1v (a0 : List Int) (a1 : Int) (a4_0_0 : List Int) (a4_0_1 : List Int) (a4_0_2 : List Int) (a4_0_3 : List (List Int)) (a4_0_4 : List ByteArray) (a4_0_5 : List ByteArray) (a4_1_0 : List (List Int)) : Int × Int → Option ((Int × Int) ⊕ List Int)
  | (w102, w103) =>
  if w102 < w103 then
    chk (¬ 1 < 0) <|
    (atI a0 (IntKind.i64.wrap (z0e .u64 (IntKind.u64.wrap (IntKind.i64.wrap (w102 + w103))) 1))).bind fun v107 =>
    (atI a0 a1).bind fun v108 =>
    (z1h v107 v108 a4_0_0 a4_0_1 a4_0_2 a4_0_3 a4_0_4 a4_0_5 a4_1_0).bind fun v109 =>
    if v109 < 0 then
      z0n (IntKind.i64.wrap ((IntKind.i64.wrap (z0e .u64 (IntKind.u64.wrap (IntKind.i64.wrap (w102 + w103))) 1)) + 1), w103)
    else
      z0n (w102, IntKind.i64.wrap (z0e .u64 (IntKind.u64.wrap (IntKind.i64.wrap (w102 + w103))) 1))
  else
    z0A <|
    z0u (z1u w102) LFm (a1, a0)
instance {a0 : List Int} {a1 : Int} {a4_0_0 : List Int} {a4_0_1 : List Int} {a4_0_2 : List Int} {a4_0_3 : List (List Int)} {a4_0_4 : List ByteArray} {a4_0_5 : List ByteArray} {a4_1_0 : List (List Int)} : Hd (z1v a0 a1 a4_0_0 a4_0_1 a4_0_2 a4_0_3 a4_0_4 a4_0_5 a4_1_0) := ⟨fun (w102, w103) => ([(10, xI w102), (11, xI w103)], [])⟩
abbrev z1p (w128 : Int) : Int × List Int → Option ((Int × List Int) ⊕ List Int)
  | (w139, w140) =>
  if w128 < w139 then
    (atI w140 (IntKind.i64.wrap (w139 - 1))).bind fun v145 =>
    (atI w140 w139).bind fun v146 =>
    (atI (w140.set w139.toNat v145) (IntKind.i64.wrap (w139 - 1))).bind fun v148 =>
    z0n (IntKind.i64.wrap (w139 - 1), ((w140.set w139.toNat v145).set (IntKind.i64.wrap (w139 - 1)).toNat v146))
  else
    z0A <|
    some w140
instance {w128 : Int} : Hd (z1p w128) := ⟨fun (w139, w140) => ([(17, xI w139)], [(0, .os 1 w140.length (w140.map fun x0 => .sc (.int .i64 x0)))])⟩
abbrev z1q (a0 : List Int) (a2 : Int) (a4_0_0 : List Int) (a4_0_1 : List Int) (a4_0_2 : List Int) (a4_0_3 : List (List Int)) (a4_0_4 : List ByteArray) (a4_0_5 : List ByteArray) (a4_1_0 : List (List Int)) : Int × Int → Option ((Int × Int) ⊕ List Int)
  | (w128, w127) =>
  if w128 < w127 then
    chk (¬ 1 < 0) <|
    (atI a0 a2).bind fun v132 =>
    (atI a0 (IntKind.i64.wrap (z0e .u64 (IntKind.u64.wrap (IntKind.i64.wrap (w128 + w127))) 1))).bind fun v133 =>
    (z1h v132 v133 a4_0_0 a4_0_1 a4_0_2 a4_0_3 a4_0_4 a4_0_5 a4_1_0).bind fun v134 =>
    if v134 < 0 then
      z0n (w128, IntKind.i64.wrap (z0e .u64 (IntKind.u64.wrap (IntKind.i64.wrap (w128 + w127))) 1))
    else
      z0n (IntKind.i64.wrap ((IntKind.i64.wrap (z0e .u64 (IntKind.u64.wrap (IntKind.i64.wrap (w128 + w127))) 1)) + 1), w127)
  else
    z0A <|
    z0u (z1p w128) LFm (a2, a0)
instance {a0 : List Int} {a2 : Int} {a4_0_0 : List Int} {a4_0_1 : List Int} {a4_0_2 : List Int} {a4_0_3 : List (List Int)} {a4_0_4 : List ByteArray} {a4_0_5 : List ByteArray} {a4_1_0 : List (List Int)} : Hd (z1q a0 a2 a4_0_0 a4_0_1 a4_0_2 a4_0_3 a4_0_4 a4_0_5 a4_1_0) := ⟨fun (w128, w127) => ([(14, xI w128), (15, xI w127)], [])⟩
abbrev z1o (a0 : List Int) (a1 : Int) (a2 : Int) (a3 : Int) (a4_0_0 : List Int) (a4_0_1 : List Int) (a4_0_2 : List Int) (a4_0_3 : List (List Int)) (a4_0_4 : List ByteArray) (a4_0_5 : List ByteArray) (a4_1_0 : List (List Int)) (rf : List Int → Int → Int → Int → List Int → List Int → List Int → List (List Int) → List ByteArray → List ByteArray → List (List Int) → Option (List Int)) : Int × Int → Option ((Int × Int) ⊕ List Int)
  | (w153, w152) =>
  if w153 < w152 then
    chk (¬ 1 < 0) <|
    (atI a0 (IntKind.i64.wrap ((IntKind.i64.wrap ((IntKind.i64.wrap ((IntKind.i64.wrap (z0e .u64 (IntKind.u64.wrap (IntKind.i64.wrap (a1 + a3))) 1)) + a2)) - 1)) - (IntKind.i64.wrap (z0e .u64 (IntKind.u64.wrap (IntKind.i64.wrap (w153 + w152))) 1))))).bind fun v157 =>
    (atI a0 (IntKind.i64.wrap (z0e .u64 (IntKind.u64.wrap (IntKind.i64.wrap (w153 + w152))) 1))).bind fun v158 =>
    (z1h v157 v158 a4_0_0 a4_0_1 a4_0_2 a4_0_3 a4_0_4 a4_0_5 a4_1_0).bind fun v159 =>
    if v159 < 0 then
      z0n (w153, IntKind.i64.wrap (z0e .u64 (IntKind.u64.wrap (IntKind.i64.wrap (w153 + w152))) 1))
    else
      z0n (IntKind.i64.wrap ((IntKind.i64.wrap (z0e .u64 (IntKind.u64.wrap (IntKind.i64.wrap (w153 + w152))) 1)) + 1), w152)
  else
    z0A <|
    if w153 < a2 then
      if a2 < (IntKind.i64.wrap ((IntKind.i64.wrap ((IntKind.i64.wrap (z0e .u64 (IntKind.u64.wrap (IntKind.i64.wrap (a1 + a3))) 1)) + a2)) - w153)) then
        (z0N a0 w153 a2 (IntKind.i64.wrap ((IntKind.i64.wrap ((IntKind.i64.wrap (z0e .u64 (IntKind.u64.wrap (IntKind.i64.wrap (a1 + a3))) 1)) + a2)) - w153)) a4_0_0 a4_0_1 a4_0_2 a4_0_3 a4_0_4 a4_0_5 a4_1_0).bind fun v160 =>
        if a1 < w153 then
          if w153 < (IntKind.i64.wrap (z0e .u64 (IntKind.u64.wrap (IntKind.i64.wrap (a1 + a3))) 1)) then
            (rf v160 a1 w153 (IntKind.i64.wrap (z0e .u64 (IntKind.u64.wrap (IntKind.i64.wrap (a1 + a3))) 1)) a4_0_0 a4_0_1 a4_0_2 a4_0_3 a4_0_4 a4_0_5 a4_1_0).bind fun v161 =>
            if (IntKind.i64.wrap (z0e .u64 (IntKind.u64.wrap (IntKind.i64.wrap (a1 + a3))) 1)) < (IntKind.i64.wrap ((IntKind.i64.wrap ((IntKind.i64.wrap (z0e .u64 (IntKind.u64.wrap (IntKind.i64.wrap (a1 + a3))) 1)) + a2)) - w153)) then
              if (IntKind.i64.wrap ((IntKind.i64.wrap ((IntKind.i64.wrap (z0e .u64 (IntKind.u64.wrap (IntKind.i64.wrap (a1 + a3))) 1)) + a2)) - w153)) < a3 then
                (rf v161 (IntKind.i64.wrap (z0e .u64 (IntKind.u64.wrap (IntKind.i64.wrap (a1 + a3))) 1)) (IntKind.i64.wrap ((IntKind.i64.wrap ((IntKind.i64.wrap (z0e .u64 (IntKind.u64.wrap (IntKind.i64.wrap (a1 + a3))) 1)) + a2)) - w153)) a3 a4_0_0 a4_0_1 a4_0_2 a4_0_3 a4_0_4 a4_0_5 a4_1_0).bind fun v162 =>
                some v162
              else
                some v161
            else
              some v161
          else
            if (IntKind.i64.wrap (z0e .u64 (IntKind.u64.wrap (IntKind.i64.wrap (a1 + a3))) 1)) < (IntKind.i64.wrap ((IntKind.i64.wrap ((IntKind.i64.wrap (z0e .u64 (IntKind.u64.wrap (IntKind.i64.wrap (a1 + a3))) 1)) + a2)) - w153)) then
              if (IntKind.i64.wrap ((IntKind.i64.wrap ((IntKind.i64.wrap (z0e .u64 (IntKind.u64.wrap (IntKind.i64.wrap (a1 + a3))) 1)) + a2)) - w153)) < a3 then
                (rf v160 (IntKind.i64.wrap (z0e .u64 (IntKind.u64.wrap (IntKind.i64.wrap (a1 + a3))) 1)) (IntKind.i64.wrap ((IntKind.i64.wrap ((IntKind.i64.wrap (z0e .u64 (IntKind.u64.wrap (IntKind.i64.wrap (a1 + a3))) 1)) + a2)) - w153)) a3 a4_0_0 a4_0_1 a4_0_2 a4_0_3 a4_0_4 a4_0_5 a4_1_0).bind fun v163 =>
                some v163
              else
                some v160
            else
              some v160
        else
          if (IntKind.i64.wrap (z0e .u64 (IntKind.u64.wrap (IntKind.i64.wrap (a1 + a3))) 1)) < (IntKind.i64.wrap ((IntKind.i64.wrap ((IntKind.i64.wrap (z0e .u64 (IntKind.u64.wrap (IntKind.i64.wrap (a1 + a3))) 1)) + a2)) - w153)) then
            if (IntKind.i64.wrap ((IntKind.i64.wrap ((IntKind.i64.wrap (z0e .u64 (IntKind.u64.wrap (IntKind.i64.wrap (a1 + a3))) 1)) + a2)) - w153)) < a3 then
              (rf v160 (IntKind.i64.wrap (z0e .u64 (IntKind.u64.wrap (IntKind.i64.wrap (a1 + a3))) 1)) (IntKind.i64.wrap ((IntKind.i64.wrap ((IntKind.i64.wrap (z0e .u64 (IntKind.u64.wrap (IntKind.i64.wrap (a1 + a3))) 1)) + a2)) - w153)) a3 a4_0_0 a4_0_1 a4_0_2 a4_0_3 a4_0_4 a4_0_5 a4_1_0).bind fun v164 =>
              some v164
            else
              some v160
          else
            some v160
      else
        if a1 < w153 then
          if w153 < (IntKind.i64.wrap (z0e .u64 (IntKind.u64.wrap (IntKind.i64.wrap (a1 + a3))) 1)) then
            (rf a0 a1 w153 (IntKind.i64.wrap (z0e .u64 (IntKind.u64.wrap (IntKind.i64.wrap (a1 + a3))) 1)) a4_0_0 a4_0_1 a4_0_2 a4_0_3 a4_0_4 a4_0_5 a4_1_0).bind fun v165 =>
            if (IntKind.i64.wrap (z0e .u64 (IntKind.u64.wrap (IntKind.i64.wrap (a1 + a3))) 1)) < (IntKind.i64.wrap ((IntKind.i64.wrap ((IntKind.i64.wrap (z0e .u64 (IntKind.u64.wrap (IntKind.i64.wrap (a1 + a3))) 1)) + a2)) - w153)) then
              if (IntKind.i64.wrap ((IntKind.i64.wrap ((IntKind.i64.wrap (z0e .u64 (IntKind.u64.wrap (IntKind.i64.wrap (a1 + a3))) 1)) + a2)) - w153)) < a3 then
                (rf v165 (IntKind.i64.wrap (z0e .u64 (IntKind.u64.wrap (IntKind.i64.wrap (a1 + a3))) 1)) (IntKind.i64.wrap ((IntKind.i64.wrap ((IntKind.i64.wrap (z0e .u64 (IntKind.u64.wrap (IntKind.i64.wrap (a1 + a3))) 1)) + a2)) - w153)) a3 a4_0_0 a4_0_1 a4_0_2 a4_0_3 a4_0_4 a4_0_5 a4_1_0).bind fun v166 =>
                some v166
              else
                some v165
            else
              some v165
          else
            if (IntKind.i64.wrap (z0e .u64 (IntKind.u64.wrap (IntKind.i64.wrap (a1 + a3))) 1)) < (IntKind.i64.wrap ((IntKind.i64.wrap ((IntKind.i64.wrap (z0e .u64 (IntKind.u64.wrap (IntKind.i64.wrap (a1 + a3))) 1)) + a2)) - w153)) then
              if (IntKind.i64.wrap ((IntKind.i64.wrap ((IntKind.i64.wrap (z0e .u64 (IntKind.u64.wrap (IntKind.i64.wrap (a1 + a3))) 1)) + a2)) - w153)) < a3 then
                (rf a0 (IntKind.i64.wrap (z0e .u64 (IntKind.u64.wrap (IntKind.i64.wrap (a1 + a3))) 1)) (IntKind.i64.wrap ((IntKind.i64.wrap ((IntKind.i64.wrap (z0e .u64 (IntKind.u64.wrap (IntKind.i64.wrap (a1 + a3))) 1)) + a2)) - w153)) a3 a4_0_0 a4_0_1 a4_0_2 a4_0_3 a4_0_4 a4_0_5 a4_1_0).bind fun v167 =>
                some v167
              else
                some a0
            else
              some a0
        else
          if (IntKind.i64.wrap (z0e .u64 (IntKind.u64.wrap (IntKind.i64.wrap (a1 + a3))) 1)) < (IntKind.i64.wrap ((IntKind.i64.wrap ((IntKind.i64.wrap (z0e .u64 (IntKind.u64.wrap (IntKind.i64.wrap (a1 + a3))) 1)) + a2)) - w153)) then
            if (IntKind.i64.wrap ((IntKind.i64.wrap ((IntKind.i64.wrap (z0e .u64 (IntKind.u64.wrap (IntKind.i64.wrap (a1 + a3))) 1)) + a2)) - w153)) < a3 then
              (rf a0 (IntKind.i64.wrap (z0e .u64 (IntKind.u64.wrap (IntKind.i64.wrap (a1 + a3))) 1)) (IntKind.i64.wrap ((IntKind.i64.wrap ((IntKind.i64.wrap (z0e .u64 (IntKind.u64.wrap (IntKind.i64.wrap (a1 + a3))) 1)) + a2)) - w153)) a3 a4_0_0 a4_0_1 a4_0_2 a4_0_3 a4_0_4 a4_0_5 a4_1_0).bind fun v168 =>
              some v168
            else
              some a0
          else
            some a0
    else
      if a1 < w153 then
        if w153 < (IntKind.i64.wrap (z0e .u64 (IntKind.u64.wrap (IntKind.i64.wrap (a1 + a3))) 1)) then
          (rf a0 a1 w153 (IntKind.i64.wrap (z0e .u64 (IntKind.u64.wrap (IntKind.i64.wrap (a1 + a3))) 1)) a4_0_0 a4_0_1 a4_0_2 a4_0_3 a4_0_4 a4_0_5 a4_1_0).bind fun v169 =>
          if (IntKind.i64.wrap (z0e .u64 (IntKind.u64.wrap (IntKind.i64.wrap (a1 + a3))) 1)) < (IntKind.i64.wrap ((IntKind.i64.wrap ((IntKind.i64.wrap (z0e .u64 (IntKind.u64.wrap (IntKind.i64.wrap (a1 + a3))) 1)) + a2)) - w153)) then
            if (IntKind.i64.wrap ((IntKind.i64.wrap ((IntKind.i64.wrap (z0e .u64 (IntKind.u64.wrap (IntKind.i64.wrap (a1 + a3))) 1)) + a2)) - w153)) < a3 then
              (rf v169 (IntKind.i64.wrap (z0e .u64 (IntKind.u64.wrap (IntKind.i64.wrap (a1 + a3))) 1)) (IntKind.i64.wrap ((IntKind.i64.wrap ((IntKind.i64.wrap (z0e .u64 (IntKind.u64.wrap (IntKind.i64.wrap (a1 + a3))) 1)) + a2)) - w153)) a3 a4_0_0 a4_0_1 a4_0_2 a4_0_3 a4_0_4 a4_0_5 a4_1_0).bind fun v170 =>
              some v170
            else
              some v169
          else
            some v169
        else
          if (IntKind.i64.wrap (z0e .u64 (IntKind.u64.wrap (IntKind.i64.wrap (a1 + a3))) 1)) < (IntKind.i64.wrap ((IntKind.i64.wrap ((IntKind.i64.wrap (z0e .u64 (IntKind.u64.wrap (IntKind.i64.wrap (a1 + a3))) 1)) + a2)) - w153)) then
            if (IntKind.i64.wrap ((IntKind.i64.wrap ((IntKind.i64.wrap (z0e .u64 (IntKind.u64.wrap (IntKind.i64.wrap (a1 + a3))) 1)) + a2)) - w153)) < a3 then
              (rf a0 (IntKind.i64.wrap (z0e .u64 (IntKind.u64.wrap (IntKind.i64.wrap (a1 + a3))) 1)) (IntKind.i64.wrap ((IntKind.i64.wrap ((IntKind.i64.wrap (z0e .u64 (IntKind.u64.wrap (IntKind.i64.wrap (a1 + a3))) 1)) + a2)) - w153)) a3 a4_0_0 a4_0_1 a4_0_2 a4_0_3 a4_0_4 a4_0_5 a4_1_0).bind fun v171 =>
              some v171
            else
              some a0
          else
            some a0
      else
        if (IntKind.i64.wrap (z0e .u64 (IntKind.u64.wrap (IntKind.i64.wrap (a1 + a3))) 1)) < (IntKind.i64.wrap ((IntKind.i64.wrap ((IntKind.i64.wrap (z0e .u64 (IntKind.u64.wrap (IntKind.i64.wrap (a1 + a3))) 1)) + a2)) - w153)) then
          if (IntKind.i64.wrap ((IntKind.i64.wrap ((IntKind.i64.wrap (z0e .u64 (IntKind.u64.wrap (IntKind.i64.wrap (a1 + a3))) 1)) + a2)) - w153)) < a3 then
            (rf a0 (IntKind.i64.wrap (z0e .u64 (IntKind.u64.wrap (IntKind.i64.wrap (a1 + a3))) 1)) (IntKind.i64.wrap ((IntKind.i64.wrap ((IntKind.i64.wrap (z0e .u64 (IntKind.u64.wrap (IntKind.i64.wrap (a1 + a3))) 1)) + a2)) - w153)) a3 a4_0_0 a4_0_1 a4_0_2 a4_0_3 a4_0_4 a4_0_5 a4_1_0).bind fun v172 =>
            some v172
          else
            some a0
        else
          some a0
instance {a0 : List Int} {a1 : Int} {a2 : Int} {a3 : Int} {a4_0_0 : List Int} {a4_0_1 : List Int} {a4_0_2 : List Int} {a4_0_3 : List (List Int)} {a4_0_4 : List ByteArray} {a4_0_5 : List ByteArray} {a4_1_0 : List (List Int)} {rf : List Int → Int → Int → Int → List Int → List Int → List Int → List (List Int) → List ByteArray → List ByteArray → List (List Int) → Option (List Int)} : Hd (z1o a0 a1 a2 a3 a4_0_0 a4_0_1 a4_0_2 a4_0_3 a4_0_4 a4_0_5 a4_1_0 rf) := ⟨fun (w153, w152) => ([(20, xI w153), (21, xI w152)], [])⟩
abbrev z1n (a0 : List Int) (a1 : Int) (a2 : Int) (a3 : Int) (a4_0_0 : List Int) (a4_0_1 : List Int) (a4_0_2 : List Int) (a4_0_3 : List (List Int)) (a4_0_4 : List ByteArray) (a4_0_5 : List ByteArray) (a4_1_0 : List (List Int)) (rf : List Int → Int → Int → Int → List Int → List Int → List Int → List (List Int) → List ByteArray → List ByteArray → List (List Int) → Option (List Int)) : Int × Int → Option ((Int × Int) ⊕ List Int)
  | (w177, w176) =>
  if w177 < w176 then
    chk (¬ 1 < 0) <|
    (atI a0 (IntKind.i64.wrap ((IntKind.i64.wrap ((IntKind.i64.wrap ((IntKind.i64.wrap (z0e .u64 (IntKind.u64.wrap (IntKind.i64.wrap (a1 + a3))) 1)) + a2)) - 1)) - (IntKind.i64.wrap (z0e .u64 (IntKind.u64.wrap (IntKind.i64.wrap (w177 + w176))) 1))))).bind fun v181 =>
    (atI a0 (IntKind.i64.wrap (z0e .u64 (IntKind.u64.wrap (IntKind.i64.wrap (w177 + w176))) 1))).bind fun v182 =>
    (z1h v181 v182 a4_0_0 a4_0_1 a4_0_2 a4_0_3 a4_0_4 a4_0_5 a4_1_0).bind fun v183 =>
    if v183 < 0 then
      z0n (w177, IntKind.i64.wrap (z0e .u64 (IntKind.u64.wrap (IntKind.i64.wrap (w177 + w176))) 1))
    else
      z0n (IntKind.i64.wrap ((IntKind.i64.wrap (z0e .u64 (IntKind.u64.wrap (IntKind.i64.wrap (w177 + w176))) 1)) + 1), w176)
  else
    z0A <|
    if w177 < a2 then
      if a2 < (IntKind.i64.wrap ((IntKind.i64.wrap ((IntKind.i64.wrap (z0e .u64 (IntKind.u64.wrap (IntKind.i64.wrap (a1 + a3))) 1)) + a2)) - w177)) then
        (z0N a0 w177 a2 (IntKind.i64.wrap ((IntKind.i64.wrap ((IntKind.i64.wrap (z0e .u64 (IntKind.u64.wrap (IntKind.i64.wrap (a1 + a3))) 1)) + a2)) - w177)) a4_0_0 a4_0_1 a4_0_2 a4_0_3 a4_0_4 a4_0_5 a4_1_0).bind fun v184 =>
        if a1 < w177 then
          if w177 < (IntKind.i64.wrap (z0e .u64 (IntKind.u64.wrap (IntKind.i64.wrap (a1 + a3))) 1)) then
            (rf v184 a1 w177 (IntKind.i64.wrap (z0e .u64 (IntKind.u64.wrap (IntKind.i64.wrap (a1 + a3))) 1)) a4_0_0 a4_0_1 a4_0_2 a4_0_3 a4_0_4 a4_0_5 a4_1_0).bind fun v185 =>
            if (IntKind.i64.wrap (z0e .u64 (IntKind.u64.wrap (IntKind.i64.wrap (a1 + a3))) 1)) < (IntKind.i64.wrap ((IntKind.i64.wrap ((IntKind.i64.wrap (z0e .u64 (IntKind.u64.wrap (IntKind.i64.wrap (a1 + a3))) 1)) + a2)) - w177)) then
              if (IntKind.i64.wrap ((IntKind.i64.wrap ((IntKind.i64.wrap (z0e .u64 (IntKind.u64.wrap (IntKind.i64.wrap (a1 + a3))) 1)) + a2)) - w177)) < a3 then
                (rf v185 (IntKind.i64.wrap (z0e .u64 (IntKind.u64.wrap (IntKind.i64.wrap (a1 + a3))) 1)) (IntKind.i64.wrap ((IntKind.i64.wrap ((IntKind.i64.wrap (z0e .u64 (IntKind.u64.wrap (IntKind.i64.wrap (a1 + a3))) 1)) + a2)) - w177)) a3 a4_0_0 a4_0_1 a4_0_2 a4_0_3 a4_0_4 a4_0_5 a4_1_0).bind fun v186 =>
                some v186
              else
                some v185
            else
              some v185
          else
            if (IntKind.i64.wrap (z0e .u64 (IntKind.u64.wrap (IntKind.i64.wrap (a1 + a3))) 1)) < (IntKind.i64.wrap ((IntKind.i64.wrap ((IntKind.i64.wrap (z0e .u64 (IntKind.u64.wrap (IntKind.i64.wrap (a1 + a3))) 1)) + a2)) - w177)) then
              if (IntKind.i64.wrap ((IntKind.i64.wrap ((IntKind.i64.wrap (z0e .u64 (IntKind.u64.wrap (IntKind.i64.wrap (a1 + a3))) 1)) + a2)) - w177)) < a3 then
                (rf v184 (IntKind.i64.wrap (z0e .u64 (IntKind.u64.wrap (IntKind.i64.wrap (a1 + a3))) 1)) (IntKind.i64.wrap ((IntKind.i64.wrap ((IntKind.i64.wrap (z0e .u64 (IntKind.u64.wrap (IntKind.i64.wrap (a1 + a3))) 1)) + a2)) - w177)) a3 a4_0_0 a4_0_1 a4_0_2 a4_0_3 a4_0_4 a4_0_5 a4_1_0).bind fun v187 =>
                some v187
              else
                some v184
            else
              some v184
        else
          if (IntKind.i64.wrap (z0e .u64 (IntKind.u64.wrap (IntKind.i64.wrap (a1 + a3))) 1)) < (IntKind.i64.wrap ((IntKind.i64.wrap ((IntKind.i64.wrap (z0e .u64 (IntKind.u64.wrap (IntKind.i64.wrap (a1 + a3))) 1)) + a2)) - w177)) then
            if (IntKind.i64.wrap ((IntKind.i64.wrap ((IntKind.i64.wrap (z0e .u64 (IntKind.u64.wrap (IntKind.i64.wrap (a1 + a3))) 1)) + a2)) - w177)) < a3 then
              (rf v184 (IntKind.i64.wrap (z0e .u64 (IntKind.u64.wrap (IntKind.i64.wrap (a1 + a3))) 1)) (IntKind.i64.wrap ((IntKind.i64.wrap ((IntKind.i64.wrap (z0e .u64 (IntKind.u64.wrap (IntKind.i64.wrap (a1 + a3))) 1)) + a2)) - w177)) a3 a4_0_0 a4_0_1 a4_0_2 a4_0_3 a4_0_4 a4_0_5 a4_1_0).bind fun v188 =>
              some v188
            else
              some v184
          else
            some v184
      else
        if a1 < w177 then
          if w177 < (IntKind.i64.wrap (z0e .u64 (IntKind.u64.wrap (IntKind.i64.wrap (a1 + a3))) 1)) then
            (rf a0 a1 w177 (IntKind.i64.wrap (z0e .u64 (IntKind.u64.wrap (IntKind.i64.wrap (a1 + a3))) 1)) a4_0_0 a4_0_1 a4_0_2 a4_0_3 a4_0_4 a4_0_5 a4_1_0).bind fun v189 =>
            if (IntKind.i64.wrap (z0e .u64 (IntKind.u64.wrap (IntKind.i64.wrap (a1 + a3))) 1)) < (IntKind.i64.wrap ((IntKind.i64.wrap ((IntKind.i64.wrap (z0e .u64 (IntKind.u64.wrap (IntKind.i64.wrap (a1 + a3))) 1)) + a2)) - w177)) then
              if (IntKind.i64.wrap ((IntKind.i64.wrap ((IntKind.i64.wrap (z0e .u64 (IntKind.u64.wrap (IntKind.i64.wrap (a1 + a3))) 1)) + a2)) - w177)) < a3 then
                (rf v189 (IntKind.i64.wrap (z0e .u64 (IntKind.u64.wrap (IntKind.i64.wrap (a1 + a3))) 1)) (IntKind.i64.wrap ((IntKind.i64.wrap ((IntKind.i64.wrap (z0e .u64 (IntKind.u64.wrap (IntKind.i64.wrap (a1 + a3))) 1)) + a2)) - w177)) a3 a4_0_0 a4_0_1 a4_0_2 a4_0_3 a4_0_4 a4_0_5 a4_1_0).bind fun v190 =>
                some v190
              else
                some v189
            else
              some v189
          else
            if (IntKind.i64.wrap (z0e .u64 (IntKind.u64.wrap (IntKind.i64.wrap (a1 + a3))) 1)) < (IntKind.i64.wrap ((IntKind.i64.wrap ((IntKind.i64.wrap (z0e .u64 (IntKind.u64.wrap (IntKind.i64.wrap (a1 + a3))) 1)) + a2)) - w177)) then
              if (IntKind.i64.wrap ((IntKind.i64.wrap ((IntKind.i64.wrap (z0e .u64 (IntKind.u64.wrap (IntKind.i64.wrap (a1 + a3))) 1)) + a2)) - w177)) < a3 then
                (rf a0 (IntKind.i64.wrap (z0e .u64 (IntKind.u64.wrap (IntKind.i64.wrap (a1 + a3))) 1)) (IntKind.i64.wrap ((IntKind.i64.wrap ((IntKind.i64.wrap (z0e .u64 (IntKind.u64.wrap (IntKind.i64.wrap (a1 + a3))) 1)) + a2)) - w177)) a3 a4_0_0 a4_0_1 a4_0_2 a4_0_3 a4_0_4 a4_0_5 a4_1_0).bind fun v191 =>
                some v191
              else
                some a0
            else
              some a0
        else
          if (IntKind.i64.wrap (z0e .u64 (IntKind.u64.wrap (IntKind.i64.wrap (a1 + a3))) 1)) < (IntKind.i64.wrap ((IntKind.i64.wrap ((IntKind.i64.wrap (z0e .u64 (IntKind.u64.wrap (IntKind.i64.wrap (a1 + a3))) 1)) + a2)) - w177)) then
            if (IntKind.i64.wrap ((IntKind.i64.wrap ((IntKind.i64.wrap (z0e .u64 (IntKind.u64.wrap (IntKind.i64.wrap (a1 + a3))) 1)) + a2)) - w177)) < a3 then
              (rf a0 (IntKind.i64.wrap (z0e .u64 (IntKind.u64.wrap (IntKind.i64.wrap (a1 + a3))) 1)) (IntKind.i64.wrap ((IntKind.i64.wrap ((IntKind.i64.wrap (z0e .u64 (IntKind.u64.wrap (IntKind.i64.wrap (a1 + a3))) 1)) + a2)) - w177)) a3 a4_0_0 a4_0_1 a4_0_2 a4_0_3 a4_0_4 a4_0_5 a4_1_0).bind fun v192 =>
              some v192
            else
              some a0
          else
            some a0
    else
      if a1 < w177 then
        if w177 < (IntKind.i64.wrap (z0e .u64 (IntKind.u64.wrap (IntKind.i64.wrap (a1 + a3))) 1)) then
          (rf a0 a1 w177 (IntKind.i64.wrap (z0e .u64 (IntKind.u64.wrap (IntKind.i64.wrap (a1 + a3))) 1)) a4_0_0 a4_0_1 a4_0_2 a4_0_3 a4_0_4 a4_0_5 a4_1_0).bind fun v193 =>
          if (IntKind.i64.wrap (z0e .u64 (IntKind.u64.wrap (IntKind.i64.wrap (a1 + a3))) 1)) < (IntKind.i64.wrap ((IntKind.i64.wrap ((IntKind.i64.wrap (z0e .u64 (IntKind.u64.wrap (IntKind.i64.wrap (a1 + a3))) 1)) + a2)) - w177)) then
            if (IntKind.i64.wrap ((IntKind.i64.wrap ((IntKind.i64.wrap (z0e .u64 (IntKind.u64.wrap (IntKind.i64.wrap (a1 + a3))) 1)) + a2)) - w177)) < a3 then
              (rf v193 (IntKind.i64.wrap (z0e .u64 (IntKind.u64.wrap (IntKind.i64.wrap (a1 + a3))) 1)) (IntKind.i64.wrap ((IntKind.i64.wrap ((IntKind.i64.wrap (z0e .u64 (IntKind.u64.wrap (IntKind.i64.wrap (a1 + a3))) 1)) + a2)) - w177)) a3 a4_0_0 a4_0_1 a4_0_2 a4_0_3 a4_0_4 a4_0_5 a4_1_0).bind fun v194 =>
              some v194
            else
              some v193
          else
            some v193
        else
          if (IntKind.i64.wrap (z0e .u64 (IntKind.u64.wrap (IntKind.i64.wrap (a1 + a3))) 1)) < (IntKind.i64.wrap ((IntKind.i64.wrap ((IntKind.i64.wrap (z0e .u64 (IntKind.u64.wrap (IntKind.i64.wrap (a1 + a3))) 1)) + a2)) - w177)) then
            if (IntKind.i64.wrap ((IntKind.i64.wrap ((IntKind.i64.wrap (z0e .u64 (IntKind.u64.wrap (IntKind.i64.wrap (a1 + a3))) 1)) + a2)) - w177)) < a3 then
              (rf a0 (IntKind.i64.wrap (z0e .u64 (IntKind.u64.wrap (IntKind.i64.wrap (a1 + a3))) 1)) (IntKind.i64.wrap ((IntKind.i64.wrap ((IntKind.i64.wrap (z0e .u64 (IntKind.u64.wrap (IntKind.i64.wrap (a1 + a3))) 1)) + a2)) - w177)) a3 a4_0_0 a4_0_1 a4_0_2 a4_0_3 a4_0_4 a4_0_5 a4_1_0).bind fun v195 =>
              some v195
            else
              some a0
          else
            some a0
      else
        if (IntKind.i64.wrap (z0e .u64 (IntKind.u64.wrap (IntKind.i64.wrap (a1 + a3))) 1)) < (IntKind.i64.wrap ((IntKind.i64.wrap ((IntKind.i64.wrap (z0e .u64 (IntKind.u64.wrap (IntKind.i64.wrap (a1 + a3))) 1)) + a2)) - w177)) then
          if (IntKind.i64.wrap ((IntKind.i64.wrap ((IntKind.i64.wrap (z0e .u64 (IntKind.u64.wrap (IntKind.i64.wrap (a1 + a3))) 1)) + a2)) - w177)) < a3 then
            (rf a0 (IntKind.i64.wrap (z0e .u64 (IntKind.u64.wrap (IntKind.i64.wrap (a1 + a3))) 1)) (IntKind.i64.wrap ((IntKind.i64.wrap ((IntKind.i64.wrap (z0e .u64 (IntKind.u64.wrap (IntKind.i64.wrap (a1 + a3))) 1)) + a2)) - w177)) a3 a4_0_0 a4_0_1 a4_0_2 a4_0_3 a4_0_4 a4_0_5 a4_1_0).bind fun v196 =>
            some v196
          else
            some a0
        else
          some a0
instance {a0 : List Int} {a1 : Int} {a2 : Int} {a3 : Int} {a4_0_0 : List Int} {a4_0_1 : List Int} {a4_0_2 : List Int} {a4_0_3 : List (List Int)} {a4_0_4 : List ByteArray} {a4_0_5 : List ByteArray} {a4_1_0 : List (List Int)} {rf : List Int → Int → Int → Int → List Int → List Int → List Int → List (List Int) → List ByteArray → List ByteArray → List (List Int) → Option (List Int)} : Hd (z1n a0 a1 a2 a3 a4_0_0 a4_0_1 a4_0_2 a4_0_3 a4_0_4 a4_0_5 a4_1_0 rf) := ⟨fun (w177, w176) => ([(20, xI w177), (21, xI w176)], [])⟩
def z0G (rf : List Int → Int → Int → Int → List Int → List Int → List Int → List (List Int) → List ByteArray → List ByteArray → List (List Int) → Option (List Int)) (a0 : List Int) (a1 : Int) (a2 : Int) (a3 : Int) (a4_0_0 : List Int) (a4_0_1 : List Int) (a4_0_2 : List Int) (a4_0_3 : List (List Int)) (a4_0_4 : List ByteArray) (a4_0_5 : List ByteArray) (a4_1_0 : List (List Int)) : Option (List Int) :=
  if (IntKind.i64.wrap (a2 - a1)) = 1 then
    z0u (z1v a0 a1 a4_0_0 a4_0_1 a4_0_2 a4_0_3 a4_0_4 a4_0_5 a4_1_0) LFm (a2, a3)
  else
    if (IntKind.i64.wrap (a3 - a2)) = 1 then
      z0u (z1q a0 a2 a4_0_0 a4_0_1 a4_0_2 a4_0_3 a4_0_4 a4_0_5 a4_1_0) LFm (a1, a2)
    else
      chk (¬ 1 < 0) <|
      if (IntKind.i64.wrap (z0e .u64 (IntKind.u64.wrap (IntKind.i64.wrap (a1 + a3))) 1)) < a2 then
        z0u (z1o a0 a1 a2 a3 a4_0_0 a4_0_1 a4_0_2 a4_0_3 a4_0_4 a4_0_5 a4_1_0 rf) LFm (IntKind.i64.wrap ((IntKind.i64.wrap ((IntKind.i64.wrap (z0e .u64 (IntKind.u64.wrap (IntKind.i64.wrap (a1 + a3))) 1)) + a2)) - a3), IntKind.i64.wrap (z0e .u64 (IntKind.u64.wrap (IntKind.i64.wrap (a1 + a3))) 1))
      else
        z0u (z1n a0 a1 a2 a3 a4_0_0 a4_0_1 a4_0_2 a4_0_3 a4_0_4 a4_0_5 a4_1_0 rf) LFm (a1, a2)
theorem z2E {rf : List Int → Int → Int → Int → List Int → List Int → List Int → List (List Int) → List ByteArray → List ByteArray → List (List Int) → Option (List Int)} [ih : ∀ (a0 : List Int) (a1 : Int) (a2 : Int) (a3 : Int) (a4_0_0 : List Int) (a4_0_1 : List Int) (a4_0_2 : List Int) (a4_0_3 : List (List Int)) (a4_0_4 : List ByteArray) (a4_0_5 : List ByteArray) (a4_1_0 : List (List Int)), Ok (rf a0 a1 a2 a3 a4_0_0 a4_0_1 a4_0_2 a4_0_3 a4_0_4 a4_0_5 a4_1_0) (fun r => L 85 [.os 1 a0.length (a0.map fun x0 => .sc (.int .i64 x0)), .sc (.int .i64 a1), .sc (.int .i64 a2), .sc (.int .i64 a3), .cl 53 [.pr [.sl a4_0_0.length (a4_0_0.map fun x0 => .sc (.int .i64 x0)), .sl a4_0_1.length (a4_0_1.map fun x0 => .sc (.int .i64 x0)), .sl a4_0_2.length (a4_0_2.map fun x0 => .sc (.int .i64 x0)), .sl a4_0_3.length (a4_0_3.map fun x0 => .sl x0.length (x0.map fun x1 => .sc (.int .i64 x1))), .sl a4_0_4.length (a4_0_4.map fun x0 => .sc (.string x0)), .sl a4_0_5.length (a4_0_5.map fun x0 => .sc (.string x0))], .pr [.sl a4_1_0.length (a4_1_0.map fun x0 => .sl x0.length (x0.map fun x1 => .sc (.int .i64 x1)))]]] = some (.tup [], [.os 1 r.length (r.map fun x0 => .sc (.int .i64 x0)), .dead, .dead, .dead, .dead]))] {a0 : List Int} {a1 : Int} {a2 : Int} {a3 : Int} {a4_0_0 : List Int} {a4_0_1 : List Int} {a4_0_2 : List Int} {a4_0_3 : List (List Int)} {a4_0_4 : List ByteArray} {a4_0_5 : List ByteArray} {a4_1_0 : List (List Int)} : Ok (z0G rf a0 a1 a2 a3 a4_0_0 a4_0_1 a4_0_2 a4_0_3 a4_0_4 a4_0_5 a4_1_0) (fun r => L 85 [.os 1 a0.length (a0.map fun x0 => .sc (.int .i64 x0)), .sc (.int .i64 a1), .sc (.int .i64 a2), .sc (.int .i64 a3), .cl 53 [.pr [.sl a4_0_0.length (a4_0_0.map fun x0 => .sc (.int .i64 x0)), .sl a4_0_1.length (a4_0_1.map fun x0 => .sc (.int .i64 x0)), .sl a4_0_2.length (a4_0_2.map fun x0 => .sc (.int .i64 x0)), .sl a4_0_3.length (a4_0_3.map fun x0 => .sl x0.length (x0.map fun x1 => .sc (.int .i64 x1))), .sl a4_0_4.length (a4_0_4.map fun x0 => .sc (.string x0)), .sl a4_0_5.length (a4_0_5.map fun x0 => .sc (.string x0))], .pr [.sl a4_1_0.length (a4_1_0.map fun x0 => .sl x0.length (x0.map fun x1 => .sc (.int .i64 x1)))]]] = some (.tup [], [.os 1 r.length (r.map fun x0 => .sc (.int .i64 x0)), .dead, .dead, .dead, .dead])) := ⟨fun r h => by have h := z5B h; unfold z0G at h; exact z5O zxY zBf zBr⟩
def z0k : Nat → List Int → Int → Int → Int → List Int → List Int → List Int → List (List Int) → List ByteArray → List ByteArray → List (List Int) → Option (List Int)
  | 0 => fun _ _ _ _ _ _ _ _ _ _ _ => none
  | k + 1 => z0G (z0k k)
instance slices_symMergeCmpFunc_int_holonomy_classes_1_ok : ∀ {k : Nat} {a0 : List Int} {a1 : Int} {a2 : Int} {a3 : Int} {a4_0_0 : List Int} {a4_0_1 : List Int} {a4_0_2 : List Int} {a4_0_3 : List (List Int)} {a4_0_4 : List ByteArray} {a4_0_5 : List ByteArray} {a4_1_0 : List (List Int)}, Ok (z0k k a0 a1 a2 a3 a4_0_0 a4_0_1 a4_0_2 a4_0_3 a4_0_4 a4_0_5 a4_1_0) (fun r => L 85 [.os 1 a0.length (a0.map fun x0 => .sc (.int .i64 x0)), .sc (.int .i64 a1), .sc (.int .i64 a2), .sc (.int .i64 a3), .cl 53 [.pr [.sl a4_0_0.length (a4_0_0.map fun x0 => .sc (.int .i64 x0)), .sl a4_0_1.length (a4_0_1.map fun x0 => .sc (.int .i64 x0)), .sl a4_0_2.length (a4_0_2.map fun x0 => .sc (.int .i64 x0)), .sl a4_0_3.length (a4_0_3.map fun x0 => .sl x0.length (x0.map fun x1 => .sc (.int .i64 x1))), .sl a4_0_4.length (a4_0_4.map fun x0 => .sc (.string x0)), .sl a4_0_5.length (a4_0_5.map fun x0 => .sc (.string x0))], .pr [.sl a4_1_0.length (a4_1_0.map fun x0 => .sl x0.length (x0.map fun x1 => .sc (.int .i64 x1)))]]] = some (.tup [], [.os 1 r.length (r.map fun x0 => .sc (.int .i64 x0)), .dead, .dead, .dead, .dead])) := by
  intro k
  induction k with
  | zero => intros; exact ⟨fun r h => by cases h⟩
  | succ k ih => intros; have ih2 := @ih; exact z2E (rf := z0k k)
abbrev z0H (a1 : Int) (a2_0_0 : List Int) (a2_0_1 : List Int) (a2_0_2 : List Int) (a2_0_3 : List (List Int)) (a2_0_4 : List ByteArray) (a2_0_5 : List ByteArray) (a2_1_0 : List (List Int)) (w45 : Int) : Int × Int × List Int → Option ((Int × Int × List Int) ⊕ ((Int × List Int) ⊕ List Int))
  | (w55, w56, w57) =>
  if w56 ≤ a1 then
    (z0k 5000 w57 w55 (IntKind.i64.wrap (w55 + w45)) w56 a2_0_0 a2_0_1 a2_0_2 a2_0_3 a2_0_4 a2_0_5 a2_1_0).bind fun v59 =>
    z0n (w56, IntKind.i64.wrap (w56 + (IntKind.i64.wrap (2 * w45))), v59)
  else
    z0A <|
    if (IntKind.i64.wrap (w55 + w45)) < a1 then
      (z0k 5000 w57 w55 (IntKind.i64.wrap (w55 + w45)) a1 a2_0_0 a2_0_1 a2_0_2 a2_0_3 a2_0_4 a2_0_5 a2_1_0).bind fun v60 =>
      z0n (IntKind.i64.wrap (w45 * 2), v60)
    else
      z0n (IntKind.i64.wrap (w45 * 2), w57)
instance {a1 : Int} {a2_0_0 : List Int} {a2_0_1 : List Int} {a2_0_2 : List Int} {a2_0_3 : List (List Int)} {a2_0_4 : List ByteArray} {a2_0_5 : List ByteArray} {a2_1_0 : List (List Int)} {w45 : Int} : Hd (z0H a1 a2_0_0 a2_0_1 a2_0_2 a2_0_3 a2_0_4 a2_0_5 a2_1_0 w45) := ⟨fun (w55, w56, w57) => ([(7, xI w55), (8, xI w56)], [(0, .os 1 w57.length (w57.map fun x0 => .sc (.int .i64 x0)))])⟩
abbrev z0I (a1 : Int) (a2_0_0 : List Int) (a2_0_1 : List Int) (a2_0_2 : List Int) (a2_0_3 : List (List Int)) (a2_0_4 : List ByteArray) (a2_0_5 : List ByteArray) (a2_1_0 : List (List Int)) : Int × List Int → Option ((Int × List Int) ⊕ List Int)
  | (w45, w46) =>
  if w45 < a1 then
    z0u (z0H a1 a2_0_0 a2_0_1 a2_0_2 a2_0_3 a2_0_4 a2_0_5 a2_1_0 w45) LFm (0, IntKind.i64.wrap (2 * w45), w46)
  else
    z0A <|
    some w46
instance {a1 : Int} {a2_0_0 : List Int} {a2_0_1 : List Int} {a2_0_2 : List Int} {a2_0_3 : List (List Int)} {a2_0_4 : List ByteArray} {a2_0_5 : List ByteArray} {a2_1_0 : List (List Int)} : Hd (z0I a1 a2_0_0 a2_0_1 a2_0_2 a2_0_3 a2_0_4 a2_0_5 a2_1_0) := ⟨fun (w45, w46) => ([(6, xI w45)], [(0, .os 1 w46.length (w46.map fun x0 => .sc (.int .i64 x0)))])⟩
abbrev z0J (a1 : Int) (a2_0_0 : List Int) (a2_0_1 : List Int) (a2_0_2 : List Int) (a2_0_3 : List (List Int)) (a2_0_4 : List ByteArray) (a2_0_5 : List ByteArray) (a2_1_0 : List (List Int)) : Int × Int × List Int → Option ((Int × Int × List Int) ⊕ List Int)
  | (w32, w33, w34) =>
  if w33 ≤ a1 then
    (z0B w34 w32 w33 a2_0_0 a2_0_1 a2_0_2 a2_0_3 a2_0_4 a2_0_5 a2_1_0).bind fun v36 =>
    z0n (w33, IntKind.i64.wrap (w33 + 20), v36)
  else
    z0A <|
    (z0B w34 w32 a1 a2_0_0 a2_0_1 a2_0_2 a2_0_3 a2_0_4 a2_0_5 a2_1_0).bind fun v37 =>
    z0u (z0I a1 a2_0_0 a2_0_1 a2_0_2 a2_0_3 a2_0_4 a2_0_5 a2_1_0) LFm (20, v37)
instance {a1 : Int} {a2_0_0 : List Int} {a2_0_1 : List Int} {a2_0_2 : List Int} {a2_0_3 : List (List Int)} {a2_0_4 : List ByteArray} {a2_0_5 : List ByteArray} {a2_1_0 : List (List Int)} : Hd (z0J a1 a2_0_0 a2_0_1 a2_0_2 a2_0_3 a2_0_4 a2_0_5 a2_1_0) := ⟨fun (w32, w33, w34) => ([(7, xI w32), (8, xI w33)], [(0, .os 1 w34.length (w34.map fun x0 => .sc (.int .i64 x0)))])⟩
def z0M (a0 : List Int) (a1 : Int) (a2_0_0 : List Int) (a2_0_1 : List Int) (a2_0_2 : List Int) (a2_0_3 : List (List Int)) (a2_0_4 : List ByteArray) (a2_0_5 : List ByteArray) (a2_1_0 : List (List Int)) : Option (List Int) :=
  z0u (z0J a1 a2_0_0 a2_0_1 a2_0_2 a2_0_3 a2_0_4 a2_0_5 a2_1_0) LFm (0, 20, a0)
instance slices_stableCmpFunc_int_holonomy_classes_1_ok {a0 : List Int} {a1 : Int} {a2_0_0 : List Int} {a2_0_1 : List Int} {a2_0_2 : List Int} {a2_0_3 : List (List Int)} {a2_0_4 : List ByteArray} {a2_0_5 : List ByteArray} {a2_1_0 : List (List Int)} : Ok (z0M a0 a1 a2_0_0 a2_0_1 a2_0_2 a2_0_3 a2_0_4 a2_0_5 a2_1_0) (fun r => L 75 [.os 1 a0.length (a0.map fun x0 => .sc (.int .i64 x0)), .sc (.int .i64 a1), .cl 53 [.pr [.sl a2_0_0.length (a2_0_0.map fun x0 => .sc (.int .i64 x0)), .sl a2_0_1.length (a2_0_1.map fun x0 => .sc (.int .i64 x0)), .sl a2_0_2.length (a2_0_2.map fun x0 => .sc (.int .i64 x0)), .sl a2_0_3.length (a2_0_3.map fun x0 => .sl x0.length (x0.map fun x1 => .sc (.int .i64 x1))), .sl a2_0_4.length (a2_0_4.map fun x0 => .sc (.string x0)), .sl a2_0_5.length (a2_0_5.map fun x0 => .sc (.string x0))], .pr [.sl a2_1_0.length (a2_1_0.map fun x0 => .sl x0.length (x0.map fun x1 => .sc (.int .i64 x1)))]]] = some (.tup [], [.os 1 r.length (r.map fun x0 => .sc (.int .i64 x0)), .dead, .dead])) := ⟨fun r h => by have h := z5B h; unfold z0M at h; exact z5O zy0 zBh zBt⟩
def z0q (a0 : List Int) (a1_0_0 : List Int) (a1_0_1 : List Int) (a1_0_2 : List Int) (a1_0_3 : List (List Int)) (a1_0_4 : List ByteArray) (a1_0_5 : List ByteArray) (a1_1_0 : List (List Int)) : Option (List Int) :=
  (z0M a0 (a0.length : Int) a1_0_0 a1_0_1 a1_0_2 a1_0_3 a1_0_4 a1_0_5 a1_1_0).bind fun v2 =>
  some v2
instance slices_SortStableFunc_Lint_int_holonomy_classes_1_ok {a0 : List Int} {a1_0_0 : List Int} {a1_0_1 : List Int} {a1_0_2 : List Int} {a1_0_3 : List (List Int)} {a1_0_4 : List ByteArray} {a1_0_5 : List ByteArray} {a1_1_0 : List (List Int)} : Ok (z0q a0 a1_0_0 a1_0_1 a1_0_2 a1_0_3 a1_0_4 a1_0_5 a1_1_0) (fun r => L 52 [.os 1 a0.length (a0.map fun x0 => .sc (.int .i64 x0)), .cl 53 [.pr [.sl a1_0_0.length (a1_0_0.map fun x0 => .sc (.int .i64 x0)), .sl a1_0_1.length (a1_0_1.map fun x0 => .sc (.int .i64 x0)), .sl a1_0_2.length (a1_0_2.map fun x0 => .sc (.int .i64 x0)), .sl a1_0_3.length (a1_0_3.map fun x0 => .sl x0.length (x0.map fun x1 => .sc (.int .i64 x1))), .sl a1_0_4.length (a1_0_4.map fun x0 => .sc (.string x0)), .sl a1_0_5.length (a1_0_5.map fun x0 => .sc (.string x0))], .pr [.sl a1_1_0.length (a1_1_0.map fun x0 => .sl x0.length (x0.map fun x1 => .sc (.int .i64 x1)))]]] = some (.tup [], [.os 1 r.length (r.map fun x0 => .sc (.int .i64 x0)), .dead])) := ⟨fun r h => by have h := z5B h; unfold z0q at h; exact z5O zy1 zBi zBu⟩
def z2Z (a0 : Imgs) (w36 : List (List Int)) : Int × List Int → Option ((Int × List Int) ⊕ (List Int × List (List Int)))
  | (w50, w51) =>
  if w50 < (w36.length : Int) then
    (atI w36 w50).bind fun v55 =>
    (atI v55 0).bind fun v56 =>
    (atI a0.height v56).bind fun v57 =>
    if 1 ≤ v57 then
      chk (z2Q 8 (w51.length + 1)) <|
      z0n (IntKind.i64.wrap (w50 + 1), w51 ++ [w50])
    else
      z0n (IntKind.i64.wrap (w50 + 1), w51)
  else
    z0A <|
    (z0q w51 a0.sets a0.class_ a0.height a0.tiles a0.words a0.back w36).bind fun v58 =>
    some (v58, w36)
def z2l (a0 : Imgs) (w36 : List (List Int)) : Int × List Int → Fr
  | (w50, w51) => ⟨61, [(1, .one (.a 1 [] (0))), (4, .one (.a 4 [] (0))), (7, .one (.h 7 [])), (36, .one (.h 4 [0])), (37, .one (.t none (.sc (.int .i64 (w36.length : Int))))), (38, .one (.t none (.sc (.int .i64 w50))))], [(1, .vr [.sl a0.sets.length (a0.sets.map fun x0 => .sc (.int .i64 x0)), .sl a0.class_.length (a0.class_.map fun x0 => .sc (.int .i64 x0)), .sl a0.height.length (a0.height.map fun x0 => .sc (.int .i64 x0)), .sl a0.tiles.length (a0.tiles.map fun x0 => .sl x0.length (x0.map fun x1 => .sc (.int .i64 x1))), .sl a0.words.length (a0.words.map fun x0 => .sc (.string x0)), .sl a0.back.length (a0.back.map fun x0 => .sc (.string x0))]), (4, .vr [.os 1 w36.length (w36.map fun x0 => .os 1 x0.length (x0.map fun x1 => .sc (.int .i64 x1)))]), (7, .os 1 w51.length (w51.map fun x0 => .sc (.int .i64 x0)))]⟩
def z2v (a0 : Imgs) : Int × List (List Int) → Option ((Int × List (List Int)) ⊕ (List Int × List (List Int)))
  | (w35, w36) =>
  if w35 < (a0.class_.length : Int) then
    (atI a0.class_ w35).bind fun v42 =>
    if v42 = (w36.length : Int) then
      chk (z2Q 24 (w36.length + 1)) <|
      (atI (w36 ++ [[]]) v42).bind fun v43 =>
      chk (z2Q 8 (v43.length + 1)) <|
      z0n (IntKind.i64.wrap (w35 + 1), ((w36 ++ [[]]).set v42.toNat (v43 ++ [w35])))
    else
      (atI w36 v42).bind fun v45 =>
      chk (z2Q 8 (v45.length + 1)) <|
      z0n (IntKind.i64.wrap (w35 + 1), (w36.set v42.toNat (v45 ++ [w35])))
  else
    z0A <|
    z0u (z2Z a0 w36) LFm (0, [])
def z2u (a0 : Imgs) : Int × List (List Int) → Fr
  | (w35, w36) => ⟨61, [(1, .one (.a 1 [] (0))), (4, .one (.a 4 [] (0))), (11, .one (.t none (.sl a0.class_.length (a0.class_.map fun x0 => .sc (.int .i64 x0))))), (12, .one (.t none (.sc (.int .i64 (a0.class_.length : Int))))), (13, .one (.t none (.sc (.int .i64 w35))))], [(1, .vr [.sl a0.sets.length (a0.sets.map fun x0 => .sc (.int .i64 x0)), .sl a0.class_.length (a0.class_.map fun x0 => .sc (.int .i64 x0)), .sl a0.height.length (a0.height.map fun x0 => .sc (.int .i64 x0)), .sl a0.tiles.length (a0.tiles.map fun x0 => .sl x0.length (x0.map fun x1 => .sc (.int .i64 x1))), .sl a0.words.length (a0.words.map fun x0 => .sc (.string x0)), .sl a0.back.length (a0.back.map fun x0 => .sc (.string x0))]), (4, .vr [.os 1 w36.length (w36.map fun x0 => .os 1 x0.length (x0.map fun x1 => .sc (.int .i64 x1)))])]⟩
def z3n (a0 : Imgs) : Option (List Int × List (List Int)) :=
  z0u (z2v a0) LFm (0, [])
instance holonomy_classes_ok {a0 : Imgs} : Ok (z3n a0) (fun r => L 25 [.agg [.sl a0.sets.length (a0.sets.map fun x0 => .sc (.int .i64 x0)), .sl a0.class_.length (a0.class_.map fun x0 => .sc (.int .i64 x0)), .sl a0.height.length (a0.height.map fun x0 => .sc (.int .i64 x0)), .sl a0.tiles.length (a0.tiles.map fun x0 => .sl x0.length (x0.map fun x1 => .sc (.int .i64 x1))), .sl a0.words.length (a0.words.map fun x0 => .sc (.string x0)), .sl a0.back.length (a0.back.map fun x0 => .sc (.string x0))]] = some (.tup [.sl r.1.length (r.1.map fun x0 => .sc (.int .i64 x0)), .sl r.2.length (r.2.map fun x0 => .sl x0.length (x0.map fun x1 => .sc (.int .i64 x1)))], [.dead])) := ⟨fun r h0 => by
  simp only [z3n] at h0
  refine zra zAT zCu (zcx zDU ⟨of_decide_eq_true rfl, of_decide_eq_true rfl⟩ rfl ?_)
  simp only [z5v, z4Q, z4J, z6D, z4U]
  refine zq rfl (zr rfl rfl rfl (by simp; rfl) ?_)
  refine z0c (zq rfl (zr rfl rfl rfl (by simp; rfl) ?_))
  refine z0c (zq rfl (zq rfl (zr rfl rfl rfl (by simp; rfl) ?_)))
  refine z0c (zb rfl (z4a h0 (z2u a0) rfl rfl (by simp [z2u]) fun s o1 h1 hr1 => ?_))
  obtain ⟨w35, w36⟩ := s
  simp only [z2v] at h1
  simp only [z2u]
  refine zq rfl (zr rfl rfl rfl (by simp; rfl) ?_)
  refine z0c (zq rfl ?_)
  by_cases c57 : w35 < (a0.class_.length : Int)
  ·rw [if_pos c57] at h1
   refine z5z rfl (by simp [c57]) (z3G rfl (z0c (zq rfl (zb rfl (zq rfl ?_)))))
   obtain ⟨v42, f58, h2⟩ := z3M h1
   refine zr rfl rfl rfl (by simp [f58]; rfl) ?_
   refine z0c (zq rfl (zq rfl (zr rfl rfl rfl (by simp; rfl) ?_)))
   refine z0c ?_
   by_cases c59 : v42 = (w36.length : Int)
   ·rw [if_pos c59] at h2
    have c59e := eq_true c59
    refine z5z rfl (by simp [c59e]) ?_
    obtain ⟨f60, h3⟩ := ztx h2
    refine zr rfl rfl rfl (by simp [f60]; rfl) ?_
    refine z0c ?_
    obtain ⟨v43, f61, h4⟩ := z1y h3
    obtain ⟨f61a, f61b, f61c, f61d, f61e⟩ := zcM f61
    try simp at f61b f61c
    have f61s : ∀ hh, ((w36 ++ [[]]).map (fun x0 : List Int => (.os 1 x0.length (x0.map fun x1 => .sc (.int .i64 x1)) : T)))[v42.toNat]'hh = (fun x0 : List Int => (.os 1 x0.length (x0.map fun x1 => .sc (.int .i64 x1)) : T)) v43 := fun hh => by rw [List.getElem_map]; exact congrArg (fun x0 : List Int => (.os 1 x0.length (x0.map fun x1 => .sc (.int .i64 x1)) : T)) (f61e _)
    try simp only [List.map_set, List.map_append, List.map_cons, List.map_nil, List.length_nil] at f61s
    obtain ⟨f62, h5⟩ := ztx h4
    refine zhf rfl rfl rfl rfl ?_
    refine z0P rfl rfl (by simp [z0d, z0f, f61a, f61b, f61c, f61d, f61e, f61s, f62]; rfl) ?_
    refine z0P rfl rfl (by simp [z0d, z0f, f61a, f61b, f61c, f61d, f61e, f61s, f62]; rfl) ?_
    refine z0P rfl rfl (by simp [z0d, z0f, f61a, f61b, f61c, f61d, f61e, f61s, f62]; rfl) ?_
    refine z0P rfl rfl (by simp [z0d, z0f, f61a, f61b, f61c, f61d, f61e, f61s, f62]; rfl) ?_
    refine z0P rfl rfl (by simp [z0d, z0f, f61a, f61b, f61c, f61d, f61e, f61s, f62]; rfl) ?_
    refine z0P rfl rfl (by simp [z0d, z0f, f61a, f61b, f61c, f61d, f61e, f61s, f62]; rfl) ?_
    refine z5o ?_
    refine z0P rfl rfl (by simp [z0d, z0f, f61a, f61b, f61c, f61d, f61e, f61s, f62]; rfl) ?_
    refine z0P rfl rfl (by simp [z0d, z0f, f61a, f61b, f61c, f61d, f61e, f61s, f62]; rfl) ?_
    refine z0P rfl rfl (by simp [z0d, z0f, f61a, f61b, f61c, f61d, f61e, f61s, f62]; rfl) ?_
    refine z0P rfl rfl (by simp [z0d, z0f, f61a, f61b, f61c, f61d, f61e, f61s, f62]; rfl) ?_
    refine z0P rfl rfl (by simp [z0d, z0f, f61a, f61b, f61c, f61d, f61e, f61s, f62]; rfl) ?_
    refine z5n ?_
    refine ⟨?_, ?_⟩
    ·refine z0P rfl rfl (by simp [z0d, z0f, f61a, f61b, f61c, f61d, f61e, f61s, f62]; rfl) ?_
     refine z5o ?_
     refine z0P rfl rfl (by simp [z0d, z0f, f61a, f61b, f61c, f61d, f61e, f61s, f62]; rfl) ?_
     refine z0P rfl rfl (by simp [z0d, z0f, f61a, f61b, f61c, f61d, f61e, f61s, f62]; rfl) ?_
     refine z0P rfl rfl (by simp [z0d, z0f, f61a, f61b, f61c, f61d, f61e, f61s, f62]; rfl) ?_
     refine z0P rfl rfl (by simp [z0d, z0f, f61a, f61b, f61c, f61d, f61e, f61s, f62]; rfl) ?_
     refine z5n ?_
     refine ⟨?_, ?_⟩
     ·refine z0P rfl rfl (by simp [z0d, z0f, f61a, f61b, f61c, f61d, f61e, f61s, f62]; rfl) ?_
      refine z0P rfl rfl (by simp [z0d, z0f, f61a, f61b, f61c, f61d, f61e, f61s, f62]; rfl) ?_
      refine z0P rfl rfl (by simp [z0d, z0f, f61a, f61b, f61c, f61d, f61e, f61s, f62]; rfl) ?_
      refine z0P rfl rfl (by simp [z0d, z0f, f61a, f61b, f61c, f61d, f61e, f61s, f62]; rfl) ?_
      refine z5n ?_
      simp [z5y, f61a, f61b, f61c, f61d, f61e, f61s, f62]
     simp [z5y, f61a, f61b, f61c, f61d, f61e, f61s, f62]
    refine zh7 rfl (by simp [f61a, f61b, f61c, f61d, f61e, f61s, f62]; rfl) ?_
    refine z2A (z0c (zr rfl rfl rfl (by simp; rfl) ?_))
    have ho := z1P h5
    refine z2z ho ?_
    simp [z2u]
   ·rw [if_neg c59] at h2
    have c59e := eq_false c59
    refine z5A rfl (by simp [c59e]) (z3G rfl (z0c ?_))
    obtain ⟨v45, f63, h3⟩ := z3M h2
    obtain ⟨f64, h4⟩ := ztx h3
    refine zhf rfl rfl rfl rfl ?_
    refine z0P rfl rfl (by simp [z0d, z0f, f63, f64]; rfl) ?_
    refine z0P rfl rfl (by simp [z0d, z0f, f63, f64]; rfl) ?_
    refine z0P rfl rfl (by simp [z0d, z0f, f63, f64]; rfl) ?_
    refine z0P rfl rfl (by simp [z0d, z0f, f63, f64]; rfl) ?_
    refine z0P rfl rfl (by simp [z0d, z0f, f63, f64]; rfl) ?_
    refine z0P rfl rfl (by simp [z0d, z0f, f63, f64]; rfl) ?_
    refine z5o ?_
    refine z0P rfl rfl (by simp [z0d, z0f, f63, f64]; rfl) ?_
    refine z0P rfl rfl (by simp [z0d, z0f, f63, f64]; rfl) ?_
    refine z0P rfl rfl (by simp [z0d, z0f, f63, f64]; rfl) ?_
    refine z0P rfl rfl (by simp [z0d, z0f, f63, f64]; rfl) ?_
    refine z0P rfl rfl (by simp [z0d, z0f, f63, f64]; rfl) ?_
    refine z5n ?_
    refine ⟨?_, ?_⟩
    ·refine z0P rfl rfl (by simp [z0d, z0f, f63, f64]; rfl) ?_
     refine z5o ?_
     refine z0P rfl rfl (by simp [z0d, z0f, f63, f64]; rfl) ?_
     refine z0P rfl rfl (by simp [z0d, z0f, f63, f64]; rfl) ?_
     refine z0P rfl rfl (by simp [z0d, z0f, f63, f64]; rfl) ?_
     refine z0P rfl rfl (by simp [z0d, z0f, f63, f64]; rfl) ?_
     refine z5n ?_
     refine ⟨?_, ?_⟩
     ·refine z0P rfl rfl (by simp [z0d, z0f, f63, f64]; rfl) ?_
      refine z0P rfl rfl (by simp [z0d, z0f, f63, f64]; rfl) ?_
      refine z0P rfl rfl (by simp [z0d, z0f, f63, f64]; rfl) ?_
      refine z0P rfl rfl (by simp [z0d, z0f, f63, f64]; rfl) ?_
      refine z5n ?_
      simp [z5y, f63, f64]
     simp [z5y, f63, f64]
    refine zh7 rfl (by simp [f63, f64]; rfl) ?_
    refine z2A (z0c (zr rfl rfl rfl (by simp; rfl) ?_))
    have ho := z1P h4
    refine z2z ho ?_
    simp [z2u]
  ·rw [if_neg c57] at h1
   refine z5A rfl (by simp [c57]) (z5q rfl (z3R ?_))
   obtain ⟨rr1, h2, ho1⟩ := z2d h1
   have hs1 := hr1 _ ho1
   subst hs1
   refine z3g ho1 (z1C rfl (z0c (zq rfl (zr rfl rfl rfl (by simp; rfl) ?_))))
   refine z0c (zq rfl (zq rfl (zr rfl rfl rfl (by simp; rfl) ?_)))
   refine z0c (zb rfl (z4a h2 (z2l a0 w36) rfl rfl (by simp [z2l]) fun s o2 h3 hr2 => ?_))
   obtain ⟨w50, w51⟩ := s
   simp only [z2Z] at h3
   simp only [z2l]
   refine zq rfl (zr rfl rfl rfl (by simp; rfl) ?_)
   refine z0c (zq rfl ?_)
   by_cases c76 : w50 < (w36.length : Int)
   ·rw [if_pos c76] at h3
    refine z5z rfl (by simp [c76]) (z3G rfl (z0c (zq rfl (zb rfl (zq rfl ?_)))))
    obtain ⟨v55, f77, h4⟩ := z3M h3
    refine zr rfl rfl rfl (by simp [f77]; rfl) ?_
    refine z0c (zq rfl ?_)
    obtain ⟨v56, f78, h5⟩ := z1y h4
    obtain ⟨f78a, f78b, f78c, f78d, f78e⟩ := zcM f78
    simp only [Int.reduceToNat, Int.toNat_natCast] at f78c f78d f78e
    have f78j : v55 ≠ [] := by intro hh; rw [hh] at f78c; simp at f78c
    have f78l : 0 < v55.length := by omega
    obtain ⟨v57, f79, h6⟩ := z3M h5
    refine z6w rfl rfl rfl rfl ?_; repeat' ((first | refine z3A rfl rfl fun Q' hQ => ?_ | refine z3h rfl fun Q' hQ => ?_); simp [f77, f78a, f78b, f78c, f78d, f78e, f78j, f78l, f79]; refine hQ.out _ ?_; clear hQ; clear Q')
    refine z0c ?_
    by_cases c80 : 1 ≤ v57
    ·rw [if_pos c80] at h6
     refine z5z rfl (by simp [c80]) ?_
     obtain ⟨f81, h7⟩ := ztx h6
     refine zr rfl rfl rfl (by simp [f77, f81]; rfl) ?_
     refine z2A (z0c (zr rfl rfl rfl (by simp [f77]; rfl) ?_))
     have ho := z1P h7
     refine z2z ho ?_
     simp [z2l]
    ·rw [if_neg c80] at h6
     refine z5A rfl (by simp [c80]) (z3G rfl (z2A (z0c (zr rfl rfl rfl (by simp [f77]; rfl) ?_))))
     have ho := z1P h6
     refine z2z ho ?_
     simp [z2l]
   ·rw [if_neg c76] at h3
    refine z5A rfl (by simp [c76]) (z5q rfl (z3R ?_))
    obtain ⟨rr2, h4, ho2⟩ := z2d h3
    have hs2 := hr2 _ ho2
    subst hs2
    refine z3g ho2 (z1C rfl (z0c (zq rfl (zsu rfl rfl (by simp; rfl) ?_))))
    obtain ⟨v58, f82, h5⟩ := z1y h4
    have f82k := Ok.ok _ f82
    try simp at f82k
    refine zr rfl rfl rfl (by simp [f82k]; rfl) ?_
    refine z0c (zq rfl ?_)
    refine z6w rfl rfl rfl rfl ?_; repeat' ((first | refine z3A rfl rfl fun Q' hQ => ?_ | refine z3h rfl fun Q' hQ => ?_); simp; refine hQ.out _ ?_; clear hQ; clear Q')
    refine z0c (zhI rfl ?_)
    cases h5
    simp⟩
end
end Go.Proofs.Ytodliknibbafeaa
end
section
namespace Go.Proofs.Ytodliknibbafeaa
open Go
set_option maxRecDepth 100000
def zwg (M : List (List Int)) (H : List Int) (x : Int) : Option Int := (atI M x).bind fun m => (atI m 0).bind fun r => atI H r
def zwR (s c h : List Int) (t : List (List Int)) (w b : List ByteArray) (M : List (List Int)) : SrtC where
  cmp x y := z1h x y s c h t w b M
  key x := x - (zwg M h x).getD 0 * 1048576
  ok x := 0 ≤ x ∧ x < 1048576 ∧ (zwg M h x).isSome
  law x y hx hy hl := by
    obtain ⟨x0, x1, x2⟩ := hx
    obtain ⟨y0, y1, y2⟩ := hy
    obtain ⟨u, hu⟩ := Option.isSome_iff_exists.1 x2
    obtain ⟨v, hv⟩ := Option.isSome_iff_exists.1 y2
    have hu' := hu
    have hv' := hv
    unfold zwg at hu hv
    cases h1 : atI M x with
    | none => rw [h1] at hu; cases hu
    | some p =>
      cases h2 : atI M y with
      | none => rw [h2] at hv; cases hv
      | some q =>
        rw [h1, Option.bind_some] at hu
        rw [h2, Option.bind_some] at hv
        cases h3 : atI p 0 with
        | none => rw [h3] at hu; cases hu
        | some p0 =>
          cases h4 : atI q 0 with
          | none => rw [h4] at hv; cases hv
          | some q0 =>
            rw [h3, Option.bind_some] at hu
            rw [h4, Option.bind_some] at hv
            obtain ⟨z, e1, e2⟩ := zvr v u
            refine ⟨z, ?_, ?_⟩
            · unfold z1h
              rw [h2, Option.bind_some, h4, Option.bind_some, hv, Option.bind_some, h1, Option.bind_some, h3, Option.bind_some, hu, Option.bind_some, e1]; rfl
            · rw [e2, hu', hv', Option.getD_some, Option.getD_some]
              omega
theorem zkb : ∀ k, z0k k = fun l a m b s c h t w x M => zvo k l a m b (zwR s c h t w x M)
  | 0 => rfl
  | k + 1 => by
    show z0G (z0k k) = _
    rw [zkb k]
    rfl
theorem zs7 (l s c h : List Int) (t : List (List Int)) (w b : List ByteArray) (M : List (List Int)) : z0q l s c h t w b M = zye l (zwR s c h t w b M) := by
  have h9 : z0H = fun a s c h t w b M k => zc6 a (zwR s c h t w b M) k := by
    unfold z0H
    rw [zkb]
    all_goals rfl
  have h7 : z0I = fun a s c h t w b M => zeS a (zwR s c h t w b M) := by
    unfold z0I
    rw [h9]
    all_goals rfl
  have h2 : z0J = fun a s c h t w b M => zeT a (zwR s c h t w b M) := by
    unfold z0J
    rw [h7]
    all_goals rfl
  unfold z0q z0M
  rw [h2]
  all_goals rfl
end Go.Proofs.Ytodliknibbafeaa
end
section
namespace Go.Proofs.Ytodliknibbafeaa
open Go
set_option maxRecDepth 100000
def z5H (p r : Nat) : Prop := p &&& r = p
theorem z1I {p r : Nat} : z5H p r ↔ ∀ q, p.testBit q = true → r.testBit q = true := by
  unfold z5H
  constructor
  · intro h q hq
    have : (p &&& r).testBit q = true := by rw [h]; exact hq
    rw [Nat.testBit_and, Bool.and_eq_true] at this
    exact this.2
  · intro h
    apply Nat.eq_of_testBit_eq
    intro q
    rw [Nat.testBit_and]
    cases hp : p.testBit q with
    | false => rfl
    | true => rw [h q hp]; rfl
theorem zhy (p : Nat) : z5H p p := Nat.and_self p
theorem zs3 {p q r : Nat} (h1 : z5H p q) (h2 : z5H q r) : z5H p r := z1I.2 fun i hi => z1I.1 h2 i (z1I.1 h1 i hi)
theorem z6V {p q : Nat} (h1 : z5H p q) (h2 : z5H q p) : p = q := Nat.eq_of_testBit_eq fun i => by
  have a := z1I.1 h1 i
  have b := z1I.1 h2 i
  cases hp : p.testBit i <;> cases hq : q.testBit i <;> simp_all
theorem zw7 {d : DFA} {m n : Nat} (hd : DfaOk d m n) {p r a : Nat} (ha : a < m) (h : z5H p r) : z5H (mvN d p a) (mvN d r a) := z1I.2 fun q hq => by
  obtain ⟨i, h1, h2, h3⟩ := (z7c hd ha q).1 hq
  exact (z7c hd ha q).2 ⟨i, h1, z1I.1 h i h2, h3⟩
theorem zhC {d : DFA} {m n : Nat} (hd : DfaOk d m n) : ∀ {w : List UInt8} {p r : Nat}, (∀ c ∈ w, 97 ≤ c.toNat ∧ c.toNat < 97 + m) → z5H p r → z5H (z4q d p w) (z4q d r w)
  | [], p, r, _, h => h
  | c :: w, p, r, hw, h => zhC (w := w) (p := mvN d p (c.toNat - 97)) (r := mvN d r (c.toNat - 97)) hd (fun c' hc' => hw c' (List.mem_cons_of_mem _ hc')) (zw7 hd (by have := hw c (List.mem_cons_self ..); omega) h)
theorem zex {d : DFA} {m n s : Nat} (hd : DfaOk d m n) (hs : s < 2 ^ n) : ∀ {w : List UInt8} {x : Nat}, (∀ c ∈ w, 97 ≤ c.toNat ∧ c.toNat < 97 + m) → x ∈ (z1d d m n s).1 → z4q d x w ∈ (z1d d m n s).1
  | [], x, _, h => h
  | c :: w, x, hw, h => zex (w := w) (x := mvN d x (c.toNat - 97)) hd hs (fun c' hc' => hw c' (List.mem_cons_of_mem _ hc')) (zcl hd hs h (by have := hw c (List.mem_cons_self ..); omega))
theorem zc1 {d : DFA} {m n s : Nat} (hd : DfaOk d m n) (hs : s < 2 ^ n) : s ∈ (z1d d m n s).1 := by
  have := (z6b hd hs).f0
  exact List.mem_of_getElem? this
def zwU (d : DFA) (m : Nat) (p r : Nat) : Prop := ∃ w : List UInt8, (∀ c ∈ w, 97 ≤ c.toNat ∧ c.toNat < 97 + m) ∧ z5H p (z4q d r w)
theorem ztH {d : DFA} {m n p r : Nat} (hd : DfaOk d m n) (hr : r < 2 ^ n) : zwU d m p r ↔ ∃ x ∈ (z1d d m n r).1, z5H p x := by
  constructor
  · rintro ⟨w, h1, h2⟩
    exact ⟨_, zex hd hr h1 (zc1 hd hr), h2⟩
  · rintro ⟨x, hx, hs⟩
    obtain ⟨i, hi, rfl⟩ := List.getElem_of_mem hx
    obtain ⟨_, o2, o3⟩ := (z6b hd hr).ok i hi
    refine ⟨_, o2, ?_⟩
    rw [o3, List.getD, List.getElem?_eq_getElem hi, Option.getD_some]
    exact hs
theorem zon (d : DFA) (m p : Nat) : zwU d m p p := ⟨[], fun c hc => by simp at hc, zhy p⟩
theorem zf7 {d : DFA} {m n p q r : Nat} (hd : DfaOk d m n) (h1 : zwU d m p q) (h2 : zwU d m q r) : zwU d m p r := by
  obtain ⟨u, u1, u2⟩ := h1
  obtain ⟨v, v1, v2⟩ := h2
  refine ⟨v ++ u, fun c hc => ?_, ?_⟩
  · rcases List.mem_append.1 hc with h | h
    · exact v1 c h
    · exact u1 c h
  · rw [z6v]
    exact zs3 u2 (zhC hd u1 v2)
end Go.Proofs.Ytodliknibbafeaa
end
section
namespace Go.Proofs.Ytodliknibbafeaa
open Go
theorem zu2 {a0 : List Int} {r : List Int} (h : zld a0 = some r) : L 68 [.os 1 a0.length (a0.map fun x0 => .sc (.int .i64 x0)), .sc (.func (.func 69) #[] #[])] = some (.tup [], [.os 1 r.length (r.map fun x0 => .sc (.int .i64 x0)), .dead]) := by
  refine zsU rfl ?_
  have e : (List.map (fun x0 => T.sc (Value.int IntKind.i64 x0)) a0) = a0.map fun x => .sc (.int .i64 x) := rfl
  simp only [xt, xtC, if_true, zvz, Array.isEmpty_empty, and_self, zkJ, h, Option.map_some]
instance {a0 : List Int} : Ok (zld a0) (fun r => L 68 [.os 1 a0.length (a0.map fun x0 => .sc (.int .i64 x0)), .sc (.func (.func 69) #[] #[])] = some (.tup [], [.os 1 r.length (r.map fun x0 => .sc (.int .i64 x0)), .dead])) := ⟨fun _ h => zu2 h⟩
end Go.Proofs.Ytodliknibbafeaa
end
section
namespace Go.Proofs.Ytodliknibbafeaa
open Go
noncomputable section
set_option maxRecDepth 100000
set_option maxHeartbeats 6000000
abbrev z1G (w93 : Int) (v122 : List Int) : Int × List Bool × List ByteArray × List Int → Option ((Int × List Bool × List ByteArray × List Int) ⊕ ((Int × List Bool × List ByteArray × List Int) ⊕ (List Int × List ByteArray)))
  | (w129, w130, w131, w132) =>
  if w129 < (v122.length : Int) then
    (atI v122 w129).bind fun v139 =>
    (atI w130 v139).bind fun v140 =>
    if v140 = true then
      z0n (IntKind.i64.wrap (w129 + 1), w130, w131, w132)
    else
      (atI w132 w93).bind fun v142 =>
      (atI w131 v142).bind fun v143 =>
      chk (zap v143 ⟨#[UInt8.ofNat (IntKind.u8.wrap (IntKind.i64.wrap (97 + w129))).toNat]⟩) <|
      (atI w131 v139).bind fun v144 =>
      chk (z2Q 8 (w132.length + 1)) <|
      z0n (IntKind.i64.wrap (w129 + 1), (w130.set v139.toNat true), (w131.set v139.toNat (v143 ++ ⟨#[UInt8.ofNat (IntKind.u8.wrap (IntKind.i64.wrap (97 + w129))).toNat]⟩)), w132 ++ [v139])
  else
    z0A <|
    z0n (IntKind.i64.wrap (w93 + 1), w130, w131, w132)
instance {w93 : Int} {v122 : List Int} : Hd (z1G w93 v122) := ⟨fun (w129, w130, w131, w132) => ([(40, xI w129)], [(6, .os 1 w130.length (w130.map fun x0 => .sc (.bool x0))), (7, .os 1 w131.length (w131.map fun x0 => .sc (.string x0))), (8, .os 1 w132.length (w132.map fun x0 => .sc (.int .i64 x0)))])⟩
abbrev z3e (a0 : Dgm) : Int × List Bool × List ByteArray × List Int → Option ((Int × List Bool × List ByteArray × List Int) ⊕ (List Int × List ByteArray))
  | (w93, w94, w95, w96) =>
  if w93 < (w96.length : Int) then
    (atI w96 w93).bind fun v121 =>
    (atI a0.next v121).bind fun v122 =>
    z0u (z1G w93 v122) LFm (0, w94, w95, w96)
  else
    z0A <|
    some (w96, w95)
instance {a0 : Dgm} : Hd (z3e a0) := ⟨fun (w93, w94, w95, w96) => ([(9, xI w93)], [(6, .os 1 w94.length (w94.map fun x0 => .sc (.bool x0))), (7, .os 1 w95.length (w95.map fun x0 => .sc (.string x0))), (8, .os 1 w96.length (w96.map fun x0 => .sc (.int .i64 x0)))])⟩
def z1m (a0 : Dgm) (a1 : Int) : Option (List Int × List ByteArray) :=
  chk (z1L 1 (a0.sets.length : Int)) <|
  chk (z1L 16 (a0.sets.length : Int)) <|
  chk (0 ≤ a1 ∧ a1 < (a0.sets.length : Int)) <|
  z0u (z3e a0) LFm (0, ((List.replicate (a0.sets.length : Int).toNat (false : Bool)).set a1.toNat true), List.replicate (a0.sets.length : Int).toNat (ByteArray.empty : ByteArray), [a1])
instance images_diagram_search_ok {a0 : Dgm} {a1 : Int} : Ok (z1m a0 a1) (fun r => L 51 [.agg [.sl a0.sets.length (a0.sets.map fun x0 => .sc (.int .i64 x0)), .sl a0.next.length (a0.next.map fun x0 => .sl x0.length (x0.map fun x1 => .sc (.int .i64 x1))), .sl a0.below.length (a0.below.map fun x0 => .sl x0.length (x0.map fun x1 => .sc (.bool x1)))], .sc (.int .i64 a1)] = some (.tup [.os 1 r.1.length (r.1.map fun x0 => .sc (.int .i64 x0)), .os 1 r.2.length (r.2.map fun x0 => .sc (.string x0))], [.dead, .dead])) := ⟨fun r h => by have h := z5B h; unfold z1m at h; exact z5O zAI zCh zDH⟩
def z2c (a0 : DFA) (a1 : List Int) (w226 : List Int) (w246 : Int) (w248 : List (List Bool)) (v266 : Int) : Int × List (List Int) → Option ((Int × List (List Int)) ⊕ ((Int × List (List Int) × List (List Bool)) ⊕ Dgm))
  | (w272, w273) =>
  if w272 < a0.letters then
    (atI w273 w246).bind fun v278 =>
    (z4u a0 v266 w272).bind fun v279 =>
    (atI w226 v279).bind fun v280 =>
    (atI v278 w272).bind fun v281 =>
    z0n (IntKind.i64.wrap (w272 + 1), (w273.set w246.toNat (v278.set w272.toNat v280)))
  else
    z0A <|
    chk (z1L 1 (a1.length : Int)) <|
    (atI w248 w246).bind fun v282 =>
    z0n (IntKind.i64.wrap (w246 + 1), w273, (w248.set w246.toNat (List.replicate (a1.length : Int).toNat (false : Bool))))
def z2L (a0 : DFA) (a1 : List Int) (w226 : List Int) (w246 : Int) (w248 : List (List Bool)) (v266 : Int) : Int × List (List Int) → Fr
  | (w272, w273) => ⟨127, [(1, .one (.t none (.sl a1.length (a1.map fun x0 => .sc (.int .i64 x0))))), (2, .one (.a 2 [] (0))), (4, .one (.a 4 [] (0))), (5, .one (.h 5 [])), (8, .one (.a 8 [] (0))), (9, .one (.t none (.sc (.int .i64 w246)))), (10, .one (.t none (.sc (.int .i64 v266)))), (44, .one (.t none (.sl a1.length (a1.map fun x0 => .sc (.int .i64 x0))))), (45, .one (.t none (.sc (.int .i64 (a1.length : Int))))), (46, .one (.t none (.sc (.int .i64 w246)))), (59, .one (.t none (.sc (.int .i64 a0.letters)))), (60, .one (.t none (.sc (.int .i64 w272))))], [(2, .vr [.sc (.int .i64 a0.letters), .sc (.int .i64 a0.start), .sl a0.final.length (a0.final.map fun x0 => .sc (.bool x0)), .sl a0.next.length (a0.next.map fun x0 => .sl x0.length (x0.map fun x1 => .sc (.int .i64 x1)))]), (4, .vr [.os 1 0 [], .os 1 0 [], .os 1 0 []]), (5, .os 1 w226.length (w226.map fun x0 => .sc (.int .i64 x0))), (8, .vr [.sl a1.length (a1.map fun x0 => .sc (.int .i64 x0)), .os 1 w273.length (w273.map fun x0 => .os 1 x0.length (x0.map fun x1 => .sc (.int .i64 x1))), .os 1 w248.length (w248.map fun x0 => .os 1 x0.length (x0.map fun x1 => .sc (.bool x1)))])]⟩
def z2b (a1 : List Int) (w337 : Int) (v393 : List Int × List ByteArray) (w411 : Int) (w412 : List (List Bool)) (v430 : Int) : Int → Option (Int ⊕ ((Int × List (List Bool)) ⊕ ((Int × List (List Bool)) ⊕ Dgm)))
  | w436 =>
  if w436 < (v393.1.length : Int) then
    (atI v393.1 w436).bind fun v442 =>
    (atI a1 v442).bind fun v443 =>
    (z2t v443 v430).bind fun v444 =>
    if v444 = true then
      (atI w412 w411).bind fun v445 =>
      (atI v445 w337).bind fun v446 =>
      z0A <|
      z0n (IntKind.i64.wrap (w411 + 1), (w412.set w411.toNat (v445.set w337.toNat true)))
    else
      z0n (IntKind.i64.wrap (w436 + 1))
  else
    z0A <|
    z0n (IntKind.i64.wrap (w411 + 1), w412)
def z2J (a1 : List Int) (w247 : List (List Int)) (w337 : Int) (v393 : List Int × List ByteArray) (w411 : Int) (w412 : List (List Bool)) (v430 : Int) : Int → Fr
  | w436 => ⟨127, [(1, .one (.t none (.sl a1.length (a1.map fun x0 => .sc (.int .i64 x0))))), (4, .one (.a 4 [] (0))), (8, .one (.a 8 [] (0))), (12, .one (.t none (.sc (.int .i64 w337)))), (13, .one (.h 13 [])), (15, .one (.t none (.sc (.int .i64 w411)))), (16, .one (.t none (.sc (.int .i64 v430)))), (87, .one (.t none (.sc (.int .i64 (a1.length : Int))))), (88, .one (.t none (.sc (.int .i64 w337)))), (97, .one (.t none (.sl a1.length (a1.map fun x0 => .sc (.int .i64 x0))))), (98, .one (.t none (.sc (.int .i64 (a1.length : Int))))), (99, .one (.t none (.sc (.int .i64 w411)))), (104, .one (.h 13 [])), (105, .one (.t none (.sc (.int .i64 (v393.1.length : Int))))), (106, .one (.t none (.sc (.int .i64 w436))))], [(4, .vr [.os 1 0 [], .os 1 0 [], .os 1 0 []]), (8, .vr [.sl a1.length (a1.map fun x0 => .sc (.int .i64 x0)), .os 1 w247.length (w247.map fun x0 => .os 1 x0.length (x0.map fun x1 => .sc (.int .i64 x1))), .os 1 w412.length (w412.map fun x0 => .os 1 x0.length (x0.map fun x1 => .sc (.bool x1)))]), (13, .os 1 v393.1.length (v393.1.map fun x0 => .sc (.int .i64 x0)))]⟩
def z2M (a1 : List Int) (w337 : Int) (v393 : List Int × List ByteArray) : Int × List (List Bool) → Option ((Int × List (List Bool)) ⊕ ((Int × List (List Bool)) ⊕ Dgm))
  | (w411, w412) =>
  if w411 < (a1.length : Int) then
    (atI a1 w411).bind fun v430 =>
    z0u (z2b a1 w337 v393 w411 w412 v430) LFm 0
  else
    z0A <|
    z0n (IntKind.i64.wrap (w337 + 1), w412)
def z2a (a1 : List Int) (w247 : List (List Int)) (w337 : Int) (v393 : List Int × List ByteArray) : Int × List (List Bool) → Fr
  | (w411, w412) => ⟨127, [(1, .one (.t none (.sl a1.length (a1.map fun x0 => .sc (.int .i64 x0))))), (4, .one (.a 4 [] (0))), (8, .one (.a 8 [] (0))), (12, .one (.t none (.sc (.int .i64 w337)))), (13, .one (.h 13 [])), (87, .one (.t none (.sc (.int .i64 (a1.length : Int))))), (88, .one (.t none (.sc (.int .i64 w337)))), (97, .one (.t none (.sl a1.length (a1.map fun x0 => .sc (.int .i64 x0))))), (98, .one (.t none (.sc (.int .i64 (a1.length : Int))))), (99, .one (.t none (.sc (.int .i64 w411))))], [(4, .vr [.os 1 0 [], .os 1 0 [], .os 1 0 []]), (8, .vr [.sl a1.length (a1.map fun x0 => .sc (.int .i64 x0)), .os 1 w247.length (w247.map fun x0 => .os 1 x0.length (x0.map fun x1 => .sc (.int .i64 x1))), .os 1 w412.length (w412.map fun x0 => .os 1 x0.length (x0.map fun x1 => .sc (.bool x1)))]), (13, .os 1 v393.1.length (v393.1.map fun x0 => .sc (.int .i64 x0)))]⟩
def z2N (a1 : List Int) (w247 : List (List Int)) : Int × List (List Bool) → Option ((Int × List (List Bool)) ⊕ Dgm)
  | (w337, w338) =>
  if w337 < (a1.length : Int) then
    (z1m (⟨a1, w247, w338⟩ : Dgm) w337).bind fun v393 =>
    z0u (z2M a1 w337 v393) LFm (0, w338)
  else
    z0A <|
    some (⟨a1, w247, w338⟩ : Dgm)
def z2K (a1 : List Int) (w247 : List (List Int)) : Int × List (List Bool) → Fr
  | (w337, w338) => ⟨127, [(1, .one (.t none (.sl a1.length (a1.map fun x0 => .sc (.int .i64 x0))))), (4, .one (.a 4 [] (0))), (8, .one (.a 8 [] (0))), (87, .one (.t none (.sc (.int .i64 (a1.length : Int))))), (88, .one (.t none (.sc (.int .i64 w337))))], [(4, .vr [.os 1 0 [], .os 1 0 [], .os 1 0 []]), (8, .vr [.sl a1.length (a1.map fun x0 => .sc (.int .i64 x0)), .os 1 w247.length (w247.map fun x0 => .os 1 x0.length (x0.map fun x1 => .sc (.int .i64 x1))), .os 1 w338.length (w338.map fun x0 => .os 1 x0.length (x0.map fun x1 => .sc (.bool x1)))])]⟩
def z2W (a0 : DFA) (a1 : List Int) (w226 : List Int) : Int × List (List Int) × List (List Bool) → Option ((Int × List (List Int) × List (List Bool)) ⊕ Dgm)
  | (w246, w247, w248) =>
  if w246 < (a1.length : Int) then
    (atI a1 w246).bind fun v266 =>
    chk (z1L 8 a0.letters) <|
    (atI w247 w246).bind fun v267 =>
    z0u (z2c a0 a1 w226 w246 w248 v266) LFm (0, (w247.set w246.toNat (List.replicate a0.letters.toNat (0 : Int))))
  else
    z0A <|
    z0u (z2N a1 w247) LFm (0, w248)
def z2U (a0 : DFA) (a1 : List Int) (w226 : List Int) : Int × List (List Int) × List (List Bool) → Fr
  | (w246, w247, w248) => ⟨127, [(1, .one (.t none (.sl a1.length (a1.map fun x0 => .sc (.int .i64 x0))))), (2, .one (.a 2 [] (0))), (4, .one (.a 4 [] (0))), (5, .one (.h 5 [])), (8, .one (.a 8 [] (0))), (44, .one (.t none (.sl a1.length (a1.map fun x0 => .sc (.int .i64 x0))))), (45, .one (.t none (.sc (.int .i64 (a1.length : Int))))), (46, .one (.t none (.sc (.int .i64 w246))))], [(2, .vr [.sc (.int .i64 a0.letters), .sc (.int .i64 a0.start), .sl a0.final.length (a0.final.map fun x0 => .sc (.bool x0)), .sl a0.next.length (a0.next.map fun x0 => .sl x0.length (x0.map fun x1 => .sc (.int .i64 x1)))]), (4, .vr [.os 1 0 [], .os 1 0 [], .os 1 0 []]), (5, .os 1 w226.length (w226.map fun x0 => .sc (.int .i64 x0))), (8, .vr [.sl a1.length (a1.map fun x0 => .sc (.int .i64 x0)), .os 1 w247.length (w247.map fun x0 => .os 1 x0.length (x0.map fun x1 => .sc (.int .i64 x1))), .os 1 w248.length (w248.map fun x0 => .os 1 x0.length (x0.map fun x1 => .sc (.bool x1)))])]⟩
def z2X (a0 : DFA) (a1 : List Int) : Int × List Int → Option ((Int × List Int) ⊕ Dgm)
  | (w225, w226) =>
  if w225 < (a1.length : Int) then
    (atI a1 w225).bind fun v229 =>
    (atI w226 v229).bind fun v230 =>
    z0n (IntKind.i64.wrap (w225 + 1), (w226.set v229.toNat w225))
  else
    z0A <|
    chk (z1L 24 (a1.length : Int)) <|
    z0u (z2W a0 a1 w226) LFm (0, List.replicate (a1.length : Int).toNat ([] : List Int), List.replicate (a1.length : Int).toNat ([] : List Bool))
def z2V (a0 : DFA) (a1 : List Int) : Int × List Int → Fr
  | (w225, w226) => ⟨127, [(1, .one (.t none (.sl a1.length (a1.map fun x0 => .sc (.int .i64 x0))))), (2, .one (.a 2 [] (0))), (4, .one (.a 4 [] (0))), (5, .one (.h 5 [])), (24, .one (.t none (.sl a1.length (a1.map fun x0 => .sc (.int .i64 x0))))), (25, .one (.t none (.sc (.int .i64 (a1.length : Int))))), (26, .one (.t none (.sc (.int .i64 w225))))], [(2, .vr [.sc (.int .i64 a0.letters), .sc (.int .i64 a0.start), .sl a0.final.length (a0.final.map fun x0 => .sc (.bool x0)), .sl a0.next.length (a0.next.map fun x0 => .sl x0.length (x0.map fun x1 => .sc (.int .i64 x1)))]), (4, .vr [.os 1 0 [], .os 1 0 [], .os 1 0 []]), (5, .os 1 w226.length (w226.map fun x0 => .sc (.int .i64 x0)))]⟩
def z3d (a0 : DFA) (a1 : List Int) : Option (Dgm) :=
  chk (¬ (a0.final.length : Int) < 0) <|
  chk (z1L 8 (zqi .i64 1 (a0.final.length : Int))) <|
  z0u (z2X a0 a1) LFm (0, List.replicate (zqi .i64 1 (a0.final.length : Int)).toNat (0 : Int))
instance images_newDiagram_ok {a0 : DFA} {a1 : List Int} : Ok (z3d a0 a1) (fun r => L 47 [.agg [.sc (.int .i64 a0.letters), .sc (.int .i64 a0.start), .sl a0.final.length (a0.final.map fun x0 => .sc (.bool x0)), .sl a0.next.length (a0.next.map fun x0 => .sl x0.length (x0.map fun x1 => .sc (.int .i64 x1)))], .sl a1.length (a1.map fun x0 => .sc (.int .i64 x0))] = some (.agg [.sl r.sets.length (r.sets.map fun x0 => .sc (.int .i64 x0)), .os 1 r.next.length (r.next.map fun x0 => .os 1 x0.length (x0.map fun x1 => .sc (.int .i64 x1))), .os 1 r.below.length (r.below.map fun x0 => .os 1 x0.length (x0.map fun x1 => .sc (.bool x1)))], [.dead, .dead])) := ⟨fun r h0 => by
  simp only [z3d] at h0
  refine zra zAM zCl (zso zDL ⟨of_decide_eq_true rfl, of_decide_eq_true rfl⟩ ?_)
  simp only [z5v, z4Q, z4J, z6D, z4U]
  refine zq rfl (zr rfl rfl rfl (by simp; rfl) ?_)
  refine z0c (zq rfl ?_)
  obtain ⟨f288, h1⟩ := z5d h0
  obtain ⟨f289, h2⟩ := zwM h1
  refine zr rfl rfl rfl (by simp [f288, f289]; rfl) ?_
  refine z0c (zq rfl (zq rfl (zr rfl rfl rfl (by simp; rfl) ?_)))
  refine z0c (zb rfl (z4a h2 (z2V a0 a1) rfl rfl (by simp [z2V]) fun s o1 h3 hr1 => ?_))
  obtain ⟨w225, w226⟩ := s
  simp only [z2X] at h3
  simp only [z2V]
  refine zq rfl (zr rfl rfl rfl (by simp; rfl) ?_)
  refine z0c (zq rfl ?_)
  by_cases c296 : w225 < (a1.length : Int)
  ·rw [if_pos c296] at h3
   refine z5z rfl (by simp [c296]) (z3G rfl (z0c (zq rfl (zb rfl (zq rfl ?_)))))
   obtain ⟨v229, f297, h4⟩ := z3M h3
   refine zr rfl rfl rfl (by simp [f297]; rfl) ?_
   refine z0c ?_
   obtain ⟨v230, f298, h5⟩ := z3M h4
   refine zr rfl rfl rfl (by simp [f298]; rfl) ?_
   refine z2A (z0c (zr rfl rfl rfl (by simp; rfl) ?_))
   have ho := z1P h5
   refine z2z ho ?_
   simp [z2V]
  ·rw [if_neg c296] at h3
   refine z5A rfl (by simp [c296]) (z5q rfl (z3R ?_))
   obtain ⟨rr1, h4, ho1⟩ := z2d h3
   have hs1 := hr1 _ ho1
   subst hs1
   refine z3g ho1 (z1C rfl (z0c (zq rfl ?_)))
   obtain ⟨f299, h5⟩ := zwM h4
   refine zhf rfl rfl rfl rfl ?_
   refine z0P rfl rfl (by simp [z0d, z0f, f299]; rfl) ?_
   refine z0P rfl rfl (by simp [z0d, z0f, f299]; rfl) ?_
   refine z0P rfl rfl (by simp [z0d, z0f, f299]; rfl) ?_
   refine z0P rfl rfl (by simp [z0d, z0f, f299]; rfl) ?_
   refine z0P rfl rfl (by simp [z0d, z0f, f299]; rfl) ?_
   refine z5o ?_
   refine z0P rfl rfl (by simp [z0d, z0f, f299]; rfl) ?_
   refine z5o ?_
   refine z0P rfl rfl (by simp [z0d, z0f, f299]; rfl) ?_
   refine z0P rfl rfl (by simp [z0d, z0f, f299]; rfl) ?_
   refine z0P rfl rfl (by simp [z0d, z0f, f299]; rfl) ?_
   refine z0P rfl rfl (by simp [z0d, z0f, f299]; rfl) ?_
   refine z5n ?_
   refine ⟨?_, ?_⟩
   ·refine z0P rfl rfl (by simp [z0d, z0f, f299]; rfl) ?_
    refine z0P rfl rfl (by simp [z0d, z0f, f299]; rfl) ?_
    refine z0P rfl rfl (by simp [z0d, z0f, f299]; rfl) ?_
    refine z0P rfl rfl (by simp [z0d, z0f, f299]; rfl) ?_
    refine z5n ?_
    simp [z5y, f299]
   refine ⟨?_, ?_⟩
   ·refine z5o ?_
    refine z0P rfl rfl (by simp [z0d, z0f, f299]; rfl) ?_
    refine z5o ?_
    refine z0P rfl rfl (by simp [z0d, z0f, f299]; rfl) ?_
    refine z0P rfl rfl (by simp [z0d, z0f, f299]; rfl) ?_
    refine z0P rfl rfl (by simp [z0d, z0f, f299]; rfl) ?_
    refine z0P rfl rfl (by simp [z0d, z0f, f299]; rfl) ?_
    refine z5n ?_
    refine ⟨?_, ?_⟩
    ·refine z0P rfl rfl (by simp [z0d, z0f, f299]; rfl) ?_
     refine z0P rfl rfl (by simp [z0d, z0f, f299]; rfl) ?_
     refine z0P rfl rfl (by simp [z0d, z0f, f299]; rfl) ?_
     refine z0P rfl rfl (by simp [z0d, z0f, f299]; rfl) ?_
     refine z5n ?_
     simp [z5y, f299]
    refine ⟨?_, ?_⟩
    ·refine z0P rfl rfl (by simp [z0d, z0f, f299]; rfl) ?_
     refine z5o ?_
     refine z0P rfl rfl (by simp [z0d, z0f, f299]; rfl) ?_
     refine z0P rfl rfl (by simp [z0d, z0f, f299]; rfl) ?_
     refine z0P rfl rfl (by simp [z0d, z0f, f299]; rfl) ?_
     refine z0P rfl rfl (by simp [z0d, z0f, f299]; rfl) ?_
     refine z5n ?_
     refine ⟨?_, ?_⟩
     ·refine z0P rfl rfl (by simp [z0d, z0f, f299]; rfl) ?_
      refine z0P rfl rfl (by simp [z0d, z0f, f299]; rfl) ?_
      refine z0P rfl rfl (by simp [z0d, z0f, f299]; rfl) ?_
      refine z0P rfl rfl (by simp [z0d, z0f, f299]; rfl) ?_
      refine z5n ?_
      simp [z5y, f299]
     simp [z5y, f299]
    simp [z5y, f299]
   refine zh7 rfl (by simp [f299]; rfl) ?_
   refine z0c (zq rfl (zq rfl (zr rfl rfl rfl (by simp; rfl) ?_)))
   refine z0c (zb rfl (z4a h5 (z2U a0 a1 w226) rfl rfl (by simp [z2U]) fun s o2 h6 hr2 => ?_))
   obtain ⟨w246, w247, w248⟩ := s
   simp only [z2W] at h6
   simp only [z2U]
   refine zq rfl (zr rfl rfl rfl (by simp; rfl) ?_)
   refine z0c (zq rfl ?_)
   by_cases c341 : w246 < (a1.length : Int)
   ·rw [if_pos c341] at h6
    refine z5z rfl (by simp [c341]) (z3G rfl (z0c (zq rfl (zb rfl (zq rfl ?_)))))
    obtain ⟨v266, f342, h7⟩ := z3M h6
    refine zr rfl rfl rfl (by simp [f342]; rfl) ?_
    refine z0c (zq rfl ?_)
    obtain ⟨f343, h8⟩ := zwM h7
    obtain ⟨v267, f344, h9⟩ := z3M h8
    refine z6w rfl rfl rfl rfl ?_; repeat' ((first | refine z3A rfl rfl fun Q' hQ => ?_ | refine z3h rfl fun Q' hQ => ?_); simp [f343, f344]; refine hQ.out _ ?_; clear hQ; clear Q')
    refine z0c (zq rfl (zq rfl (zr rfl rfl rfl (by simp; rfl) ?_)))
    refine z0c (zb rfl (z4a h9 (z2L a0 a1 w226 w246 w248 v266) rfl rfl (by simp [z2L]) fun s o3 h10 hr3 => ?_))
    obtain ⟨w272, w273⟩ := s
    simp only [z2c] at h10
    simp only [z2L]
    refine zq rfl (zr rfl rfl rfl (by simp; rfl) ?_)
    refine z0c (zq rfl ?_)
    by_cases c355 : w272 < a0.letters
    ·rw [if_pos c355] at h10
     refine z5z rfl (by simp [c355]) (z3G rfl (z0c (zq rfl (zb rfl (zq rfl (zr rfl rfl rfl (by simp; rfl) ?_))))))
     refine z0c ?_
     obtain ⟨v278, f356, h11⟩ := z3M h10
     obtain ⟨v279, f357, h12⟩ := z1y h11
     have f357k := Ok.ok _ f357
     try simp at f357k
     obtain ⟨v280, f358, h13⟩ := z3M h12
     obtain ⟨v281, f359, h14⟩ := z3M h13
     refine z6w rfl rfl rfl rfl ?_; repeat' ((first | refine z3A rfl rfl fun Q' hQ => ?_ | refine z3h rfl fun Q' hQ => ?_); simp [f356, f357k, f358, f359]; refine hQ.out _ ?_; clear hQ; clear Q')
     refine z2A (z0c (zr rfl rfl rfl (by simp [f356]; rfl) ?_))
     have ho := z1P h14
     refine z2z ho ?_
     simp [z2L]
    ·rw [if_neg c355] at h10
     refine z5A rfl (by simp [c355]) (z5q rfl (z3R ?_))
     obtain ⟨rr3, h11, ho3⟩ := z2d h10
     have hs3 := hr3 _ ho3
     subst hs3
     refine z3g ho3 (z1C rfl (z0c ?_))
     obtain ⟨f360, h12⟩ := zBQ h11
     obtain ⟨v282, f361, h13⟩ := z3M h12
     refine z6w rfl rfl rfl rfl ?_; repeat' ((first | refine z3A rfl rfl fun Q' hQ => ?_ | refine z3h rfl fun Q' hQ => ?_); simp [f360, f361]; refine hQ.out _ ?_; clear hQ; clear Q')
     refine z2A (z0c (zr rfl rfl rfl (by simp; rfl) ?_))
     have ho := z1P h13
     refine z2z ho ?_
     simp [z2U]
   ·rw [if_neg c341] at h6
    refine z5A rfl (by simp [c341]) (z5q rfl (z3R ?_))
    obtain ⟨rr2, h7, ho2⟩ := z2d h6
    have hs2 := hr2 _ ho2
    subst hs2
    refine z3g ho2 (z1C rfl (z0c (zq rfl (zq rfl (zr rfl rfl rfl (by simp; rfl) ?_)))))
    refine z0c (zb rfl (z4a h7 (z2K a1 w247) rfl rfl (by simp [z2K]) fun s o4 h8 hr4 => ?_))
    obtain ⟨w337, w338⟩ := s
    simp only [z2N] at h8
    simp only [z2K]
    refine zq rfl (zr rfl rfl rfl (by simp; rfl) ?_)
    refine z0c (zq rfl ?_)
    by_cases c504 : w337 < (a1.length : Int)
    ·rw [if_pos c504] at h8
     refine z5z rfl (by simp [c504]) (z3G rfl (z0c (zq rfl (zb rfl (zq rfl (zr rfl rfl rfl (by simp; rfl) ?_))))))
     refine z0c (zq rfl ?_)
     obtain ⟨v393, f505, h9⟩ := z1y h8
     have f505k := Ok.ok _ f505
     try simp at f505k
     refine zr rfl rfl rfl (by simp [f505k]; rfl) ?_
     refine z0c (zq rfl (zr rfl rfl rfl (by simp; rfl) ?_))
     refine z0c (zb rfl (z4a h9 (z2a a1 w247 w337 v393) rfl rfl (by simp [z2a]) fun s o5 h10 hr5 => ?_))
     obtain ⟨w411, w412⟩ := s
     simp only [z2M] at h10
     simp only [z2a]
     refine zq rfl (zr rfl rfl rfl (by simp; rfl) ?_)
     refine z0c (zq rfl ?_)
     by_cases c552 : w411 < (a1.length : Int)
     ·rw [if_pos c552] at h10
      refine z5z rfl (by simp [c552]) (z3G rfl (z0c (zq rfl (zb rfl (zq rfl ?_)))))
      obtain ⟨v430, f553, h11⟩ := z3M h10
      refine zr rfl rfl rfl (by simp [f553]; rfl) ?_
      refine z0c (zq rfl (zr rfl rfl rfl (by simp; rfl) ?_))
      refine z0c (zb rfl (z4a h11 (z2J a1 w247 w337 v393 w411 w412 v430) rfl rfl (by simp [z2J]) fun s o6 h12 hr6 => ?_))
      obtain ⟨w436, hs6⟩ : ∃ y, y = s := ⟨_, rfl⟩
      subst hs6
      simp only [z2b] at h12
      simp only [z2J]
      refine zq rfl (zr rfl rfl rfl (by simp; rfl) ?_)
      refine z0c (zq rfl ?_)
      by_cases c568 : w436 < (v393.1.length : Int)
      ·rw [if_pos c568] at h12
       refine z5z rfl (by simp [c568]) (z3G rfl (z0c (zq rfl (zb rfl (zq rfl ?_)))))
       obtain ⟨v442, f569, h13⟩ := z3M h12
       refine zr rfl rfl rfl (by simp [f569]; rfl) ?_
       refine z0c (zq rfl ?_)
       obtain ⟨v443, f570, h14⟩ := z3M h13
       obtain ⟨v444, f571, h15⟩ := z1y h14
       have f571k := Ok.ok _ f571
       try simp at f571k
       refine zr rfl rfl rfl (by simp [f570, f571k]; rfl) ?_
       refine z0c ?_
       by_cases c572 : v444 = true
       ·rw [if_pos c572] at h15
        refine z5z rfl (by simp [c572]) (zq rfl ?_)
        obtain ⟨v445, f573, h16⟩ := z3M h15
        obtain ⟨v446, f574, h17⟩ := z3M h16
        refine zr rfl rfl rfl (by simp [f573, f574]; rfl) ?_
        refine z0c (z5q rfl (zf5 rfl (z3R ?_)))
        obtain ⟨rr6, h18, ho6⟩ := z2d h17
        have hs6 := hr6 _ ho6
        subst hs6
        refine z3g ho6 (z1C rfl (z2A (z0c (zr rfl rfl rfl (by simp [f573]; rfl) ?_))))
        have ho := z1P h18
        refine z2z ho ?_
        simp [z2a, c572]
       ·rw [if_neg c572] at h15
        refine z5A rfl (by simp [c572]) (z3G rfl (z2A (z0c (zr rfl rfl rfl (by simp; rfl) ?_))))
        have ho := z1P h15
        refine z2z ho ?_
        simp [z2J, c572]
      ·rw [if_neg c568] at h12
       refine z5A rfl (by simp [c568]) (z5q rfl (z3R ?_))
       obtain ⟨rr6, h13, ho6⟩ := z2d h12
       have hs6 := hr6 _ ho6
       subst hs6
       refine z3g ho6 (z1C rfl (z2A (z0c (zr rfl rfl rfl (by simp; rfl) ?_))))
       have ho := z1P h13
       refine z2z ho ?_
       simp [z2a]
     ·rw [if_neg c552] at h10
      refine z5A rfl (by simp [c552]) (z5q rfl (z3R ?_))
      obtain ⟨rr5, h11, ho5⟩ := z2d h10
      have hs5 := hr5 _ ho5
      subst hs5
      refine z3g ho5 (z1C rfl (z2A (z0c (zr rfl rfl rfl (by simp; rfl) ?_))))
      have ho := z1P h11
      refine z2z ho ?_
      simp [z2K]
    ·rw [if_neg c504] at h8
     refine z5A rfl (by simp [c504]) (z5q rfl (z3R ?_))
     obtain ⟨rr4, h9, ho4⟩ := z2d h8
     have hs4 := hr4 _ ho4
     subst hs4
     refine z3g ho4 (z1C rfl (z0c (zq rfl (zr rfl rfl rfl (by simp; rfl) ?_))))
     refine z0c (zhI rfl ?_)
     cases h9
     simp⟩
abbrev z1W (a0 : Dgm) (w50 : Int) (w52 : List Int) : Int × List Int → Option ((Int × List Int) ⊕ ((Int × List Int × List Int) ⊕ (List Int × List Int)))
  | (w82, w83) =>
  if w82 < (w52.length : Int) then
    (atI w52 w82).bind fun v90 =>
    (atI a0.below w50).bind fun v91 =>
    (atI v91 v90).bind fun v92 =>
    if v92 = true then
      (atI a0.below v90).bind fun v93 =>
      (atI v93 w50).bind fun v94 =>
      if v94 = true then
        (atI w83 w50).bind fun v95 =>
        z0n (IntKind.i64.wrap (w82 + 1), (w83.set w50.toNat w82))
      else
        z0n (IntKind.i64.wrap (w82 + 1), w83)
    else
      z0n (IntKind.i64.wrap (w82 + 1), w83)
  else
    z0A <|
    (atI w83 w50).bind fun v96 =>
    if v96 = (w52.length : Int) then
      chk (z2Q 8 (w52.length + 1)) <|
      z0n (IntKind.i64.wrap (w50 + 1), w83, w52 ++ [w50])
    else
      z0n (IntKind.i64.wrap (w50 + 1), w83, w52)
instance {a0 : Dgm} {w50 : Int} {w52 : List Int} : Hd (z1W a0 w50 w52) := ⟨fun (w82, w83) => ([(26, xI w82)], [(4, .os 1 w83.length (w83.map fun x0 => .sc (.int .i64 x0)))])⟩
abbrev z1X (a0 : Dgm) : Int × List Int × List Int → Option ((Int × List Int × List Int) ⊕ (List Int × List Int))
  | (w50, w51, w52) =>
  if w50 < (a0.sets.length : Int) then
    (atI w51 w50).bind fun v75 =>
    z0u (z1W a0 w50 w52) LFm (0, (w51.set w50.toNat (w52.length : Int)))
  else
    z0A <|
    some (w51, w52)
instance {a0 : Dgm} : Hd (z1X a0) := ⟨fun (w50, w51, w52) => ([(16, xI w50)], [(4, .os 1 w51.length (w51.map fun x0 => .sc (.int .i64 x0))), (5, .os 1 w52.length (w52.map fun x0 => .sc (.int .i64 x0)))])⟩
def z1R (a0 : Dgm) : Option (List Int × List Int) :=
  chk (z1L 8 (a0.sets.length : Int)) <|
  z0u (z1X a0) LFm (0, List.replicate (a0.sets.length : Int).toNat (0 : Int), [])
instance images_diagram_classes_ok {a0 : Dgm} : Ok (z1R a0) (fun r => L 48 [.agg [.sl a0.sets.length (a0.sets.map fun x0 => .sc (.int .i64 x0)), .sl a0.next.length (a0.next.map fun x0 => .sl x0.length (x0.map fun x1 => .sc (.int .i64 x1))), .sl a0.below.length (a0.below.map fun x0 => .sl x0.length (x0.map fun x1 => .sc (.bool x1)))]] = some (.tup [.os 1 r.1.length (r.1.map fun x0 => .sc (.int .i64 x0)), .os 1 r.2.length (r.2.map fun x0 => .sc (.int .i64 x0))], [.dead])) := ⟨fun r h => by have h := z5B h; unfold z1R at h; exact z5O zAL zCk zDK⟩
abbrev z2h (a0 : Dgm) (w64 : List Int) (w85 : Int) (w86 : List Int) (v101 : Int) : Int → Option (Int ⊕ ((Int × List Int) ⊕ List Int))
  | w106 =>
  if w106 < (w64.length : Int) then
    (atI w64 w106).bind fun v111 =>
    if v111 = v101 then
      z0n (IntKind.i64.wrap (w106 + 1))
    else
      (atI a0.sets v111).bind fun v112 =>
      (atI a0.sets v101).bind fun v113 =>
      (z2t v112 v113).bind fun v114 =>
      if v114 = true then
        z0A <|
        z0n (IntKind.i64.wrap (w85 + 1), w86)
      else
        z0n (IntKind.i64.wrap (w106 + 1))
  else
    z0A <|
    chk (z2Q 8 (w86.length + 1)) <|
    z0n (IntKind.i64.wrap (w85 + 1), w86 ++ [v101])
instance {a0 : Dgm} {w64 : List Int} {w85 : Int} {w86 : List Int} {v101 : Int} : Hd (z2h a0 w64 w85 w86 v101) := ⟨fun w106 => ([(53, xI w106)], [])⟩
abbrev z1F (a0 : Dgm) (w64 : List Int) : Int × List Int → Option ((Int × List Int) ⊕ List Int)
  | (w85, w86) =>
  if w85 < (w64.length : Int) then
    (atI w64 w85).bind fun v101 =>
    z0u (z2h a0 w64 w85 w86 v101) LFm 0
  else
    z0A <|
    some w86
instance {a0 : Dgm} {w64 : List Int} : Hd (z1F a0 w64) := ⟨fun (w85, w86) => ([(47, xI w85)], [(8, .os 1 w86.length (w86.map fun x0 => .sc (.int .i64 x0)))])⟩
abbrev z2m (a0 : Dgm) (a1 : Int) : Int × List Int → Option ((Int × List Int) ⊕ List Int)
  | (w63, w64) =>
  if w63 < (a0.sets.length : Int) then
    (atI a0.sets w63).bind fun v68 =>
    if w63 = a1 then
      z0n (IntKind.i64.wrap (w63 + 1), w64)
    else
      (atI a0.sets a1).bind fun v69 =>
      (z2t v69 v68).bind fun v70 =>
      if v70 = true then
        chk (z2Q 8 (w64.length + 1)) <|
        z0n (IntKind.i64.wrap (w63 + 1), w64 ++ [w63])
      else
        z0n (IntKind.i64.wrap (w63 + 1), w64)
  else
    z0A <|
    z0u (z1F a0 w64) LFm (0, [])
instance {a0 : Dgm} {a1 : Int} : Hd (z2m a0 a1) := ⟨fun (w63, w64) => ([(23, xI w63)], [(5, .os 1 w64.length (w64.map fun x0 => .sc (.int .i64 x0)))])⟩
def z2j (a0 : Dgm) (a1 : Int) : Option (List Int) :=
  (atI a0.sets a1).bind fun v58 =>
  (z4t v58).bind fun v59 =>
  if v59 = 1 then
    some []
  else
    z0u (z2m a0 a1) LFm (0, [])
instance images_diagram_tiles_ok {a0 : Dgm} {a1 : Int} : Ok (z2j a0 a1) (fun r => L 50 [.agg [.sl a0.sets.length (a0.sets.map fun x0 => .sc (.int .i64 x0)), .sl a0.next.length (a0.next.map fun x0 => .sl x0.length (x0.map fun x1 => .sc (.int .i64 x1))), .sl a0.below.length (a0.below.map fun x0 => .sl x0.length (x0.map fun x1 => .sc (.bool x1)))], .sc (.int .i64 a1)] = some (.os 1 r.length (r.map fun x0 => .sc (.int .i64 x0)), [.dead, .dead])) := ⟨fun r h => by have h := z5B h; unfold z2j at h; exact z5O zAJ zCi zDI⟩
abbrev z2f (a0 : List Int) (a1 : Int) : Int → Option (Int ⊕ Int)
  | w6 =>
  if w6 < (a0.length : Int) then
    (atI a0 w6).bind fun v8 =>
    if a1 = v8 then
      z0A <|
      some w6
    else
      z0n (IntKind.i64.wrap (w6 + 1))
  else
    z0A <|
    some (-1)
instance {a0 : List Int} {a1 : Int} : Hd (z2f a0 a1) := ⟨fun w6 => ([(8, xI w6)], [])⟩
def z2G (a0 : List Int) (a1 : Int) : Option (Int) :=
  z0u (z2f a0 a1) LFm 0
instance slices_Index_Lint_int_ok {a0 : List Int} {a1 : Int} : Ok (z2G a0 a1) (fun r => L 80 [.sl a0.length (a0.map fun x0 => .sc (.int .i64 x0)), .sc (.int .i64 a1)] = some (.sc (.int .i64 r), [.dead, .dead])) := ⟨fun r h => by have h := z5B h; unfold z2G at h; exact z5O zAv zC3 zDt⟩
def z1D (a0 : List Int) (a1 : Int) : Option (Bool) :=
  (z2G a0 a1).bind fun v2 =>
  some (decide (0 ≤ v2))
instance slices_Contains_Lint_int_ok {a0 : List Int} {a1 : Int} : Ok (z1D a0 a1) (fun r => L 67 [.sl a0.length (a0.map fun x0 => .sc (.int .i64 x0)), .sc (.int .i64 a1)] = some (.sc (.bool r), [.dead, .dead])) := ⟨fun r h => by have h := z5B h; unfold z1D at h; exact z5O zAB zC9 zDz⟩
abbrev z4D (a0 : DFA) : Int × List Int → Option ((Int × List Int) ⊕ List Int)
  | (w10, w11) =>
  if w10 < (a0.final.length : Int) then
    chk (¬ w10 < 0) <|
    (z1D w11 (zqi .i64 1 w10)).bind fun v13 =>
    if v13 = true then
      z0n (IntKind.i64.wrap (w10 + 1), w11)
    else
      chk (z2Q 8 (w11.length + 1)) <|
      z0n (IntKind.i64.wrap (w10 + 1), w11 ++ [zqi .i64 1 w10])
  else
    z0A <|
    (zld w11).bind fun v14 =>
    some v14
instance {a0 : DFA} : Hd (z4D a0) := ⟨fun (w10, w11) => ([(19, xI w10)], [(3, .os 1 w11.length (w11.map fun x0 => .sc (.int .i64 x0)))])⟩
def z5t (a0 : DFA) : Option (List Int) :=
  chk (¬ (a0.final.length : Int) < 0) <|
  (z4I a0 (IntKind.i64.wrap ((zqi .i64 1 (a0.final.length : Int)) - 1))).bind fun v8 =>
  z0u (z4D a0) LFm (0, v8.1)
instance images_list_ok {a0 : DFA} : Ok (z5t a0) (fun r => L 46 [.agg [.sc (.int .i64 a0.letters), .sc (.int .i64 a0.start), .sl a0.final.length (a0.final.map fun x0 => .sc (.bool x0)), .sl a0.next.length (a0.next.map fun x0 => .sl x0.length (x0.map fun x1 => .sc (.int .i64 x1)))]] = some (.os 1 r.length (r.map fun x0 => .sc (.int .i64 x0)), [.dead])) := ⟨fun r h => by have h := z5B h; unfold z5t at h; exact z5O zAN zCm zDM⟩
def z4f (v69 : List Int) (v71 : List Int × List Int) (w107 : Int) (v123 : List Int × List ByteArray) : Int × List ByteArray → Option ((Int × List ByteArray) ⊕ ((Int × List ByteArray) ⊕ (Imgs × Int)))
  | (w127, w128) =>
  if w127 < (v69.length : Int) then
    (atI v71.1 w127).bind fun v132 =>
    if v132 = w107 then
      (atI v123.2 w127).bind fun v133 =>
      (atI w128 w127).bind fun v134 =>
      z0n (IntKind.i64.wrap (w127 + 1), (w128.set w127.toNat v133))
    else
      z0n (IntKind.i64.wrap (w127 + 1), w128)
  else
    z0A <|
    z0n (IntKind.i64.wrap (w107 + 1), w128)
def z4e (v69 : List Int) (v70 : Dgm) (v71 : List Int × List Int) (v72 : List Int) (w79 : List (List Int)) (w80 : List ByteArray) (w107 : Int) (v123 : List Int × List ByteArray) : Int × List ByteArray → Fr
  | (w127, w128) => ⟨120, [(2, .one (.a 2 [] (0))), (5, .one (.t none (.sl v69.length (v69.map fun x0 => .sc (.int .i64 x0))))), (7, .one (.a 7 [] (0))), (8, .one (.t none (.sl v71.1.length (v71.1.map fun x0 => .sc (.int .i64 x0))))), (10, .one (.a 10 [] (0))), (14, .one (.t none (.sc (.int .i64 w107)))), (17, .one (.h 17 [])), (85, .one (.h 9 [])), (86, .one (.t none (.sc (.int .i64 (v71.2.length : Int))))), (87, .one (.t none (.sc (.int .i64 w107)))), (99, .one (.t none (.sc (.int .i64 (v69.length : Int))))), (100, .one (.t none (.sc (.int .i64 w127))))], [(2, .vr [.os 1 0 [], .os 1 0 [], .os 1 0 [], .os 1 0 [], .os 1 0 [], .os 1 0 []]), (7, .vr [.sl v70.sets.length (v70.sets.map fun x0 => .sc (.int .i64 x0)), .os 1 v70.next.length (v70.next.map fun x0 => .os 1 x0.length (x0.map fun x1 => .sc (.int .i64 x1))), .os 1 v70.below.length (v70.below.map fun x0 => .os 1 x0.length (x0.map fun x1 => .sc (.bool x1)))]), (10, .vr [.sl v69.length (v69.map fun x0 => .sc (.int .i64 x0)), .sl v71.1.length (v71.1.map fun x0 => .sc (.int .i64 x0)), .os 1 v72.length (v72.map fun x0 => .sc (.int .i64 x0)), .os 1 w79.length (w79.map fun x0 => .os 1 x0.length (x0.map fun x1 => .sc (.int .i64 x1))), .os 1 w128.length (w128.map fun x0 => .sc (.string x0)), .os 1 w80.length (w80.map fun x0 => .sc (.string x0))]), (17, .os 1 v123.2.length (v123.2.map fun x0 => .sc (.string x0))), (9, .os 1 v71.2.length (v71.2.map fun x0 => .sc (.int .i64 x0)))]⟩
def z4X (v69 : List Int) (v70 : Dgm) (v71 : List Int × List Int) (v72 : List Int) (w79 : List (List Int)) (w80 : List ByteArray) : Int × List ByteArray → Option ((Int × List ByteArray) ⊕ (Imgs × Int))
  | (w107, w108) =>
  if w107 < (v71.2.length : Int) then
    (atI v71.2 w107).bind fun v122 =>
    (z1m v70 v122).bind fun v123 =>
    z0u (z4f v69 v71 w107 v123) LFm (0, w108)
  else
    z0A <|
    some ((⟨v69, v71.1, v72, w79, w108, w80⟩ : Imgs), 0)
def z4V (v69 : List Int) (v70 : Dgm) (v71 : List Int × List Int) (v72 : List Int) (w79 : List (List Int)) (w80 : List ByteArray) : Int × List ByteArray → Fr
  | (w107, w108) => ⟨120, [(2, .one (.a 2 [] (0))), (5, .one (.t none (.sl v69.length (v69.map fun x0 => .sc (.int .i64 x0))))), (7, .one (.a 7 [] (0))), (8, .one (.t none (.sl v71.1.length (v71.1.map fun x0 => .sc (.int .i64 x0))))), (10, .one (.a 10 [] (0))), (85, .one (.h 9 [])), (86, .one (.t none (.sc (.int .i64 (v71.2.length : Int))))), (87, .one (.t none (.sc (.int .i64 w107))))], [(2, .vr [.os 1 0 [], .os 1 0 [], .os 1 0 [], .os 1 0 [], .os 1 0 [], .os 1 0 []]), (7, .vr [.sl v70.sets.length (v70.sets.map fun x0 => .sc (.int .i64 x0)), .os 1 v70.next.length (v70.next.map fun x0 => .os 1 x0.length (x0.map fun x1 => .sc (.int .i64 x1))), .os 1 v70.below.length (v70.below.map fun x0 => .os 1 x0.length (x0.map fun x1 => .sc (.bool x1)))]), (10, .vr [.sl v69.length (v69.map fun x0 => .sc (.int .i64 x0)), .sl v71.1.length (v71.1.map fun x0 => .sc (.int .i64 x0)), .os 1 v72.length (v72.map fun x0 => .sc (.int .i64 x0)), .os 1 w79.length (w79.map fun x0 => .os 1 x0.length (x0.map fun x1 => .sc (.int .i64 x1))), .os 1 w108.length (w108.map fun x0 => .sc (.string x0)), .os 1 w80.length (w80.map fun x0 => .sc (.string x0))]), (9, .os 1 v71.2.length (v71.2.map fun x0 => .sc (.int .i64 x0)))]⟩
def z4Y (v69 : List Int) (v70 : Dgm) (v71 : List Int × List Int) (v72 : List Int) : Int × List (List Int) × List ByteArray → Option ((Int × List (List Int) × List ByteArray) ⊕ (Imgs × Int))
  | (w78, w79, w80) =>
  if w78 < (v69.length : Int) then
    (z2j v70 w78).bind fun v88 =>
    (atI w79 w78).bind fun v89 =>
    (z1m v70 w78).bind fun v90 =>
    (atI v71.1 w78).bind fun v91 =>
    (atI v71.2 v91).bind fun v92 =>
    (atI v90.2 v92).bind fun v93 =>
    (atI w80 w78).bind fun v94 =>
    z0n (IntKind.i64.wrap (w78 + 1), (w79.set w78.toNat v88), (w80.set w78.toNat v93))
  else
    z0A <|
    z0u (z4X v69 v70 v71 v72 w79 w80) LFm (0, List.replicate (v69.length : Int).toNat (ByteArray.empty : ByteArray))
def z4W (v69 : List Int) (v70 : Dgm) (v71 : List Int × List Int) (v72 : List Int) : Int × List (List Int) × List ByteArray → Fr
  | (w78, w79, w80) => ⟨120, [(2, .one (.a 2 [] (0))), (5, .one (.t none (.sl v69.length (v69.map fun x0 => .sc (.int .i64 x0))))), (7, .one (.a 7 [] (0))), (8, .one (.t none (.sl v71.1.length (v71.1.map fun x0 => .sc (.int .i64 x0))))), (9, .one (.h 9 [])), (10, .one (.a 10 [] (0))), (53, .one (.t none (.sc (.int .i64 (v69.length : Int))))), (54, .one (.t none (.sc (.int .i64 w78))))], [(2, .vr [.os 1 0 [], .os 1 0 [], .os 1 0 [], .os 1 0 [], .os 1 0 [], .os 1 0 []]), (7, .vr [.sl v70.sets.length (v70.sets.map fun x0 => .sc (.int .i64 x0)), .os 1 v70.next.length (v70.next.map fun x0 => .os 1 x0.length (x0.map fun x1 => .sc (.int .i64 x1))), .os 1 v70.below.length (v70.below.map fun x0 => .os 1 x0.length (x0.map fun x1 => .sc (.bool x1)))]), (9, .os 1 v71.2.length (v71.2.map fun x0 => .sc (.int .i64 x0))), (10, .vr [.sl v69.length (v69.map fun x0 => .sc (.int .i64 x0)), .sl v71.1.length (v71.1.map fun x0 => .sc (.int .i64 x0)), .os 1 v72.length (v72.map fun x0 => .sc (.int .i64 x0)), .os 1 w79.length (w79.map fun x0 => .os 1 x0.length (x0.map fun x1 => .sc (.int .i64 x1))), .os 1 (List.replicate (v69.length : Int).toNat (ByteArray.empty : ByteArray)).length ((List.replicate (v69.length : Int).toNat (ByteArray.empty : ByteArray)).map fun x0 => .sc (.string x0)), .os 1 w80.length (w80.map fun x0 => .sc (.string x0))])]⟩
def z7i (a0 : DFA) : Option (Imgs × Int) :=
  (z3t a0).bind fun v68 =>
  if v68 = 0 then
    (z5t a0).bind fun v69 =>
    if 400 < (v69.length : Int) then
      some ((⟨[], [], [], [], [], []⟩ : Imgs), 3)
    else
      (z3d a0 v69).bind fun v70 =>
      (z1R v70).bind fun v71 =>
      (z1Q v70 v71.1).bind fun v72 =>
      chk (z1L 24 (v69.length : Int)) <|
      chk (z1L 16 (v69.length : Int)) <|
      z0u (z4Y v69 v70 v71 v72) LFm (0, List.replicate (v69.length : Int).toNat ([] : List Int), List.replicate (v69.length : Int).toNat (ByteArray.empty : ByteArray))
  else
    some ((⟨[], [], [], [], [], []⟩ : Imgs), v68)
instance images_Of_ok {a0 : DFA} : Ok (z7i a0) (fun r => L 24 [.agg [.sc (.int .i64 a0.letters), .sc (.int .i64 a0.start), .sl a0.final.length (a0.final.map fun x0 => .sc (.bool x0)), .sl a0.next.length (a0.next.map fun x0 => .sl x0.length (x0.map fun x1 => .sc (.int .i64 x1)))]] = some (.tup [.agg [.sl r.1.sets.length (r.1.sets.map fun x0 => .sc (.int .i64 x0)), .sl r.1.class_.length (r.1.class_.map fun x0 => .sc (.int .i64 x0)), .sl r.1.height.length (r.1.height.map fun x0 => .sc (.int .i64 x0)), .sl r.1.tiles.length (r.1.tiles.map fun x0 => .sl x0.length (x0.map fun x1 => .sc (.int .i64 x1))), .sl r.1.words.length (r.1.words.map fun x0 => .sc (.string x0)), .sl r.1.back.length (r.1.back.map fun x0 => .sc (.string x0))], .sc (.int .i64 r.2)], [.dead])) := ⟨fun r h0 => by
  simp only [z7i] at h0
  refine zra zAU zBj (zcx zBv ⟨of_decide_eq_true rfl, of_decide_eq_true rfl⟩ rfl ?_)
  simp only [z5v, z4Q, z4J, z6D, z4U]
  refine zq rfl (zr rfl rfl rfl (by simp; rfl) ?_)
  refine z0c (zq rfl (zq rfl ?_))
  obtain ⟨v68, f87, h1⟩ := z1y h0
  have f87k := Ok.ok _ f87
  try simp at f87k
  refine zr rfl rfl rfl (by simp [f87k]; rfl) ?_
  refine z0c (zq rfl (zr rfl rfl rfl (by simp; rfl) ?_))
  refine z0c ?_
  by_cases c88 : v68 = 0
  ·rw [if_pos c88] at h1
   have c88e := eq_true c88
   refine z5A rfl (by simp [c88e]) (z3G rfl (z0c (zq rfl ?_)))
   obtain ⟨v69, f89, h2⟩ := z1y h1
   have f89k := Ok.ok _ f89
   try simp at f89k
   refine zr rfl rfl rfl (by simp [f89k]; rfl) ?_
   refine z0c (zq rfl (zr rfl rfl rfl (by simp; rfl) ?_))
   refine z0c (zq rfl (zq rfl (zr rfl rfl rfl (by simp; rfl) ?_)))
   refine z0c ?_
   by_cases c90 : 400 < (v69.length : Int)
   ·rw [if_pos c90] at h2
    refine z5z rfl (by simp [c90]) (zq rfl (zr rfl rfl rfl (by simp; rfl) ?_))
    refine z0c (zhI rfl (z8T ?_))
    cases h2
    simp
   ·rw [if_neg c90] at h2
    refine z5A rfl (by simp [c90]) (z3G rfl (z0c (zq rfl (zsu rfl rfl (by simp; rfl) ?_))))
    obtain ⟨v70, f91, h3⟩ := z1y h2
    have f91k := Ok.ok _ f91
    try simp at f91k
    refine zr rfl rfl rfl (by simp [f91k]; rfl) ?_
    refine z0c (zq rfl ?_)
    obtain ⟨v71, f92, h4⟩ := z1y h3
    have f92k := Ok.ok _ f92
    try simp at f92k
    refine zr rfl rfl rfl (by simp [f92k]; rfl) ?_
    refine z0c (zq rfl (zsu rfl rfl (by simp; rfl) ?_))
    obtain ⟨v72, f93, h5⟩ := z1y h4
    have f93k := Ok.ok _ f93
    try simp at f93k
    obtain ⟨f94, h6⟩ := zwM h5
    obtain ⟨f95, h7⟩ := zwM h6
    refine zhf rfl rfl rfl rfl ?_
    refine zx0 [(0, 0, 0, 1), (1, 1, 0, 2), (2, 2, 0, 3), (3, 3, 0, 4), (4, 5, 0, 5), (5, 7, 0, 6), (6, 9, 0, 7), (7, 4, 1, 8), (7, 6, 1, 9), (7, 8, 1, 10), (7, 10, 1, 11), (7, 12, 1, 12), (8, 6, 1, 13), (8, 8, 1, 14), (8, 10, 1, 15), (8, 12, 1, 16), (9, 4, 1, 13), (9, 8, 1, 17), (9, 10, 1, 18), (9, 12, 1, 19), (10, 4, 1, 14), (10, 6, 1, 17), (10, 10, 1, 20), (10, 12, 1, 21), (11, 4, 1, 15), (11, 6, 1, 18), (11, 8, 1, 20), (11, 12, 1, 22), (12, 4, 1, 16), (12, 6, 1, 19), (12, 8, 1, 21), (12, 10, 1, 22), (13, 8, 1, 23), (13, 10, 1, 24), (13, 12, 1, 25), (14, 6, 1, 23), (14, 10, 1, 26), (14, 12, 1, 27), (15, 6, 1, 24), (15, 8, 1, 26), (15, 12, 1, 28), (16, 6, 1, 25), (16, 8, 1, 27), (16, 10, 1, 28), (17, 4, 1, 23), (17, 10, 1, 29), (17, 12, 1, 30), (18, 4, 1, 24), (18, 8, 1, 29), (18, 12, 1, 31), (19, 4, 1, 25), (19, 8, 1, 30), (19, 10, 1, 31), (20, 4, 1, 26), (20, 6, 1, 29), (20, 12, 1, 32), (21, 4, 1, 27), (21, 6, 1, 30), (21, 10, 1, 32), (22, 4, 1, 28), (22, 6, 1, 31), (22, 8, 1, 32), (23, 10, 1, 33), (23, 12, 1, 34), (24, 8, 1, 33), (24, 12, 1, 35), (25, 8, 1, 34), (25, 10, 1, 35), (26, 6, 1, 33), (26, 12, 1, 36), (27, 6, 1, 34), (27, 10, 1, 36), (28, 6, 1, 35), (28, 8, 1, 36), (29, 4, 1, 33), (29, 12, 1, 37), (30, 4, 1, 34), (30, 10, 1, 37), (31, 4, 1, 35), (31, 8, 1, 37), (32, 4, 1, 36), (32, 6, 1, 37), (33, 11, 0, 38), (34, 10, 1, 39), (35, 8, 1, 39), (36, 6, 1, 39), (37, 4, 1, 39), (38, 12, 1, 40), (39, 11, 0, 40), (40, 13, 2, 41)] 41 (by kernel_rfl) ?_
    refine z1H rfl rfl rfl rfl (by simp [z0d, z0f, f93k, f94, f95]; rfl) ?_
    refine z1H rfl rfl rfl rfl (by simp [z0d, z0f, f93k, f94, f95]; rfl) ?_
    refine z1H rfl rfl rfl rfl (by simp [z0d, z0f, f93k, f94, f95]; rfl) ?_
    refine z1H rfl rfl rfl rfl (by simp [z0d, z0f, f93k, f94, f95]; rfl) ?_
    refine z1H rfl rfl rfl rfl (by simp [z0d, z0f, f93k, f94, f95]; rfl) ?_
    refine z1H rfl rfl rfl rfl (by simp [z0d, z0f, f93k, f94, f95]; rfl) ?_
    refine z1H rfl rfl rfl rfl (by simp [z0d, z0f, f93k, f94, f95]; rfl) ?_
    refine z1H rfl rfl rfl rfl (by simp [z0d, z0f, f93k, f94, f95]; rfl) ?_
    refine z1H rfl rfl rfl rfl (by simp [z0d, z0f, f93k, f94, f95]; rfl) ?_
    refine z1H rfl rfl rfl rfl (by simp [z0d, z0f, f93k, f94, f95]; rfl) ?_
    refine z1H rfl rfl rfl rfl (by simp [z0d, z0f, f93k, f94, f95]; rfl) ?_
    refine z1H rfl rfl rfl rfl (by simp [z0d, z0f, f93k, f94, f95]; rfl) ?_
    refine z1H rfl rfl rfl rfl (by simp [z0d, z0f, f93k, f94, f95]; rfl) ?_
    refine z1H rfl rfl rfl rfl (by simp [z0d, z0f, f93k, f94, f95]; rfl) ?_
    refine z1H rfl rfl rfl rfl (by simp [z0d, z0f, f93k, f94, f95]; rfl) ?_
    refine z1H rfl rfl rfl rfl (by simp [z0d, z0f, f93k, f94, f95]; rfl) ?_
    refine z1i rfl rfl rfl rfl (by simp [z0d, z0f, f93k, f94, f95]) ?_
    refine z1H rfl rfl rfl rfl (by simp [z0d, z0f, f93k, f94, f95]; rfl) ?_
    refine z1H rfl rfl rfl rfl (by simp [z0d, z0f, f93k, f94, f95]; rfl) ?_
    refine z1H rfl rfl rfl rfl (by simp [z0d, z0f, f93k, f94, f95]; rfl) ?_
    refine z1i rfl rfl rfl rfl (by simp [z0d, z0f, f93k, f94, f95]) ?_
    refine z1i rfl rfl rfl rfl (by simp [z0d, z0f, f93k, f94, f95]) ?_
    refine z1H rfl rfl rfl rfl (by simp [z0d, z0f, f93k, f94, f95]; rfl) ?_
    refine z1H rfl rfl rfl rfl (by simp [z0d, z0f, f93k, f94, f95]; rfl) ?_
    refine z1i rfl rfl rfl rfl (by simp [z0d, z0f, f93k, f94, f95]) ?_
    refine z1i rfl rfl rfl rfl (by simp [z0d, z0f, f93k, f94, f95]) ?_
    refine z1i rfl rfl rfl rfl (by simp [z0d, z0f, f93k, f94, f95]) ?_
    refine z1H rfl rfl rfl rfl (by simp [z0d, z0f, f93k, f94, f95]; rfl) ?_
    refine z1i rfl rfl rfl rfl (by simp [z0d, z0f, f93k, f94, f95]) ?_
    refine z1i rfl rfl rfl rfl (by simp [z0d, z0f, f93k, f94, f95]) ?_
    refine z1i rfl rfl rfl rfl (by simp [z0d, z0f, f93k, f94, f95]) ?_
    refine z1i rfl rfl rfl rfl (by simp [z0d, z0f, f93k, f94, f95]) ?_
    refine z1H rfl rfl rfl rfl (by simp [z0d, z0f, f93k, f94, f95]; rfl) ?_
    refine z1H rfl rfl rfl rfl (by simp [z0d, z0f, f93k, f94, f95]; rfl) ?_
    refine z1H rfl rfl rfl rfl (by simp [z0d, z0f, f93k, f94, f95]; rfl) ?_
    refine z1i rfl rfl rfl rfl (by simp [z0d, z0f, f93k, f94, f95]) ?_
    refine z1H rfl rfl rfl rfl (by simp [z0d, z0f, f93k, f94, f95]; rfl) ?_
    refine z1H rfl rfl rfl rfl (by simp [z0d, z0f, f93k, f94, f95]; rfl) ?_
    refine z1i rfl rfl rfl rfl (by simp [z0d, z0f, f93k, f94, f95]) ?_
    refine z1i rfl rfl rfl rfl (by simp [z0d, z0f, f93k, f94, f95]) ?_
    refine z1H rfl rfl rfl rfl (by simp [z0d, z0f, f93k, f94, f95]; rfl) ?_
    refine z1i rfl rfl rfl rfl (by simp [z0d, z0f, f93k, f94, f95]) ?_
    refine z1i rfl rfl rfl rfl (by simp [z0d, z0f, f93k, f94, f95]) ?_
    refine z1i rfl rfl rfl rfl (by simp [z0d, z0f, f93k, f94, f95]) ?_
    refine z1i rfl rfl rfl rfl (by simp [z0d, z0f, f93k, f94, f95]) ?_
    refine z1H rfl rfl rfl rfl (by simp [z0d, z0f, f93k, f94, f95]; rfl) ?_
    refine z1H rfl rfl rfl rfl (by simp [z0d, z0f, f93k, f94, f95]; rfl) ?_
    refine z1i rfl rfl rfl rfl (by simp [z0d, z0f, f93k, f94, f95]) ?_
    refine z1i rfl rfl rfl rfl (by simp [z0d, z0f, f93k, f94, f95]) ?_
    refine z1H rfl rfl rfl rfl (by simp [z0d, z0f, f93k, f94, f95]; rfl) ?_
    refine z1i rfl rfl rfl rfl (by simp [z0d, z0f, f93k, f94, f95]) ?_
    refine z1i rfl rfl rfl rfl (by simp [z0d, z0f, f93k, f94, f95]) ?_
    refine z1i rfl rfl rfl rfl (by simp [z0d, z0f, f93k, f94, f95]) ?_
    refine z1i rfl rfl rfl rfl (by simp [z0d, z0f, f93k, f94, f95]) ?_
    refine z1i rfl rfl rfl rfl (by simp [z0d, z0f, f93k, f94, f95]) ?_
    refine z1H rfl rfl rfl rfl (by simp [z0d, z0f, f93k, f94, f95]; rfl) ?_
    refine z1i rfl rfl rfl rfl (by simp [z0d, z0f, f93k, f94, f95]) ?_
    refine z1i rfl rfl rfl rfl (by simp [z0d, z0f, f93k, f94, f95]) ?_
    refine z1i rfl rfl rfl rfl (by simp [z0d, z0f, f93k, f94, f95]) ?_
    refine z1i rfl rfl rfl rfl (by simp [z0d, z0f, f93k, f94, f95]) ?_
    refine z1i rfl rfl rfl rfl (by simp [z0d, z0f, f93k, f94, f95]) ?_
    refine z1i rfl rfl rfl rfl (by simp [z0d, z0f, f93k, f94, f95]) ?_
    refine z1H rfl rfl rfl rfl (by simp [z0d, z0f, f93k, f94, f95]; rfl) ?_
    refine z1H rfl rfl rfl rfl (by simp [z0d, z0f, f93k, f94, f95]; rfl) ?_
    refine z1i rfl rfl rfl rfl (by simp [z0d, z0f, f93k, f94, f95]) ?_
    refine z1H rfl rfl rfl rfl (by simp [z0d, z0f, f93k, f94, f95]; rfl) ?_
    refine z1i rfl rfl rfl rfl (by simp [z0d, z0f, f93k, f94, f95]) ?_
    refine z1i rfl rfl rfl rfl (by simp [z0d, z0f, f93k, f94, f95]) ?_
    refine z1i rfl rfl rfl rfl (by simp [z0d, z0f, f93k, f94, f95]) ?_
    refine z1H rfl rfl rfl rfl (by simp [z0d, z0f, f93k, f94, f95]; rfl) ?_
    refine z1i rfl rfl rfl rfl (by simp [z0d, z0f, f93k, f94, f95]) ?_
    refine z1i rfl rfl rfl rfl (by simp [z0d, z0f, f93k, f94, f95]) ?_
    refine z1i rfl rfl rfl rfl (by simp [z0d, z0f, f93k, f94, f95]) ?_
    refine z1i rfl rfl rfl rfl (by simp [z0d, z0f, f93k, f94, f95]) ?_
    refine z1i rfl rfl rfl rfl (by simp [z0d, z0f, f93k, f94, f95]) ?_
    refine z1H rfl rfl rfl rfl (by simp [z0d, z0f, f93k, f94, f95]; rfl) ?_
    refine z1i rfl rfl rfl rfl (by simp [z0d, z0f, f93k, f94, f95]) ?_
    refine z1i rfl rfl rfl rfl (by simp [z0d, z0f, f93k, f94, f95]) ?_
    refine z1i rfl rfl rfl rfl (by simp [z0d, z0f, f93k, f94, f95]) ?_
    refine z1i rfl rfl rfl rfl (by simp [z0d, z0f, f93k, f94, f95]) ?_
    refine z1i rfl rfl rfl rfl (by simp [z0d, z0f, f93k, f94, f95]) ?_
    refine z1i rfl rfl rfl rfl (by simp [z0d, z0f, f93k, f94, f95]) ?_
    refine z1H rfl rfl rfl rfl (by simp [z0d, z0f, f93k, f94, f95]; rfl) ?_
    refine z1H rfl rfl rfl rfl (by simp [z0d, z0f, f93k, f94, f95]; rfl) ?_
    refine z1i rfl rfl rfl rfl (by simp [z0d, z0f, f93k, f94, f95]) ?_
    refine z1i rfl rfl rfl rfl (by simp [z0d, z0f, f93k, f94, f95]) ?_
    refine z1i rfl rfl rfl rfl (by simp [z0d, z0f, f93k, f94, f95]) ?_
    refine z1H rfl rfl rfl rfl (by simp [z0d, z0f, f93k, f94, f95]; rfl) ?_
    refine z1i rfl rfl rfl rfl (by simp [z0d, z0f, f93k, f94, f95]) ?_
    refine z1H rfl rfl rfl rfl (by simp [z0d, z0f, f93k, f94, f95]; rfl) ?_
    refine zxS rfl ?_
    refine zh7 rfl (by simp [f93k, f94, f95]; rfl) ?_
    refine z0c (zq rfl (zq rfl (zr rfl rfl rfl (by simp; rfl) ?_)))
    refine z0c (zb rfl (z4a h7 (z4W v69 v70 v71 v72) rfl rfl (by simp [z4W]) fun s o1 h8 hr1 => ?_))
    obtain ⟨w78, w79, w80⟩ := s
    simp only [z4Y] at h8
    simp only [z4W]
    refine zq rfl (zr rfl rfl rfl (by simp; rfl) ?_)
    refine z0c (zq rfl ?_)
    by_cases c111 : w78 < (v69.length : Int)
    ·rw [if_pos c111] at h8
     refine z5z rfl (by simp [c111]) (z3G rfl (z0c (zq rfl (zb rfl (zq rfl (zr rfl rfl rfl (by simp; rfl) ?_))))))
     refine z0c (zq rfl ?_)
     obtain ⟨v88, f112, h9⟩ := z1y h8
     have f112k := Ok.ok _ f112
     try simp at f112k
     obtain ⟨v89, f113, h10⟩ := z3M h9
     refine z6w rfl rfl rfl rfl ?_; repeat' ((first | refine z3A rfl rfl fun Q' hQ => ?_ | refine z3h rfl fun Q' hQ => ?_); simp [f112k, f113]; refine hQ.out _ ?_; clear hQ; clear Q')
     refine z0c (zq rfl ?_)
     obtain ⟨v90, f114, h11⟩ := z1y h10
     have f114k := Ok.ok _ f114
     try simp at f114k
     refine zr rfl rfl rfl (by simp [f114k]; rfl) ?_
     refine z0c ?_
     obtain ⟨v91, f115, h12⟩ := z3M h11
     obtain ⟨v92, f116, h13⟩ := z3M h12
     obtain ⟨v93, f117, h14⟩ := z3M h13
     obtain ⟨v94, f118, h15⟩ := z3M h14
     refine z6w rfl rfl rfl rfl ?_; repeat' ((first | refine z3A rfl rfl fun Q' hQ => ?_ | refine z3h rfl fun Q' hQ => ?_); simp [f115, f116, f117, f118]; refine hQ.out _ ?_; clear hQ; clear Q')
     refine z2A (z0c (zr rfl rfl rfl (by simp; rfl) ?_))
     have ho := z1P h15
     refine z2z ho ?_
     simp [z4W]
    ·rw [if_neg c111] at h8
     refine z5A rfl (by simp [c111]) (z5q rfl (z3R ?_))
     obtain ⟨rr1, h9, ho1⟩ := z2d h8
     have hs1 := hr1 _ ho1
     subst hs1
     refine z3g ho1 (z1C rfl (z0c (zq rfl (zq rfl (zr rfl rfl rfl (by simp; rfl) ?_)))))
     refine z0c (zb rfl (z4a h9 (z4V v69 v70 v71 v72 w79 w80) rfl rfl (by simp [z4V]) fun s o2 h10 hr2 => ?_))
     obtain ⟨w107, w108⟩ := s
     simp only [z4X] at h10
     simp only [z4V]
     refine zq rfl (zr rfl rfl rfl (by simp; rfl) ?_)
     refine z0c (zq rfl ?_)
     by_cases c155 : w107 < (v71.2.length : Int)
     ·rw [if_pos c155] at h10
      refine z5z rfl (by simp [c155]) (z3G rfl (z0c (zq rfl (zb rfl (zq rfl ?_)))))
      obtain ⟨v122, f156, h11⟩ := z3M h10
      refine zr rfl rfl rfl (by simp [f156]; rfl) ?_
      refine z0c (zq rfl ?_)
      obtain ⟨v123, f157, h12⟩ := z1y h11
      have f157k := Ok.ok _ f157
      try simp at f157k
      refine zr rfl rfl rfl (by simp [f157k]; rfl) ?_
      refine z0c (zq rfl (zr rfl rfl rfl (by simp; rfl) ?_))
      refine z0c (zb rfl (z4a h12 (z4e v69 v70 v71 v72 w79 w80 w107 v123) rfl rfl (by simp [z4e]) fun s o3 h13 hr3 => ?_))
      obtain ⟨w127, w128⟩ := s
      simp only [z4f] at h13
      simp only [z4e]
      refine zq rfl (zr rfl rfl rfl (by simp; rfl) ?_)
      refine z0c (zq rfl ?_)
      by_cases c168 : w127 < (v69.length : Int)
      ·rw [if_pos c168] at h13
       refine z5z rfl (by simp [c168]) (z3G rfl (z0c (zq rfl (zb rfl (zq rfl (zr rfl rfl rfl (by simp; rfl) ?_))))))
       refine z0c (zq rfl ?_)
       obtain ⟨v132, f169, h14⟩ := z3M h13
       refine zr rfl rfl rfl (by simp [f169]; rfl) ?_
       refine z0c ?_
       by_cases c170 : v132 = w107
       ·rw [if_pos c170] at h14
        have c170e := eq_true c170
        refine z5z rfl (by simp [c170e]) ?_
        obtain ⟨v133, f171, h15⟩ := z3M h14
        obtain ⟨v134, f172, h16⟩ := z3M h15
        refine z6w rfl rfl rfl rfl ?_; repeat' ((first | refine z3A rfl rfl fun Q' hQ => ?_ | refine z3h rfl fun Q' hQ => ?_); simp [f171, f172]; refine hQ.out _ ?_; clear hQ; clear Q')
        refine z2A (z0c (zr rfl rfl rfl (by simp; rfl) ?_))
        have ho := z1P h16
        refine z2z ho ?_
        simp [z4e]
       ·rw [if_neg c170] at h14
        have c170e := eq_false c170
        refine z5A rfl (by simp [c170e]) (z3G rfl (z2A (z0c (zr rfl rfl rfl (by simp; rfl) ?_))))
        have ho := z1P h14
        refine z2z ho ?_
        simp [z4e]
      ·rw [if_neg c168] at h13
       refine z5A rfl (by simp [c168]) (z5q rfl (z3R ?_))
       obtain ⟨rr3, h14, ho3⟩ := z2d h13
       have hs3 := hr3 _ ho3
       subst hs3
       refine z3g ho3 (z1C rfl (z2A (z0c (zr rfl rfl rfl (by simp; rfl) ?_))))
       have ho := z1P h14
       refine z2z ho ?_
       simp [z4V]
     ·rw [if_neg c155] at h10
      refine z5A rfl (by simp [c155]) (z5q rfl (z3R ?_))
      obtain ⟨rr2, h11, ho2⟩ := z2d h10
      have hs2 := hr2 _ ho2
      subst hs2
      refine z3g ho2 (z1C rfl (z0c (zq rfl (zr rfl rfl rfl (by simp; rfl) ?_))))
      refine z0c (zhI rfl ?_)
      cases h11
      simp
  ·rw [if_neg c88] at h1
   have c88e := eq_false c88
   refine z5z rfl (by simp [c88e]) (zq rfl (zr rfl rfl rfl (by simp; rfl) ?_))
   refine z0c (zhI rfl (z8T ?_))
   cases h1
   simp⟩
end
end Go.Proofs.Ytodliknibbafeaa
end
section
namespace Go.Proofs.Ytodliknibbafeaa
open Go
set_option maxRecDepth 100000
theorem zmQ (a b : Nat) : zvy a b = true ↔ (szN b < szN a ∨ (szN a = szN b ∧ a ≤ b)) := by unfold zvy; simp
def zuE (x : Nat) : List Nat → List Nat
  | [] => [x]
  | y :: l => if zvy x y = true then x :: y :: l else y :: zuE x l
def zhz : List Nat → List Nat
  | [] => []
  | x :: l => zuE x (zhz l)
abbrev zy4 (l : List Nat) : Prop := l.Pairwise fun a b => zvy a b = true
theorem znV (x : Nat) : ∀ l : List Nat, zuF (x : Int) (toI l) = toI (zuE x l)
  | [] => rfl
  | y :: l => by
    have ih := znV x l
    have e : leI (x : Int) (y : Int) = zvy x y := by simp [leI]
    simp only [toI, List.map_cons, zuF, zuE] at ih ⊢
    rw [e]
    by_cases h : zvy x y = true
    · rw [if_pos h, if_pos h]; rfl
    · rw [if_neg h, if_neg h, ih]; rfl
theorem zke : ∀ l : List Nat, za7 (toI l) = toI (zhz l)
  | [] => rfl
  | x :: l => by
    have ih := zke l
    simp only [toI, List.map_cons, za7, zhz] at ih ⊢
    rw [ih]; exact znV x (zhz l)
theorem zeK (x : Nat) : ∀ l : List Nat, (zuE x l).Perm (x :: l)
  | [] => .refl _
  | y :: l => by
    unfold zuE
    split
    · exact .refl _
    · exact ((zeK x l).cons y).trans (.swap x y l)
theorem zhb : ∀ l : List Nat, (zhz l).Perm l
  | [] => .refl _
  | x :: l => (zeK x (zhz l)).trans ((zhb l).cons x)
theorem zeJ (x : Nat) : ∀ l : List Nat, zy4 l → zy4 (zuE x l)
  | [], _ => by simp [zuE]
  | y :: l, h => by
    unfold zuE
    rw [zy4, List.pairwise_cons] at h
    split
    · rename_i hxy
      refine List.pairwise_cons.2 ⟨fun z hz => ?_, List.pairwise_cons.2 h⟩
      rcases List.mem_cons.1 hz with rfl | hz
      · exact hxy
      · have := h.1 z hz
        rw [zmQ] at *
        omega
    · rename_i hxy
      refine List.pairwise_cons.2 ⟨fun z hz => ?_, zeJ x l h.2⟩
      rcases List.mem_cons.1 ((zeK x l).mem_iff.1 hz) with rfl | hz
      · rw [zmQ] at *
        omega
      · exact h.1 z hz
theorem zcj : ∀ l : List Nat, zy4 (zhz l)
  | [] => by simp [zhz]
  | x :: l => zeJ x _ (zcj l)
def z9k (S : List Nat) : Nat → List Nat
  | 0 => S
  | q + 1 => if 2 ^ q ∈ z9k S q then z9k S q else z9k S q ++ [2 ^ q]
theorem z8l {S : List Nat} (hS : S.Nodup) : ∀ q, (z9k S q).Nodup ∧ (∀ x, x ∈ z9k S q ↔ x ∈ S ∨ ∃ i, i < q ∧ x = 2 ^ i) ∧ (z9k S q).length ≤ S.length + q
  | 0 => ⟨hS, fun x => by simp [z9k], by simp [z9k]⟩
  | q + 1 => by
    obtain ⟨h1, h2, h3⟩ := z8l hS q
    unfold z9k
    split
    · rename_i h
      refine ⟨h1, fun x => ?_, by omega⟩
      rw [h2]
      constructor
      · rintro (h | ⟨i, h, e⟩)
        · exact .inl h
        · exact .inr ⟨i, by omega, e⟩
      · rintro (h' | ⟨i, h', e⟩)
        · exact .inl h'
        · by_cases ei : i = q
          · subst ei; rw [e]; exact (h2 _).1 h
          · exact .inr ⟨i, by omega, e⟩
    · rename_i h
      refine ⟨List.nodup_append.2 ⟨h1, by simp, fun a ha b hb e => ?_⟩, fun x => ?_, by rw [List.length_append, List.length_singleton]; omega⟩
      · obtain rfl := List.mem_singleton.1 hb
        exact h (e ▸ ha)
      · rw [List.mem_append, h2, List.mem_singleton]
        constructor
        · rintro ((h' | ⟨i, h', e⟩) | e)
          · exact .inl h'
          · exact .inr ⟨i, by omega, e⟩
          · exact .inr ⟨q, by omega, e⟩
        · rintro (h' | ⟨i, h', e⟩)
          · exact .inl (.inl h')
          · by_cases ei : i = q
            · subst ei; exact .inr e
            · exact .inl (.inr ⟨i, by omega, e⟩)
def z6W (d : DFA) (m n : Nat) : List Nat := zhz (z9k (z1d d m n (2 ^ n - 1)).1 n)
structure SetsP (d : DFA) (m n : Nat) (S : List Nat) : Prop where
  nd : S.Nodup
  lt : ∀ x ∈ S, x < 2 ^ n
  cl : ∀ x ∈ S, ∀ a, a < m → mvN d x a ∈ S
  one : ∀ q, q < n → 2 ^ q ∈ S
  srt : zy4 S
theorem zxw {d : DFA} {m n : Nat} (hd : DfaOk d m n) {q a : Nat} (hq : q < n) (ha : a < m) : ∃ p, p < n ∧ mvN d (2 ^ q) a = 2 ^ p := by
  obtain ⟨h1, h2, e, h3, h4⟩ := zc0 hd hq ha
  refine ⟨((d.next.getD q []).getD a 0).toNat, by rw [e]; omega, Nat.eq_of_testBit_eq fun i => ?_⟩
  rw [Bool.eq_iff_iff, z7c hd ha, Nat.testBit_two_pow, decide_eq_true_iff]
  constructor
  · rintro ⟨j, j1, j2, j3⟩
    rw [Nat.testBit_two_pow, decide_eq_true_iff] at j2
    subst j2; exact j3
  · intro h
    exact ⟨q, hq, by rw [Nat.testBit_two_pow]; simp, h⟩
theorem zm9 {d : DFA} {m n : Nat} (hd : DfaOk d m n) : SetsP d m n (z6W d m n) := by
  have hp := Nat.two_pow_pos n
  have hf : 2 ^ n - 1 < 2 ^ n := by omega
  have hi := z6b hd hf
  obtain ⟨h1, h2, h3⟩ := z8l hi.nd n
  have hpm := zhb (z9k (z1d d m n (2 ^ n - 1)).1 n)
  have hm : ∀ x, x ∈ z6W d m n ↔ x ∈ (z1d d m n (2 ^ n - 1)).1 ∨ ∃ i, i < n ∧ x = 2 ^ i := fun x => hpm.mem_iff.trans (h2 x)
  refine ⟨hpm.nodup_iff.2 h1, fun x hx => ?_, fun x hx a ha => ?_, fun q hq => (hm _).2 (.inr ⟨q, hq, rfl⟩), zcj _⟩
  · rcases (hm x).1 hx with h | ⟨i, hi', rfl⟩
    · exact hi.lt x h
    · exact Nat.pow_lt_pow_right (by omega) hi'
  · rcases (hm x).1 hx with h | ⟨i, hi', rfl⟩
    · exact (hm _).2 (.inl (zcl hd hf h ha))
    · obtain ⟨p, hp1, hp2⟩ := zxw hd hi' ha
      exact (hm _).2 (.inr ⟨p, hp1, hp2⟩)
theorem zmT {S : List Nat} (hl : S.length < 4611686018427387904) (x : Nat) : z1D (toI S) (x : Int) = some (decide (x ∈ S)) := by
  unfold z1D z2G
  rw [z7d (s := (0 : Int)) S.length (fun k => (k : Int)) (fun k => decide (x = S.getD k 0)) (fun k => some (k : Int)) (x := some (-1)) rfl (by simp only [LFm]; omega)]
  · cases h : (List.range S.length).find? (fun k => decide (x = S.getD k 0)) with
    | none =>
      have := zkR.1 h
      rw [Option.bind_some]
      congr 1
      have hn : ¬ x ∈ S := fun hx => by
        obtain ⟨i, hi, rfl⟩ := List.getElem_of_mem hx
        have := this i hi
        simp [List.getD, hi] at this
      simp [hn]
    | some k =>
      obtain ⟨k1, k2, _⟩ := zkQ.1 h
      rw [Option.bind_some]
      congr 1
      have hx : x ∈ S := by
        have : x = S.getD k 0 := by simpa using k2
        rw [this]; exact z0F k1
      simp [hx]
  · intro k hk
    simp only [z2f]
    rw [if_pos (by rw [z0l]; omega), z2C hk, Option.bind_some]
    by_cases h : x = S.getD k 0
    · rw [if_pos (by omega), if_pos (by simpa using h)]
    · rw [if_neg (by omega), if_neg (by simpa using h), z1O (by omega)]
  · simp only [z2f]
    rw [if_neg (by rw [z0l]; omega)]
theorem zwc {d : DFA} {m n : Nat} (hd : DfaOk d m n) (hn : n ≤ 7) : z5t d = some (toI (z6W d m n)) := by
  have hp := Nat.two_pow_pos n
  have h128 : 2 ^ n ≤ 128 := Nat.pow_le_pow_right (n := 2) (by omega) hn
  have hf : 2 ^ n - 1 < 2 ^ n := by omega
  have hi := z6b hd hf
  have hl := z1E hi.nd hi.lt
  obtain ⟨h1, h2, h3⟩ := z8l hi.nd n
  unfold z5t
  have ew : IntKind.i64.wrap (((2 ^ n : Nat) : Int) - 1) = ((2 ^ n - 1 : Nat) : Int) := by rw [z2B (by omega) (by omega)]; omega
  rw [hd.fin, z0w _ (by omega), z8c (by omega), ew, zuk hd (by omega) hf, Option.bind_some]
  refine z1a (s := ((0 : Int), toI (z1d d m n (2 ^ n - 1)).1)) n (fun q => ((q : Int), toI (z9k (z1d d m n (2 ^ n - 1)).1 q))) rfl (by simp only [LFm]; omega) (fun q hq => ?_) ?_
  · have h3' := (z8l hi.nd q).2.2
    simp only [z4D]
    rw [if_pos (by rw [hd.fin]; omega), z0w _ (by omega), z8c (by omega), zmT (by omega), Option.bind_some, z1O (by omega), z9k]
    by_cases h : 2 ^ q ∈ z9k (z1d d m n (2 ^ n - 1)).1 q
    · rw [if_pos (by simpa using h), if_pos h]
    · rw [if_neg (by simpa using h), if_neg h, z0w _ (by unfold z2Q; rw [z0l]; omega), z4R]
  · simp only [z4D]
    rw [if_neg (by rw [hd.fin]; omega)]
    have hv : zld (toI (z9k (z1d d m n (2 ^ n - 1)).1 n)) = some (toI (z6W d m n)) := by
      unfold zld
      rw [if_pos, zke]; rfl
      refine ⟨fun h => ?_, by rw [z0l]; omega, ?_⟩
      · have hm := (h2 (2 ^ n - 1)).2 (.inl (zc1 hd hf))
        have := congrArg List.length h
        rw [z0l] at this
        have h0 := List.length_pos_of_mem hm
        simp at this
        rw [this] at h0; simp at h0
      · rw [List.all_eq_true]
        intro x hx
        simp only [toI, List.mem_map] at hx
        obtain ⟨y, hy, rfl⟩ := hx
        have : y < 2 ^ n := by
          rcases (h2 y).1 hy with h | ⟨i, hi', rfl⟩
          · exact hi.lt y h
          · exact Nat.pow_lt_pow_right (by omega) hi'
        simp; omega
    rw [hv, Option.bind_some]
end Go.Proofs.Ytodliknibbafeaa
end
section
namespace Go.Proofs.Ytodliknibbafeaa
open Go
set_option maxRecDepth 100000
def z1S {α : Type} (N : Nat) (f : Nat → α) (z : α) (k : Nat) : List α := (List.range N).map fun i => if i < k then f i else z
theorem zcF {α : Type} (N : Nat) (f : Nat → α) (z : α) (k : Nat) : (z1S N f z k).length = N := by simp [z1S]
theorem zan {α : Type} (N : Nat) (f : Nat → α) (z : α) : z1S N f z 0 = List.replicate N z := by
  apply List.ext_getElem (by simp [z1S]); intro i h1 h2; simp [z1S]
theorem zam {α : Type} (N : Nat) (f : Nat → α) (z : α) : z1S N f z N = (List.range N).map f := by
  apply List.ext_getElem (by simp [z1S]); intro i h1 h2
  have : i < N := by simpa [z1S] using h1
  simp [z1S, this]
theorem z7m {α : Type} {N : Nat} {f : Nat → α} {z : α} {k i : Nat} (h : i < N) : atI (z1S N f z k) (i : Int) = some (if i < k then f i else z) := by
  rw [z2y (by rw [zcF]; exact h)]; simp [z1S]
theorem z5c {α : Type} {N : Nat} {f : Nat → α} {z : α} {k : Nat} (h : k < N) : (z1S N f z k).set k (f k) = z1S N f z (k + 1) := by
  apply List.ext_getElem (by simp [z1S]); intro i h1 h2
  simp only [z1S, List.getElem_set, List.getElem_map, List.getElem_range]
  by_cases e : k = i
  · subst e; rw [if_pos rfl, if_pos (by omega)]
  · rw [if_neg e]
    by_cases e2 : i < k
    · rw [if_pos e2, if_pos (by omega)]
    · rw [if_neg e2, if_neg (by omega)]
theorem zti {α : Type} {N : Nat} {f : Nat → α} {z : α} {k : Nat} (h : f k = z) : z1S N f z k = z1S N f z (k + 1) := by
  apply List.ext_getElem (by simp [z1S]); intro i h1 h2
  simp only [z1S, List.getElem_map, List.getElem_range]
  by_cases e : k = i
  · subst e; rw [if_neg (by omega), if_pos (by omega), h]
  · by_cases e2 : i < k
    · rw [if_pos e2, if_pos (by omega)]
    · rw [if_neg e2, if_neg (by omega)]
theorem z2H {α : Type} {N : Nat} {f : Nat → α} {i : Nat} (h : i < N) : atI ((List.range N).map f) (i : Int) = some (f i) := by
  rw [z2y (by simpa using h)]; simp
theorem znx {α : Type} {l : List α} {i : Nat} {x : α} (h : i < l.length) : atI (l.set i x) (i : Int) = some x := by
  rw [z2y (by simpa using h)]; simp
theorem zma {α : Type} (l : List α) (i : Nat) (x y : α) : (l.set i x).set i y = l.set i y := by simp
theorem z9e {S : List Nat} (hS : S.Nodup) {i : Nat} (h : i < S.length) : S.idxOf (S.getD i 0) = i := by
  rw [List.getD, List.getElem?_eq_getElem h, Option.getD_some]
  have hm : S[i] ∈ S := List.getElem_mem h
  have h1 := List.idxOf_lt_length_of_mem hm
  have h2 : S[S.idxOf S[i]] = S[i] := List.getElem_idxOf h1
  exact (List.getElem_inj hS).1 h2
theorem z3v {S : List Nat} {x : Nat} (h : x ∈ S) : S.getD (S.idxOf x) 0 = x := by
  have := List.idxOf_lt_length_of_mem h
  rw [List.getD, List.getElem?_eq_getElem this, Option.getD_some, List.getElem_idxOf]
theorem z6B {S : List Nat} {x : Nat} (h : x ∈ S) : S.idxOf x < S.length := List.idxOf_lt_length_of_mem h
theorem z9f {S : List Nat} (hS : S.Nodup) {i j : Nat} (hi : i < S.length) (hj : j < S.length) (h : S.getD i 0 = S.getD j 0) : i = j := by
  rw [← z9e hS hi, h, z9e hS hj]
def z5l (st : RS) (x : Nat) : ByteArray := st.2.getD (st.1.idxOf x) ByteArray.empty
theorem zlb {st : RS} (hl : st.2.length = st.1.length) {x : Nat} (hx : x ∉ st.1) (w : ByteArray) (y : Nat) : z5l (st.1 ++ [x], st.2 ++ [w]) y = if y = x then w else z5l st y := by
  unfold z5l
  simp only
  by_cases hy : y ∈ st.1
  · have hne : y ≠ x := fun e => hx (e ▸ hy)
    rw [if_neg hne, List.idxOf_append, if_pos hy, z5a _ (by rw [hl]; exact z6B hy)]
  · rw [List.idxOf_append, if_neg hy]
    by_cases e : y = x
    · subst e
      rw [if_pos rfl, show List.idxOf y [y] = 0 by simp, Nat.zero_add, z7j hl.symm]
    · rw [if_neg e]
      have h1 : List.idxOf y [x] = 1 := by
        rw [List.idxOf_cons]
        have : (x == y) = false := by simpa using fun h => e h.symm
        simp [this]
      have h2 : st.1.idxOf y = st.1.length := List.idxOf_eq_length hy
      rw [h1, h2, List.getD, List.getD, List.getElem?_eq_none (by simp [hl]; omega), List.getElem?_eq_none (by omega)]
theorem zny {d : DFA} {m n : Nat} {S : List Nat} (hS : SetsP d m n S) : ∀ {w : List UInt8} {s : Nat}, (∀ c ∈ w, 97 ≤ c.toNat ∧ c.toNat < 97 + m) → s ∈ S → z4q d s w ∈ S
  | [], s, _, h => h
  | c :: w, s, hw, h => zny (w := w) (s := mvN d s (c.toNat - 97)) hS (fun c' hc' => hw c' (List.mem_cons_of_mem _ hc')) (hS.cl s h _ (by have := hw c (List.mem_cons_self ..); omega))
theorem zsZ {d : DFA} {m n s : Nat} {S : List Nat} (hS : SetsP d m n S) (hs : s ∈ S) {st : RS} (h : RInv d m n s st) {x : Nat} (hx : x ∈ st.1) : x ∈ S := by
  obtain ⟨i, hi, rfl⟩ := List.getElem_of_mem hx
  obtain ⟨_, o2, o3⟩ := h.ok i hi
  rw [List.getD, List.getD, List.getElem?_eq_getElem hi, Option.getD_some] at o3
  rw [← o3]
  exact zny hS o2 hs
def znF (d : DFA) (m : Nat) (S : List Nat) (i : Nat) : List Int := (List.range m).map fun a => ((S.idxOf (mvN d (S.getD i 0) a) : Nat) : Int)
def zwL (d : DFA) (m : Nat) (S : List Nat) : List (List Int) := (List.range S.length).map (znF d m S)
def zsN (S : List Nat) (st : RS) : List Bool := (List.range S.length).map fun i => decide (S.getD i 0 ∈ st.1)
def ziu (S : List Nat) (st : RS) : List ByteArray := (List.range S.length).map fun i => z5l st (S.getD i 0)
def zfi (S : List Nat) (st : RS) : List Int := toI (st.1.map S.idxOf)
theorem zst {S : List Nat} {st : RS} {k : Nat} (h : k < st.1.length) : atI (zfi S st) (k : Int) = some ((S.idxOf (st.1.getD k 0) : Nat) : Int) := by
  unfold zfi
  rw [z2C (by simpa using h)]
  simp [List.getD, h]
theorem zkk {d : DFA} {m n s : Nat} (hd : DfaOk d m n) (hn : n ≤ 12) {S : List Nat} (hS : SetsP d m n S) (hs : s ∈ S) {st : RS} (h : RInv d m n s st) {k : Nat} (hk : k < st.1.length) :
    z0u (z1G (k : Int) (znF d m S (S.idxOf (st.1.getD k 0)))) LFm (0, zsN S st, ziu S st, zfi S st) = z0n (((k + 1 : Nat) : Int), zsN S (z6A d k st m), ziu S (z6A d k st m), zfi S (z6A d k st m)) := by
  have h12 := zhK hn
  have hm6 := hd.m6
  have hSl := z1E hS.nd hS.lt
  refine z1a (s := ((0 : Int), zsN S st, ziu S st, zfi S st)) m (fun a => ((a : Int), zsN S (z6A d k st a), ziu S (z6A d k st a), zfi S (z6A d k st a))) rfl (by simp only [LFm]; omega) (fun a ha => ?_) ?_
  · obtain ⟨k1, _, X, W, k3, k4⟩ := zhY hd h hk a (by omega)
    have hk' : k < (z6A d k st a).1.length := by rw [k3, List.length_append]; omega
    have hl := z1E k1.nd k1.lt
    have eg : (z6A d k st a).1.getD k 0 = st.1.getD k 0 := by rw [k3, z5a _ hk]
    have hkS : st.1.getD k 0 ∈ S := zsZ hS hs h (z0F hk)
    have hxS : mvN d (st.1.getD k 0) a ∈ S := hS.cl _ hkS a ha
    obtain ⟨o1, _, _⟩ := k1.ok k hk'
    have hwk : z5l (z6A d k st a) (st.1.getD k 0) = (z6A d k st a).2.getD k ByteArray.empty := by
      unfold z5l; rw [← eg, z9e k1.nd hk']
    simp only [z1G]
    rw [if_pos (by simp [znF]; omega), znF, z2H ha, Option.bind_some, z3v hkS, zsN, z2H (z6B hxS), Option.bind_some, z3v hxS, z1O (by omega), z6A]
    unfold zkd
    rw [eg]
    simp only [decide_eq_true_eq]
    by_cases hm : mvN d (st.1.getD k 0) a ∈ (z6A d k st a).1
    · rw [if_pos hm, if_pos hm]; rfl
    · rw [if_neg hm, if_neg hm, zst hk', Option.bind_some, eg, ziu, z2H (z6B hkS), Option.bind_some, z3v hkS, hwk, zmr (by omega), z0w _ (by unfold zap; rw [z5r]; omega), z2H (z6B hxS), Option.bind_some, z0w _ (by unfold z2Q zfi; rw [z0l, List.length_map]; omega), Int.toNat_natCast]
      congr 1
      refine Prod.ext rfl (Prod.ext ?_ (Prod.ext ?_ ?_))
      · simp only [zsN]
        apply List.ext_getElem (by simp)
        intro i i1 i2
        have hi : i < S.length := by simpa using i2
        simp only [List.getElem_set, List.getElem_map, List.getElem_range, List.mem_append, List.mem_singleton]
        by_cases e : S.idxOf (mvN d (st.1.getD k 0) a) = i
        · subst e; rw [if_pos rfl, z3v hxS]; simp
        · rw [if_neg e]
          have : S.getD i 0 ≠ mvN d (st.1.getD k 0) a := fun hh => e (by rw [← hh, z9e hS.nd hi])
          simp only [this, or_false]
      · simp only [ziu]
        apply List.ext_getElem (by simp)
        intro i i1 i2
        have hi : i < S.length := by simpa using i2
        simp only [List.getElem_set, List.getElem_map, List.getElem_range]
        rw [zlb k1.len hm]
        by_cases e : S.idxOf (mvN d (st.1.getD k 0) a) = i
        · subst e; rw [if_pos rfl, z3v hxS, if_pos rfl]
        · have : S.getD i 0 ≠ mvN d (st.1.getD k 0) a := fun hh => e (by rw [← hh, z9e hS.nd hi])
          rw [if_neg e, if_neg this]
      · simp only [zfi, List.map_append, List.map_cons, List.map_nil]
        rw [z4R]
  · simp only [z1G]
    have := z1E h.nd h.lt
    rw [if_neg (by simp [znF]), z1O (by omega)]
theorem zeu {d : DFA} {m n : Nat} (hd : DfaOk d m n) (hn : n ≤ 12) {S : List Nat} (hS : SetsP d m n S) (bl : List (List Bool)) {j : Nat} (hj : j < S.length) :
    z1m ⟨toI S, zwL d m S, bl⟩ (j : Int) = some (zfi S (z1d d m n (S.getD j 0)), ziu S (z1d d m n (S.getD j 0))) := by
  have h12 := zhK hn
  have hp := Nat.two_pow_pos n
  have hSl := z1E hS.nd hS.lt
  have hs : S.getD j 0 ∈ S := z0F hj
  have hs2 : S.getD j 0 < 2 ^ n := hS.lt _ hs
  unfold z1m
  simp only
  rw [z0l, z0w _ (by unfold z1L; omega), z0w _ (by unfold z1L; omega), z0w _ (by omega), Int.toNat_natCast, Int.toNat_natCast]
  have e1 : (List.replicate S.length false).set j true = zsN S (z5x d m (S.getD j 0) 0) := by
    apply List.ext_getElem (by simp [zsN])
    intro i i1 i2
    have hi : i < S.length := by simpa using i1
    simp only [zsN, z5x, List.getElem_set, List.getElem_map, List.getElem_range, List.getElem_replicate, List.mem_singleton]
    by_cases e : j = i
    · subst e; simp
    · rw [if_neg e]
      have : S.getD i 0 ≠ S.getD j 0 := fun hh => e (z9f hS.nd hi hj hh).symm
      symm; simpa using this
  have e2 : List.replicate S.length (ByteArray.empty : ByteArray) = ziu S (z5x d m (S.getD j 0) 0) := by
    apply List.ext_getElem (by simp [ziu])
    intro i i1 i2
    simp only [ziu, z5x, List.getElem_map, List.getElem_range, List.getElem_replicate, z5l]
    generalize List.idxOf (S.getD i 0) [S.getD j 0] = q
    cases q <;> rfl
  have e3 : [(j : Int)] = zfi S (z5x d m (S.getD j 0) 0) := by
    simp only [zfi, z5x, List.map_cons, List.map_nil, z9e hS.nd hj]; rfl
  rw [e1, e2, e3]
  refine zhR (s := ((0 : Int), zsN S (z5x d m (S.getD j 0) 0), ziu S (z5x d m (S.getD j 0) 0), zfi S (z5x d m (S.getD j 0) 0))) (fun z => ∃ k : Nat, k ≤ 2 ^ n ∧ z = ((k : Int), zsN S (z5x d m (S.getD j 0) k), ziu S (z5x d m (S.getD j 0) k), zfi S (z5x d m (S.getD j 0) k))) (fun z => 2 ^ n + 1 - z.1.toNat) ⟨0, by omega, rfl⟩ (by simp only [LFm]; omega) ?_
  rintro z ⟨k, hk, rfl⟩
  have hl := zmb hd hs2 k
  have hqs : (zfi S (z5x d m (S.getD j 0) k)).length = (z5x d m (S.getD j 0) k).1.length := by simp [zfi, toI]
  simp only [z3e]
  by_cases h : k < (z5x d m (S.getD j 0) k).1.length
  · left
    have hinv := (z8V hd hs2 k).1
    have hkS : (z5x d m (S.getD j 0) k).1.getD k 0 ∈ S := zsZ hS hs hinv (z0F h)
    rw [if_pos (by rw [hqs]; omega), zst h, Option.bind_some, zwL, z2H (z6B hkS), Option.bind_some, zkk hd hn hS hs hinv h]
    refine ⟨_, rfl, ⟨k + 1, by omega, ?_⟩, by simp only; omega⟩
    rw [z5x, if_pos h]
  · right
    rw [if_neg (by rw [hqs]; omega)]
    unfold z1d
    rw [zhB h _ hk]
end Go.Proofs.Ytodliknibbafeaa
end
section
namespace Go.Proofs.Ytodliknibbafeaa
open Go
set_option maxRecDepth 100000
def z5w (d : DFA) (m n : Nat) (S : List Nat) (i j : Nat) : Bool := (z1d d m n (S.getD j 0)).1.any fun x => decide (S.getD i 0 &&& x = S.getD i 0)
def zuY (d : DFA) (m n : Nat) (S : List Nat) : List (List Bool) := (List.range S.length).map fun i => (List.range S.length).map (z5w d m n S i)
def dgm (d : DFA) (m n : Nat) (S : List Nat) : Dgm := ⟨toI S, zwL d m S, zuY d m n S⟩
theorem z3F {d : DFA} {m n : Nat} (hd : DfaOk d m n) {S : List Nat} (hS : SetsP d m n S) {i j : Nat} (hj : j < S.length) : z5w d m n S i j = true ↔ zwU d m (S.getD i 0) (S.getD j 0) := by
  rw [ztH hd (hS.lt _ (z0F hj))]
  unfold z5w z5H
  simp
def zrc (n : Nat) (S : List Nat) (k : Nat) : List Int := (List.range (2 ^ n)).map fun x => if x ∈ S.take k then ((S.idxOf x : Nat) : Int) else 0
theorem zuH {n : Nat} {S : List Nat} (hS : S.Nodup) {k : Nat} (hk : k < S.length) : (zrc n S k).set (S.getD k 0) (k : Int) = zrc n S (k + 1) := by
  have hg : S.getD k 0 = S[k] := by rw [List.getD, List.getElem?_eq_getElem hk, Option.getD_some]
  apply List.ext_getElem (by simp [zrc])
  intro i h1 h2
  simp only [zrc, List.getElem_set, List.getElem_map, List.getElem_range]
  rw [List.take_succ_eq_append_getElem hk]
  simp only [List.mem_append, List.mem_singleton]
  by_cases e : S.getD k 0 = i
  · rw [if_pos e, if_pos (.inr (by rw [← hg]; exact e.symm)), ← e, z9e hS hk]
  · rw [if_neg e]
    have : ¬ i = S[k] := fun h => e (by rw [hg]; exact h.symm)
    simp [this]
theorem zvk {n : Nat} {S : List Nat} {k x : Nat} (h : x < 2 ^ n) : atI (zrc n S k) (x : Int) = some (if x ∈ S.take k then ((S.idxOf x : Nat) : Int) else 0) := by
  unfold zrc; rw [z2H h]
theorem zqu {d : DFA} {m n : Nat} (hd : DfaOk d m n) (hn : n ≤ 12) {S : List Nat} (hS : SetsP d m n S) {i : Nat} (hi : i < S.length) :
    z0u (z2c d (toI S) (zrc n S S.length) (i : Int) (z1S S.length (fun _ => List.replicate S.length false) [] i) ((S.getD i 0 : Nat) : Int)) LFm (0, (z1S S.length (znF d m S) [] i).set i (List.replicate m 0)) =
      z0n (((i + 1 : Nat) : Int), z1S S.length (znF d m S) [] (i + 1), z1S S.length (fun _ => List.replicate S.length false) [] (i + 1)) := by
  have h12 := zhK hn
  have hm6 := hd.m6
  have hSl := z1E hS.nd hS.lt
  have hx : S.getD i 0 ∈ S := z0F hi
  refine z1a (s := ((0 : Int), (z1S S.length (znF d m S) [] i).set i (List.replicate m 0))) m (fun a => ((a : Int), (z1S S.length (znF d m S) [] i).set i (z1S m (fun a => ((S.idxOf (mvN d (S.getD i 0) a) : Nat) : Int)) 0 a))) (by rw [zan]; rfl) (by simp only [LFm]; omega) (fun a ha => ?_) ?_
  · have hmv : mvN d (S.getD i 0) a ∈ S := hS.cl _ hx a ha
    simp only [z2c]
    rw [if_pos (by rw [hd.lt]; omega), znx (by rw [zcF]; exact hi), Option.bind_some, zsJ hd hn (hS.lt _ hx) ha, Option.bind_some, zvk (hS.lt _ hmv), Option.bind_some, List.take_length, if_pos hmv, z7m ha, Option.bind_some, z1O (by omega), Int.toNat_natCast, Int.toNat_natCast, zma]
    rw [z5c (f := fun a => ((S.idxOf (mvN d (S.getD i 0) a) : Nat) : Int)) (z := 0) ha]
  · simp only [z2c]
    rw [if_neg (by rw [hd.lt]; omega), z0l, z0w _ (by unfold z1L; omega), z7m hi, Option.bind_some, z1O (by omega), Int.toNat_natCast, Int.toNat_natCast, zam]
    have e1 := z5c (f := znF d m S) (z := []) hi
    have e2 := z5c (f := fun _ => List.replicate S.length false) (z := []) hi
    rw [show ((List.range m).map fun a => ((S.idxOf (mvN d (S.getD i 0) a) : Nat) : Int)) = znF d m S i from rfl, e1, e2]
def zcJ (d : DFA) (m n : Nat) (S : List Nat) (j i : Nat) : List (List Bool) := (List.range S.length).map fun i' => z1S S.length (z5w d m n S i') false (if i' < i then j + 1 else j)
theorem zz9 {d : DFA} {m n : Nat} {S : List Nat} {j : Nat} : zcJ d m n S j S.length = zcJ d m n S (j + 1) 0 := by
  unfold zcJ
  refine List.map_congr_left fun i hi => ?_
  rw [if_pos (List.mem_range.1 hi), if_neg (by omega)]
theorem zv2 {α : Type} (p : α → Bool) (l : List α) (d : α) : ((List.range l.length).find? fun k => p (l.getD k d)).isSome = l.any p := by
  rw [Bool.eq_iff_iff, List.any_eq_true]
  rw [List.find?_isSome]
  constructor
  · rintro ⟨k, hk, h⟩
    have hk := List.mem_range.1 hk
    exact ⟨_, by rw [List.getD, List.getElem?_eq_getElem hk, Option.getD_some]; exact List.getElem_mem hk, h⟩
  · rintro ⟨x, hx, h⟩
    obtain ⟨i, hi, rfl⟩ := List.getElem_of_mem hx
    exact ⟨i, List.mem_range.2 hi, by rw [List.getD, List.getElem?_eq_getElem hi, Option.getD_some]; exact h⟩
theorem ztG {d : DFA} {m n : Nat} (hd : DfaOk d m n) (hn : n ≤ 12) {S : List Nat} (hS : SetsP d m n S) {i j : Nat} (hi : i < S.length) (hj : j < S.length) (w : List ByteArray) :
    z0u (z2b (toI S) (j : Int) (zfi S (z1d d m n (S.getD j 0)), w) (i : Int) (zcJ d m n S j i) ((S.getD i 0 : Nat) : Int)) LFm 0 = z0n (((i + 1 : Nat) : Int), zcJ d m n S j (i + 1)) := by
  have h12 := zhK hn
  have hSl := z1E hS.nd hS.lt
  have hjS := z0F hj
  have hinv := z6b hd (hS.lt _ hjS)
  have hl := z1E hinv.nd hinv.lt
  have hx62 : S.getD i 0 < 2 ^ n := hS.lt _ (z0F hi)
  have hcol : z5w d m n S i j = true → (zcJ d m n S j i).set i ((z1S S.length (z5w d m n S i) false j).set j true) = zcJ d m n S j (i + 1) := fun hb => by
    have e := z5c (f := z5w d m n S i) (z := false) hj
    rw [hb] at e
    rw [e]
    apply List.ext_getElem (by simp [zcJ])
    intro k h1 h2
    simp only [zcJ, List.getElem_set, List.getElem_map, List.getElem_range]
    by_cases ek : i = k
    · subst ek; rw [if_pos rfl, if_pos (by omega)]
    · rw [if_neg ek]
      by_cases e2 : k < i
      · rw [if_pos e2, if_pos (by omega)]
      · rw [if_neg e2, if_neg (by omega)]
  have hcol0 : z5w d m n S i j = false → zcJ d m n S j i = zcJ d m n S j (i + 1) := fun hb => by
    unfold zcJ
    refine List.map_congr_left fun k hk => ?_
    by_cases ek : k = i
    · subst ek; rw [if_neg (by omega), if_pos (by omega)]; exact zti hb
    · by_cases e2 : k < i
      · rw [if_pos e2, if_pos (by omega)]
      · rw [if_neg e2, if_neg (by omega)]
  rw [z7d (s := (0 : Int)) (z1d d m n (S.getD j 0)).1.length (fun k => (k : Int)) (fun k => decide (S.getD i 0 &&& (z1d d m n (S.getD j 0)).1.getD k 0 = S.getD i 0)) (fun _ => z0n (((i + 1 : Nat) : Int), (zcJ d m n S j i).set i ((z1S S.length (z5w d m n S i) false j).set j true))) (x := z0n (((i + 1 : Nat) : Int), zcJ d m n S j i)) rfl (by simp only [LFm]; omega)]
  · have ha : ((List.range (z1d d m n (S.getD j 0)).1.length).find? fun k => decide (S.getD i 0 &&& (z1d d m n (S.getD j 0)).1.getD k 0 = S.getD i 0)).isSome = z5w d m n S i j := zv2 (fun x => decide (S.getD i 0 &&& x = S.getD i 0)) (z1d d m n (S.getD j 0)).1 0
    revert ha
    cases (List.range (z1d d m n (S.getD j 0)).1.length).find? fun k => decide (S.getD i 0 &&& (z1d d m n (S.getD j 0)).1.getD k 0 = S.getD i 0) with
    | none => intro ha; simp only; rw [hcol0 (by simpa using ha.symm)]
    | some k => intro ha; simp only; rw [hcol (by simpa using ha.symm)]
  · intro k hk
    have hkS : (z1d d m n (S.getD j 0)).1.getD k 0 ∈ S := zsZ hS hjS hinv (z0F hk)
    have hqs : (zfi S (z1d d m n (S.getD j 0))).length = (z1d d m n (S.getD j 0)).1.length := by simp [zfi, toI]
    have h62 := hS.lt _ hkS
    simp only [z2b]
    rw [if_pos (by rw [hqs]; omega), zst hk, Option.bind_some, z2C (z6B hkS), z3v hkS, Option.bind_some, z9g (by omega) (by omega), Option.bind_some]
    simp only [decide_eq_true_eq]
    split
    · rw [zcJ, z2H hi, Option.bind_some, z7m hj, Option.bind_some, z1O (by omega), if_neg (by omega : ¬ i < i), Int.toNat_natCast, Int.toNat_natCast]
    · rw [z1O (by omega)]
  · have hqs : (zfi S (z1d d m n (S.getD j 0))).length = (z1d d m n (S.getD j 0)).1.length := by simp [zfi, toI]
    simp only [z2b]
    rw [if_neg (by rw [hqs]; omega), z1O (by omega)]
theorem zqY {d : DFA} {m n : Nat} (hd : DfaOk d m n) (hn : n ≤ 12) {S : List Nat} (hS : SetsP d m n S) : z3d d (toI S) = some (dgm d m n S) := by
  have h12 := zhK hn
  have hm6 := hd.m6
  have hp := Nat.two_pow_pos n
  have hSl := z1E hS.nd hS.lt
  unfold z3d
  rw [hd.fin, z0w _ (by omega), z8c (by omega), z0w _ (by unfold z1L; omega), Int.toNat_natCast]
  have e0 : List.replicate (2 ^ n) (0 : Int) = zrc n S 0 := by
    apply List.ext_getElem (by simp [zrc]); intro i h1 h2; simp [zrc]
  rw [e0]
  refine z1a (s := ((0 : Int), zrc n S 0)) S.length (fun k => ((k : Int), zrc n S k)) rfl (by simp only [LFm]; omega) (fun k hk => ?_) ?_
  · simp only [z2X]
    rw [if_pos (by rw [z0l]; omega), z2C hk, Option.bind_some, zvk (hS.lt _ (z0F hk)), Option.bind_some, z1O (by omega), Int.toNat_natCast, zuH hS.nd hk]
  · simp only [z2X]
    rw [if_neg (by rw [z0l]; omega), z0l, z0w _ (by unfold z1L; omega), Int.toNat_natCast]
    congr 1
    have f1 : List.replicate S.length ([] : List Int) = z1S S.length (znF d m S) [] 0 := (zan _ _ _).symm
    have f2 : List.replicate S.length ([] : List Bool) = z1S S.length (fun _ => List.replicate S.length false) [] 0 := (zan _ _ _).symm
    rw [f1, f2]
    refine z1a (s := ((0 : Int), z1S S.length (znF d m S) [] 0, z1S S.length (fun _ => List.replicate S.length false) [] 0)) S.length (fun k => ((k : Int), z1S S.length (znF d m S) [] k, z1S S.length (fun _ => List.replicate S.length false) [] k)) rfl (by simp only [LFm]; omega) (fun k hk => ?_) ?_
    · simp only [z2W]
      rw [if_pos (by rw [z0l]; omega), z2C hk, Option.bind_some, hd.lt, z0w _ (by unfold z1L; omega), z7m hk, Option.bind_some, Int.toNat_natCast, Int.toNat_natCast, zqu hd hn hS hk]
    · simp only [z2W]
      rw [if_neg (by rw [z0l]; omega), zam, zam]
      congr 1
      have f3 : ((List.range S.length).map fun _ => List.replicate S.length false) = zcJ d m n S 0 0 := by
        unfold zcJ
        refine List.map_congr_left fun i hi => ?_
        rw [if_neg (by omega), zan]
      rw [f3]
      refine z1a (s := ((0 : Int), zcJ d m n S 0 0)) S.length (fun j => ((j : Int), zcJ d m n S j 0)) rfl (by simp only [LFm]; omega) (fun j hj => ?_) ?_
      · simp only [z2N]
        rw [if_pos (by rw [z0l]; omega)]
        have es := zeu hd hn hS (zcJ d m n S j 0) hj
        unfold zwL at es
        rw [es, Option.bind_some]
        refine z1a (s := ((0 : Int), zcJ d m n S j 0)) S.length (fun i => ((i : Int), zcJ d m n S j i)) rfl (by simp only [LFm]; omega) (fun i hi => ?_) ?_
        · simp only [z2M]
          rw [if_pos (by rw [z0l]; omega), z2C hi, Option.bind_some, ztG hd hn hS hi hj]
        · simp only [z2M]
          rw [if_neg (by rw [z0l]; omega), z1O (by omega), zz9]
      · simp only [z2N]
        rw [if_neg (by rw [z0l]; omega)]
        have f4 : zcJ d m n S S.length 0 = zuY d m n S := by
          unfold zcJ zuY
          refine List.map_congr_left fun i hi => ?_
          rw [if_neg (by omega), zam]
        rw [f4]; rfl
end Go.Proofs.Ytodliknibbafeaa
end
section
namespace Go.Proofs.Ytodliknibbafeaa
open Go
set_option maxRecDepth 100000
structure EqvN (N : Nat) (e : Nat → Nat → Bool) : Prop where
  refl : ∀ i, i < N → e i i = true
  symm : ∀ i j, i < N → j < N → e i j = true → e j i = true
  trans : ∀ i j k, i < N → j < N → k < N → e i j = true → e j k = true → e i k = true
def z0O (e : Nat → Nat → Bool) : Nat → List Nat
  | 0 => []
  | i + 1 => if (z0O e i).any (e i) = true then z0O e i else z0O e i ++ [i]
def z5P (e : Nat → Nat → Bool) (N i : Nat) : Nat := (z0O e N).findIdx (e i)
theorem zc7 (e : Nat → Nat → Bool) {i : Nat} : ∀ j, i ≤ j → ∃ R, z0O e j = z0O e i ++ R
  | 0, h => by
    obtain rfl : i = 0 := by omega
    exact ⟨[], by simp⟩
  | j + 1, h => by
    by_cases e0 : i = j + 1
    · subst e0; exact ⟨[], by simp⟩
    · obtain ⟨R, hR⟩ := zc7 e (i := i) j (by omega)
      rw [show z0O e (j + 1) = if (z0O e j).any (e j) = true then z0O e j else z0O e j ++ [j] from rfl]
      split
      · exact ⟨R, hR⟩
      · exact ⟨R ++ [j], by rw [hR, List.append_assoc]⟩
theorem zco (e : Nat → Nat → Bool) : ∀ i, ∀ f ∈ z0O e i, f < i
  | 0, f, h => by simp [z0O] at h
  | i + 1, f, h => by
    unfold z0O at h
    split at h
    · have := zco e i f h; omega
    · rcases List.mem_append.1 h with h | h
      · have := zco e i f h; omega
      · have := List.mem_singleton.1 h; omega
theorem z7k (e : Nat → Nat → Bool) : ∀ i, (z0O e i).length ≤ i
  | 0 => by simp [z0O]
  | i + 1 => by
    have := z7k e i
    unfold z0O
    split
    · omega
    · rw [List.length_append, List.length_singleton]; omega
theorem zal {N : Nat} {e : Nat → Nat → Bool} (he : EqvN N e) : ∀ i, i ≤ N → (z0O e i).Pairwise fun f g => e f g = false ∧ e g f = false
  | 0, _ => by simp [z0O]
  | i + 1, hi => by
    have ih := zal he i (by omega)
    unfold z0O
    split
    · exact ih
    · rename_i h
      refine List.pairwise_append.2 ⟨ih, by simp, fun a ha b hb => ?_⟩
      obtain rfl := List.mem_singleton.1 hb
      have hlt := zco e b a ha
      have h1 : e b a = false := by
        cases hh : e b a with
        | false => rfl
        | true => exact absurd (List.any_eq_true.2 ⟨a, ha, hh⟩) h
      refine ⟨?_, h1⟩
      cases hh : e a b with
      | false => rfl
      | true => rw [he.symm a b (by omega) (by omega) hh] at h1; cases h1
theorem zmA {N : Nat} {e : Nat → Nat → Bool} (he : EqvN N e) {i c c' : Nat} {l : List Nat} (hl : l.Pairwise fun f g => e f g = false ∧ e g f = false) (hlt : ∀ f ∈ l, f < N) (hi : i < N) (hc : c < l.length) (hc' : c' < l.length) (h : e i (l.getD c 0) = true) (h' : e i (l.getD c' 0) = true) : c = c' := by
  have m1 : l.getD c 0 < N := hlt _ (z0F hc)
  have m2 : l.getD c' 0 < N := hlt _ (z0F hc')
  have hcc := he.trans _ _ _ m1 hi m2 (he.symm _ _ hi m1 h) h'
  rcases Nat.lt_trichotomy c c' with hlt' | rfl | hlt'
  · have := (List.pairwise_iff_getElem.1 hl c c' hc hc' hlt').1
    rw [List.getD, List.getD, List.getElem?_eq_getElem hc, List.getElem?_eq_getElem hc', Option.getD_some, Option.getD_some, this] at hcc
    cases hcc
  · rfl
  · have := (List.pairwise_iff_getElem.1 hl c' c hc' hc hlt').2
    rw [List.getD, List.getD, List.getElem?_eq_getElem hc, List.getElem?_eq_getElem hc', Option.getD_some, Option.getD_some, this] at hcc
    cases hcc
theorem zvt {N : Nat} {e : Nat → Nat → Bool} (he : EqvN N e) {i : Nat} (hi : i < N) : (z0O e i).findIdx (e i) = z5P e N i := by
  unfold z5P
  obtain ⟨R, hR⟩ := zc7 e (i := i + 1) N (by omega)
  rw [hR]
  by_cases h : (z0O e i).any (e i) = true
  · have : z0O e (i + 1) = z0O e i := by rw [z0O, if_pos h]
    rw [this, List.findIdx_append, if_pos]
    obtain ⟨x, hx, hp⟩ := List.any_eq_true.1 h
    exact List.findIdx_lt_length_of_exists ⟨x, hx, hp⟩
  · have e1 : z0O e (i + 1) = z0O e i ++ [i] := by rw [z0O, if_neg h]
    have e2 : (z0O e i).findIdx (e i) = (z0O e i).length := List.findIdx_eq_length.2 fun x hx => by
      cases hh : e i x with
      | false => rfl
      | true => exact absurd (List.any_eq_true.2 ⟨x, hx, hh⟩) h
    rw [e1, List.append_assoc, List.findIdx_append, if_neg (by rw [e2]; omega), List.singleton_append, List.findIdx_cons, he.refl i hi, e2]
    simp
theorem z9h {N : Nat} {e : Nat → Nat → Bool} (he : EqvN N e) {i : Nat} (hi : i < N) : z5P e N i < (z0O e N).length ∧ e i ((z0O e N).getD (z5P e N i) 0) = true := by
  have hex : ∃ x ∈ z0O e N, e i x = true := by
    obtain ⟨R, hR⟩ := zc7 e (i := i + 1) N (by omega)
    by_cases h : (z0O e i).any (e i) = true
    · obtain ⟨x, hx, hp⟩ := List.any_eq_true.1 h
      refine ⟨x, ?_, hp⟩
      rw [hR, z0O, if_pos h]
      exact List.mem_append.2 (.inl hx)
    · refine ⟨i, ?_, he.refl i hi⟩
      rw [hR, z0O, if_neg h]; simp
  have hlt : z5P e N i < (z0O e N).length := List.findIdx_lt_length_of_exists hex
  refine ⟨hlt, ?_⟩
  rw [List.getD, List.getElem?_eq_getElem hlt, Option.getD_some]
  exact List.findIdx_getElem (w := hlt)
theorem zwx {N : Nat} {e : Nat → Nat → Bool} (he : EqvN N e) {i j : Nat} (hi : i < N) (hj : j < N) : z5P e N i = z5P e N j ↔ e i j = true := by
  obtain ⟨a1, a2⟩ := z9h he hi
  obtain ⟨b1, b2⟩ := z9h he hj
  have hF := zco e N
  have m1 := hF _ (z0F a1)
  constructor
  · intro h
    rw [← h] at b2
    exact he.trans _ _ _ hi m1 hj a2 (he.symm _ _ hj m1 b2)
  · intro h
    exact zmA he (zal he N (Nat.le_refl _)) hF hj a1 b1 (he.trans _ _ _ hj hi m1 (he.symm _ _ hi hj h) a2) b2
def z1M (d : DFA) (m n : Nat) (S : List Nat) (i j : Nat) : Bool := z5w d m n S i j && z5w d m n S j i
theorem z7o {d : DFA} {m n : Nat} (hd : DfaOk d m n) {S : List Nat} (hS : SetsP d m n S) : EqvN S.length (z1M d m n S) where
  refl i hi := by
    have := (z3F hd hS hi (i := i)).2 (zon d m _)
    simp [z1M, this]
  symm i j hi hj h := by
    simp only [z1M, Bool.and_eq_true] at h ⊢
    exact ⟨h.2, h.1⟩
  trans i j k hi hj hk h1 h2 := by
    simp only [z1M, Bool.and_eq_true] at h1 h2 ⊢
    exact ⟨(z3F hd hS hk).2 (zf7 hd ((z3F hd hS hj).1 h1.1) ((z3F hd hS hk).1 h2.1)), (z3F hd hS hi).2 (zf7 hd ((z3F hd hS hj).1 h2.2) ((z3F hd hS hi).1 h1.2))⟩
theorem zoo {d : DFA} {m n : Nat} {S : List Nat} {i : Nat} (hi : i < S.length) : atI (zuY d m n S) (i : Int) = some ((List.range S.length).map (z5w d m n S i)) := z2H hi
def ztX (d : DFA) (m n : Nat) (S : List Nat) : List Int := (List.range S.length).map fun i => ((z5P (z1M d m n S) S.length i : Nat) : Int)
def z6F (d : DFA) (m n : Nat) (S : List Nat) : List Nat := z0O (z1M d m n S) S.length
theorem zr3 {d : DFA} {m n : Nat} (hd : DfaOk d m n) (hn : n ≤ 12) {S : List Nat} (hS : SetsP d m n S) : z1R (dgm d m n S) = some (ztX d m n S, toI (z6F d m n S)) := by
  have h12 := zhK hn
  have hSl := z1E hS.nd hS.lt
  have he := z7o hd hS
  unfold z1R
  have ed : (dgm d m n S).sets = toI S := rfl
  have eb : (dgm d m n S).below = zuY d m n S := rfl
  rw [ed, z0l, z0w _ (by unfold z1L; omega), Int.toNat_natCast]
  have f1 : List.replicate S.length (0 : Int) = z1S S.length (fun i => ((z5P (z1M d m n S) S.length i : Nat) : Int)) 0 0 := (zan _ _ _).symm
  rw [f1]
  refine z1a (s := ((0 : Int), z1S S.length (fun i => ((z5P (z1M d m n S) S.length i : Nat) : Int)) 0 0, ([] : List Int))) S.length (fun k => ((k : Int), z1S S.length (fun i => ((z5P (z1M d m n S) S.length i : Nat) : Int)) 0 k, toI (z0O (z1M d m n S) k))) rfl (by simp only [LFm]; omega) (fun i hi => ?_) ?_
  · have hF := z7k (z1M d m n S) i
    have hFl := zco (z1M d m n S) i
    have hap := zal he i (by omega)
    have hcl := zvt he hi
    simp only [z1X]
    rw [ed, if_pos (by rw [z0l]; omega), z7m hi, Option.bind_some, z0l, Int.toNat_natCast]
    generalize hL : z1S S.length (fun i => ((z5P (z1M d m n S) S.length i : Nat) : Int)) 0 i = L at *
    have hLl : L.length = S.length := by rw [← hL, zcF]
    have hstep : ∀ c, c < (z0O (z1M d m n S) i).length → (z1M d m n S i ((z0O (z1M d m n S) i).getD c 0) = true ↔ (z0O (z1M d m n S) i).findIdx (z1M d m n S i) = c) := fun c hc => by
      constructor
      · intro h
        have hex : (z0O (z1M d m n S) i).findIdx (z1M d m n S i) < (z0O (z1M d m n S) i).length := List.findIdx_lt_length_of_exists ⟨_, z0F hc, h⟩
        have hp : z1M d m n S i ((z0O (z1M d m n S) i).getD ((z0O (z1M d m n S) i).findIdx (z1M d m n S i)) 0) = true := by
          rw [List.getD, List.getElem?_eq_getElem hex, Option.getD_some]
          exact List.findIdx_getElem (w := hex)
        exact zmA he hap (fun f hf => by have := hFl f hf; omega) hi hex hc hp h
      · intro h
        have hex : (z0O (z1M d m n S) i).findIdx (z1M d m n S i) < (z0O (z1M d m n S) i).length := by omega
        have hp : z1M d m n S i ((z0O (z1M d m n S) i)[(z0O (z1M d m n S) i).findIdx (z1M d m n S i)]) = true := List.findIdx_getElem (w := hex)
        rw [← h, List.getD, List.getElem?_eq_getElem hex, Option.getD_some]
        exact hp
    refine z1a (s := ((0 : Int), L.set i (((z0O (z1M d m n S) i).length : Nat) : Int))) (z0O (z1M d m n S) i).length (fun c => ((c : Int), L.set i (((if (z0O (z1M d m n S) i).findIdx (z1M d m n S i) < c then (z0O (z1M d m n S) i).findIdx (z1M d m n S i) else (z0O (z1M d m n S) i).length : Nat)) : Int))) (by simp) (by simp only [LFm]; omega) (fun c hc => ?_) ?_
    · have hf := hFl _ (z0F hc)
      simp only [z1W]
      rw [eb, if_pos (by rw [z0l]; omega), z2C hc, Option.bind_some, zoo hi, Option.bind_some, z2H (by omega), Option.bind_some, z1O (by omega)]
      by_cases h1 : z5w d m n S i ((z0O (z1M d m n S) i).getD c 0) = true
      · rw [if_pos h1, zoo (by omega), Option.bind_some, z2H hi, Option.bind_some]
        by_cases h2 : z5w d m n S ((z0O (z1M d m n S) i).getD c 0) i = true
        · have := (hstep c hc).1 ((Bool.and_eq_true _ _).mpr ⟨h1, h2⟩)
          rw [if_pos h2, znx (by omega), Option.bind_some, Int.toNat_natCast, zma, this, if_pos (by omega)]
        · have : ¬ (z0O (z1M d m n S) i).findIdx (z1M d m n S i) = c := fun h => by
            have := (hstep c hc).2 h
            simp only [z1M, Bool.and_eq_true] at this
            exact h2 this.2
          rw [if_neg h2]
          congr 3
          by_cases h3 : (z0O (z1M d m n S) i).findIdx (z1M d m n S i) < c
          · rw [if_pos h3, if_pos (by omega)]
          · rw [if_neg h3, if_neg (by omega)]
      · have : ¬ (z0O (z1M d m n S) i).findIdx (z1M d m n S i) = c := fun h => by
          have := (hstep c hc).2 h
          simp only [z1M, Bool.and_eq_true] at this
          exact h1 this.1
        rw [if_neg h1]
        congr 3
        by_cases h3 : (z0O (z1M d m n S) i).findIdx (z1M d m n S i) < c
        · rw [if_pos h3, if_pos (by omega)]
        · rw [if_neg h3, if_neg (by omega)]
    · have hle : (z0O (z1M d m n S) i).findIdx (z1M d m n S i) ≤ (z0O (z1M d m n S) i).length := List.findIdx_le_length
      have hv : (if (z0O (z1M d m n S) i).findIdx (z1M d m n S i) < (z0O (z1M d m n S) i).length then (z0O (z1M d m n S) i).findIdx (z1M d m n S i) else (z0O (z1M d m n S) i).length) = (z0O (z1M d m n S) i).findIdx (z1M d m n S i) := by split <;> omega
      have hset : L.set i ((z5P (z1M d m n S) S.length i : Nat) : Int) = z1S S.length (fun i => ((z5P (z1M d m n S) S.length i : Nat) : Int)) 0 (i + 1) := by
        rw [← hL]; exact z5c (f := fun i => ((z5P (z1M d m n S) S.length i : Nat) : Int)) (z := 0) hi
      simp only [z1W]
      rw [if_neg (by rw [z0l]; omega), hv, znx (by omega), Option.bind_some, hcl, hset, z1O (by omega), z0l, z0O]
      by_cases h : (z0O (z1M d m n S) i).any (z1M d m n S i) = true
      · obtain ⟨x, hx, hpx⟩ := List.any_eq_true.1 h
        have := List.findIdx_lt_length_of_exists ⟨x, hx, hpx⟩
        rw [if_pos h, if_neg (by omega)]
      · have e2 : (z0O (z1M d m n S) i).findIdx (z1M d m n S i) = (z0O (z1M d m n S) i).length := List.findIdx_eq_length.2 fun x hx => by
          cases hh : z1M d m n S i x with
          | false => rfl
          | true => exact absurd (List.any_eq_true.2 ⟨x, hx, hh⟩) h
        rw [if_neg h, if_pos (by omega), z0w _ (by unfold z2Q; omega), z4R]
  · simp only [z1X]
    rw [ed, if_neg (by rw [z0l]; omega), zam]
    rfl
end Go.Proofs.Ytodliknibbafeaa
end
section
namespace Go.Proofs.Ytodliknibbafeaa
open Go
set_option maxRecDepth 100000
def z6c (g : Nat → Nat) : Nat → Nat
  | 0 => 0
  | k + 1 => max (z6c g k) (g k)
theorem zeG {g : Nat → Nat} {k b : Nat} (h : ∀ j, j < k → g j ≤ b) : z6c g k ≤ b := by
  induction k with
  | zero => simp [z6c]
  | succ k ih =>
    have := ih fun j hj => h j (by omega)
    have := h k (by omega)
    simp only [z6c]; omega
theorem zmm {g g' : Nat → Nat} {k : Nat} (h : ∀ j, j < k → g j = g' j) : z6c g k = z6c g' k := by
  induction k with
  | zero => rfl
  | succ k ih => simp only [z6c]; rw [ih fun j hj => h j (by omega), h k (by omega)]
def z3L (p : Nat → Bool) : Nat → Nat
  | 0 => 0
  | k + 1 => z3L p k + (if p k = true then 1 else 0)
theorem zts (p : Nat → Bool) (k : Nat) : z3L p k ≤ k := by
  induction k with
  | zero => simp [z3L]
  | succ k ih => simp only [z3L]; split <;> omega
theorem zoh {p q : Nat → Bool} {k : Nat} (h : ∀ j, j < k → p j = true → q j = true) : z3L p k ≤ z3L q k := by
  induction k with
  | zero => simp [z3L]
  | succ k ih =>
    have := ih fun j hj => h j (by omega)
    have := h k (by omega)
    simp only [z3L]
    by_cases h1 : p k = true
    · rw [if_pos h1, if_pos (this h1)]; omega
    · rw [if_neg h1]; split <;> omega
theorem zkW {p q : Nat → Bool} {k i : Nat} (h : ∀ j, j < k → p j = true → q j = true) (hi : i < k) (hp : p i = false) (hq : q i = true) : z3L p k < z3L q k := by
  induction k with
  | zero => omega
  | succ k ih =>
    simp only [z3L]
    by_cases e : i = k
    · subst e
      have := zoh (p := p) (q := q) (k := i) fun j hj => h j (by omega)
      rw [hp, hq]; simp; omega
    · have h1 := ih (fun j hj => h j (by omega)) (by omega)
      have := h k (by omega)
      by_cases h2 : p k = true
      · rw [if_pos h2, if_pos (this h2)]; omega
      · rw [if_neg h2]; split <;> omega
structure BelN (N : Nat) (b : Nat → Nat → Bool) : Prop where
  refl : ∀ i, i < N → b i i = true
  trans : ∀ i j k, i < N → j < N → k < N → b i j = true → b j k = true → b i k = true
def zhT (N : Nat) (b : Nat → Nat → Bool) (i : Nat) : Nat := z3L (fun j => b j i) N
def sbN (b : Nat → Nat → Bool) (j i : Nat) : Bool := b j i && !b i j
theorem zsW {N : Nat} {b : Nat → Nat → Bool} (hb : BelN N b) {i j : Nat} (hi : i < N) (hj : j < N) (h : sbN b j i = true) : zhT N b j < zhT N b i := by
  simp only [sbN, Bool.and_eq_true, Bool.not_eq_true'] at h
  exact zkW (fun k hk hkj => hb.trans k j i hk hj hi hkj h.1) hi h.2 (hb.refl i hi)
def zB5 (N : Nat) (b : Nat → Nat → Bool) (z : Nat → Bool) (h : Nat → Nat) : Prop := ∀ i, i < N → h i = if z i = true then 0 else z6c (fun j => if sbN b j i = true then h j + 1 else 0) N
def zxL (N : Nat) (b : Nat → Nat → Bool) (z : Nat → Bool) : Nat → Nat → Nat
  | 0, _ => 0
  | f + 1, i => if z i = true then 0 else z6c (fun j => if sbN b j i = true then zxL N b z f j + 1 else 0) N
def zwO (N : Nat) (b : Nat → Nat → Bool) (z : Nat → Bool) (i : Nat) : Nat := zxL N b z N i
theorem zho {N : Nat} {b : Nat → Nat → Bool} (hb : BelN N b) (z : Nat → Bool) : ∀ f i, i < N → zhT N b i ≤ f → ∀ g, zhT N b i ≤ g → zxL N b z f i = zxL N b z g i
  | 0, i, hi, hl, g, hg => by
    exfalso
    have := zkW (p := fun _ => false) (q := fun j => b j i) (k := N) (i := i) (fun j _ hf => by simp at hf) hi rfl (hb.refl i hi)
    unfold zhT at hl; omega
  | f + 1, i, hi, hl, 0, hg => by
    exfalso
    have := zkW (p := fun _ => false) (q := fun j => b j i) (k := N) (i := i) (fun j _ hf => by simp at hf) hi rfl (hb.refl i hi)
    unfold zhT at hg; omega
  | f + 1, i, hi, hl, g + 1, hg => by
    simp only [zxL]
    split
    · rfl
    · refine zmm fun j hj => ?_
      by_cases hs : sbN b j i = true
      · have := zsW hb hi hj hs
        rw [if_pos hs, if_pos hs, zho hb z f j hj (by omega) g (by omega)]
      · rw [if_neg hs, if_neg hs]
theorem zvl {N : Nat} {b : Nat → Nat → Bool} (hb : BelN N b) (z : Nat → Bool) : zB5 N b z (zwO N b z) := fun i hi => by
  have hl : zhT N b i ≤ N := zts _ _
  unfold zwO
  rw [zho hb z N i hi hl (N + 1) (by omega)]
  rfl
theorem zvm {N : Nat} {b : Nat → Nat → Bool} (hb : BelN N b) (z : Nat → Bool) {i : Nat} (hi : i < N) : zwO N b z i ≤ N := by
  have : ∀ L i, i < N → zhT N b i ≤ L → zwO N b z i ≤ L := by
    intro L
    induction L with
    | zero =>
      intro i hi hl
      exfalso
      have := zkW (p := fun _ => false) (q := fun j => b j i) (k := N) (i := i) (fun j _ hf => by simp at hf) hi rfl (hb.refl i hi)
      unfold zhT at hl; omega
    | succ L ih =>
      intro i hi hl
      rw [zvl hb z i hi]
      split
      · omega
      · refine zeG fun j hj => ?_
        by_cases hs : sbN b j i = true
        · have := zsW hb hi hj hs
          have := ih j hj (by omega)
          rw [if_pos hs]; omega
        · rw [if_neg hs]; omega
  exact this N i hi (zts _ _)
theorem zvx {d : DFA} {m n : Nat} (hd : DfaOk d m n) {S : List Nat} (hS : SetsP d m n S) : BelN S.length (z5w d m n S) where
  refl i hi := (z3F hd hS hi).2 (zon d m _)
  trans i j k hi hj hk h1 h2 := (z3F hd hS hk).2 (zf7 hd ((z3F hd hS hj).1 h1) ((z3F hd hS hk).1 h2))
theorem zsc {s : Nat} (h : s < 128) : z4t (s : Int) = some ((szN s : Nat) : Int) := by
  unfold z4t z3i
  rw [zyt (by omega)]
  have : z1Y (s : Int) = some ((szN s : Nat) : Int) := by
    unfold z1Y
    rw [z0w _ (by omega), z0w _ (by omega), z0w _ (by omega), z0w _ (by omega), z0w _ (by omega), z0w _ (by omega)]
    congr 1
    revert s
    decide +kernel
  rw [this]; rfl
def zwS (S : List Nat) (i : Nat) : Bool := decide (szN (S.getD i 0) = 1)
def z8u (d : DFA) (m n : Nat) (S : List Nat) (i : Nat) : Nat := zwO S.length (z5w d m n S) (zwS S) i
def zyX (d : DFA) (m n : Nat) (S : List Nat) : List Int := (List.range S.length).map fun i => ((z8u d m n S i : Nat) : Int)
theorem zrU (N : Nat) : toI (List.range N) = (List.range N).map fun i => ((i : Nat) : Int) := rfl
theorem zqA {d : DFA} {m n : Nat} {S : List Nat} (hl : S.length < 4611686018427387904) {i : Nat} (hi : i < S.length) (C O : List Int) (L : List Int) (hL : L.length = S.length) (h0 : L.getD i 0 = 0) :
    z0u (z1x (dgm d m n S) (i : Int) O) LFm (0, L) = z0n (((i + 1 : Nat) : Int), L.set i ((zhT S.length (z5w d m n S) i : Nat) : Int), O.set i (i : Int)) := by
  refine z1a (s := ((0 : Int), L)) S.length (fun k => ((k : Int), L.set i ((z3L (fun j => z5w d m n S j i) k : Nat) : Int))) ?_ (by simp only [LFm]; omega) (fun k hk => ?_) ?_
  · refine Prod.ext rfl ?_
    show L = L.set i 0
    apply List.ext_getElem (by simp)
    intro j h1 h2
    rw [List.getElem_set]
    by_cases e : i = j
    · subst e
      rw [if_pos rfl]
      rw [List.getD, List.getElem?_eq_getElem h1, Option.getD_some] at h0
      exact h0
    · rw [if_neg e]
  · have hc := zts (fun j => z5w d m n S j i) k
    have ed : (dgm d m n S).sets = toI S := rfl
    have eb : (dgm d m n S).below = zuY d m n S := rfl
    simp only [z1x]
    rw [ed, eb, if_pos (by rw [z0l]; omega), zoo hk, Option.bind_some, z2H hi, Option.bind_some, z1O (by omega)]
    simp only [z3L]
    by_cases h : z5w d m n S k i = true
    · rw [if_pos h, if_pos h, znx (by omega), Option.bind_some, Int.toNat_natCast, zma, z1O (by omega)]
    · rw [if_neg h, if_neg h]; rfl
  · have ed : (dgm d m n S).sets = toI S := rfl
    simp only [z1x]
    rw [ed, if_neg (by rw [z0l]; omega), z1O (by omega), Int.toNat_natCast]
    rfl
theorem zt6 {d : DFA} {m n : Nat} (hd : DfaOk d m n) {S : List Nat} (hS : SetsP d m n S) (hl : S.length < 100000) (k : Int) {i : Nat} (hi : i < S.length) {H : Nat → Nat} (h0 : H i = 0) (hlow : ∀ j, j < S.length → sbN (z5w d m n S) j i = true → H j = z8u d m n S j) :
    z0u (z1s (dgm d m n S) (ztX d m n S) k (i : Int)) LFm (0, (List.range S.length).map fun j => ((H j : Nat) : Int)) = z0n (IntKind.i64.wrap (k + 1), (List.range S.length).map fun j => (((if j = i then z6c (fun j => if sbN (z5w d m n S) j i = true then z8u d m n S j + 1 else 0) S.length else H j) : Nat) : Int)) := by
  have he := z7o hd hS
  have hb := zvx hd hS
  have ed : (dgm d m n S).sets = toI S := rfl
  have eb : (dgm d m n S).below = zuY d m n S := rfl
  refine z1a (s := ((0 : Int), (List.range S.length).map fun j => ((H j : Nat) : Int))) S.length (fun q => ((q : Int), (List.range S.length).map fun j => (((if j = i then z6c (fun j => if sbN (z5w d m n S) j i = true then z8u d m n S j + 1 else 0) q else H j) : Nat) : Int))) ?_ (by simp only [LFm]; omega) (fun q hq => ?_) ?_
  · refine Prod.ext rfl ?_
    refine List.map_congr_left fun j hj => ?_
    by_cases e : j = i
    · subst e; simp [z6c, h0]
    · rw [if_neg e]
  · have hle := zvm hb (zwS S) hq
    have hmx : z6c (fun j => if sbN (z5w d m n S) j i = true then z8u d m n S j + 1 else 0) q ≤ S.length + 1 := zeG fun j hj => by
      have := zvm hb (zwS S) (i := j) (by omega)
      unfold z8u; split <;> omega
    have hse : z5w d m n S q i = true → (sbN (z5w d m n S) q i = true ↔ ¬ z5P (z1M d m n S) S.length q = z5P (z1M d m n S) S.length i) := fun h => by
      rw [zwx he hq hi]
      simp only [sbN, z1M, h, Bool.true_and, Bool.not_eq_true', Bool.not_eq_true]
    have hfin : ∀ v : Nat, v = (if sbN (z5w d m n S) q i = true then max (z6c (fun j => if sbN (z5w d m n S) j i = true then z8u d m n S j + 1 else 0) q) (z8u d m n S q + 1) else z6c (fun j => if sbN (z5w d m n S) j i = true then z8u d m n S j + 1 else 0) q) → ((List.range S.length).map fun j => (((if j = i then v else H j) : Nat) : Int)) = (List.range S.length).map fun j => (((if j = i then z6c (fun j => if sbN (z5w d m n S) j i = true then z8u d m n S j + 1 else 0) (q + 1) else H j) : Nat) : Int) := fun v hv => by
      refine List.map_congr_left fun j hj => ?_
      by_cases e : j = i
      · rw [if_pos e, if_pos e, hv]
        simp only [z6c]
        by_cases h : sbN (z5w d m n S) q i = true
        · rw [if_pos h, if_pos h]
        · rw [if_neg h, if_neg h]; congr 1; omega
      · rw [if_neg e, if_neg e]
    simp only [z1s]
    rw [ed, eb, if_pos (by rw [z0l]; omega), zoo hq, Option.bind_some, z2H hi, Option.bind_some, z1O (by omega)]
    by_cases h : z5w d m n S q i = true
    · rw [if_pos h, ztX, z2H hq, Option.bind_some, z2H hi, Option.bind_some]
      by_cases hc : z5P (z1M d m n S) S.length q = z5P (z1M d m n S) S.length i
      · have hs : ¬ sbN (z5w d m n S) q i = true := fun hh => (hse h).1 hh hc
        rw [if_pos (by rw [hc]), hfin _ (by rw [if_neg hs])]
      · have hs := (hse h).2 hc
        have hqi : q ≠ i := fun e => by subst e; exact hc rfl
        rw [if_neg (by omega), z2H hi, Option.bind_some, z2H hq, Option.bind_some, if_pos rfl, if_neg hqi, hlow q hq hs, z1O (by unfold z8u; omega), Int.toNat_natCast]
        have hset : ∀ v : Nat, ((List.range S.length).map fun j => (((if j = i then z6c (fun j => if sbN (z5w d m n S) j i = true then z8u d m n S j + 1 else 0) q else H j) : Nat) : Int)).set i (v : Int) = (List.range S.length).map fun j => (((if j = i then v else H j) : Nat) : Int) := fun v => by
          apply List.ext_getElem (by simp)
          intro j h1 h2
          simp only [List.getElem_set, List.getElem_map, List.getElem_range]
          by_cases e : i = j
          · subst e; rw [if_pos rfl, if_pos rfl]
          · rw [if_neg e, if_neg (fun hh => e hh.symm), if_neg (fun hh => e hh.symm)]
        by_cases hlt : ((z6c (fun j => if sbN (z5w d m n S) j i = true then z8u d m n S j + 1 else 0) q : Nat) : Int) < ((z8u d m n S q + 1 : Nat) : Int)
        · rw [if_pos hlt, hset, hfin _ (by rw [if_pos hs]; omega)]
        · rw [if_neg hlt, hset, hfin _ (by rw [if_pos hs]; omega)]
    · have hs : ¬ sbN (z5w d m n S) q i = true := fun hh => by simp only [sbN, Bool.and_eq_true] at hh; exact h hh.1
      rw [if_neg h, hfin _ (by rw [if_neg hs])]
  · simp only [z1s]
    rw [ed, if_neg (by rw [z0l]; omega)]
theorem zqP {d : DFA} {m n : Nat} (hd : DfaOk d m n) (hn : n ≤ 7) {S : List Nat} (hS : SetsP d m n S) : z1Q (dgm d m n S) (ztX d m n S) = some (zyX d m n S) := by
  have h128 : 2 ^ n ≤ 128 := Nat.pow_le_pow_right (n := 2) (by omega) hn
  have hSl := z1E hS.nd hS.lt
  have hb := zvx hd hS
  have he := z7o hd hS
  have ed : (dgm d m n S).sets = toI S := rfl
  unfold z1Q
  rw [ed, z0l, z0w _ (by unfold z1L; omega), Int.toNat_natCast]
  have f1 : List.replicate S.length (0 : Int) = z1S S.length (fun i => ((zhT S.length (z5w d m n S) i : Nat) : Int)) 0 0 := (zan _ _ _).symm
  have f2 : (List.replicate S.length (0 : Int)) = z1S S.length (fun i => ((i : Nat) : Int)) 0 0 := (zan _ _ _).symm
  conv => lhs; arg 3; rw [show ((0 : Int), List.replicate S.length (0 : Int), List.replicate S.length (0 : Int)) = ((0 : Int), z1S S.length (fun i => ((zhT S.length (z5w d m n S) i : Nat) : Int)) 0 0, z1S S.length (fun i => ((i : Nat) : Int)) 0 0) by rw [← f1, ← f2]]
  refine z1a (s := ((0 : Int), z1S S.length (fun i => ((zhT S.length (z5w d m n S) i : Nat) : Int)) 0 0, z1S S.length (fun i => ((i : Nat) : Int)) 0 0)) S.length (fun k => ((k : Int), z1S S.length (fun i => ((zhT S.length (z5w d m n S) i : Nat) : Int)) 0 k, z1S S.length (fun i => ((i : Nat) : Int)) 0 k)) rfl (by simp only [LFm]; omega) (fun i hi => ?_) ?_
  · simp only [z1V]
    rw [ed, if_pos (by rw [z0l]; omega), z7m hi, Option.bind_some, zqA (by omega) hi [] _ _ (zcF _ _ _ _) (by simp [z1S, List.getD, hi])]
    have e1 := z5c (f := fun i => ((zhT S.length (z5w d m n S) i : Nat) : Int)) (z := 0) hi
    have e2 := z5c (f := fun i => ((i : Nat) : Int)) (z := 0) hi
    rw [e1, e2]
  · simp only [z1V]
    rw [ed, if_neg (by rw [z0l]; omega), zam, zam]
    have hK : ((List.range S.length).map fun i => ((zhT S.length (z5w d m n S) i : Nat) : Int)).length = S.length := by simp
    have hv : zBx ((List.range S.length).map fun i => ((zhT S.length (z5w d m n S) i : Nat) : Int)) (toI (List.range S.length)) := fun x hx => by
      simp only [toI, List.mem_map, List.mem_range] at hx
      obtain ⟨i, hi, rfl⟩ := hx
      exact ⟨by omega, by rw [hK]; omega⟩
    obtain ⟨O, hO, hs, hp⟩ := zs8 hv (by rw [z0l, List.length_range]; omega)
    rw [← zrU, hO, Option.bind_some, z0l, z0w _ (by unfold z1L; omega), Int.toNat_natCast]
    have hOl : O.length = S.length := by rw [hp.length_eq, z0l, List.length_range]
    have hOn : O.Nodup := hp.nodup_iff.2 (by
      unfold toI
      exact List.Pairwise.map _ (fun a b h e => h (by omega)) List.nodup_range)
    have hmem : ∀ x, x ∈ O ↔ ∃ i, i < S.length ∧ x = (i : Int) := fun x => by
      rw [hp.mem_iff]; simp only [toI, List.mem_map, List.mem_range]
      constructor
      · rintro ⟨i, hi, rfl⟩; exact ⟨i, hi, rfl⟩
      · rintro ⟨i, hi, rfl⟩; exact ⟨i, hi, rfl⟩
    have hkv : ∀ i, i < S.length → kv ((List.range S.length).map fun i => ((zhT S.length (z5w d m n S) i : Nat) : Int)) (i : Int) = ((zhT S.length (z5w d m n S) i : Nat) : Int) := fun i hi => by
      simp [kv, List.getD, hi]
    congr 1
    have f3 : List.replicate S.length (0 : Int) = (List.range S.length).map fun (j : Nat) => (((if (j : Int) ∈ O.take 0 then z8u d m n S j else 0) : Nat) : Int) := by
      apply List.ext_getElem (by simp); intro i h1 h2; simp
    rw [f3]
    refine z1a (s := ((0 : Int), (List.range S.length).map fun (j : Nat) => (((if (j : Int) ∈ O.take 0 then z8u d m n S j else 0) : Nat) : Int))) S.length (fun k => ((k : Int), (List.range S.length).map fun (j : Nat) => (((if (j : Int) ∈ O.take k then z8u d m n S j else 0) : Nat) : Int))) rfl (by simp only [LFm]; omega) (fun k hk => ?_) ?_
    · have hkO : k < O.length := by omega
      obtain ⟨i, hi, hOk⟩ := (hmem O[k]).1 (List.getElem_mem hkO)
      have hnot : (i : Int) ∉ O.take k := fun h => by
        obtain ⟨j, hj, hji⟩ := List.getElem_of_mem h
        rw [List.length_take] at hj
        rw [List.getElem_take, ← hOk] at hji
        have := (List.getElem_inj hOn).1 hji
        omega
      have htake : ∀ j : Nat, (j : Int) ∈ O.take (k + 1) ↔ (j = i ∨ (j : Int) ∈ O.take k) := fun j => by
        rw [List.take_succ_eq_append_getElem hkO, List.mem_append, List.mem_singleton, hOk]
        constructor
        · rintro (h | h)
          · exact .inr h
          · exact .inl (by omega)
        · rintro (h | h)
          · exact .inr (by omega)
          · exact .inl h
      have hupd : ((List.range S.length).map fun (j : Nat) => (((if j = i then z8u d m n S i else if (j : Int) ∈ O.take k then z8u d m n S j else 0) : Nat) : Int)) = (List.range S.length).map fun (j : Nat) => (((if (j : Int) ∈ O.take (k + 1) then z8u d m n S j else 0) : Nat) : Int) := by
        refine List.map_congr_left fun j hj => ?_
        by_cases e : j = i
        · subst e; rw [if_pos rfl, if_pos ((htake j).2 (.inl rfl))]
        · rw [if_neg e]
          by_cases h : (j : Int) ∈ O.take k
          · rw [if_pos h, if_pos ((htake j).2 (.inr h))]
          · rw [if_neg h, if_neg (fun hh => ((htake j).1 hh).elim e h)]
      have hlt128 : S.getD i 0 < 2 ^ n := hS.lt _ (z0F hi)
      simp only [z1N]
      rw [if_pos (by omega), z2y hkO, Option.bind_some, hOk, ed, z2C hi, Option.bind_some, zsc (by omega), Option.bind_some]
      have hok := zvl hb (zwS S) i hi
      by_cases hz : szN (S.getD i 0) = 1
      · rw [if_pos (by omega), z1O (by omega)]
        have hh : z8u d m n S i = 0 := by
          unfold z8u; rw [hok, if_pos (by simp only [zwS, hz, decide_true])]
        refine congrArg z0n (Prod.ext rfl ?_)
        refine List.map_congr_left fun j hj => ?_
        by_cases e : j = i
        · subst e; rw [if_neg hnot, if_pos ((htake j).2 (.inl rfl)), hh]
        · by_cases h : (j : Int) ∈ O.take k
          · rw [if_pos h, if_pos ((htake j).2 (.inr h))]
          · rw [if_neg h, if_neg (fun hh => ((htake j).1 hh).elim e h)]
      · rw [if_neg (by omega), zt6 hd hS (by omega) (k : Int) hi (H := fun (j : Nat) => if (j : Int) ∈ O.take k then z8u d m n S j else 0) (if_neg hnot) (fun j hj hsb => ?_), z1O (by omega)]
        · have hh : z6c (fun j => if sbN (z5w d m n S) j i = true then z8u d m n S j + 1 else 0) S.length = z8u d m n S i := by
            have : z8u d m n S i = _ := hok
            rw [this, if_neg (by simp only [zwS, hz, decide_false]; simp)]; rfl
          rw [hh, hupd]
        · have hl := zsW hb hi hj hsb
          have hjO : (j : Int) ∈ O := (hmem _).2 ⟨j, hj, rfl⟩
          obtain ⟨p, hpO, hpj⟩ := List.getElem_of_mem hjO
          refine if_pos ?_
          rcases Nat.lt_trichotomy p k with h | h | h
          · rw [← hpj]
            exact List.mem_take_iff_getElem.2 ⟨p, by omega, rfl⟩
          · subst h
            rw [hOk] at hpj
            have : i = j := by omega
            subst this; omega
          · have := List.pairwise_iff_getElem.1 hs k p hkO hpO h
            rw [hOk, hpj, hkv i hi, hkv j hj] at this
            omega
    · simp only [z1N]
      rw [if_neg (by omega)]
      congr 2
      unfold zyX
      refine List.map_congr_left fun j hj => ?_
      rw [List.take_of_length_le (by omega), if_pos ((hmem _).2 ⟨j, List.mem_range.1 hj, rfl⟩)]
end Go.Proofs.Ytodliknibbafeaa
end
section
namespace Go.Proofs.Ytodliknibbafeaa
open Go
set_option maxRecDepth 100000
def zuG (S : List Nat) (i j : Nat) : Bool := !decide (j = i) && decide (S.getD j 0 &&& S.getD i 0 = S.getD j 0)
def z8o (S : List Nat) (i : Nat) : List Nat := (List.range S.length).filter (zuG S i)
def zrb (S : List Nat) (i j : Nat) : Bool := (z8o S i).all fun k => decide (k = j) || !decide (S.getD j 0 &&& S.getD k 0 = S.getD j 0)
def zcr (S : List Nat) (i : Nat) : List Nat := if szN (S.getD i 0) = 1 then [] else (z8o S i).filter (zrb S i)
theorem zf1 {α : Type} {p : α → Bool} {l : List α} {k : Nat} (h : k < l.length) : (l.take (k + 1)).filter p = (l.take k).filter p ++ (if p l[k] = true then [l[k]] else []) := by
  rw [List.take_succ_eq_append_getElem h, List.filter_append, List.filter_cons, List.filter_nil]
theorem zkL {S : List Nat} {i j : Nat} (h : j ∈ z8o S i) : j < S.length := List.mem_range.1 (List.mem_filter.1 h).1
theorem zc8 {α : Type} (p : α → Bool) (l : List α) : (l.filter p).length ≤ l.length := List.length_filter_le p l
theorem zu4 {d : DFA} {m n : Nat} (hn : n ≤ 7) {S : List Nat} (hS : SetsP d m n S) {i : Nat} (hi : i < S.length) : z2j (dgm d m n S) (i : Int) = some (toI (zcr S i)) := by
  have h128 : 2 ^ n ≤ 128 := Nat.pow_le_pow_right (n := 2) (by omega) hn
  have hSl := z1E hS.nd hS.lt
  have ed : (dgm d m n S).sets = toI S := rfl
  have lt62 : ∀ j, j < S.length → S.getD j 0 < 2 ^ 62 := fun j hj => by have := hS.lt _ (z0F hj); omega
  have hil := hS.lt _ (z0F hi)
  unfold z2j zcr
  rw [ed, z2C hi, Option.bind_some, zsc (by omega), Option.bind_some]
  by_cases hz : szN (S.getD i 0) = 1
  · rw [if_pos (by omega), if_pos hz]; rfl
  rw [if_neg (by omega), if_neg hz]
  have hrl : (List.range S.length).length = S.length := List.length_range
  refine z1a (s := ((0 : Int), ([] : List Int))) S.length (fun j => ((j : Int), toI (((List.range S.length).take j).filter (zuG S i)))) rfl (by simp only [LFm]; omega) (fun j hj => ?_) ?_
  · have hfl : (((List.range S.length).take j).filter (zuG S i)).length ≤ j := Nat.le_trans (zc8 _ _) (by rw [List.length_take]; omega)
    have hst := zf1 (p := zuG S i) (l := List.range S.length) (k := j) (by omega)
    rw [List.getElem_range] at hst
    simp only [z2m]
    rw [ed, if_pos (by rw [z0l]; omega), z2C hj, Option.bind_some, z1O (by omega), hst]
    by_cases e : j = i
    · have : zuG S i j = false := by unfold zuG; rw [decide_eq_true e]; rfl
      rw [if_pos (by omega), this, if_neg (by simp), List.append_nil]
    · rw [if_neg (by omega), z2C hi, Option.bind_some, z9g (lt62 i hi) (lt62 j hj), Option.bind_some]
      have : zuG S i j = decide (S.getD j 0 &&& S.getD i 0 = S.getD j 0) := by unfold zuG; rw [decide_eq_false e]; rfl
      rw [this]
      by_cases h : decide (S.getD j 0 &&& S.getD i 0 = S.getD j 0) = true
      · rw [if_pos h, if_pos h, z0w _ (by unfold z2Q; rw [z0l]; omega), z4R]
      · rw [if_neg h, if_neg h, List.append_nil]
  · simp only [z2m]
    rw [ed, if_neg (by rw [z0l]; omega), List.take_of_length_le (by omega)]
    congr 1
    have hil : (z8o S i).length ≤ S.length := Nat.le_trans (zc8 _ _) (by omega)
    show z0u (z1F (dgm d m n S) (toI (z8o S i))) LFm (0, []) = _
    refine z1a (s := ((0 : Int), ([] : List Int))) (z8o S i).length (fun q => ((q : Int), toI (((z8o S i).take q).filter (zrb S i)))) rfl (by simp only [LFm]; omega) (fun q hq => ?_) ?_
    · have hfl : (((z8o S i).take q).filter (zrb S i)).length ≤ q := Nat.le_trans (zc8 _ _) (by rw [List.length_take]; omega)
      have hst := zf1 (p := zrb S i) (l := z8o S i) (k := q) hq
      have hg : (z8o S i).getD q 0 = (z8o S i)[q] := by rw [List.getD, List.getElem?_eq_getElem hq, Option.getD_some]
      have hjl : (z8o S i)[q] < S.length := zkL (List.getElem_mem hq)
      simp only [z1F]
      rw [if_pos (by rw [z0l]; omega), z2C hq, Option.bind_some, hg, hst]
      generalize (z8o S i)[q] = j at hjl
      rw [z7d (s := (0 : Int)) (z8o S i).length (fun k => (k : Int)) (fun k => !(decide ((z8o S i).getD k 0 = j) || !decide (S.getD j 0 &&& S.getD ((z8o S i).getD k 0) 0 = S.getD j 0))) (fun _ => z0n (((q + 1 : Nat) : Int), toI (((z8o S i).take q).filter (zrb S i)))) (x := z0n (((q + 1 : Nat) : Int), toI (((z8o S i).take q).filter (zrb S i)) ++ [(j : Int)])) rfl (by simp only [LFm]; omega)]
      · rw [zia]
        simp only [Bool.not_not]
        rw [zko (fun k => decide (k = j) || !decide (S.getD j 0 &&& S.getD k 0 = S.getD j 0))]
        show (if zrb S i j = true then _ else _) = _
        by_cases h : zrb S i j = true
        · rw [if_pos h, if_pos h, z4R]
        · rw [if_neg h, if_neg h, List.append_nil]
      · intro k hk
        have hkl : (z8o S i).getD k 0 < S.length := zkL (z0F hk)
        simp only [z2h]
        rw [if_pos (by rw [z0l]; omega), z2C hk, Option.bind_some]
        by_cases e : (z8o S i).getD k 0 = j
        · rw [if_pos (by omega), decide_eq_true e, z1O (by omega)]; rfl
        · rw [if_neg (by omega), decide_eq_false e, ed, z2C hkl, Option.bind_some, z2C hjl, Option.bind_some, z9g (lt62 _ hkl) (lt62 _ hjl), Option.bind_some, Bool.false_or, Bool.not_not, z1O (by omega), z1O (by omega)]
      · simp only [z2h]
        rw [if_neg (by rw [z0l]; omega), z0w _ (by unfold z2Q; rw [z0l]; omega), z1O (by omega)]
    · simp only [z1F]
      rw [if_neg (by rw [z0l]; omega), List.take_length]
def z5L (d : DFA) (m n : Nat) (S : List Nat) (i : Nat) : Nat := (z6F d m n S).getD (z5P (z1M d m n S) S.length i) 0
def ziv (d : DFA) (m n : Nat) (S : List Nat) (i : Nat) : ByteArray := z5l (z1d d m n (S.getD (z5L d m n S i) 0)) (S.getD i 0)
def ztI (d : DFA) (m n : Nat) (S : List Nat) (i : Nat) : ByteArray := z5l (z1d d m n (S.getD i 0)) (S.getD (z5L d m n S i) 0)
def z3X (d : DFA) (m n : Nat) (S : List Nat) : Imgs := ⟨toI S, ztX d m n S, zyX d m n S, (List.range S.length).map fun i => toI (zcr S i), (List.range S.length).map (ziv d m n S), (List.range S.length).map (ztI d m n S)⟩
theorem zmB {d : DFA} {m n : Nat} {S : List Nat} {c : Nat} (hc : c < (z6F d m n S).length) : (z6F d m n S).getD c 0 < S.length := zco _ _ _ (z0F hc)
theorem zla {d : DFA} {m n : Nat} (hd : DfaOk d m n) {S : List Nat} (hS : SetsP d m n S) (hSl : S.length < 100000) {c : Nat} (hc : c < (z6F d m n S).length) (q : List Int) :
    z0u (z4f (toI S) (ztX d m n S, toI (z6F d m n S)) (c : Int) (q, ziu S (z1d d m n (S.getD ((z6F d m n S).getD c 0) 0)))) LFm (0, (List.range S.length).map fun j => if z5P (z1M d m n S) S.length j < c then ziv d m n S j else ByteArray.empty) =
      z0n (((c + 1 : Nat) : Int), (List.range S.length).map fun j => if z5P (z1M d m n S) S.length j < c + 1 then ziv d m n S j else ByteArray.empty) := by
  have hcl : (z6F d m n S).length ≤ S.length := z7k _ _
  refine z1a (s := ((0 : Int), (List.range S.length).map fun j => if z5P (z1M d m n S) S.length j < c then ziv d m n S j else ByteArray.empty)) S.length (fun k => ((k : Int), (List.range S.length).map fun j => if z5P (z1M d m n S) S.length j < c ∨ (z5P (z1M d m n S) S.length j = c ∧ j < k) then ziv d m n S j else ByteArray.empty)) ?_ (by simp only [LFm]; omega) (fun k hk => ?_) ?_
  · refine Prod.ext rfl (List.map_congr_left fun j hj => ?_)
    simp
  · simp only [z4f]
    rw [if_pos (by rw [z0l]; omega), ztX, z2H hk, Option.bind_some, z1O (by omega)]
    by_cases h : z5P (z1M d m n S) S.length k = c
    · have hw : z5l (z1d d m n (S.getD ((z6F d m n S).getD c 0) 0)) (S.getD k 0) = ziv d m n S k := by unfold ziv z5L; rw [h]
      rw [if_pos (by omega), ziu, z2H hk, Option.bind_some, hw, z2H hk, Option.bind_some, Int.toNat_natCast]
      refine congrArg z0n (Prod.ext rfl ?_)
      apply List.ext_getElem (by simp)
      intro j h1 h2
      simp only [List.getElem_set, List.getElem_map, List.getElem_range]
      by_cases e : k = j
      · subst e; rw [if_pos rfl, if_pos (.inr ⟨h, by omega⟩)]
      · rw [if_neg e]
        congr 1
        refine propext ⟨fun hh => hh.imp id fun hh => ⟨hh.1, by omega⟩, fun hh => hh.imp id fun hh => ⟨hh.1, by omega⟩⟩
    · rw [if_neg (by omega)]
      refine congrArg z0n (Prod.ext rfl (List.map_congr_left fun j hj => ?_))
      congr 1
      refine propext ⟨fun hh => hh.imp id fun hh => ⟨hh.1, by omega⟩, fun hh => hh.imp id fun hh => ⟨hh.1, ?_⟩⟩
      have : j ≠ k := fun e => h (e ▸ hh.1)
      omega
  · simp only [z4f]
    rw [if_neg (by rw [z0l]; omega), z1O (by omega)]
    congr 3
    refine List.map_congr_left fun j hj => ?_
    have hj := List.mem_range.1 hj
    congr 1
    refine propext ⟨fun hh => ?_, fun hh => ?_⟩
    · rcases hh with hh | hh <;> omega
    · by_cases e : z5P (z1M d m n S) S.length j = c
      · exact .inr ⟨e, hj⟩
      · exact .inl (by omega)
theorem zB4 {d : DFA} {m n : Nat} (hd : DfaOk d m n) (hn : n ≤ 7) : z7i d = some (z3X d m n (z6W d m n), 0) := by
  have h128 : 2 ^ n ≤ 128 := Nat.pow_le_pow_right (n := 2) (by omega) hn
  have hS := zm9 hd
  have hSl := z1E hS.nd hS.lt
  have he := z7o hd hS
  unfold z7i
  rw [zlc (zxV hd (by omega)), zxB hd (by omega), Option.bind_some, if_pos rfl, zwc hd hn, Option.bind_some]
  generalize z6W d m n = S at hS hSl he
  have hcl : (z6F d m n S).length ≤ S.length := z7k _ _
  rw [if_neg (by rw [z0l]; omega), zqY hd (by omega) hS, Option.bind_some, zr3 hd (by omega) hS, Option.bind_some]
  simp only
  rw [zqP hd hn hS, Option.bind_some, z0l, z0w _ (by unfold z1L; omega), z0w _ (by unfold z1L; omega), Int.toNat_natCast]
  have f1 : List.replicate S.length ([] : List Int) = z1S S.length (fun i => toI (zcr S i)) [] 0 := (zan _ _ _).symm
  have f2 : List.replicate S.length (ByteArray.empty : ByteArray) = z1S S.length (ztI d m n S) ByteArray.empty 0 := (zan _ _ _).symm
  rw [f1, f2]
  refine z1a (s := ((0 : Int), z1S S.length (fun i => toI (zcr S i)) [] 0, z1S S.length (ztI d m n S) ByteArray.empty 0)) S.length (fun k => ((k : Int), z1S S.length (fun i => toI (zcr S i)) [] k, z1S S.length (ztI d m n S) ByteArray.empty k)) rfl (by simp only [LFm]; omega) (fun k hk => ?_) ?_
  · obtain ⟨c1, c2⟩ := z9h he hk
    have c1 : z5P (z1M d m n S) S.length k < (z6F d m n S).length := c1
    have hf : (z6F d m n S).getD (z5P (z1M d m n S) S.length k) 0 < S.length := zmB c1
    simp only [z4Y]
    rw [if_pos (by rw [z0l]; omega), zu4 hn hS hk, Option.bind_some, z7m hk, Option.bind_some, show dgm d m n S = ⟨toI S, zwL d m S, zuY d m n S⟩ from rfl, zeu hd (by omega) hS _ hk, Option.bind_some, ztX, z2H hk, Option.bind_some, z2C c1, Option.bind_some, show (zfi S (z1d d m n (S.getD k 0)), ziu S (z1d d m n (S.getD k 0))).2 = ziu S (z1d d m n (S.getD k 0)) from rfl, ziu, z2H hf, Option.bind_some, z7m hk, Option.bind_some, z1O (by omega), Int.toNat_natCast]
    have e1 := z5c (f := fun i => toI (zcr S i)) (z := []) hk
    have e2 := z5c (f := ztI d m n S) (z := ByteArray.empty) hk
    have e3 : z5l (z1d d m n (S.getD k 0)) (S.getD ((z6F d m n S).getD (z5P (z1M d m n S) S.length k) 0) 0) = ztI d m n S k := rfl
    rw [e1, e3, e2]
  · simp only [z4Y]
    rw [if_neg (by rw [z0l]; omega), z0l, zam, zam, Int.toNat_natCast]
    congr 1
    have f3 : List.replicate S.length (ByteArray.empty : ByteArray) = (List.range S.length).map fun j => if z5P (z1M d m n S) S.length j < 0 then ziv d m n S j else ByteArray.empty := by
      apply List.ext_getElem (by simp); intro i h1 h2; simp
    rw [f3]
    refine z1a (s := ((0 : Int), (List.range S.length).map fun j => if z5P (z1M d m n S) S.length j < 0 then ziv d m n S j else ByteArray.empty)) (z6F d m n S).length (fun c => ((c : Int), (List.range S.length).map fun j => if z5P (z1M d m n S) S.length j < c then ziv d m n S j else ByteArray.empty)) rfl (by simp only [LFm]; omega) (fun c hc => ?_) ?_
    · have hf := zmB hc
      simp only [z4X]
      rw [if_pos (by rw [z0l]; omega), z2C hc, Option.bind_some, show dgm d m n S = ⟨toI S, zwL d m S, zuY d m n S⟩ from rfl, zeu hd (by omega) hS _ hf, Option.bind_some, zla hd hS (by omega) hc]
    · simp only [z4X]
      rw [if_neg (by rw [z0l]; omega)]
      have : ((List.range S.length).map fun j => if z5P (z1M d m n S) S.length j < (z6F d m n S).length then ziv d m n S j else ByteArray.empty) = (List.range S.length).map (ziv d m n S) := List.map_congr_left fun j hj => if_pos (z9h he (List.mem_range.1 hj)).1
      rw [this]; rfl
end Go.Proofs.Ytodliknibbafeaa
end
section
namespace Go.Proofs.Ytodliknibbafeaa
open Go
set_option maxRecDepth 100000
theorem z6U (s : Nat) : szN s = z3L (fun q => s.testBit q) 7 := by
  simp only [szN, z3L, List.range, List.range.loop, List.countP_cons, List.countP_nil]
  omega
theorem zDq {s : Nat} (h : s < 128) {q : Nat} (hq : s.testBit q = true) : q < 7 := by
  rcases Nat.lt_or_ge q 7 with h' | h'
  · exact h'
  · have : s.testBit q = false := Nat.testBit_lt_two_pow (Nat.lt_of_lt_of_le h (Nat.pow_le_pow_right (n := 2) (by omega) h'))
    rw [this] at hq; cases hq
theorem zs1 {a b : Nat} (h : z5H a b) : szN a ≤ szN b := by
  rw [z6U, z6U]; exact zoh fun q _ hq => z1I.1 h q hq
theorem zx3 {a b : Nat} (hb : b < 128) (h : z5H a b) (hne : a ≠ b) : szN a < szN b := by
  have : ∃ q, b.testBit q = true ∧ a.testBit q = false := by
    refine Classical.byContradiction fun hn => hne (z6V h (z1I.2 fun q hq => ?_))
    cases ha : a.testBit q with
    | true => rfl
    | false => exact absurd ⟨q, hq, ha⟩ hn
  obtain ⟨q, h1, h2⟩ := this
  rw [z6U, z6U]
  exact zkW (fun q _ hq => z1I.1 h q hq) (zDq hb h1) h2 h1
theorem zvL {a b : Nat} (hb : b < 128) (h : z5H a b) (he : szN b ≤ szN a) : a = b := by
  refine Classical.byContradiction fun hne => ?_
  have := zx3 hb h hne
  omega
theorem zs0 {x p : Nat} (hx : x < 128) (hp : p < 7) : szN (x ||| 2 ^ p) ≤ szN x + 1 := by
  revert p; revert x; decide +kernel
theorem zyz {x y : Nat} (hx : x < 128) (hy : y < 128) : szN (x ||| y) ≤ szN x + szN y := by
  rw [z6U, z6U, z6U]
  have : ∀ k, z3L (fun q => (x ||| y).testBit q) k ≤ z3L (fun q => x.testBit q) k + z3L (fun q => y.testBit q) k := by
    intro k
    induction k with
    | zero => simp [z3L]
    | succ k ih =>
      simp only [z3L, Nat.testBit_or]
      simp only [Nat.testBit_or] at ih
      have : ∀ a b : Bool, (if (a || b) = true then 1 else 0) ≤ (if a = true then 1 else 0) + (if b = true then 1 else 0) := by decide
      have := this (x.testBit k) (y.testBit k)
      omega
  exact this 7
theorem zyR {d : DFA} {m n : Nat} (hd : DfaOk d m n) {x y a : Nat} (ha : a < m) : mvN d (x ||| y) a = mvN d x a ||| mvN d y a := by
  apply Nat.eq_of_testBit_eq
  intro p
  rw [Bool.eq_iff_iff, Nat.testBit_or, Bool.or_eq_true, z7c hd ha, z7c hd ha, z7c hd ha]
  constructor
  · rintro ⟨i, h1, h2, h3⟩
    rw [Nat.testBit_or, Bool.or_eq_true] at h2
    exact h2.imp (fun h => ⟨i, h1, h, h3⟩) fun h => ⟨i, h1, h, h3⟩
  · rintro (⟨i, h1, h2, h3⟩ | ⟨i, h1, h2, h3⟩)
    · exact ⟨i, h1, by rw [Nat.testBit_or, h2]; rfl, h3⟩
    · exact ⟨i, h1, by rw [Nat.testBit_or, h2, Bool.or_true], h3⟩
abbrev zwN (m : Nat) (w : List UInt8) : Prop := ∀ c ∈ w, 97 ≤ c.toNat ∧ c.toNat < 97 + m
theorem zsP {m : Nat} {c : UInt8} {w : List UInt8} (h : zwN m (c :: w)) : zwN m w ∧ c.toNat - 97 < m := ⟨fun c' hc' => h c' (List.mem_cons_of_mem _ hc'), by have := h c (List.mem_cons_self ..); omega⟩
theorem zsn {d : DFA} {m n : Nat} (hd : DfaOk d m n) : ∀ {w : List UInt8} {x y : Nat}, zwN m w → z4q d (x ||| y) w = z4q d x w ||| z4q d y w
  | [], x, y, _ => rfl
  | c :: w, x, y, hw => by
    obtain ⟨h1, h2⟩ := zsP hw
    simp only [z4q]
    rw [zyR hd h2, zsn hd h1]
theorem zyQ {d : DFA} {m n : Nat} (hd : DfaOk d m n) (hn : n ≤ 7) {s a : Nat} (hs : s < 2 ^ n) (ha : a < m) : szN (mvN d s a) ≤ szN s := by
  have h128 : 2 ^ n ≤ 128 := Nat.pow_le_pow_right (n := 2) (by omega) hn
  have key : ∀ q, q ≤ n → szN (znI d.next s a q) ≤ z3L (fun q => s.testBit q) q := by
    intro q
    induction q with
    | zero => intro _; exact (by decide : szN 0 ≤ 0)
    | succ q ih =>
      intro hq
      have hlt := zhM hd (s := s) ha q (by omega)
      obtain ⟨h1, h2, e, h3, h4⟩ := zc0 hd (q := q) (by omega) ha
      simp only [znI, z3L]
      by_cases hb : s.testBit q = true
      · rw [if_pos hb, if_pos hb]
        have := zs0 (x := znI d.next s a q) (p := ((d.next.getD q []).getD a 0).toNat) (by omega) (by rw [e]; omega)
        have := ih (by omega)
        omega
      · rw [if_neg hb, if_neg hb]
        have := ih (by omega)
        omega
  have h1 := key n (Nat.le_refl _)
  have h2 : z3L (fun q => s.testBit q) n ≤ szN s := by
    rw [z6U]
    have : ∀ j, z3L (fun q => s.testBit q) n ≤ z3L (fun q => s.testBit q) (n + j) := by
      intro j
      induction j with
      | zero => exact Nat.le_refl _
      | succ j ih => rw [← Nat.add_assoc]; simp only [z3L]; omega
    have := this (7 - n)
    rwa [show n + (7 - n) = 7 by omega] at this
  unfold mvN
  rw [hd.nl]
  omega
theorem zew {d : DFA} {m n : Nat} (hd : DfaOk d m n) (hn : n ≤ 7) : ∀ {w : List UInt8} {s : Nat}, s < 2 ^ n → zwN m w → szN (z4q d s w) ≤ szN s
  | [], s, _, _ => Nat.le_refl _
  | c :: w, s, hs, hw => by
    obtain ⟨h1, h2⟩ := zsP hw
    simp only [z4q]
    exact Nat.le_trans (zew hd hn (zhi hd h2) h1) (zyQ hd hn hs h2)
theorem z9d {S : List Nat} {i j : Nat} : j ∈ z8o S i ↔ j < S.length ∧ j ≠ i ∧ z5H (S.getD j 0) (S.getD i 0) := by
  unfold z8o zuG z5H
  rw [List.mem_filter, List.mem_range]
  simp
theorem znr {S : List Nat} {i j : Nat} : zrb S i j = true ↔ ∀ k, k ∈ z8o S i → k ≠ j → ¬ z5H (S.getD j 0) (S.getD k 0) := by
  unfold zrb z5H
  rw [List.all_eq_true]
  constructor
  · intro h k hk hne hs
    have := h k hk
    simp only [Bool.or_eq_true, decide_eq_true_eq, Bool.not_eq_true', decide_eq_false_iff_not] at this
    exact this.elim hne fun hh => hh hs
  · intro h k hk
    simp only [Bool.or_eq_true, decide_eq_true_eq, Bool.not_eq_true', decide_eq_false_iff_not]
    by_cases e : k = j
    · exact .inl e
    · exact .inr (h k hk e)
theorem zm6 {S : List Nat} {i j : Nat} (hz : szN (S.getD i 0) ≠ 1) : j ∈ zcr S i ↔ j ∈ z8o S i ∧ zrb S i j = true := by
  unfold zcr
  rw [if_neg hz, List.mem_filter]
theorem zer {S : List Nat} {i j : Nat} (h : j ∈ zcr S i) : j ∈ z8o S i ∧ zrb S i j = true ∧ szN (S.getD i 0) ≠ 1 := by
  by_cases hz : szN (S.getD i 0) = 1
  · unfold zcr at h; rw [if_pos hz] at h; simp at h
  · exact ⟨((zm6 hz).1 h).1, ((zm6 hz).1 h).2, hz⟩
theorem zrX (S : List Nat) (i : Nat) : (zcr S i).Nodup := by
  unfold zcr
  split
  · simp
  · exact List.Pairwise.filter _ (List.Pairwise.filter _ List.nodup_range)
theorem zrY {d : DFA} {m n : Nat} (hn : n ≤ 7) {S : List Nat} (hS : SetsP d m n S) {i k : Nat} (hi : i < S.length) (h : k ∈ zcr S i) : i < k ∧ k < S.length ∧ z5H (S.getD k 0) (S.getD i 0) ∧ S.getD k 0 ≠ S.getD i 0 := by
  have h128 : 2 ^ n ≤ 128 := Nat.pow_le_pow_right (n := 2) (by omega) hn
  obtain ⟨h1, _, _⟩ := zer h
  obtain ⟨hk, hne, hs⟩ := z9d.1 h1
  have hx : S.getD k 0 ≠ S.getD i 0 := fun e => hne (z9f hS.nd hk hi e)
  refine ⟨?_, hk, hs, hx⟩
  have hlt := zx3 (by have := hS.lt _ (z0F hi); omega) hs hx
  rcases Nat.lt_trichotomy i k with h' | h' | h'
  · exact h'
  · exact absurd h'.symm hne
  · have := List.pairwise_iff_getElem.1 hS.srt k i hk hi h'
    rw [zmQ] at this
    rw [List.getD, List.getD, List.getElem?_eq_getElem hk, List.getElem?_eq_getElem hi, Option.getD_some, Option.getD_some] at hlt
    omega
end Go.Proofs.Ytodliknibbafeaa
end
section
namespace Go.Proofs.Ytodliknibbafeaa
open Go
set_option maxRecDepth 100000
theorem zu5 {A K : Nat} (h : z5H A K) : szN A + szN (K ^^^ A) = szN K := by
  rw [z6U, z6U, z6U]
  have hb := z1I.1 h
  have : ∀ k, z3L (fun q => A.testBit q) k + z3L (fun q => (K ^^^ A).testBit q) k = z3L (fun q => K.testBit q) k := by
    intro k
    induction k with
    | zero => simp [z3L]
    | succ k ih =>
      have h1 := hb k
      simp only [z3L]
      have h2 : (K ^^^ A).testBit k = (K.testBit k ^^ A.testBit k) := Nat.testBit_xor ..
      have h3 : ∀ a b c : Bool, (a = true → b = true) → c = (b ^^ a) → (if a = true then 1 else 0) + (if c = true then 1 else 0) = (if b = true then 1 else 0) := by decide
      have := h3 _ _ _ h1 h2
      omega
  exact this 7
theorem zve {A K : Nat} (h : z5H A K) : A ||| (K ^^^ A) = K := by
  apply Nat.eq_of_testBit_eq
  intro q
  have h1 := z1I.1 h q
  rw [Nat.testBit_or, Nat.testBit_xor]
  revert h1
  cases A.testBit q <;> cases K.testBit q <;> simp
theorem zs4 {A K : Nat} (h : z5H A K) : A ≤ K := by
  unfold z5H at h; rw [← h]; exact Nat.and_le_right
theorem zu8 (A B : Nat) : z5H A (A ||| B) := z1I.2 fun q hq => by rw [Nat.testBit_or, hq]; rfl
theorem znu (A B : Nat) : z5H B (A ||| B) := z1I.2 fun q hq => by rw [Nat.testBit_or, hq, Bool.or_true]
theorem zku {A B : Nat} (h : z5H A B) : A ||| B = B := z6V (z1I.2 fun q hq => by
  rw [Nat.testBit_or, Bool.or_eq_true] at hq
  exact hq.elim (z1I.1 h q) id) (znu A B)
theorem zx4 {A B K : Nat} (h1 : z5H A K) (h2 : z5H B K) : z5H (A ||| B) K := z1I.2 fun q hq => by
  rw [Nat.testBit_or, Bool.or_eq_true] at hq
  exact hq.elim (z1I.1 h1 q) (z1I.1 h2 q)
structure Lead (d : DFA) (m n K I : Nat) (w : List UInt8) : Prop where
  hw : zwN m w
  hK : K < 2 ^ n
  hI : I < 2 ^ n
  run : z4q d K w = I
  sz : szN I = szN K
theorem zms {d : DFA} {m n : Nat} (hd : DfaOk d m n) (hn : n ≤ 7) {K I : Nat} {w : List UInt8} (h : Lead d m n K I w) {A : Nat} (hA : z5H A K) : szN (z4q d A w) = szN A := by
  have h128 : 2 ^ n ≤ 128 := Nat.pow_le_pow_right (n := 2) (by omega) hn
  have hAK := zs4 hA
  have hK := h.hK
  have hB : z5H (K ^^^ A) K := by
    have := zve hA
    rw [← this]; rw [this]; rw [← this]
    exact (by rw [this]; exact (by
      refine z1I.2 fun q hq => ?_
      rw [Nat.testBit_xor] at hq
      have h1 := z1I.1 hA q
      revert hq h1
      cases A.testBit q <;> cases K.testBit q <;> simp))
  have hBl := zs4 hB
  have e1 := zsn hd (x := A) (y := K ^^^ A) h.hw
  rw [zve hA, h.run] at e1
  have l1 := zhE hd (s := A) (w := w) (by omega) h.hw
  have l2 := zhE hd (s := K ^^^ A) (w := w) (by omega) h.hw
  have s1 := zyz (x := z4q d A w) (y := z4q d (K ^^^ A) w) (by omega) (by omega)
  rw [← e1, h.sz] at s1
  have s2 := zew hd hn (s := K ^^^ A) (by omega) h.hw
  have s3 := zew hd hn (s := A) (by omega) h.hw
  have s4 := zu5 hA
  omega
theorem zhV {d : DFA} {m n : Nat} (hd : DfaOk d m n) (hn : n ≤ 7) {K I : Nat} {w : List UInt8} (h : Lead d m n K I w) {A B : Nat} (hA : z5H A K) (hB : z5H B K) (hs : z5H (z4q d A w) (z4q d B w)) : z5H A B := by
  have h128 : 2 ^ n ≤ 128 := Nat.pow_le_pow_right (n := 2) (by omega) hn
  have hK := h.hK
  have hAB := zx4 hA hB
  have hl := zs4 hAB
  have e1 := zms hd hn h hAB
  rw [zsn hd h.hw, zku hs, zms hd hn h hB] at e1
  have := zvL (a := B) (b := A ||| B) (by omega) (znu A B) (by omega)
  rw [this]
  exact zu8 A B
theorem znP {d : DFA} {m n : Nat} (hd : DfaOk d m n) (hn : n ≤ 7) {K I : Nat} {w : List UInt8} (h : Lead d m n K I w) {A B : Nat} (hA : z5H A K) (hB : z5H B K) (he : z4q d A w = z4q d B w) : A = B :=
  z6V (zhV hd hn h hA hB (by rw [he]; exact zhy _)) (zhV hd hn h hB hA (by rw [he]; exact zhy _))
theorem zu6 {α β : Type} {l : List α} {r : List β} {f : α → β} (hl : (l.map f).Nodup) (hs : ∀ x ∈ l.map f, x ∈ r) (hle : r.length ≤ l.length) {u : β} (hu : u ∈ r) : u ∈ l.map f := by
  refine Classical.byContradiction fun hn => ?_
  have := zhU (l := u :: l.map f) (r := r) (List.nodup_cons.2 ⟨hn, hl⟩) fun x hx => by
    rcases List.mem_cons.1 hx with rfl | hx
    · exact hu
    · exact hs x hx
  rw [List.length_cons, List.length_map] at this
  omega
theorem zeC {α β : Type} {l : List α} {f : α → β} (hl : l.Nodup) (hf : ∀ x ∈ l, ∀ y ∈ l, f x = f y → x = y) : (l.map f).Nodup := by
  induction l with
  | nil => simp
  | cons a l ih =>
    rw [List.nodup_cons] at hl
    rw [List.map_cons, List.nodup_cons]
    refine ⟨fun h => ?_, ih hl.2 fun x hx y hy => hf x (List.mem_cons_of_mem _ hx) y (List.mem_cons_of_mem _ hy)⟩
    obtain ⟨x, hx, he⟩ := List.mem_map.1 h
    have := hf x (List.mem_cons_of_mem _ hx) a (List.mem_cons_self ..) he
    exact hl.1 (this ▸ hx)
section
variable {d : DFA} {m n : Nat} {S : List Nat} (hd : DfaOk d m n) (hn : n ≤ 7) (hS : SetsP d m n S)
include hd hn hS
theorem zt2 {k i : Nat} (hk : k < S.length) (hi : i < S.length) {w : List UInt8} (h : Lead d m n (S.getD k 0) (S.getD i 0) w) :
    (∀ j ∈ z8o S k, S.idxOf (z4q d (S.getD j 0) w) ∈ z8o S i ∧ S.getD (S.idxOf (z4q d (S.getD j 0) w)) 0 = z4q d (S.getD j 0) w) ∧ ((z8o S k).map fun j => S.idxOf (z4q d (S.getD j 0) w)).Nodup := by
  have h128 : 2 ^ n ≤ 128 := Nat.pow_le_pow_right (n := 2) (by omega) hn
  have hmem : ∀ j, j < S.length → z4q d (S.getD j 0) w ∈ S := fun j hj => zny hS h.hw (z0F hj)
  refine ⟨fun j hj => ?_, zeC (List.Pairwise.filter _ List.nodup_range) fun x hx y hy e => ?_⟩
  · obtain ⟨h1, h2, h3⟩ := z9d.1 hj
    have hg := z3v (hmem j h1)
    refine ⟨z9d.2 ⟨z6B (hmem j h1), fun e => ?_, ?_⟩, hg⟩
    · rw [e] at hg
      have s1 := zms hd hn h h3
      rw [← hg, h.sz] at s1
      have := zvL (a := S.getD j 0) (b := S.getD k 0) (by have := h.hK; omega) h3 (by omega)
      exact h2 (z9f hS.nd h1 hk this)
    · rw [hg, ← h.run]
      exact zhC hd h.hw h3
  · obtain ⟨h1, h2, h3⟩ := z9d.1 hx
    obtain ⟨k1, k2, k3⟩ := z9d.1 hy
    have e2 : z4q d (S.getD x 0) w = z4q d (S.getD y 0) w := by
      rw [← z3v (hmem x h1), ← z3v (hmem y k1)]
      exact congrArg (fun q => S.getD q 0) e
    exact z9f hS.nd h1 k1 (znP hd hn h h3 k3 e2)
theorem zwj {k i : Nat} (hk : k < S.length) (hi : i < S.length) {w : List UInt8} (h : Lead d m n (S.getD k 0) (S.getD i 0) w) : (z8o S k).length ≤ (z8o S i).length := by
  obtain ⟨h1, h2⟩ := zt2 hd hn hS hk hi h
  have := zhU h2 (r := z8o S i) fun x hx => by
    obtain ⟨j, hj, rfl⟩ := List.mem_map.1 hx
    exact (h1 j hj).1
  simpa using this
theorem zvJ {k i : Nat} (hk : k < S.length) (hi : i < S.length) {w v : List UInt8} (h : Lead d m n (S.getD k 0) (S.getD i 0) w) (h' : Lead d m n (S.getD i 0) (S.getD k 0) v) {t : Nat} (ht : t ∈ zcr S k) : S.idxOf (z4q d (S.getD t 0) w) ∈ zcr S i := by
  obtain ⟨h1, h2⟩ := zt2 hd hn hS hk hi h
  obtain ⟨t1, t2, t3⟩ := zer ht
  have hz : szN (S.getD i 0) ≠ 1 := by rw [h.sz]; exact t3
  refine (zm6 hz).2 ⟨(h1 t t1).1, znr.2 fun u hu hne hs => ?_⟩
  have hsur := zu6 (l := z8o S k) (r := z8o S i) h2 (fun x hx => by
    obtain ⟨j, hj, rfl⟩ := List.mem_map.1 hx
    exact (h1 j hj).1) (zwj hd hn hS hi hk h') hu
  obtain ⟨j, hj, rfl⟩ := List.mem_map.1 hsur
  rw [(h1 t t1).2, (h1 j hj).2] at hs
  have hsub := zhV hd hn h (z9d.1 t1).2.2 (z9d.1 hj).2.2 hs
  exact znr.1 t2 j hj (fun e => hne (by rw [e])) hsub
theorem zob {k i : Nat} (hk : k < S.length) (hi : i < S.length) (he : z1M d m n S i k = true) : szN (S.getD i 0) = szN (S.getD k 0) ∧ S.getD i 0 ∈ (z1d d m n (S.getD k 0)).1 := by
  have h128 : 2 ^ n ≤ 128 := Nat.pow_le_pow_right (n := 2) (by omega) hn
  simp only [z1M, Bool.and_eq_true] at he
  obtain ⟨w, w1, w2⟩ := (z3F hd hS hk).1 he.1
  obtain ⟨v, v1, v2⟩ := (z3F hd hS hi).1 he.2
  have hkl := hS.lt _ (z0F hk)
  have hil := hS.lt _ (z0F hi)
  have a1 := zs1 w2
  have a2 := zew hd hn hkl w1
  have a3 := zs1 v2
  have a4 := zew hd hn hil v1
  refine ⟨by omega, ?_⟩
  have hrl := zhE hd hkl w1
  have := zvL (by omega) w2 (by omega)
  rw [this]
  exact zex hd hkl w1 (zc1 hd hkl)
omit hn hS in
theorem ziw {s x : Nat} (hs : s < 2 ^ n) (hx : x ∈ (z1d d m n s).1) : zwN m (z5l (z1d d m n s) x).data.toList ∧ (z5l (z1d d m n s) x).size ≤ 2 ^ n ∧ z4q d s (z5l (z1d d m n s) x).data.toList = x := by
  have hi := z6b hd hs
  have hl := z1E hi.nd hi.lt
  have hlt := z6B hx
  obtain ⟨o1, o2, o3⟩ := hi.ok _ hlt
  unfold z5l
  exact ⟨o2, by omega, by rw [o3, z3v hx]⟩
end
end Go.Proofs.Ytodliknibbafeaa
end
section
namespace Go.Proofs.Ytodliknibbafeaa
open Go
noncomputable section
set_option maxRecDepth 100000
set_option maxHeartbeats 6000000
end
end Go.Proofs.Ytodliknibbafeaa
end
section
namespace Go.Proofs.Ytodliknibbafeaa
open Go
set_option maxRecDepth 100000
end Go.Proofs.Ytodliknibbafeaa
end
section
namespace Go.Proofs.Ytodliknibbafeaa
open Go
set_option maxRecDepth 100000
theorem zeU {N : Nat} {e : Nat → Nat → Bool} (he : EqvN N e) {i : Nat} (hi : i < N) :
    (z5P e N i < (z0O e i).length ∧ (z0O e i).getD (z5P e N i) 0 = (z0O e N).getD (z5P e N i) 0 ∧ z0O e (i + 1) = z0O e i) ∨
    (z5P e N i = (z0O e i).length ∧ (z0O e N).getD (z5P e N i) 0 = i ∧ z0O e (i + 1) = z0O e i ++ [i]) := by
  have hc := zvt he hi
  by_cases h : (z0O e i).any (e i) = true
  · left
    obtain ⟨x, hx, hp⟩ := List.any_eq_true.1 h
    have hlt : z5P e N i < (z0O e i).length := by rw [← hc]; exact List.findIdx_lt_length_of_exists ⟨x, hx, hp⟩
    refine ⟨hlt, ?_, by rw [z0O, if_pos h]⟩
    obtain ⟨R, hR⟩ := zc7 e (i := i) N (by omega)
    rw [hR, List.getD, List.getD, List.getElem?_append_left hlt]
  · right
    have hlt : z5P e N i = (z0O e i).length := by
      rw [← hc]
      exact List.findIdx_eq_length.2 fun x hx => by
        cases hh : e i x with
        | false => rfl
        | true => exact absurd (List.any_eq_true.2 ⟨x, hx, hh⟩) h
    refine ⟨hlt, ?_, by rw [z0O, if_neg h]⟩
    obtain ⟨R, hR⟩ := zc7 e (i := i + 1) N (by omega)
    rw [hR, z0O, if_neg h, hlt, List.getD, List.append_assoc, List.getElem?_append_right (Nat.le_refl _), Nat.sub_self]
    rfl
section
variable {d : DFA} {m n : Nat} {S : List Nat} (hd : DfaOk d m n) (hn : n ≤ 7) (hS : SetsP d m n S)
include hd hn hS
theorem ztf {i : Nat} (hi : i < S.length) : z5L d m n S i ≤ i := by
  have _u := hn
  rcases zeU (z7o hd hS) hi with ⟨h1, h2, _⟩ | ⟨h1, h2, _⟩
  · have := zco (z1M d m n S) i _ (z0F h1)
    rw [h2] at this
    exact Nat.le_of_lt this
  · exact Nat.le_of_eq h2
theorem ztg {i : Nat} (hi : i < S.length) : z1M d m n S i (z5L d m n S i) = true := by
  have _u := hn
  exact (z9h (z7o hd hS) hi).2
end
end Go.Proofs.Ytodliknibbafeaa
end
section
namespace Go.Proofs.Ytodliknibbafeaa
open Go
set_option maxRecDepth 100000
theorem zhl {d : DFA} {m n K I J : Nat} {u v : List UInt8} (h1 : Lead d m n K I u) (h2 : Lead d m n I J v) : Lead d m n K J (u ++ v) where
  hw c hc := (List.mem_append.1 hc).elim (h1.hw c) (h2.hw c)
  hK := h1.hK
  hI := h2.hI
  run := by rw [z6v, h1.run, h2.run]
  sz := h2.sz.trans h1.sz
def z4o (S : List Nat) (k : Nat) : List Nat := (zcr S k).map fun t => S.getD t 0
def z5J (d : DFA) (w : List UInt8) (T : List Nat) : List Nat := T.map fun t => T.idxOf (z4q d t w)
theorem znB (d : DFA) (w : List UInt8) (T : List Nat) : (z5J d w T).length = T.length := by simp [z5J]
def clN (d : DFA) (m n : Nat) (S : List Nat) (i : Nat) : Nat := z5P (z1M d m n S) S.length i
def ztW (d : DFA) (S : List Nat) (i a : Nat) : Nat := S.idxOf (mvN d (S.getD i 0) a)
def hwN (d : DFA) (m n : Nat) (S : List Nat) (i a : Nat) : ByteArray := ziv d m n S i ++ zuB a ++ ztI d m n S (ztW d S i a)
section
variable {d : DFA} {m n : Nat} {S : List Nat} (hd : DfaOk d m n) (hn : n ≤ 7) (hS : SetsP d m n S)
include hd hn hS
theorem za3 {k : Nat} (hk : k < S.length) : (z4o S k).Nodup ∧ ∀ t ∈ z4o S k, t ∈ S ∧ z5H t (S.getD k 0) ∧ t < 2 ^ n := by
  have _u := hd
  have hin : ∀ x ∈ zcr S k, x < S.length := fun x hx => zkL (zer hx).1
  refine ⟨zeC (zrX S k) fun x hx y hy e => z9f hS.nd (hin x hx) (hin y hy) e, fun t ht => ?_⟩
  obtain ⟨x, hx, rfl⟩ := List.mem_map.1 ht
  obtain ⟨h1, h2, h3, _⟩ := zrY hn hS hk hx
  exact ⟨z0F h2, h3, hS.lt _ (z0F h2)⟩
theorem zrW {k : Nat} (hk : k < S.length) {w : List UInt8} (h : Lead d m n (S.getD k 0) (S.getD k 0) w) : ∀ t ∈ z4o S k, z4q d t w ∈ z4o S k := fun t ht => by
  obtain ⟨x, hx, rfl⟩ := List.mem_map.1 ht
  have hm := zvJ hd hn hS hk hk h h hx
  have hr := zny hS h.hw (z0F (zkL (zer hx).1) : S.getD x 0 ∈ S)
  exact List.mem_map.2 ⟨_, hm, z3v hr⟩
theorem zhg {k : Nat} (hk : k < S.length) {w : List UInt8} (h : Lead d m n (S.getD k 0) (S.getD k 0) w) : (z5J d w (z4o S k)).Nodup ∧ (∀ p ∈ z5J d w (z4o S k), p < (z4o S k).length) ∧ ∀ i, i < (z4o S k).length → (z4o S k).getD ((z5J d w (z4o S k)).getD i 0) 0 = z4q d ((z4o S k).getD i 0) w := by
  obtain ⟨hnd, hf⟩ := za3 hd hn hS hk
  have hr := zrW hd hn hS hk h
  refine ⟨zeC hnd fun x hx y hy e => ?_, fun p hp => ?_, fun i hi => ?_⟩
  · have e2 : z4q d x w = z4q d y w := by
      rw [← z3v (hr x hx), ← z3v (hr y hy), e]
    exact znP hd hn h (hf x hx).2.1 (hf y hy).2.1 e2
  · obtain ⟨x, hx, rfl⟩ := List.mem_map.1 hp
    exact z6B (hr x hx)
  · have e : (z5J d w (z4o S k)).getD i 0 = (z4o S k).idxOf (z4q d ((z4o S k).getD i 0) w) := by
      simp [z5J, List.getD, hi]
    rw [e, z3v (hr _ (z0F hi))]
theorem zmV {i : Nat} (hi : i < S.length) : Lead d m n (S.getD (z5L d m n S i) 0) (S.getD i 0) (ziv d m n S i).data.toList ∧ (ziv d m n S i).size ≤ 2 ^ n := by
  have hk : z5L d m n S i < S.length := by have := ztf hd hn hS hi; omega
  obtain ⟨h1, h2⟩ := zob hd hn hS hk hi (ztg hd hn hS hi)
  have hlk := hS.lt _ (z0F hk)
  obtain ⟨w1, w2, w3⟩ := ziw hd hlk h2
  exact ⟨⟨w1, hlk, hS.lt _ (z0F hi), w3, h1⟩, w2⟩
theorem zop {i : Nat} (hi : i < S.length) : Lead d m n (S.getD i 0) (S.getD (z5L d m n S i) 0) (ztI d m n S i).data.toList ∧ (ztI d m n S i).size ≤ 2 ^ n := by
  have hk : z5L d m n S i < S.length := by have := ztf hd hn hS hi; omega
  have he := ztg hd hn hS hi
  have he' : z1M d m n S (z5L d m n S i) i = true := by
    simp only [z1M, Bool.and_eq_true] at he ⊢; exact he.symm
  obtain ⟨h1, h2⟩ := zob hd hn hS hi hk he'
  have hli := hS.lt _ (z0F hi)
  obtain ⟨w1, w2, w3⟩ := ziw hd hli h2
  exact ⟨⟨w1, hli, hS.lt _ (z0F hk), w3, h1⟩, w2⟩
theorem zvq {i a : Nat} (hi : i < S.length) (ha : a < m) : ztW d S i a < S.length ∧ S.getD (ztW d S i a) 0 = mvN d (S.getD i 0) a := by
  have _u := hd
  have _v := hn
  have := hS.cl _ (z0F hi) a ha
  exact ⟨z6B this, z3v this⟩
theorem zxW {i : Nat} (hi : i < S.length) : clN d m n S i < (z6F d m n S).length ∧ (z6F d m n S).getD (clN d m n S i) 0 = z5L d m n S i := by
  have _u := hn
  exact ⟨(z9h (z7o hd hS) hi).1, rfl⟩
theorem zmx {i a : Nat} (hi : i < S.length) (ha : a < m) (hc : clN d m n S (ztW d S i a) = clN d m n S i) : Lead d m n (S.getD (z5L d m n S i) 0) (S.getD (z5L d m n S i) 0) (hwN d m n S i a).data.toList ∧ (hwN d m n S i a).size ≤ 2 * 2 ^ n + 1 := by
  obtain ⟨j1, j2⟩ := zvq hd hn hS hi ha
  obtain ⟨l1, s1⟩ := zmV hd hn hS hi
  obtain ⟨l2, s2⟩ := zop hd hn hS j1
  have hf : z5L d m n S (ztW d S i a) = z5L d m n S i := by
    unfold z5L; unfold clN at hc; rw [hc]
  rw [hf] at l2
  have h26 : (UInt8.ofNat (97 + a)).toNat = 97 + a := zcB (by have := hd.m6; omega)
  have l3 : Lead d m n (S.getD i 0) (S.getD (ztW d S i a) 0) (zuB a).data.toList := by
    refine ⟨fun c hc => ?_, l1.hI, hS.lt _ (z0F j1), ?_, ?_⟩
    · rw [z7e, List.mem_singleton] at hc
      subst hc; omega
    · rw [z7e, j2, z4q, z4q, h26, Nat.add_sub_cancel_left]
    · have := l1.sz; have := l2.sz; omega
  have l4 := zhl (zhl l1 l3) l2
  refine ⟨?_, ?_⟩
  · unfold hwN; rw [zig, zig]; exact l4
  · unfold hwN; rw [zcK, zcK, z5r]; omega
end
abbrev HS := List ByteArray × List (List Nat)
def zfg (d : DFA) (m n : Nat) (S : List Nat) (T : List Nat) (i : Nat) (st : HS) (a : Nat) : HS :=
  if clN d m n S (ztW d S i a) = clN d m n S i then
    (if z5J d (hwN d m n S i a).data.toList T = List.range T.length ∨ z5J d (hwN d m n S i a).data.toList T ∈ st.2 then st else (st.1 ++ [hwN d m n S i a], st.2 ++ [z5J d (hwN d m n S i a).data.toList T]))
  else st
def zl7 (d : DFA) (m n : Nat) (S : List Nat) (T : List Nat) (i : Nat) (st : HS) (a : Nat) : HS := (List.range a).foldl (zfg d m n S T i) st
def zv5 (d : DFA) (m n : Nat) (S : List Nat) (T : List Nat) (c k : Nat) : HS := (List.range k).foldl (fun st i => if clN d m n S i = c then zl7 d m n S T i st m else st) ([], [])
theorem zhF (d : DFA) (m n : Nat) (S T : List Nat) (i : Nat) (st : HS) (a : Nat) : zl7 d m n S T i st (a + 1) = zfg d m n S T i (zl7 d m n S T i st a) a := by
  unfold zl7; rw [List.range_succ, List.foldl_append]; rfl
theorem zv4 (d : DFA) (m n : Nat) (S T : List Nat) (c k : Nat) : zv5 d m n S T c (k + 1) = if clN d m n S k = c then zl7 d m n S T k (zv5 d m n S T c k) m else zv5 d m n S T c k := by
  unfold zv5; rw [List.range_succ, List.foldl_append]; rfl
def z3x (d : DFA) (m n : Nat) (S : List Nat) (c : Nat) : Nat := (z6F d m n S).getD c 0
structure HInv (d : DFA) (m n : Nat) (S : List Nat) (c : Nat) (B : Nat) (st : HS) : Prop where
  len : st.1.length = st.2.length
  bd : st.1.length ≤ B
  ok : ∀ j, j < st.1.length → ∃ w : ByteArray, st.1.getD j ByteArray.empty = w ∧ Lead d m n (S.getD (z3x d m n S c) 0) (S.getD (z3x d m n S c) 0) w.data.toList ∧ w.size ≤ 2 * 2 ^ n + 1 ∧ st.2.getD j [] = z5J d w.data.toList (z4o S (z3x d m n S c))
section
variable {d : DFA} {m n : Nat} {S : List Nat} (hd : DfaOk d m n) (hn : n ≤ 7) (hS : SetsP d m n S)
include hd hn hS
theorem zvN {c i a B : Nat} {st : HS} (h : HInv d m n S c B st) (hi : i < S.length) (ha : a < m) (hc : clN d m n S i = c) : HInv d m n S c (B + 1) (zfg d m n S (z4o S (z3x d m n S c)) i st a) := by
  have h1 : HInv d m n S c (B + 1) st := ⟨h.len, by have := h.bd; omega, h.ok⟩
  unfold zfg
  split
  · rename_i hj
    split
    · exact h1
    · obtain ⟨l1, l2⟩ := zmx hd hn hS hi ha hj
      have hf : z3x d m n S c = z5L d m n S i := by unfold z3x; rw [← hc]; exact (zxW hd hn hS hi).2
      rw [← hf] at l1
      refine ⟨by simp [h.len], by have := h.bd; simp; omega, fun j hj => ?_⟩
      rw [List.length_append, List.length_singleton] at hj
      rcases Nat.lt_or_ge j st.1.length with h3 | h3
      · rw [z5a _ h3, z5a _ (by rw [← h.len]; exact h3)]
        exact h.ok j h3
      · have e : j = st.1.length := by omega
        rw [z7j e, z7j (by rw [← h.len]; exact e)]
        exact ⟨_, rfl, l1, l2, rfl⟩
  · exact h1
theorem zsq {c i B : Nat} {st : HS} (h : HInv d m n S c B st) (hi : i < S.length) (hc : clN d m n S i = c) : ∀ a, a ≤ m → HInv d m n S c (B + a) (zl7 d m n S (z4o S (z3x d m n S c)) i st a)
  | 0, _ => h
  | a + 1, ha => by
    rw [zhF]
    exact zvN hd hn hS (zsq h hi hc a (by omega)) hi (by omega) hc
end
end Go.Proofs.Ytodliknibbafeaa
end
section
namespace Go.Proofs.Ytodliknibbafeaa
open Go
noncomputable section
set_option maxRecDepth 100000
set_option maxHeartbeats 6000000
end
end Go.Proofs.Ytodliknibbafeaa
end
section
namespace Go.Proofs.Ytodliknibbafeaa
open Go
set_option maxRecDepth 100000
theorem zeO {κ ν : Type} [DecidableEq κ] (k q : κ) (v : ν) : ∀ m : List (κ × ν), zeP q (zfc k v m) = if k = q then some v else zeP q m
  | [] => rfl
  | (a, u) :: r => by
    simp only [zfc]
    by_cases h : a = k
    · subst h
      rw [if_pos rfl]
      simp only [zeP]
      by_cases h2 : a = q
      · rw [if_pos h2, if_pos h2]
      · rw [if_neg h2, if_neg h2, if_neg h2]
    · rw [if_neg h]
      simp only [zeP, zeO k q v r]
      by_cases h2 : a = q
      · rw [if_pos h2, if_pos h2, if_neg (fun e => h (h2.trans e.symm))]
      · rw [if_neg h2, if_neg h2]
def zi1 (S : List Nat) : Nat → List (Int × Int)
  | 0 => []
  | k + 1 => zfc ((S.getD k 0 : Nat) : Int) (k : Int) (zi1 S k)
theorem zi0 {S : List Nat} (hS : S.Nodup) {j : Nat} : ∀ k, k ≤ S.length → j < k → zeP ((S.getD j 0 : Nat) : Int) (zi1 S k) = some (j : Int)
  | k + 1, hk, hj => by
    simp only [zi1]
    rw [zeO]
    by_cases e : j = k
    · subst e; rw [if_pos rfl]
    · rw [if_neg (fun h => e (z9f hS (by omega) (by omega) (by omega))), zi0 hS k (by omega) (by omega)]
theorem za4 {l : List Nat} {k : Nat} (h : k < l.length) : l.take (k + 1) = l.take k ++ [l.getD k 0] := by
  rw [List.take_succ_eq_append_getElem h, List.getD, List.getElem?_eq_getElem h, Option.getD_some]
section
variable {d : DFA} {m n : Nat} {S : List Nat} (hd : DfaOk d m n) (hn : n ≤ 7) (hS : SetsP d m n S)
include hd hn hS
theorem z4y {c : Nat} (hc : c < (z6F d m n S).length) : clN d m n S (z3x d m n S c) = c ∧ z3x d m n S c < S.length := by
  have _u := hn
  have he := z7o hd hS
  have hk : z3x d m n S c < S.length := zmB hc
  obtain ⟨h1, h2⟩ := z9h he hk
  refine ⟨zmA he (zal he _ (Nat.le_refl _)) (fun f hf => zco _ _ f hf) hk h1 hc h2 (he.refl _ hk), hk⟩
end
end Go.Proofs.Ytodliknibbafeaa
end
section
namespace Go.Proofs.Ytodliknibbafeaa
open Go
set_option maxRecDepth 100000
def leH (H : Nat → Nat) (a b : Nat) : Prop := H b < H a ∨ (H a = H b ∧ a ≤ b)
abbrev zBw (H : Nat → Nat) (l : List Nat) : Prop := l.Pairwise (leH H)
end Go.Proofs.Ytodliknibbafeaa
end
section
namespace Go.Proofs.Ytodliknibbafeaa
open Go
set_option maxRecDepth 100000
def hL (N : Nat) (h : Nat → Nat) : List Int := (List.range N).map fun i => ((h i : Nat) : Int)
structure RndH (N : Nat) (b : Nat → Nat → Bool) (z : Nat → Bool) (h0 : Nat → Nat) (ch : Bool) (h : Nat → Nat) : Prop where
  lo : ∀ i, i < N → h0 i ≤ h i
  hi : ∀ i, i < N → h i ≤ zwO N b z i
  no : ch = false → ∀ i, i < N → h i = h0 i
  yes : ch = true → ∃ i, i < N ∧ h0 i < h i
section
variable {d : DFA} {m n : Nat} {S : List Nat} (hd : DfaOk d m n) (hn : n ≤ 7) (hS : SetsP d m n S) (hpos : ∀ x ∈ S, x ≠ 0)
include hd hn hS hpos
end
end Go.Proofs.Ytodliknibbafeaa
end
section
namespace Go.Proofs.Ytodliknibbafeaa
open Go
set_option maxRecDepth 100000
section
variable {d : DFA} {m n : Nat} {S : List Nat} (hd : DfaOk d m n) (hn : n ≤ 7) (hS : SetsP d m n S) (hpos : ∀ x ∈ S, x ≠ 0)
include hd hn hS hpos
end
end Go.Proofs.Ytodliknibbafeaa
end
section
namespace Go.Proofs.Ytodliknibbafeaa
open Go
set_option maxRecDepth 100000
def hC (d : DFA) (m n : Nat) (S : List Nat) (c : Nat) : Nat := z8u d m n S (z3x d m n S c)
def znD (d : DFA) (m n : Nat) (S : List Nat) (k : Nat) : List Nat := (List.range (z0O (z1M d m n S) k).length).filter fun c => decide (0 < hC d m n S c)
def zE3 (d : DFA) (m n : Nat) (S : List Nat) : Prop := ∀ i, i < S.length → z8u d m n S i = z8u d m n S (z5L d m n S i)
section
variable {d : DFA} {m n : Nat} {S : List Nat} (hd : DfaOk d m n) (hn : n ≤ 7) (hS : SetsP d m n S) (hH : zE3 d m n S)
include hd hn hS hH
end
end Go.Proofs.Ytodliknibbafeaa
end
section
namespace Go.Proofs.Ytodliknibbafeaa
open Go
noncomputable section
set_option maxRecDepth 100000
set_option maxHeartbeats 6000000
end
end Go.Proofs.Ytodliknibbafeaa
end
section
namespace Go.Proofs.Ytodliknibbafeaa
open Go
set_option maxRecDepth 100000
def zwk (d : DFA) (m n : Nat) (S : List Nat) (c : Nat) : Hol := ⟨((S.getD (z3x d m n S c) 0 : Nat) : Int), toI (z4o S (z3x d m n S c)), (zv5 d m n S (z4o S (z3x d m n S c)) c S.length).1, (zv5 d m n S (z4o S (z3x d m n S c)) c S.length).2.map toI⟩
theorem zql {N k : Nat} (h : k < N) : (List.range N).getD k 0 = k := by simp [List.getD, h]
theorem zvH {S : List Nat} {k : Nat} : (z4o S k).length = (zcr S k).length := by simp [z4o]
section
variable {d : DFA} {m n : Nat} {S : List Nat} (hd : DfaOk d m n) (hn : n ≤ 7) (hS : SetsP d m n S)
include hd hn hS
theorem zvI {k : Nat} (hk : k < S.length) : (z4o S k).length ≤ 128 := by
  have h128 : 2 ^ n ≤ 128 := Nat.pow_le_pow_right (n := 2) (by omega) hn
  obtain ⟨h1, h2⟩ := za3 hd hn hS hk
  have := z1E h1 fun t ht => (h2 t ht).2.2
  omega
end
end Go.Proofs.Ytodliknibbafeaa
end
section
namespace Go.Proofs.Ytodliknibbafeaa
open Go
set_option maxRecDepth 100000
theorem zuJ {d : DFA} {m n : Nat} {S : List Nat} {c B : Nat} {st : HS} (h : HInv d m n S c B st) : ∀ y ∈ st.2, y.length = (z4o S (z3x d m n S c)).length := fun y hy => by
  obtain ⟨j, hj, rfl⟩ := List.getElem_of_mem hy
  obtain ⟨w, _, _, _, e⟩ := h.ok j (by rw [h.len]; exact hj)
  rw [List.getD, List.getElem?_eq_getElem hj, Option.getD_some] at e
  rw [e, znB]
theorem zt5 {d : DFA} {m n : Nat} {S : List Nat} {c B : Nat} {st : HS} (h : HInv d m n S c B st) {j : Nat} (hj : j < st.1.length) : Lead d m n (S.getD (z3x d m n S c) 0) (S.getD (z3x d m n S c) 0) (st.1.getD j ByteArray.empty).data.toList ∧ (st.1.getD j ByteArray.empty).size ≤ 2 * 2 ^ n + 1 ∧ st.2.getD j [] = z5J d (st.1.getD j ByteArray.empty).data.toList (z4o S (z3x d m n S c)) := by
  obtain ⟨w, e1, e2, e3, e4⟩ := h.ok j hj
  rw [e1]; exact ⟨e2, e3, e4⟩
section
variable {d : DFA} {m n : Nat} {S : List Nat} (hd : DfaOk d m n) (hn : n ≤ 7) (hS : SetsP d m n S)
include hd hn hS
end
end Go.Proofs.Ytodliknibbafeaa
end
section
namespace Go.Proofs.Ytodliknibbafeaa
open Go
set_option maxRecDepth 100000
def z9m (d : DFA) (m n : Nat) (S : List Nat) (c k : Nat) : List Nat := (List.range k).filter fun j => decide (clN d m n S j = c)
def zeE (d : DFA) (m n : Nat) (S : List Nat) (k : Nat) : List (List Int) := (List.range (z0O (z1M d m n S) k).length).map fun c => toI (z9m d m n S c k)
theorem zeF (d : DFA) (m n : Nat) (S : List Nat) (c k : Nat) : z9m d m n S c (k + 1) = if clN d m n S k = c then z9m d m n S c k ++ [k] else z9m d m n S c k := by
  unfold z9m
  rw [List.range_succ, List.filter_append, List.filter_cons, List.filter_nil]
  by_cases h : clN d m n S k = c
  · rw [if_pos h, if_pos (by simpa using h)]
  · rw [if_neg h, if_neg (by simpa using h), List.append_nil]
section
variable {d : DFA} {m n : Nat} {S : List Nat} (hd : DfaOk d m n) (hn : n ≤ 7) (hS : SetsP d m n S)
include hd hn hS
theorem zAs {i : Nat} (hi : i < S.length) {j : Nat} (hj : j < i) : clN d m n S j < (z0O (z1M d m n S) i).length := by
  have _u := hn
  have he := z7o hd hS
  obtain ⟨R, hR⟩ := zc7 (z1M d m n S) (i := j + 1) i (by omega)
  have hl : (z0O (z1M d m n S) i).length = (z0O (z1M d m n S) (j + 1)).length + R.length := by rw [hR, List.length_append]
  rcases zeU he (show j < S.length by omega) with ⟨h1, _, h3⟩ | ⟨h1, _, h3⟩
  · rw [h3] at hl
    unfold clN; omega
  · rw [h3, List.length_append, List.length_singleton] at hl
    unfold clN; omega
theorem zuv {i : Nat} (hi : i < S.length) : z9m d m n S (z0O (z1M d m n S) i).length i = [] := by
  unfold z9m
  refine List.filter_eq_nil_iff.2 fun j hj => ?_
  have := zAs hd hn hS hi (List.mem_range.1 hj)
  simp only [decide_eq_true_eq]
  omega
theorem zuu {i : Nat} (hi : i < S.length) (hSl : S.length ≤ 1000) : z2v (z3X d m n S) ((i : Int), zeE d m n S i) = z0n (((i + 1 : Nat) : Int), zeE d m n S (i + 1)) := by
  have he := z7o hd hS
  have l2 : (z3X d m n S).class_.length = S.length := by simp [z3X, ztX]
  have hcat : atI (z3X d m n S).class_ (i : Int) = some ((clN d m n S i : Nat) : Int) := z2H hi
  have hml : (zeE d m n S i).length = (z0O (z1M d m n S) i).length := by simp [zeE]
  have hfl := z7k (z1M d m n S) i
  have hcl : ∀ c, (toI (z9m d m n S c i)).length ≤ i := fun c => by
    rw [z0l]; unfold z9m
    exact Nat.le_trans (List.length_filter_le _ _) (by rw [List.length_range]; omega)
  simp only [z2v]
  rw [l2, if_pos (by omega), hcat, Option.bind_some]
  rcases zeU he hi with ⟨h1, _, h3⟩ | ⟨h1, _, h3⟩
  · have h1' : clN d m n S i < (z0O (z1M d m n S) i).length := h1
    have hc := hcl (clN d m n S i)
    have hat : atI (zeE d m n S i) ((clN d m n S i : Nat) : Int) = some (toI (z9m d m n S (clN d m n S i) i)) := z2H h1'
    rw [if_neg (by omega), hat, Option.bind_some, z0w _ (by unfold z2Q; omega), z1O (by omega), Int.toNat_natCast]
    congr 2
    refine List.ext_getElem (by simp [zeE, h3]) fun c c1 c2 => ?_
    have hc' : c < (z0O (z1M d m n S) i).length := by simpa [zeE] using c1
    rw [List.getElem_set]
    simp only [zeE, List.getElem_map, List.getElem_range]
    rw [zeF]
    by_cases e : clN d m n S i = c
    · rw [if_pos e, if_pos e, z4R, e]
    · rw [if_neg e, if_neg e]
  · have h1' : clN d m n S i = (z0O (z1M d m n S) i).length := h1
    have hat : atI (zeE d m n S i ++ [[]]) ((clN d m n S i : Nat) : Int) = some [] := at0 (zeE d m n S i) [] [] (by omega)
    rw [if_pos (by omega), z0w _ (by unfold z2Q; omega), hat, Option.bind_some, z0w _ (by unfold z2Q; simp), z1O (by omega), Int.toNat_natCast, List.nil_append, zvX (zeE d m n S i) [] _ [] (by omega)]
    congr 2
    have hlen : (z0O (z1M d m n S) (i + 1)).length = (z0O (z1M d m n S) i).length + 1 := by rw [h3, List.length_append, List.length_singleton]
    show zeE d m n S i ++ [[((i : Nat) : Int)]] = zeE d m n S (i + 1)
    unfold zeE
    rw [hlen, List.range_succ, List.map_append, List.map_cons, List.map_nil]
    congr 1
    · refine List.map_congr_left fun c hc => ?_
      have := List.mem_range.1 hc
      rw [zeF, if_neg (by omega)]
    · rw [zeF, if_pos h1', zuv hd hn hS hi, List.nil_append]; rfl
theorem zuw {c : Nat} (hc : c < (z6F d m n S).length) : ∃ R, z9m d m n S c S.length = z3x d m n S c :: R := by
  obtain ⟨h1, h2⟩ := z4y hd hn hS hc
  have hh : (z9m d m n S c S.length).head? = some (z3x d m n S c) := by
    unfold z9m
    rw [List.head?_filter, List.find?_range_eq_some]
    refine ⟨by simpa using h1, List.mem_range.2 h2, fun j hj => ?_⟩
    simp only [Bool.not_eq_true', decide_eq_false_iff_not]
    intro e
    have := ztf hd hn hS (i := j) (by omega)
    have e3 : z3x d m n S c = z5L d m n S j := by unfold z3x; rw [← e]; rfl
    omega
  cases h : z9m d m n S c S.length with
  | nil => rw [h] at hh; cases hh
  | cons x R =>
    rw [h] at hh
    exact ⟨R, by rw [Option.some.inj hh]⟩
theorem znL {c : Nat} (hc : c < (z6F d m n S).length) : atI (zeE d m n S S.length) (c : Int) = some (toI (z9m d m n S c S.length)) ∧ atI (toI (z9m d m n S c S.length)) 0 = some ((z3x d m n S c : Nat) : Int) := by
  obtain ⟨R, hR⟩ := zuw hd hn hS hc
  refine ⟨z2H hc, ?_⟩
  rw [hR]
  exact at0 [] _ _ (i := 0) rfl
theorem zmN (hSl : S.length ≤ 1000) : ∃ O, z3n (z3X d m n S) = some (toI O, zeE d m n S S.length) ∧ zBw (hC d m n S) O ∧ O.Perm (znD d m n S S.length) := by
  have he := z7o hd hS
  have l2 : (z3X d m n S).class_.length = S.length := by simp [z3X, ztX]
  have hhat : ∀ i, i < S.length → atI (z3X d m n S).height (i : Int) = some ((z8u d m n S i : Nat) : Int) := fun i hi => z2H hi
  have hml : (zeE d m n S S.length).length = (z6F d m n S).length := by simp [zeE, z6F]
  have hfl : (z6F d m n S).length ≤ S.length := z7k (z1M d m n S) S.length
  have hko : ∀ c, c < (z6F d m n S).length → zwg (zeE d m n S S.length) (z3X d m n S).height (c : Int) = some ((hC d m n S c : Nat) : Int) := fun c hc => by
    obtain ⟨m1, m2⟩ := znL hd hn hS hc
    unfold zwg
    rw [m1, Option.bind_some, m2, Option.bind_some, hhat _ (z4y hd hn hS hc).2]; rfl
  have hout : ∀ c ∈ znD d m n S S.length, c < (z6F d m n S).length := fun c hc => List.mem_range.1 (List.mem_filter.1 hc).1
  have hol : (znD d m n S S.length).length ≤ S.length := by
    unfold znD
    exact Nat.le_trans (List.length_filter_le _ _) (by rw [List.length_range]; exact hfl)
  have hasc : (toI (znD d m n S S.length)).Pairwise (· < ·) := by
    unfold toI znD
    exact List.Pairwise.map _ (fun a b (h : a < b) => by omega) (List.Pairwise.filter _ List.pairwise_lt_range)
  obtain ⟨Z, e, z1, z2⟩ := zs9 (K := zwR (z3X d m n S).sets (z3X d m n S).class_ (z3X d m n S).height (z3X d m n S).tiles (z3X d m n S).words (z3X d m n S).back (zeE d m n S S.length)) (l := toI (znD d m n S S.length))
    (fun x hx => by
      obtain ⟨c, hc, rfl⟩ := List.mem_map.1 hx
      have := hout c hc
      exact ⟨by omega, by omega, by rw [hko c this]; rfl⟩) hasc (by rw [z0l]; omega)
  have hZ : ∃ O, Z = toI O ∧ O.Perm (znD d m n S S.length) := by
    refine ⟨Z.map Int.toNat, ?_, ?_⟩
    · unfold toI
      rw [List.map_map]
      refine (List.map_id' Z).symm.trans (List.map_congr_left fun x hx => ?_)
      obtain ⟨c, hc, rfl⟩ := List.mem_map.1 (z2.mem_iff.1 hx)
      simp
    · have := z2.map Int.toNat
      refine this.trans ?_
      unfold toI
      rw [List.map_map]
      have : (Int.toNat ∘ fun x : Nat => (x : Int)) = id := by funext x; simp
      rw [this, List.map_id]
  obtain ⟨O, rfl, hO⟩ := hZ
  refine ⟨O, ?_, ?_, hO⟩
  · unfold z3n
    refine z1a (s := ((0 : Int), ([] : List (List Int)))) S.length (fun k => ((k : Int), zeE d m n S k)) rfl (by simp only [LFm]; omega) (fun i hi => zuu hd hn hS hi hSl) ?_
    simp only [z2v]
    rw [l2, if_neg (by omega)]
    congr 1
    refine z1a (s := ((0 : Int), ([] : List Int))) (z6F d m n S).length (fun k => ((k : Int), toI ((List.range k).filter fun c => decide (0 < hC d m n S c)))) rfl (by simp only [LFm]; omega) (fun c hc => ?_) ?_
    · obtain ⟨m1, m2⟩ := znL hd hn hS hc
      have hq : (toI ((List.range c).filter fun c => decide (0 < hC d m n S c))).length ≤ c := by
        rw [z0l]
        exact Nat.le_trans (List.length_filter_le _ _) (by rw [List.length_range]; omega)
      simp only [z2Z]
      rw [hml, if_pos (by omega), m1, Option.bind_some, m2, Option.bind_some, hhat _ (z4y hd hn hS hc).2, Option.bind_some, z1O (by omega), List.range_succ, List.filter_append, List.filter_cons, List.filter_nil]
      by_cases h : 0 < hC d m n S c
      · have h' : 0 < z8u d m n S (z3x d m n S c) := h
        rw [if_pos (by omega), z0w _ (by unfold z2Q; omega), if_pos (by simpa using h), z4R]
      · have h' : ¬ 0 < z8u d m n S (z3x d m n S c) := h
        rw [if_neg (by omega), if_neg (by simpa using h), List.append_nil]
    · simp only [z2Z]
      rw [hml, if_neg (by omega), zs7]
      have e' : toI ((List.range (z6F d m n S).length).filter fun c => decide (0 < hC d m n S c)) = toI (znD d m n S S.length) := rfl
      rw [e', e, Option.bind_some]
  · have z1' : (O.map fun x : Nat => (x : Int)).Pairwise _ := z1
    rw [List.pairwise_map] at z1'
    refine List.Pairwise.imp_of_mem (fun {x y} hx hy h => ?_) z1'
    have ox := hout x (hO.mem_iff.1 hx)
    have oy := hout y (hO.mem_iff.1 hy)
    have h3 : (x : Int) - (zwg (zeE d m n S S.length) (z3X d m n S).height (x : Int)).getD 0 * 1048576 ≤ (y : Int) - (zwg (zeE d m n S S.length) (z3X d m n S).height (y : Int)).getD 0 * 1048576 := h
    rw [hko x ox, hko y oy, Option.getD_some, Option.getD_some] at h3
    unfold leH
    omega
end
end Go.Proofs.Ytodliknibbafeaa
end
section
namespace Go.Proofs.Ytodliknibbafeaa
open Go
noncomputable section
set_option maxRecDepth 100000
set_option maxHeartbeats 6000000
abbrev z3k (a0 : DFA) (a1 : ByteArray) (w79 : Int) (w80 : List Int) : Int × List Int → Option ((Int × List Int) ⊕ ((Int × List Int) ⊕ List Int))
  | (w103, w104) =>
  if w103 < (w80.length : Int) then
    (atI w104 w103).bind fun v110 =>
    (atI a0.next v110).bind fun v111 =>
    (zr7 a1 w79).bind fun v112 =>
    (atI v111 (IntKind.u8.wrap (v112 - 97))).bind fun v113 =>
    z0n (IntKind.i64.wrap (w103 + 1), (w104.set w103.toNat v113))
  else
    z0A <|
    z0n (IntKind.i64.wrap (w79 + 1), w104)
instance {a0 : DFA} {a1 : ByteArray} {w79 : Int} {w80 : List Int} : Hd (z3k a0 a1 w79 w80) := ⟨fun (w103, w104) => ([(31, xI w103)], [(5, .os 1 w104.length (w104.map fun x0 => .sc (.int .i64 x0)))])⟩
abbrev z3p (a0 : DFA) (a1 : ByteArray) : Int × List Int → Option ((Int × List Int) ⊕ List Int)
  | (w79, w80) =>
  if w79 < (a1.size : Int) then
    z0u (z3k a0 a1 w79 w80) LFm (0, w80)
  else
    z0A <|
    some w80
instance {a0 : DFA} {a1 : ByteArray} : Hd (z3p a0 a1) := ⟨fun (w79, w80) => ([(26, xI w79)], [(5, .os 1 w80.length (w80.map fun x0 => .sc (.int .i64 x0)))])⟩
abbrev z3q (a0 : DFA) (a1 : ByteArray) : Int × List Int → Option ((Int × List Int) ⊕ List Int)
  | (w58, w59) =>
  if w58 < (a0.final.length : Int) then
    (atI w59 w58).bind fun v61 =>
    z0n (IntKind.i64.wrap (w58 + 1), (w59.set w58.toNat w58))
  else
    z0A <|
    z0u (z3p a0 a1) LFm (0, w59)
instance {a0 : DFA} {a1 : ByteArray} : Hd (z3q a0 a1) := ⟨fun (w58, w59) => ([(16, xI w58)], [(5, .os 1 w59.length (w59.map fun x0 => .sc (.int .i64 x0)))])⟩
def z3f (a0 : DFA) (a1 : ByteArray) : Option (List Int) :=
  chk (z1L 8 (a0.final.length : Int)) <|
  z0u (z3q a0 a1) LFm (0, List.replicate (a0.final.length : Int).toNat (0 : Int))
instance holonomy_action_ok {a0 : DFA} {a1 : ByteArray} : Ok (z3f a0 a1) (fun r => L 37 [.agg [.sc (.int .i64 a0.letters), .sc (.int .i64 a0.start), .sl a0.final.length (a0.final.map fun x0 => .sc (.bool x0)), .sl a0.next.length (a0.next.map fun x0 => .sl x0.length (x0.map fun x1 => .sc (.int .i64 x1)))], .sc (.string a1)] = some (.os 1 r.length (r.map fun x0 => .sc (.int .i64 x0)), [.dead, .dead])) := ⟨fun r h => by have h := z5B h; unfold z3f at h; exact z5O zAQ zCp zDP⟩
abbrev z3E (a0 : List Int) (a1 : Int) : Int × Int → Option ((Int × Int) ⊕ Int)
  | (w7, w8) =>
  if w8 < (a0.length : Int) then
    (atI a0 w8).bind fun v10 =>
    chk (¬ w8 < 0) <|
    if (z1T .i64 (z0e .i64 a1 w8) 1) = 1 then
      chk (¬ v10 < 0) <|
      z0n (orI .i64 w7 (zqi .i64 1 v10), IntKind.i64.wrap (w8 + 1))
    else
      z0n (w7, IntKind.i64.wrap (w8 + 1))
  else
    z0A <|
    some w7
instance {a0 : List Int} {a1 : Int} : Hd (z3E a0 a1) := ⟨fun (w7, w8) => ([(5, xI w7), (10, xI w8)], [])⟩
def z2p (a0 : List Int) (a1 : Int) : Option (Int) :=
  z0u (z3E a0 a1) LFm (0, 0)
instance holonomy_apply_ok {a0 : List Int} {a1 : Int} : Ok (z2p a0 a1) (fun r => L 38 [.sl a0.length (a0.map fun x0 => .sc (.int .i64 x0)), .sc (.int .i64 a1)] = some (.sc (.int .i64 r), [.dead, .dead])) := ⟨fun r h => by have h := z5B h; unfold z2p at h; exact z5O zAP zCo zDO⟩
abbrev z2O (a0 : List Int) : Int → Option (Int ⊕ Bool)
  | w6 =>
  if w6 < (a0.length : Int) then
    (atI a0 w6).bind fun v8 =>
    if w6 = v8 then
      z0n (IntKind.i64.wrap (w6 + 1))
    else
      z0A <|
      some false
  else
    z0A <|
    some true
instance {a0 : List Int} : Hd (z2O a0) := ⟨fun w6 => ([(7, xI w6)], [])⟩
def z2P (a0 : List Int) : Option (Bool) :=
  z0u (z2O a0) LFm 0
instance holonomy_identical_ok {a0 : List Int} : Ok (z2P a0) (fun r => L 56 [.sl a0.length (a0.map fun x0 => .sc (.int .i64 x0))] = some (.sc (.bool r), [.dead])) := ⟨fun r h => by have h := z5B h; unfold z2P at h; exact z5O zAE zCd zDD⟩
abbrev z3P (a0 : List Int) : Int × List Int → Option ((Int × List Int) ⊕ ByteArray)
  | (w7, w8) =>
  if w7 < (a0.length : Int) then
    (atI a0 w7).bind fun v10 =>
    chk (¬ 8 < 0) <|
    chk (z2Q 1 (w8.length + 2)) <|
    z0n (IntKind.i64.wrap (w7 + 1), w8 ++ [IntKind.u8.wrap (z0e .i64 v10 8), IntKind.u8.wrap v10])
  else
    z0A <|
    some (z3S w8)
instance {a0 : List Int} : Hd (z3P a0) := ⟨fun (w7, w8) => ([(12, xI w7)], [(3, .os 1 w8.length (w8.map fun x0 => .sc (.int .u8 x0)))])⟩
def z3D (a0 : List Int) : Option (ByteArray) :=
  chk (z1L 1 (IntKind.i64.wrap (2 * (a0.length : Int)))) <|
  z0u (z3P a0) LFm (0, [])
instance holonomy_text_ok {a0 : List Int} : Ok (z3D a0) (fun r => L 57 [.sl a0.length (a0.map fun x0 => .sc (.int .i64 x0))] = some (.sc (.string r), [.dead])) := ⟨fun r h => by have h := z5B h; unfold z3D at h; exact z5O zAD zCc zDC⟩
abbrev z2n (a0 : List Int) (a1 : List Int) (w18 : List (Int × Int)) : Int × List Int → Option ((Int × List Int) ⊕ List Int)
  | (w23, w24) =>
  if w23 < (a1.length : Int) then
    (atI a1 w23).bind fun v28 =>
    (z2p a0 v28).bind fun v29 =>
    (atI w24 w23).bind fun v30 =>
    z0n (IntKind.i64.wrap (w23 + 1), (w24.set w23.toNat ((zeP v29 w18).getD 0)))
  else
    z0A <|
    some w24
instance {a0 : List Int} {a1 : List Int} {w18 : List (Int × Int)} : Hd (z2n a0 a1 w18) := ⟨fun (w23, w24) => ([(30, xI w23)], [(8, .os 1 w24.length (w24.map fun x0 => .sc (.int .i64 x0)))])⟩
abbrev z2o (a0 : List Int) (a1 : List Int) : Int × (List (Int × Int)) → Option ((Int × (List (Int × Int))) ⊕ List Int)
  | (w17, w18) =>
  if w17 < (a1.length : Int) then
    (atI a1 w17).bind fun v20 =>
    z0n (IntKind.i64.wrap (w17 + 1), zfc v20 w17 w18)
  else
    z0A <|
    chk (z1L 8 (a1.length : Int)) <|
    z0u (z2n a0 a1 w18) LFm (0, List.replicate (a1.length : Int).toNat (0 : Int))
instance {a0 : List Int} {a1 : List Int} : Hd (z2o a0 a1) := ⟨fun (w17, w18) => ([(16, xI w17)], [(5, .mp (some .i64) (w18.map fun x0 => (.int .i64 x0.1, .int .i64 x0.2)))])⟩
def z2k (a0 : List Int) (a1 : List Int) : Option (List Int) :=
  z0u (z2o a0 a1) LFm (0, ([] : List (Int × Int)))
instance holonomy_permutation_ok {a0 : List Int} {a1 : List Int} : Ok (z2k a0 a1) (fun r => L 55 [.sl a0.length (a0.map fun x0 => .sc (.int .i64 x0)), .sl a1.length (a1.map fun x0 => .sc (.int .i64 x0))] = some (.os 1 r.length (r.map fun x0 => .sc (.int .i64 x0)), [.dead, .dead])) := ⟨fun r h => by have h := z5B h; unfold z2k at h; exact z5O zAF zCe zDE⟩
end
end Go.Proofs.Ytodliknibbafeaa
end
section
namespace Go.Proofs.Ytodliknibbafeaa
open Go
set_option maxRecDepth 100000
def zml {α : Type} (N : Nat) (f g : Nat → α) (k : Nat) : List α := (List.range N).map fun i => if i < k then f i else g i
theorem zw8 {α : Type} {N : Nat} {f g : Nat → α} {k : Nat} : (zml N f g k).length = N := by simp [zml]
theorem zwa {α : Type} {N : Nat} {f g : Nat → α} : zml N f g 0 = (List.range N).map g := by simp [zml]
theorem zw9 {α : Type} {N : Nat} {f g : Nat → α} : zml N f g N = (List.range N).map f := List.map_congr_left fun i hi => by rw [if_pos (List.mem_range.1 hi)]
theorem zsK {α : Type} {N : Nat} {f g : Nat → α} {k : Nat} (h : k < N) : atI (zml N f g k) (k : Int) = some (g k) := by
  rw [z2y (by rw [zw8]; exact h)]; simp [zml]
theorem zmk {α : Type} {N : Nat} {f g : Nat → α} {k : Nat} (h : k < N) : (zml N f g k).set k (f k) = zml N f g (k + 1) := by
  refine List.ext_getElem (by simp [zml]) fun i h1 h2 => ?_
  have hi : i < N := by simpa [zml] using h2
  rw [List.getElem_set]
  simp only [zml, List.getElem_map, List.getElem_range]
  by_cases e : k = i
  · subst e; rw [if_pos rfl, if_pos (Nat.lt_succ_self k)]
  · rw [if_neg e]
    by_cases h3 : i < k
    · rw [if_pos h3, if_pos (by omega)]
    · rw [if_neg h3, if_neg (by omega)]
abbrev ztT (m : Nat) (w : List UInt8) : Prop := ∀ c ∈ w, 97 ≤ c.toNat ∧ c.toNat < 97 + m
theorem z9a {m : Nat} {c : UInt8} {w : List UInt8} (h : ztT m (c :: w)) : ztT m w ∧ c.toNat - 97 < m := ⟨fun c' hc' => h c' (List.mem_cons_of_mem _ hc'), by have := h c (List.mem_cons_self ..); omega⟩
def nxN (d : DFA) (q a : Nat) : Nat := ((d.next.getD q []).getD a 0).toNat
def zl6 (d : DFA) : Nat → List UInt8 → Nat
  | q, [] => q
  | q, c :: w => zl6 d (nxN d q (c.toNat - 97)) w
theorem zhu (d : DFA) : ∀ (q : Nat) (u v : List UInt8), zl6 d q (u ++ v) = zl6 d (zl6 d q u) v
  | q, [], v => rfl
  | q, c :: u, v => by simp only [List.cons_append, zl6, zhu]
theorem zur {d : DFA} {m n : Nat} (hd : DfaOk d m n) {q a : Nat} (hq : q < n) (ha : a < m) : ∃ r, atI d.next (q : Int) = some r ∧ atI r (a : Int) = some ((nxN d q a : Nat) : Int) ∧ nxN d q a < n := by
  obtain ⟨h1, h2, h3, h4, h5⟩ := zc0 hd hq ha
  refine ⟨d.next[q], z2y h1, ?_, ?_⟩
  · rw [z2y h2]; unfold nxN; rw [h3]; congr 1; omega
  · unfold nxN; rw [h3]; omega
theorem ztQ {d : DFA} {m n : Nat} (hd : DfaOk d m n) : ∀ {w : List UInt8} {q : Nat}, q < n → ztT m w → zl6 d q w < n
  | [], q, hq, _ => hq
  | c :: w, q, hq, hw => by
    obtain ⟨_, _, _, h⟩ := zur hd hq (z9a hw).2
    exact ztQ (w := w) (q := nxN d q (c.toNat - 97)) hd h (z9a hw).1
theorem zvw {s n p : Nat} (hs : s < 2 ^ n) (h : s.testBit p = true) : p < n := by
  rcases Nat.lt_or_ge p n with h1 | h1
  · exact h1
  · have := Nat.testBit_lt_two_pow (Nat.lt_of_lt_of_le hs (Nat.pow_le_pow_right (n := 2) (by omega) h1))
    rw [this] at h; cases h
theorem zhD {d : DFA} {m n : Nat} (hd : DfaOk d m n) : ∀ {w : List UInt8} {s p : Nat}, ztT m w → s < 2 ^ n → ((z4q d s w).testBit p = true ↔ ∃ i, i < n ∧ s.testBit i = true ∧ zl6 d i w = p)
  | [], s, p, _, hs => by
    refine ⟨fun h => ⟨p, zvw hs h, h, rfl⟩, ?_⟩
    rintro ⟨i, _, h, rfl⟩; exact h
  | c :: w, s, p, hw, hs => by
    have ha := (z9a hw).2
    rw [z4q, zhD hd (z9a hw).1 (zhi hd ha)]
    constructor
    · rintro ⟨j, h1, h2, h3⟩
      obtain ⟨i, i1, i2, i3⟩ := (z7c hd ha j).1 h2
      exact ⟨i, i1, i2, by rw [zl6, nxN, i3]; exact h3⟩
    · rintro ⟨i, h1, h2, h3⟩
      obtain ⟨_, _, _, h⟩ := zur hd h1 ha
      exact ⟨_, h, (z7c hd ha _).2 ⟨i, h1, h2, rfl⟩, h3⟩
def zou (d : DFA) (n : Nat) (w : List UInt8) : List Nat := (List.range n).map fun q => zl6 d q w
theorem zB3 (d : DFA) (n : Nat) (w : List UInt8) : toI (zou d n w) = (List.range n).map fun q => ((zl6 d q w : Nat) : Int) := by simp [toI, zou]
theorem zl5 {d : DFA} {m n : Nat} (hd : DfaOk d m n) (hn : n ≤ 12) {w : ByteArray} (hw : ztT m w.data.toList) (hs : w.size < 2 ^ 40) : z3f d w = some (toI (zou d n w.data.toList)) := by
  have hl : w.data.toList.length = w.size := by rw [Array.length_toList]; rfl
  have hm := hd.m6
  unfold z3f
  rw [hd.fin, z0w _ (by unfold z1L; omega), Int.toNat_natCast]
  refine z1a (s := ((0 : Int), List.replicate n (0 : Int))) n (fun k => ((k : Int), zml n (fun q => (q : Int)) (fun _ => 0) k)) (by rw [zwa]; congr 1; exact (List.ext_getElem (by simp) fun i h1 h2 => by simp)) (by simp only [LFm]; omega) (fun k hk => ?_) ?_
  · simp only [z3q]
    rw [hd.fin, if_pos (by omega), zsK hk, Option.bind_some, z1O (by omega), Int.toNat_natCast, zmk hk]
  · simp only [z3q]
    rw [hd.fin, if_neg (by omega), zw9]
    congr 1
    refine z1a (s := ((0 : Int), (List.range n).map fun q : Nat => (q : Int))) w.size (fun k => ((k : Int), toI (zou d n (w.data.toList.take k)))) (by rw [zB3]; rfl) (by simp only [LFm]; omega) (fun k hk => ?_) ?_
    · have hk' : k < w.data.toList.length := by omega
      have hc := hw _ (List.getElem_mem hk')
      have hb : w[k] = w.data.toList[k] := by rw [ztB hk, List.getD, List.getElem?_eq_getElem hk', Option.getD_some]
      have ht : ztT m (w.data.toList.take k) := fun c hc => hw c (List.mem_of_mem_take hc)
      simp only [z3p]
      rw [if_pos (by omega)]
      have hst : ∀ q, zl6 d q (w.data.toList.take (k + 1)) = nxN d (zl6 d q (w.data.toList.take k)) (w.data.toList[k].toNat - 97) := fun q => by
        rw [zrZ hk', zhu]; rfl
      refine z1a (s := ((0 : Int), toI (zou d n (w.data.toList.take k)))) n (fun q => ((q : Int), zml n (fun q => ((zl6 d q (w.data.toList.take (k + 1)) : Nat) : Int)) (fun q => ((zl6 d q (w.data.toList.take k) : Nat) : Int)) q)) (by rw [zwa, zB3]; rfl) (by simp only [LFm]; omega) (fun q hq => ?_) ?_
      · obtain ⟨r, r1, r2, r3⟩ := zur hd (ztQ hd hq ht) (a := w.data.toList[k].toNat - 97) (by omega)
        have h256 : w[k].toNat < 256 := w[k].toNat_lt
        have wl : IntKind.u8.wrap ((w.data.toList[k].toNat : Int) - 97) = ((w.data.toList[k].toNat - 97 : Nat) : Int) := by
          rw [IntKind.wrap_u8]; rw [hb] at h256; omega
        simp only [z3k]
        rw [if_pos (by rw [z0l]; simp [zou]; omega), zsK hq, Option.bind_some, r1, Option.bind_some, ztC hk, Option.bind_some, hb, wl, r2, Option.bind_some, z1O (by omega), Int.toNat_natCast, ← hst, zmk hq]
      · simp only [z3k]
        rw [if_neg (by rw [z0l]; simp [zou]), zw9, z1O (by omega), zB3]
    · simp only [z3p]
      rw [if_neg (by omega), ← hl, List.take_length]
def zre (F : List Nat) (s : Nat) : Nat → Nat
  | 0 => 0
  | k + 1 => if s.testBit k = true then zre F s k ||| 2 ^ F.getD k 0 else zre F s k
theorem zos {F : List Nat} {s p : Nat} : ∀ k, (zre F s k).testBit p = true ↔ ∃ i, i < k ∧ s.testBit i = true ∧ F.getD i 0 = p
  | 0 => by simp [zre]
  | k + 1 => by
    have ih := zos (F := F) (s := s) (p := p) k
    unfold zre
    by_cases hb : s.testBit k = true
    · rw [if_pos hb, Nat.testBit_or, Bool.or_eq_true, ih, Nat.testBit_two_pow]
      constructor
      · rintro (⟨i, h1, h2, h3⟩ | h)
        · exact ⟨i, by omega, h2, h3⟩
        · exact ⟨k, by omega, hb, by simpa using h⟩
      · rintro ⟨i, h1, h2, h3⟩
        by_cases e : i = k
        · subst e; right; simpa using h3
        · left; exact ⟨i, by omega, h2, h3⟩
    · rw [if_neg hb, ih]
      constructor
      · rintro ⟨i, h1, h2, h3⟩; exact ⟨i, by omega, h2, h3⟩
      · rintro ⟨i, h1, h2, h3⟩
        by_cases e : i = k
        · subst e; exact absurd h2 hb
        · exact ⟨i, by omega, h2, h3⟩
theorem zmR {F : List Nat} {s n : Nat} (hF : ∀ x ∈ F, x < n) : ∀ k, k ≤ F.length → zre F s k < 2 ^ n
  | 0, _ => Nat.two_pow_pos n
  | k + 1, hk => by
    unfold zre
    split
    · exact zw2 (zmR hF k (by omega)) (Nat.pow_lt_pow_right (by omega) (hF _ (z0F (by omega))))
    · exact zmR hF k (by omega)
theorem zv1 {F : List Nat} {s n : Nat} (hn : n ≤ 12) (hF : ∀ x ∈ F, x < n) (hl : F.length ≤ 60) (hs : s < 2 ^ 62) : z2p (toI F) (s : Int) = some ((zre F s F.length : Nat) : Int) := by
  unfold z2p
  have h62 : ∀ k, k ≤ F.length → zre F s k < 2 ^ 62 := fun k hk => Nat.lt_of_lt_of_le (zmR hF k hk) (Nat.pow_le_pow_right (by omega) (by omega))
  refine z1a (s := ((0 : Int), (0 : Int))) F.length (fun k => (((zre F s k : Nat) : Int), (k : Int))) rfl (by simp only [LFm]; omega) (fun k hk => ?_) ?_
  · have hx := hF _ (z0F hk)
    simp only [z3E]
    rw [if_pos (by rw [z0l]; omega), z2C hk, Option.bind_some, z0w _ (by omega), z1O (by omega)]
    have hb := zmP (a := s) (q := k) hs (by omega)
    by_cases h : s.testBit k = true
    · rw [if_pos (hb.2 h), z0w _ (by omega), z8c (by omega), zsE (h62 k (by omega)) (Nat.pow_lt_pow_right (by omega) (by omega))]
      simp only [zre]; rw [if_pos h]
    · rw [if_neg (fun e => h (hb.1 e))]
      simp only [zre]; rw [if_neg h]
  · simp only [z3E]
    rw [if_neg (by rw [z0l]; omega)]
theorem zl2 {d : DFA} {m n : Nat} (hd : DfaOk d m n) (hn : n ≤ 12) {w : List UInt8} (hw : ztT m w) {s : Nat} (hs : s < 2 ^ n) : z2p (toI (zou d n w)) (s : Int) = some ((z4q d s w : Nat) : Int) := by
  have hF : ∀ x ∈ zou d n w, x < n := fun x hx => by
    obtain ⟨q, hq, rfl⟩ := List.mem_map.1 hx
    exact ztQ hd (List.mem_range.1 hq) hw
  have hl : (zou d n w).length = n := by simp [zou]
  rw [zv1 hn hF (by omega) (Nat.lt_of_lt_of_le hs (Nat.pow_le_pow_right (by omega) (by omega)))]
  congr 2
  refine Nat.eq_of_testBit_eq fun p => ?_
  rw [Bool.eq_iff_iff, zos, zhD hd hw hs, hl]
  refine exists_congr fun i => and_congr_right fun hi => and_congr_right fun _ => ?_
  simp [zou, List.getD, hi]
end Go.Proofs.Ytodliknibbafeaa
end
section
namespace Go.Proofs.Ytodliknibbafeaa
open Go
set_option maxRecDepth 100000
theorem zfj {d : DFA} {m n : Nat} (hd : DfaOk d m n) (hn : n ≤ 12) {T : List Nat} (hT : T.Nodup) (hl : T.length ≤ 1000) (hlt : ∀ t ∈ T, t < 2 ^ n) {w : List UInt8} (hw : ztT m w) (hr : ∀ t ∈ T, z4q d t w ∈ T) : z2k (toI (zou d n w)) (toI T) = some (toI (z5J d w T)) := by
  unfold z2k
  refine z1a (s := ((0 : Int), ([] : List (Int × Int)))) T.length (fun k => ((k : Int), zi1 T k)) rfl (by simp only [LFm]; omega) (fun k hk => ?_) ?_
  · simp only [z2o]
    rw [if_pos (by rw [z0l]; omega), z2C hk, Option.bind_some, z1O (by omega)]
    rfl
  · simp only [z2o]
    rw [if_neg (by rw [z0l]; omega), z0l, z0w _ (by unfold z1L; omega), Int.toNat_natCast]
    congr 1
    have e0 : toI (z5J d w T) = (List.range T.length).map fun k => ((T.idxOf (z4q d (T.getD k 0) w) : Nat) : Int) := by
      refine List.ext_getElem (by simp [toI, z5J]) fun i h1 h2 => ?_
      have hi : i < T.length := by simpa [toI, z5J] using h1
      simp [toI, z5J, List.getD, hi]
    rw [e0]
    refine z1a (s := ((0 : Int), List.replicate T.length (0 : Int))) T.length (fun k => ((k : Int), zml T.length (fun k => ((T.idxOf (z4q d (T.getD k 0) w) : Nat) : Int)) (fun _ => 0) k)) (by rw [zwa]; congr 1; exact (List.ext_getElem (by simp) fun i h1 h2 => by simp)) (by simp only [LFm]; omega) (fun k hk => ?_) ?_
    · have hm := hr _ (z0F hk)
      have hg := zi0 hT T.length (Nat.le_refl _) (z6B hm)
      rw [z3v hm] at hg
      simp only [z2n]
      rw [if_pos (by rw [z0l]; omega), z2C hk, Option.bind_some, zl2 hd hn hw (hlt _ (z0F hk)), Option.bind_some, zsK hk, Option.bind_some, z1O (by omega), Int.toNat_natCast, hg, Option.getD_some, zmk (f := fun k => ((T.idxOf (z4q d (T.getD k 0) w) : Nat) : Int)) hk]
    · simp only [z2n]
      rw [if_neg (by rw [z0l]; omega), zw9]
theorem zkM {p : List Nat} (hl : p.length ≤ 100000) : z2P (toI p) = some (decide (p = List.range p.length)) := by
  unfold z2P
  rw [z7d (s := (0 : Int)) p.length (fun k => (k : Int)) (fun k => !decide (p.getD k 0 = k)) (fun _ => some false) (x := some true) rfl (by simp only [LFm]; omega) ?_ ?_]
  · rw [zia]
    simp only [Bool.not_not]
    have : ((List.range p.length).all fun k => decide (p.getD k 0 = k)) = decide (p = List.range p.length) := by
      rw [Bool.eq_iff_iff, decide_eq_true_eq, List.all_eq_true]
      constructor
      · intro h
        refine List.ext_getElem (by simp) fun i h1 h2 => ?_
        have := h i (List.mem_range.2 h1)
        rw [decide_eq_true_eq, List.getD, List.getElem?_eq_getElem h1, Option.getD_some] at this
        rw [this, List.getElem_range]
      · intro h k hk
        have hk := List.mem_range.1 hk
        rw [decide_eq_true_eq]
        rw [h, zql hk]
    rw [this]
    cases decide (p = List.range p.length) <;> rfl
  · intro k hk
    simp only [z2O]
    rw [if_pos (by rw [z0l]; omega), z2C hk, Option.bind_some, z1O (by omega)]
    by_cases h : p.getD k 0 = k
    · rw [if_pos (by omega), decide_eq_true h, if_neg (by simp)]
    · rw [if_neg (by omega), decide_eq_false h, if_pos (by simp)]
  · simp only [z2O]
    rw [if_neg (by rw [z0l]; omega)]
def zhx (p : List Nat) : List Int := p.flatMap fun k => [((k / 256 : Nat) : Int), ((k % 256 : Nat) : Int)]
theorem zvK {p : List Nat} (hl : p.length ≤ 100000) (hp : ∀ k ∈ p, k < 65536) : z3D (toI p) = some (z3S (zhx p)) := by
  have hlen : ∀ q : List Nat, (zhx q).length = 2 * q.length := fun q => by
    unfold zhx; rw [zo5 (m := 2) (fun _ => rfl)]; omega
  unfold z3D
  rw [z0l, z2B (by omega) (by omega), z0w _ (by unfold z1L; omega)]
  refine z1a (s := ((0 : Int), ([] : List Int))) p.length (fun k => ((k : Int), zhx (p.take k))) rfl (by simp only [LFm]; omega) (fun k hk => ?_) ?_
  · have h1 := hp _ (z0F hk)
    have h2 := hlen (p.take k)
    rw [List.length_take] at h2
    have e1 : IntKind.u8.wrap (z0e .i64 ((p.getD k 0 : Nat) : Int) 8) = ((p.getD k 0 / 256 : Nat) : Int) := by
      have := znw (a := p.getD k 0) (q := 8) (by omega)
      rw [show ((8 : Nat) : Int) = 8 from rfl] at this
      rw [this, Nat.shiftRight_eq_div_pow, IntKind.wrap_u8]; omega
    have e2 : IntKind.u8.wrap ((p.getD k 0 : Nat) : Int) = ((p.getD k 0 % 256 : Nat) : Int) := by rw [IntKind.wrap_u8]; omega
    simp only [z3P]
    rw [if_pos (by rw [z0l]; omega), z2C hk, Option.bind_some, z0w _ (by omega), z0w _ (by unfold z2Q; omega), z1O (by omega), e1, e2, za4 hk]
    unfold zhx
    rw [List.flatMap_append]
    rfl
  · simp only [z3P]
    rw [if_neg (by rw [z0l]; omega), List.take_length]
theorem zvE : ∀ {p q : List Nat}, (∀ k ∈ p, k < 65536) → (∀ k ∈ q, k < 65536) → p.length = q.length → z3S (zhx p) = z3S (zhx q) → p = q := by
  have key : ∀ {p q : List Nat}, (∀ k ∈ p, k < 65536) → (∀ k ∈ q, k < 65536) → p.length = q.length → (zhx p).map (fun z : Int => UInt8.ofNat z.toNat) = (zhx q).map (fun z : Int => UInt8.ofNat z.toNat) → p = q := by
    intro p
    induction p with
    | nil => intro q _ _ hl _; exact (List.eq_nil_of_length_eq_zero hl.symm).symm
    | cons a p ih =>
      intro q hp hq hl h
      cases q with
      | nil => cases hl
      | cons b q =>
        simp only [zhx, List.flatMap_cons, List.cons_append, List.nil_append, List.map_cons, List.cons.injEq] at h
        obtain ⟨h1, h2, h3⟩ := h
        have ha := hp a (List.mem_cons_self ..)
        have hb := hq b (List.mem_cons_self ..)
        have g1 := congrArg UInt8.toNat h1
        have g2 := congrArg UInt8.toNat h2
        simp only [Int.toNat_natCast, UInt8.toNat_ofNat'] at g1 g2
        have : a = b := by omega
        subst this
        rw [ih (fun k hk => hp k (List.mem_cons_of_mem _ hk)) (fun k hk => hq k (List.mem_cons_of_mem _ hk)) (by simpa using hl) h3]
  intro p q hp hq hl h
  refine key hp hq hl ?_
  have := congrArg ByteArray.data h
  simpa [z3S] using this
end Go.Proofs.Ytodliknibbafeaa
end
section
namespace Go.Proofs.Ytodliknibbafeaa
open Go
noncomputable section
set_option maxRecDepth 100000
set_option maxHeartbeats 6000000
abbrev z1K (a0 : DFA) (a1 : Imgs) (a2 : List (Int × Int)) (v139 : Int) (w145 : List Int) (w191 : Int) (v236 : Int) (v140 : Int) : Int × List ByteArray × List (List Int) × (List (ByteArray × Bool)) → Option ((Int × List ByteArray × List (List Int) × (List (ByteArray × Bool))) ⊕ ((Int × List ByteArray × List (List Int) × (List (ByteArray × Bool))) ⊕ (Hol × Int)))
  | (w249, w250, w251, w252) =>
  if w249 < a0.letters then
    (atI a1.sets v236).bind fun v265 =>
    (z3f a0 ⟨#[UInt8.ofNat (IntKind.u8.wrap (IntKind.i64.wrap (97 + w249))).toNat]⟩).bind fun v266 =>
    (z2p v266 v265).bind fun v267 =>
    (atI a1.class_ ((zeP v267 a2).getD 0)).bind fun v268 =>
    (atI a1.class_ v139).bind fun v269 =>
    if v268 = v269 then
      (atI a1.words v236).bind fun v270 =>
      chk (zap v270 ⟨#[UInt8.ofNat (IntKind.u8.wrap (IntKind.i64.wrap (97 + w249))).toNat]⟩) <|
      (atI a1.back ((zeP v267 a2).getD 0)).bind fun v271 =>
      chk (zap (v270 ++ ⟨#[UInt8.ofNat (IntKind.u8.wrap (IntKind.i64.wrap (97 + w249))).toNat]⟩) v271) <|
      (z3f a0 ((v270 ++ ⟨#[UInt8.ofNat (IntKind.u8.wrap (IntKind.i64.wrap (97 + w249))).toNat]⟩) ++ v271)).bind fun v272 =>
      (z2k v272 w145).bind fun v273 =>
      (z2P v273).bind fun v274 =>
      if v274 = true then
        z0n (IntKind.i64.wrap (w249 + 1), w250, w251, w252)
      else
        (z3D v273).bind fun v275 =>
        if ((zeP v275 w252).getD false) = true then
          z0n (IntKind.i64.wrap (w249 + 1), w250, w251, w252)
        else
          if 2048 < ((v270.size : Int) + 1 + (v271.size : Int)) then
            z0A <|
            z0A <|
            some ((⟨0, [], [], []⟩ : Hol), 3)
          else
            (z3D v273).bind fun v276 =>
            chk (z2Q 16 (w250.length + 1)) <|
            chk (z2Q 24 (w251.length + 1)) <|
            z0n (IntKind.i64.wrap (w249 + 1), w250 ++ [(v270 ++ ⟨#[UInt8.ofNat (IntKind.u8.wrap (IntKind.i64.wrap (97 + w249))).toNat]⟩) ++ v271], w251 ++ [v273], zfc v276 true w252)
    else
      z0n (IntKind.i64.wrap (w249 + 1), w250, w251, w252)
  else
    z0A <|
    z0n (IntKind.i64.wrap (w191 + 1), w250, w251, w252)
instance {a0 : DFA} {a1 : Imgs} {a2 : List (Int × Int)} {v139 : Int} {w145 : List Int} {w191 : Int} {v236 : Int} {v140 : Int} : Hd (z1K a0 a1 a2 v139 w145 w191 v236 v140) := ⟨fun (w249, w250, w251, w252) => ([(61, xI w249)], [(11, .vr [.sc (.int .i64 v140), .os 1 w145.length (w145.map fun x0 => .sc (.int .i64 x0)), .os 1 w250.length (w250.map fun x0 => .sc (.string x0)), .os 1 w251.length (w251.map fun x0 => .os 1 x0.length (x0.map fun x1 => .sc (.int .i64 x1)))]), (14, .mp none (w252.map fun x0 => (.string x0.1, .bool x0.2)))])⟩
abbrev z2Y (a0 : DFA) (a1 : Imgs) (a2 : List (Int × Int)) (a3 : List Int) (v139 : Int) (v140 : Int) (w145 : List Int) : Int × List ByteArray × List (List Int) × (List (ByteArray × Bool)) → Option ((Int × List ByteArray × List (List Int) × (List (ByteArray × Bool))) ⊕ (Hol × Int))
  | (w191, w192, w193, w194) =>
  if w191 < (a3.length : Int) then
    (atI a3 w191).bind fun v236 =>
    z0u (z1K a0 a1 a2 v139 w145 w191 v236 v140) LFm (0, w192, w193, w194)
  else
    z0A <|
    some ((⟨v140, w145, w192, w193⟩ : Hol), 0)
instance {a0 : DFA} {a1 : Imgs} {a2 : List (Int × Int)} {a3 : List Int} {v139 : Int} {v140 : Int} {w145 : List Int} : Hd (z2Y a0 a1 a2 a3 v139 v140 w145) := ⟨fun (w191, w192, w193, w194) => ([(55, xI w191)], [(11, .vr [.sc (.int .i64 v140), .os 1 w145.length (w145.map fun x0 => .sc (.int .i64 x0)), .os 1 w192.length (w192.map fun x0 => .sc (.string x0)), .os 1 w193.length (w193.map fun x0 => .os 1 x0.length (x0.map fun x1 => .sc (.int .i64 x1)))]), (14, .mp none (w194.map fun x0 => (.string x0.1, .bool x0.2)))])⟩
abbrev z3j (a0 : DFA) (a1 : Imgs) (a2 : List (Int × Int)) (a3 : List Int) (v139 : Int) (v140 : Int) (v141 : List Int) : Int × List Int → Option ((Int × List Int) ⊕ (Hol × Int))
  | (w144, w145) =>
  if w144 < (v141.length : Int) then
    (atI v141 w144).bind fun v148 =>
    (atI a1.sets v148).bind fun v149 =>
    chk (z2Q 8 (w145.length + 1)) <|
    z0n (IntKind.i64.wrap (w144 + 1), w145 ++ [v149])
  else
    z0A <|
    z0u (z2Y a0 a1 a2 a3 v139 v140 w145) LFm (0, [], [], ([] : List (ByteArray × Bool)))
instance {a0 : DFA} {a1 : Imgs} {a2 : List (Int × Int)} {a3 : List Int} {v139 : Int} {v140 : Int} {v141 : List Int} : Hd (z3j a0 a1 a2 a3 v139 v140 v141) := ⟨fun (w144, w145) => ([(37, xI w144)], [(11, .vr [.sc (.int .i64 v140), .os 1 w145.length (w145.map fun x0 => .sc (.int .i64 x0)), .os 1 0 [], .os 1 0 []])])⟩
def z3m (a0 : DFA) (a1 : Imgs) (a2 : List (Int × Int)) (a3 : List Int) : Option (Hol × Int) :=
  (atI a3 0).bind fun v139 =>
  (atI a1.sets v139).bind fun v140 =>
  (atI a1.tiles v139).bind fun v141 =>
  z0u (z3j a0 a1 a2 a3 v139 v140 v141) LFm (0, [])
instance holonomy_ofClass_ok {a0 : DFA} {a1 : Imgs} {a2 : List (Int × Int)} {a3 : List Int} : Ok (z3m a0 a1 a2 a3) (fun r => L 26 [.agg [.sc (.int .i64 a0.letters), .sc (.int .i64 a0.start), .sl a0.final.length (a0.final.map fun x0 => .sc (.bool x0)), .sl a0.next.length (a0.next.map fun x0 => .sl x0.length (x0.map fun x1 => .sc (.int .i64 x1)))], .agg [.sl a1.sets.length (a1.sets.map fun x0 => .sc (.int .i64 x0)), .sl a1.class_.length (a1.class_.map fun x0 => .sc (.int .i64 x0)), .sl a1.height.length (a1.height.map fun x0 => .sc (.int .i64 x0)), .sl a1.tiles.length (a1.tiles.map fun x0 => .sl x0.length (x0.map fun x1 => .sc (.int .i64 x1))), .sl a1.words.length (a1.words.map fun x0 => .sc (.string x0)), .sl a1.back.length (a1.back.map fun x0 => .sc (.string x0))], .mr (some .i64) (a2.map fun x0 => (.int .i64 x0.1, .int .i64 x0.2)), .sl a3.length (a3.map fun x0 => .sc (.int .i64 x0))] = some (.tup [.agg [.sc (.int .i64 r.1.set), .sl r.1.tiles.length (r.1.tiles.map fun x0 => .sc (.int .i64 x0)), .sl r.1.words.length (r.1.words.map fun x0 => .sc (.string x0)), .sl r.1.perms.length (r.1.perms.map fun x0 => .sl x0.length (x0.map fun x1 => .sc (.int .i64 x1)))], .sc (.int .i64 r.2)], [.dead, .dead, .dead, .dead])) := ⟨fun r h => by have h := z5B h; unfold z3m at h; exact zy5 zAS zCt zDT⟩
end
end Go.Proofs.Ytodliknibbafeaa
end
