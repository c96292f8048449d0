/- Proved here: a part of the proof of the law at hand, in one text: no condition. -/
import Derived.Test.YtodliknibbafeaaMHO3
set_option linter.unusedVariables false
set_option linter.unusedSimpArgs false
namespace Go.Proofs.Ytodliknibbafeaa
section
open Go
def z8e (m n : Nat) (r : List Int) : Prop := r.length = m /\ ∀ x ∈ r, 0 <= x /\ x < n
structure DfaOk (d : DFA) (m n : Nat) : Prop where
  lt : d.letters = m
  m1 : 1 <= m
  m6 : m <= 6
  n1 : 1 <= n
  fin : d.final.length = n
  nl : d.next.length = n
  s0 : 0 <= d.start
  s1 : d.start < n
  row : ∀ r ∈ d.next, z8e m n r
theorem zhK {σ τ ρ : Type} {b : σ -> Option (σ ⊕ (τ ⊕ ρ))} (I : σ -> Prop) (m : σ -> Nat) (Post : τ -> Prop) {s : σ} (hI : I s) (hm : m s < LFm)
    (step : ∀ s, I s -> (∃ s', b s = some (.inl s') /\ I s' /\ m s' < m s) ∨ (∃ r, b s = some (.inr (.inl r)) /\ Post r)) : ∃ r, z0j b LFm s = some (.inl r) /\ Post r := by
  obtain ⟨r, h1, r', h2, h3⟩ := z1y I m (fun r => ∃ t, r = .inl t /\ Post t) (fun s hs => (step s hs).imp id fun ⟨r, h, hp⟩ => ⟨_, h, r, rfl, hp⟩) LFm s hI hm
  exact ⟨r', by rw [h1, h2], h3⟩
theorem zb4 {α : Type} {l : List α} {x y : α} : y ∈ l ++ [x] ↔ y ∈ l ∨ y = x := by simp
theorem zux {t : Tape} (ht : TapeOk t) (m most : Nat) (hm : 1 <= m /\ m <= 6) (hk : 1 <= most /\ most <= 1000) : ∃ d t' n, z4i t m most = some (d, t') /\ DfaOk d m n /\ n <= most /\ TapeOk t' := by
  unfold z4i
  obtain ⟨v, t1, e1, v0, v1, ht1⟩ := z6l ht (most : Int) (by omega) (by omega)
  simp only [e1, Option.bind_some]
  obtain ⟨k, rfl⟩ := Int.eq_ofNat_of_zero_le v0
  have hw : IntKind.i64.wrap (1 + (k : Int)) = ((k + 1 : Nat) : Int) := by rw [z1Z (by omega) (by omega)]; omega
  rw [hw]
  obtain ⟨s, t2, e2, s0, s1, ht2⟩ := z6l ht1 ((k + 1 : Nat) : Int) (by omega) (by omega)
  simp only [e2, Option.bind_some]
  refine Exists.elim (z1y (b := z4E m ((k : Int), t1) (s, t2)) (fun z => 0 <= z.1 /\ z.1 <= (k + 1 : Nat) /\ TapeOk ⟨z.2.1, z.2.2.1⟩ /\ (z.2.2.2.1.length : Int) = z.1 /\ (z.2.2.2.2.length : Int) = z.1 /\ ∀ r ∈ z.2.2.2.2, z8e m (k + 1) r) (fun z => k + 2 - z.1.toNat)
    (fun r => DfaOk r.1 m (k + 1) /\ TapeOk r.2) ?_ LFm (0, t2.l, t2.at_, [], []) ⟨by simp, by simp; omega, ht2, by simp, by simp, by simp⟩ (by simp only [LFm]; omega)) fun r h => ⟨r.1, r.2, k + 1, h.1, h.2.1, by omega, h.2.2⟩
  rintro ⟨i, tl, ta, fs, rs⟩ ⟨i0, i1, i2, i3, i4, i5⟩
  simp only at i0 i1 i2 i3 i4 i5 ⊢
  simp only [z4E, hw]
  by_cases hi : i < ((k + 1 : Nat) : Int)
  · left
    rw [if_pos hi]
    obtain ⟨u, t3, e3, u0, u1, ht3⟩ := z6l i2 2 (by omega) (by omega)
    simp only [e3, Option.bind_some]
    rw [z0m _ (by unfold z1c; omega)]
    refine Exists.elim (zhK (b := z4h m ((k : Int), t1) i fs rs (u, t3)) (fun z => 0 <= z.1 /\ z.1 <= m /\ TapeOk ⟨z.2.1, z.2.2.1⟩ /\ (z.2.2.2.length : Int) = z.1 /\ ∀ x ∈ z.2.2.2, 0 <= x /\ x < (k + 1 : Nat)) (fun z => m + 1 - z.1.toNat)
      (fun z => z.1 = i + 1 /\ TapeOk ⟨z.2.1, z.2.2.1⟩ /\ (z.2.2.2.1.length : Int) = i + 1 /\ (z.2.2.2.2.length : Int) = i + 1 /\ ∀ r ∈ z.2.2.2.2, z8e m (k + 1) r) (s := (0, t3.l, t3.at_, [])) ⟨by simp, by simp, ht3, by simp, by simp⟩ (by simp only [LFm]; omega) ?_) fun r h => ⟨_, h.1, ⟨by have := h.2.1; omega, by have := h.2.1; omega, h.2.2.1, by have := h.2.1; have := h.2.2.2.1; omega, by have := h.2.1; have := h.2.2.2.2.1; omega, h.2.2.2.2.2⟩, by have := h.2.1; omega⟩
    rintro ⟨j, ul, ua, row⟩ ⟨j0, j1, j2, j3, j4⟩
    simp only at j0 j1 j2 j3 j4 ⊢
    simp only [z4h, hw]
    by_cases hj : j < (m : Int)
    · left
      rw [if_pos hj]
      obtain ⟨x, t4, e4, x0, x1, ht4⟩ := z6l j2 ((k + 1 : Nat) : Int) (by omega) (by omega)
      simp only [e4, Option.bind_some]
      rw [z0m _ (by unfold z1c; omega), z1Z (by omega) (by omega)]
      refine ⟨_, rfl, ⟨by simp only; omega, by simp only; omega, ht4, by simp only [List.length_append, List.length_singleton]; omega, fun y hy => ?_⟩, by simp only; omega⟩
      rcases zb4.1 hy with h | rfl
      · exact j4 y h
      · exact ⟨x0, x1⟩
    · right
      rw [if_neg hj, z0m _ (by unfold z1c; omega), z1Z (by omega) (by omega)]
      refine ⟨_, rfl, by simp only, j2, by simp only [List.length_append, List.length_singleton]; omega, by simp only [List.length_append, List.length_singleton]; omega, fun y hy => ?_⟩
      rcases zb4.1 hy with h | rfl
      · exact i5 y h
      · exact ⟨by omega, j4⟩
  · right
    rw [if_neg hi]
    exact ⟨_, rfl, ⟨rfl, hm.1, hm.2, by omega, by simp only; omega, by simp only; omega, s0, s1, i5⟩, i2⟩
theorem zpQ {t : Tape} (ht : TapeOk t) : ∃ m t', z3w t = some (((m : Nat) : Int), t') /\ 1 <= m /\ m <= 2 /\ TapeOk t' := by
  unfold z3w
  obtain ⟨v, t1, e1, v0, v1, ht1⟩ := z6l ht 8 (by omega) (by omega)
  simp only [e1, Option.bind_some]
  obtain ⟨k, rfl⟩ := Int.eq_ofNat_of_zero_le v0
  have : zxq .i64 (k : Int) 7 = ((k / 7 : Nat) : Int) := by
    unfold zxq
    rw [show ((k : Int).tdiv 7) = ((k / 7 : Nat) : Int) by rfl, z1Z (by omega) (by omega)]
  rw [this, z1Z (by omega) (by omega)]
  exact ⟨2 - k / 7, t1, by congr 2; omega, by omega, by omega, ht1⟩
end
section
open Go
set_option maxRecDepth 100000
theorem zn7 {m n : Nat} {rs : List (List Int)} (h : ∀ r ∈ rs, z8e m n r) {r' : List Int} (hr : z8e m n r') (i : Nat) : ∀ r ∈ rs.set i r', z8e m n r := fun r hm => by
  rcases List.mem_or_eq_of_mem_set hm with h' | rfl
  · exact h r h'
  · exact hr
theorem zrp {m n : Nat} {r : List Int} (h : z8e m n r) {x : Int} (hx : 0 <= x /\ x < n) (j : Nat) : z8e m n (r.set j x) := ⟨by simp [h.1], fun y hy => by
  rcases List.mem_or_eq_of_mem_set hy with h' | rfl
  · exact h.2 y h'
  · exact hx⟩
theorem zrq {m n : Nat} {rs : List (List Int)} (h : ∀ r ∈ rs, z8e m n r) {k : Nat} (hk : k < rs.length) : z8e m n rs[k] := h _ (List.getElem_mem hk)
theorem zpJ {t : Tape} (ht : TapeOk t) (m most : Nat) (hm : 1 <= m /\ m <= 6) (hk : 1 <= most /\ most <= 1000) : ∃ d t' n, z3v t m most = some (d, t') /\ DfaOk d m n /\ n <= most /\ TapeOk t' := by
  unfold z3v
  obtain ⟨d, t1, n, e1, hd, hn, ht1⟩ := zux ht m most hm hk
  simp only [e1, Option.bind_some]
  refine Exists.elim (z1y (b := z3m (d, t1)) (fun z => 0 <= z.1 /\ z.1 <= n /\ z.2.length = n /\ ∀ r ∈ z.2, z8e m n r) (fun z => n + 1 - z.1.toNat) (fun r => DfaOk r.1 m n /\ TapeOk r.2) ?_ LFm (0, d.next) ⟨by simp, by simp, hd.nl, hd.row⟩ (by simp only [LFm]; omega)) fun r h => ⟨r.1, r.2, n, h.1, h.2.1, hn, h.2.2⟩
  rintro ⟨i, rs⟩ ⟨i0, i1, i2, i3⟩
  simp only at i0 i1 i2 i3 ⊢
  simp only [z3m, hd.nl]
  obtain ⟨i, rfl⟩ := Int.eq_ofNat_of_zero_le i0
  by_cases hi : (i : Int) < n
  · left
    rw [if_pos hi, z1s (by omega)]
    simp only [Option.bind_some]
    have hri := zrq i3 (show i < rs.length by omega)
    refine Exists.elim (zhK (b := z3l (i : Int) rs[i] _) (fun z => 0 <= z.1 /\ z.1 <= m /\ z.2.length = n /\ ∀ r ∈ z.2, z8e m n r) (fun z => m + 1 - z.1.toNat) (fun z => z.1 = (i : Int) + 1 /\ z.2.length = n /\ ∀ r ∈ z.2, z8e m n r) (s := (0, rs)) ⟨by simp, by simp, i2, i3⟩ (by simp only [LFm]; omega) ?_) fun r h => ⟨_, h.1, ⟨by have := h.2.1; omega, by have := h.2.1; omega, h.2.2.1, h.2.2.2⟩, by have := h.2.1; omega⟩
    rintro ⟨j, us⟩ ⟨j0, j1, j2, j3⟩
    simp only at j0 j1 j2 j3 ⊢
    obtain ⟨j, rfl⟩ := Int.eq_ofNat_of_zero_le j0
    simp only [z3l, hri.1]
    rw [z1s (by omega)]
    simp only [Option.bind_some]
    have hui := zrq j3 (show i < us.length by omega)
    by_cases hj : (j : Int) < m
    · left
      rw [if_pos hj, z1s (by rw [hui.1]; omega), z1Z (by omega) (by omega)]
      simp only [Option.bind_some]
      refine ⟨_, rfl, ⟨by simp only; omega, by simp only; omega, by simp only [List.length_set]; exact j2, zn7 j3 (zrp hui ?_ _) _⟩, by simp only; omega⟩
      have := hui.2 _ (List.getElem_mem (show j < us[i].length by rw [hui.1]; omega))
      split <;> omega
    · right
      rw [if_neg hj, z1Z (by omega) (by omega)]
      exact ⟨_, rfl, rfl, j2, j3⟩
  · right
    rw [if_neg hi]
    exact ⟨_, rfl, ⟨hd.lt, hd.m1, hd.m6, hd.n1, hd.fin, by simp only; omega, by simp, by simp only; have := hd.n1; omega, i3⟩, ht1⟩
theorem ztg (m n : Nat) (hn : 1 <= n) : z8e m n (List.replicate m 0) := ⟨by simp, fun x hx => by rw [(List.mem_replicate.1 hx).2]; omega⟩
theorem zv4 {xs : List Int} {k : Nat} (h : k < xs.length) : z6d xs 0 (k : Int) = some (xs.take k) := zk2 (by omega)
theorem zv3 {xs : List Int} {k : Nat} (h : k < xs.length) : z6d xs ((k : Int) + 1) (xs.length : Int) = some (xs.drop (k + 1)) := by
  have := zm2 (xs := xs) (k := k + 1) (by omega)
  rwa [show ((k + 1 : Nat) : Int) = (k : Int) + 1 by omega] at this
theorem zto {t : Tape} (ht : TapeOk t) (m most : Nat) (hm : 1 <= m /\ m <= 6) (hk : 1 <= most /\ most <= 1000) : ∃ d t' n, z2h t m most = some (d, t') /\ DfaOk d m n /\ n <= most /\ TapeOk t' := by
  unfold z2h
  obtain ⟨v, t1, e1, v0, v1, ht1⟩ := z6l ht (most : Int) (by omega) (by omega)
  simp only [e1, Option.bind_some]
  obtain ⟨k, rfl⟩ := Int.eq_ofNat_of_zero_le v0
  have hw : IntKind.i64.wrap (1 + (k : Int)) = ((k + 1 : Nat) : Int) := by rw [z1Z (by omega) (by omega)]; omega
  rw [hw]
  obtain ⟨s, t2, e2, s0, s1, ht2⟩ := z6l ht1 ((k + 1 : Nat) : Int) (by omega) (by omega)
  simp only [e2, Option.bind_some]
  refine Exists.elim (z1y (b := z2r m ((k : Int), t1) (s, t2)) (fun z => 0 <= z.1 /\ z.1 <= (k + 1 : Nat) /\ TapeOk ⟨z.2.1, z.2.2.1⟩ /\ (z.2.2.2.1.length : Int) = z.1 /\ (z.2.2.2.2.length : Int) = z.1 /\ ∀ r ∈ z.2.2.2.2, z8e m (k + 1) r) (fun z => k + 2 - z.1.toNat)
    (fun r => DfaOk r.1 m (k + 1) /\ TapeOk r.2) ?_ LFm (0, t2.l, t2.at_, [], []) ⟨by simp, by simp; omega, ht2, by simp, by simp, by simp⟩ (by simp only [LFm]; omega)) fun r h => ⟨r.1, r.2, k + 1, h.1, h.2.1, by omega, h.2.2⟩
  rintro ⟨i, tl, ta, fs, rs⟩ ⟨i0, i1, i2, i3, i4, i5⟩
  simp only at i0 i1 i2 i3 i4 i5 ⊢
  simp only [z2r, hw]
  by_cases hi : i < ((k + 1 : Nat) : Int)
  · left
    rw [if_pos hi]
    obtain ⟨u, t3, e3, u0, u1, ht3⟩ := z6l i2 2 (by omega) (by omega)
    simp only [e3, Option.bind_some]
    rw [z0m _ (by unfold z1c; omega), z0m _ (by unfold z1g; omega), z0m _ (by unfold z1c; omega), z1Z (by omega) (by omega)]
    refine ⟨_, rfl, ⟨by simp only; omega, by simp only; omega, ht3, by simp only [List.length_append, List.length_singleton]; omega, by simp only [List.length_append, List.length_singleton]; omega, fun y hy => ?_⟩, by simp only; omega⟩
    rcases zb4.1 hy with h | rfl
    · exact i5 y h
    · exact ztg m (k + 1) (by omega)
  · right
    rw [if_neg hi]
    refine Exists.elim (z1y (b := z2q m ((k : Int), t1) (s, t2) fs) (fun z => 0 <= z.1 /\ z.1 <= m /\ TapeOk ⟨z.2.1, z.2.2.1⟩ /\ z.2.2.2.length = k + 1 /\ ∀ r ∈ z.2.2.2, z8e m (k + 1) r) (fun z => m + 1 - z.1.toNat)
      (fun r => DfaOk r.1 m (k + 1) /\ TapeOk r.2) ?_ LFm (0, tl, ta, rs) ⟨by simp, by simp, i2, by simp only; omega, i5⟩ (by simp only [LFm]; omega)) fun r h => ⟨r, by rw [h.1]; rfl, h.2⟩
    rintro ⟨a, ul, ua, us⟩ ⟨a0, a1, a2, a3, a4⟩
    simp only at a0 a1 a2 a3 a4 ⊢
    obtain ⟨a, rfl⟩ := Int.eq_ofNat_of_zero_le a0
    simp only [z2q]
    by_cases ha : (a : Int) < m
    · left
      rw [if_pos ha]
      refine Exists.elim (zhK (b := z2f ((k : Int), t1) (a : Int) ul ua us) (fun z => 0 <= z.1 /\ z.1 <= (k + 1 : Nat) /\ (z.2.length : Int) = z.1 /\ ∀ x ∈ z.2, 0 <= x /\ x < (k + 1 : Nat)) (fun z => k + 2 - z.1.toNat)
        (fun z => z.1 = (a : Int) + 1 /\ TapeOk ⟨z.2.1, z.2.2.1⟩ /\ z.2.2.2.length = k + 1 /\ ∀ r ∈ z.2.2.2, z8e m (k + 1) r) (s := (0, [])) ⟨by simp, by simp; omega, by simp, by simp⟩ (by simp only [LFm]; omega) ?_) fun r h => ⟨_, h.1, ⟨by have := h.2.1; omega, by have := h.2.1; omega, h.2.2.1, h.2.2.2.1, h.2.2.2.2⟩, by have := h.2.1; omega⟩
      rintro ⟨q, left⟩ ⟨q0, q1, q2, q3⟩
      simp only at q0 q1 q2 q3 ⊢
      simp only [z2f, hw]
      by_cases hq : q < ((k + 1 : Nat) : Int)
      · left
        rw [if_pos hq, z0m _ (by unfold z1c; omega), z1Z (by omega) (by omega)]
        refine ⟨_, rfl, ⟨by simp only; omega, by simp only; omega, by simp only [List.length_append, List.length_singleton]; omega, fun y hy => ?_⟩, by simp only; omega⟩
        rcases zb4.1 hy with h | rfl
        · exact q3 y h
        · omega
      · right
        rw [if_neg hq]
        refine Exists.elim (zhK (b := z2e ((k : Int), t1) (a : Int)) (fun z => 0 <= z.1 /\ z.1 <= (k + 1 : Nat) /\ TapeOk ⟨z.2.1, z.2.2.1⟩ /\ z.2.2.2.1.length = k + 1 /\ (∀ r ∈ z.2.2.2.1, z8e m (k + 1) r) /\ (z.2.2.2.2.length : Int) = (k + 1 : Nat) - z.1 /\ ∀ x ∈ z.2.2.2.2, 0 <= x /\ x < (k + 1 : Nat)) (fun z => k + 2 - z.1.toNat)
          (fun z => z.1 = (a : Int) + 1 /\ TapeOk ⟨z.2.1, z.2.2.1⟩ /\ z.2.2.2.length = k + 1 /\ ∀ r ∈ z.2.2.2, z8e m (k + 1) r) (s := (0, ul, ua, us, left)) ⟨by simp, by simp; omega, a2, a3, a4, by simp only; omega, q3⟩ (by simp only [LFm]; omega) ?_) fun r h => ⟨r, by rw [h.1]; rfl, h.2⟩
        rintro ⟨p, xl, xa, xs, lf⟩ ⟨p0, p1, p2, p3, p4, p5, p6⟩
        simp only at p0 p1 p2 p3 p4 p5 p6 ⊢
        obtain ⟨p, rfl⟩ := Int.eq_ofNat_of_zero_le p0
        simp only [z2e, hw]
        by_cases hp : (p : Int) < ((k + 1 : Nat) : Int)
        · left
          rw [if_pos hp]
          obtain ⟨x, t4, e4, x0, x1, ht4⟩ := z6l p2 (lf.length : Int) (by omega) (by omega)
          obtain ⟨x, rfl⟩ := Int.eq_ofNat_of_zero_le x0
          have hrp := zrq p4 (show p < xs.length by omega)
          have hlx : x < lf.length := by omega
          simp only [e4, Option.bind_some]
          rw [z1s (show p < xs.length by omega)]
          simp only [Option.bind_some]
          rw [z1s hlx]
          simp only [Option.bind_some]
          rw [z1s (show a < xs[p].length by rw [hrp.1]; omega), z1Z (x := (x : Int) + 1) (by omega) (by omega), zv4 hlx]
          simp only [Option.bind_some]
          rw [zv3 hlx]
          simp only [Option.bind_some]
          rw [z0m _ (by unfold z1c; simp only [List.length_take]; omega), z0m _ (by unfold z1c; simp only [List.length_take, List.length_drop]; omega), z1Z (by omega) (by omega)]
          refine ⟨_, rfl, ⟨by simp only; omega, by simp only; omega, ht4, by simp only [List.length_set]; exact p3, zn7 p4 (zrp hrp (p6 _ (List.getElem_mem hlx)) _) _, by simp only [List.length_append, List.length_take, List.length_drop]; omega, fun y hy => ?_⟩, by simp only; omega⟩
          rcases List.mem_append.1 hy with h | h
          · exact p6 y (List.mem_of_mem_take h)
          · exact p6 y (List.mem_of_mem_drop h)
        · right
          rw [if_neg hp, z1Z (by omega) (by omega)]
          exact ⟨_, rfl, rfl, p2, p3, p4⟩
    · right
      rw [if_neg ha]
      exact ⟨_, rfl, ⟨rfl, hm.1, hm.2, by omega, by simp only; omega, a3, s0, s1, a4⟩, a2⟩
end
section
open Go
set_option maxRecDepth 100000
theorem zd9 {a : Nat} (h : a < 2 ^ 62) : IntKind.i64.wrap (a : Int) = (a : Int) := z1Z (by omega) (by omega)
theorem zbo {a b : Nat} (ha : a < 2 ^ 62) (hb : b < 2 ^ 62) : z2a .i64 (a : Int) (b : Int) = ((a &&& b : Nat) : Int) := by
  unfold z2a
  have e : (BitVec.ofInt IntKind.i64.bits (a : Int) &&& BitVec.ofInt IntKind.i64.bits (b : Int)).toNat = a &&& b := by
    show (BitVec.ofInt 64 (a : Int) &&& BitVec.ofInt 64 (b : Int)).toNat = _
    rw [BitVec.toNat_and, BitVec.toNat_ofInt, BitVec.toNat_ofInt]
    have h1 : ((a : Int) % ((2 ^ 64 : Nat) : Int)).toNat = a := by omega
    have h2 : ((b : Int) % ((2 ^ 64 : Nat) : Int)).toNat = b := by omega
    rw [h1, h2]
  rw [e]
  exact zd9 (Nat.lt_of_le_of_lt Nat.and_le_left ha)
theorem zv9 {a b k : Nat} (ha : a < 2 ^ k) (hb : b < 2 ^ k) : a ||| b < 2 ^ k := Nat.or_lt_two_pow ha hb
theorem zm4 {a b : Nat} (ha : a < 2 ^ 62) (hb : b < 2 ^ 62) : orI .i64 (a : Int) (b : Int) = ((a ||| b : Nat) : Int) := by
  unfold orI
  have e : (BitVec.ofInt IntKind.i64.bits (a : Int) ||| BitVec.ofInt IntKind.i64.bits (b : Int)).toNat = a ||| b := by
    show (BitVec.ofInt 64 (a : Int) ||| BitVec.ofInt 64 (b : Int)).toNat = _
    rw [BitVec.toNat_or, BitVec.toNat_ofInt, BitVec.toNat_ofInt]
    have h1 : ((a : Int) % ((2 ^ 64 : Nat) : Int)).toNat = a := by omega
    have h2 : ((b : Int) % ((2 ^ 64 : Nat) : Int)).toNat = b := by omega
    rw [h1, h2]
  rw [e]
  exact zd9 (zv9 ha hb)
theorem zmI {a b : Nat} (ha : a < 2 ^ 62) (hb : b < 2 ^ 62) : zie .i64 (a : Int) (b : Int) = 0 ↔ a &&& b = a := by
  unfold zie
  have e : (BitVec.ofInt IntKind.i64.bits (a : Int) &&& ~~~ BitVec.ofInt IntKind.i64.bits (b : Int)).toNat = (BitVec.ofNat 64 a &&& ~~~ BitVec.ofNat 64 b).toNat := by
    show (BitVec.ofInt 64 (a : Int) &&& ~~~ BitVec.ofInt 64 (b : Int)).toNat = _
    congr 2
  rw [e]
  have hle : (BitVec.ofNat 64 a &&& ~~~ BitVec.ofNat 64 b).toNat <= a := by
    rw [BitVec.toNat_and]
    refine Nat.le_trans Nat.and_le_left ?_
    simp only [BitVec.toNat_ofNat]
    omega
  rw [zd9 (by omega)]
  have ta : ∀ i, (BitVec.ofNat 64 a).toNat.testBit i = a.testBit i := fun i => by
    rw [BitVec.toNat_ofNat, Nat.mod_eq_of_lt (by omega)]
  have tb : ∀ i, (BitVec.ofNat 64 b).toNat.testBit i = b.testBit i := fun i => by
    rw [BitVec.toNat_ofNat, Nat.mod_eq_of_lt (by omega)]
  have hz : ∀ i, (BitVec.ofNat 64 a &&& ~~~ BitVec.ofNat 64 b).toNat.testBit i = (a.testBit i && !(b.testBit i)) := fun i => by
    rw [BitVec.testBit_toNat, BitVec.getLsbD_and, BitVec.getLsbD_not]
    by_cases hi : i < 64
    · simp only [hi, decide_true, Bool.true_and]
      rw [← BitVec.testBit_toNat, ← BitVec.testBit_toNat, ta, tb]
    · have : a.testBit i = false := Nat.testBit_lt_two_pow (Nat.lt_of_lt_of_le ha (Nat.pow_le_pow_right (by omega) (by omega)))
      rw [← BitVec.testBit_toNat, ta, this]; simp
  constructor
  · intro h
    have h0 : (BitVec.ofNat 64 a &&& ~~~ BitVec.ofNat 64 b).toNat = 0 := by omega
    apply Nat.eq_of_testBit_eq
    intro i
    have := hz i
    rw [h0, Nat.zero_testBit] at this
    rw [Nat.testBit_and]
    revert this
    cases a.testBit i <;> cases b.testBit i <;> simp
  · intro h
    have : (BitVec.ofNat 64 a &&& ~~~ BitVec.ofNat 64 b).toNat = 0 := by
      apply Nat.eq_of_testBit_eq
      intro i
      have e2 : (a &&& b).testBit i = a.testBit i := by rw [h]
      rw [Nat.testBit_and] at e2
      rw [hz, Nat.zero_testBit]
      revert e2
      cases a.testBit i <;> cases b.testBit i <;> simp
    omega
theorem zn4 {a q : Nat} (hq : q <= 64) : z0l .i64 (a : Int) (q : Int) = ((a >>> q : Nat) : Int) := by
  unfold z0l
  have e : min ((q : Int).toNat) IntKind.i64.bits = q := by
    show min ((q : Int).toNat) 64 = q
    omega
  rw [e, Nat.shiftRight_eq_div_pow, Int.fdiv_eq_ediv_of_nonneg _ (by exact Int.pow_nonneg (by omega))]
  simp
theorem z5w {q : Nat} (hq : q <= 61) : zjM .i64 1 (q : Int) = ((2 ^ q : Nat) : Int) := by
  rw [zrc]
  have e : min ((q : Int).toNat) IntKind.i64.bits = q := by
    show min ((q : Int).toNat) 64 = q
    omega
  rw [e, Int.one_mul]
  have : ((2 : Int) ^ q) = ((2 ^ q : Nat) : Int) := by simp
  rw [this]
  exact zd9 (Nat.pow_lt_pow_right (by omega) (by omega))
theorem zft {a q : Nat} (ha : a < 2 ^ 62) (hq : q <= 64) : (z2a .i64 (z0l .i64 (a : Int) (q : Int)) 1 = 1) ↔ a.testBit q = true := by
  rw [zn4 hq, show (1 : Int) = ((1 : Nat) : Int) from rfl, zbo (by rw [Nat.shiftRight_eq_div_pow]; exact Nat.lt_of_le_of_lt (Nat.div_le_self _ _) ha) (by decide), Nat.testBit]
  have : (1 &&& a >>> q) = (a >>> q) &&& 1 := Nat.and_comm ..
  rw [this]
  have h2 := Nat.and_one_is_mod (a >>> q)
  rw [h2]
  simp only [bne_iff_ne, ne_eq]
  omega
theorem zkV {q : Nat} (h : q < 2 ^ 62) : IntKind.u64.wrap (q : Int) = (q : Int) := by rw [IntKind.wrap_u64]; omega
def zk8 (rows : List (List Int)) (s a : Nat) : Nat -> Nat
  | 0 => 0
  | q + 1 => if s.testBit q = true then zk8 rows s a q ||| 2 ^ ((rows.getD q []).getD a 0).toNat else zk8 rows s a q
def mvN (d : DFA) (s a : Nat) : Nat := zk8 d.next s a d.next.length
theorem zcx {d : DFA} {m n : Nat} (hd : DfaOk d m n) {q a : Nat} (hq : q < n) (ha : a < m) : ∃ h1 : q < d.next.length, ∃ h2 : a < d.next[q].length, (d.next.getD q []).getD a 0 = d.next[q][a] /\ 0 <= d.next[q][a] /\ d.next[q][a] < n := by
  have h1 : q < d.next.length := by rw [hd.nl]; exact hq
  have hr := hd.row _ (List.getElem_mem h1)
  have h2 : a < d.next[q].length := by rw [hr.1]; exact ha
  exact ⟨h1, h2, by simp [List.getD, h1, h2], hr.2 _ (List.getElem_mem h2)⟩
theorem zne {d : DFA} {m n : Nat} (hd : DfaOk d m n) {s a : Nat} (ha : a < m) (p : Nat) : ∀ q, q <= n -> ((zk8 d.next s a q).testBit p = true ↔ ∃ i, i < q /\ s.testBit i = true /\ ((d.next.getD i []).getD a 0).toNat = p)
  | 0, _ => by simp [zk8]
  | q + 1, hq => by
    have ih := zne hd (s := s) ha p q (by omega)
    unfold zk8
    by_cases hb : s.testBit q = true
    · rw [if_pos hb, Nat.testBit_or, Bool.or_eq_true, ih, Nat.testBit_two_pow]
      constructor
      · rintro (⟨i, h1, h2, h3⟩ | h)
        · exact ⟨i, by omega, h2, h3⟩
        · exact ⟨q, by omega, hb, by simpa using h⟩
      · rintro ⟨i, h1, h2, h3⟩
        by_cases e : i = q
        · subst e; right; simpa using h3
        · left; exact ⟨i, by omega, h2, h3⟩
    · rw [if_neg hb, ih]
      constructor
      · rintro ⟨i, h1, h2, h3⟩; exact ⟨i, by omega, h2, h3⟩
      · rintro ⟨i, h1, h2, h3⟩
        by_cases e : i = q
        · subst e; exact absurd h2 hb
        · exact ⟨i, by omega, h2, h3⟩
theorem zeV {d : DFA} {m n : Nat} (hd : DfaOk d m n) {s a : Nat} (ha : a < m) : ∀ q, q <= n -> zk8 d.next s a q < 2 ^ n
  | 0, _ => Nat.two_pow_pos n
  | q + 1, hq => by
    have ih := zeV hd (s := s) ha q (by omega)
    unfold zk8
    split
    · obtain ⟨h1, h2, e, h3, h4⟩ := zcx hd (q := q) (by omega) ha
      refine zv9 ih (Nat.pow_lt_pow_right (by omega) ?_)
      rw [e]; omega
    · exact ih
theorem z8u {d : DFA} {m n : Nat} (hd : DfaOk d m n) {s a : Nat} (ha : a < m) (p : Nat) : (mvN d s a).testBit p = true ↔ ∃ i, i < n /\ s.testBit i = true /\ ((d.next.getD i []).getD a 0).toNat = p := by
  unfold mvN; rw [hd.nl]; exact zne hd ha p n (Nat.le_refl _)
theorem zeW {d : DFA} {m n : Nat} (hd : DfaOk d m n) {s a : Nat} (ha : a < m) : mvN d s a < 2 ^ n := by
  unfold mvN; rw [hd.nl]; exact zeV hd ha n (Nat.le_refl _)
theorem zcA {n : Nat} (h : n <= 12) : 2 ^ n <= 4096 := Nat.pow_le_pow_right (n := 2) (by omega) h
theorem zrF {d : DFA} {m n : Nat} (hd : DfaOk d m n) (hn : n <= 12) {s a : Nat} (hs : s < 2 ^ n) (ha : a < m) : z5n d (s : Int) (a : Int) = some ((mvN d s a : Nat) : Int) := by
  have h12 := zcA hn
  unfold z5n mvN
  refine z0t (s := ((0 : Int), (0 : Int))) n (fun q => (((zk8 d.next s a q : Nat) : Int), (q : Int))) rfl (by simp only [LFm]; omega) (fun q hq => ?_) ?_
  · have hlt := zeV hd (s := s) ha q (by omega)
    obtain ⟨h1, h2, e, h3, h4⟩ := zcx hd (q := q) hq ha
    simp only [z5E]
    rw [if_pos (by omega), z1s h1]
    simp only [Option.bind_some]
    rw [z0m _ (by omega), z0T (by omega)]
    by_cases hb : s.testBit q = true
    · rw [if_pos ((zft (by omega) (by omega)).2 hb), z1s h2]
      simp only [Option.bind_some]
      obtain ⟨v, hv⟩ := Int.eq_ofNat_of_zero_le h3
      rw [z0m _ (by omega), hv, z5w (by omega), zm4 (by omega) (Nat.pow_lt_pow_right (by omega) (by omega))]
      simp only [zk8]
      rw [if_pos hb, e, hv, Int.toNat_natCast]
    · rw [if_neg (fun h => hb ((zft (by omega) (by omega)).1 h))]
      simp only [zk8]
      rw [if_neg hb]
  · simp only [z5E]
    rw [if_neg (by rw [hd.nl]; omega), hd.nl]
theorem zfz {d : DFA} {m n : Nat} (hd : DfaOk d m n) (hn : n <= 12) {s a : Nat} (hs : s < 2 ^ n) (ha : a < m) : z3Y d (s : Int) (a : Int) = some ((mvN d s a : Nat) : Int) := by
  have h12 := zcA hn
  unfold z3Y mvN
  refine z0t (s := ((0 : Int), (0 : Int))) n (fun q => (((zk8 d.next s a q : Nat) : Int), (q : Int))) rfl (by simp only [LFm]; omega) (fun q hq => ?_) ?_
  · have hlt := zeV hd (s := s) ha q (by omega)
    obtain ⟨h1, h2, e, h3, h4⟩ := zcx hd (q := q) hq ha
    simp only [z4T]
    rw [if_pos (by rw [hd.fin]; omega), zkV (by omega), z0m _ (by omega), z0T (by omega)]
    by_cases hb : s.testBit q = true
    · rw [if_pos ((zft (by omega) (by omega)).2 hb), z1s h1]
      simp only [Option.bind_some]
      rw [z1s h2]
      simp only [Option.bind_some]
      obtain ⟨v, hv⟩ := Int.eq_ofNat_of_zero_le h3
      rw [hv, zkV (by omega), z0m _ (by omega), z5w (by omega), zm4 (by omega) (Nat.pow_lt_pow_right (by omega) (by omega))]
      simp only [zk8]
      rw [if_pos hb, e, hv, Int.toNat_natCast]
    · rw [if_neg (fun h => hb ((zft (by omega) (by omega)).1 h))]
      simp only [zk8]
      rw [if_neg hb]
  · simp only [z4T]
    rw [if_neg (by rw [hd.fin]; omega), hd.nl]
end
section
open Go
set_option maxRecDepth 100000
def zvY (d : DFA) (r : List Int) : Bool := decide ((r.length : Int) = d.letters) && r.all fun x => decide (0 <= x /\ x < (d.final.length : Int))
def z8L (d : DFA) : Bool := decide (d.next.length = d.final.length) && decide (0 <= d.start /\ d.start < (d.final.length : Int)) && d.next.all (zvY d)
def zue (d : DFA) : Int := if d.letters < 1 ∨ 6 < d.letters then 1 else if 512 < d.final.length then 3 else if z8L d = true then 0 else 4
def zw6 (d : DFA) : Prop := d.final.length < 2 ^ 61 /\ d.next.length < 2 ^ 61 /\ ∀ r ∈ d.next, r.length < 2 ^ 61
theorem zmL {d : DFA} (hc : zw6 d) : z0j (z3A d) LFm 0 = some (if d.next.all (zvY d) = true then 0 else 4) := by
  rw [zkg (l := d.next) ([] : List Int) (zvY d) (A := some 4) (B := some 0) (by have := hc.2.1; omega) (fun k hk => ?_) ?_]
  · split <;> rfl
  · simp only [z3A]
    rw [if_neg (by omega)]
  · simp only [z3A]
    have hkl := hc.2.1
    have hrl := hc.2.2 _ (List.getElem_mem hk)
    rw [if_pos (by omega), z1s hk]
    simp only [Option.bind_some, List.getD, List.getElem?_eq_getElem hk, Option.getD_some]
    by_cases hl : (d.next[k].length : Int) = d.letters
    · rw [if_pos hl]
      rw [zkg (l := d.next[k]) (0 : Int) (fun x => decide (0 <= x /\ x < (d.final.length : Int))) (A := z0k (some 4)) (B := z0e ((k + 1 : Nat) : Int)) (by omega) (fun j hj => ?_) ?_]
      · simp only [zvY, hl, decide_true, Bool.true_and]
      · simp only [z4H]
        rw [if_neg (by omega), z0T (by omega)]
      · simp only [z4H]
        rw [if_pos (by omega), z1s hj]
        simp only [Option.bind_some, List.getD, List.getElem?_eq_getElem hj, Option.getD_some]
        by_cases h1 : d.next[k][j] < 0
        · rw [if_pos h1, if_neg (by simp; omega)]
        · rw [if_neg h1]
          by_cases h2 : (d.final.length : Int) <= d.next[k][j]
          · rw [if_pos h2, if_neg (by simp; omega)]
          · rw [if_neg h2, if_pos (by simp; omega), z0T (by omega)]
    · rw [if_neg hl]
      rw [if_neg (by simp [zvY, hl])]
theorem zso {d : DFA} (hc : zw6 d) : z6i d = some (zue d) := by
  unfold z6i zue
  by_cases h1 : d.letters < 1
  · rw [if_pos h1, if_pos (.inl h1)]
  rw [if_neg h1]
  by_cases h2 : 6 < d.letters
  · rw [if_pos h2, if_pos (.inr h2)]
  have hno : ¬ (d.letters < 1 ∨ 6 < d.letters) := by omega
  rw [if_neg h2, if_neg hno]
  by_cases h3 : 512 < (d.final.length : Int)
  · have h3' : 512 < d.final.length := by omega
    rw [if_pos h3, if_pos h3']
  have h3' : ¬ 512 < d.final.length := by omega
  rw [if_neg h3, if_neg h3']
  by_cases h4 : (d.next.length : Int) = (d.final.length : Int)
  · rw [if_pos h4]
    by_cases h5 : d.start < 0
    · rw [if_pos h5, if_neg (by simp [z8L]; omega)]
    rw [if_neg h5]
    by_cases h6 : (d.final.length : Int) <= d.start
    · rw [if_pos h6, if_neg (by simp [z8L]; omega)]
    rw [if_neg h6, zmL hc]
    congr 1
    have e1 : decide (d.next.length = d.final.length) = true := by simp; omega
    have e2 : decide (0 <= d.start /\ d.start < (d.final.length : Int)) = true := by simp; omega
    simp only [z8L, e1, e2, Bool.true_and]
  · rw [if_neg h4, if_neg (by simp [z8L]; omega)]
theorem zvN (d : DFA) : z5j d = z3A d := rfl
theorem zrt {d : DFA} (hc : zw6 d) : z4w d = some (zue d) := by
  unfold z4w z4D zue
  by_cases h1 : 1 <= d.letters
  · rw [if_pos h1]
    simp only [Option.bind_some]
    by_cases h2 : 6 < d.letters
    · have hno : d.letters < 1 ∨ 6 < d.letters := .inr h2
      rw [if_neg (by simp; omega), if_pos hno]
    · have hno : ¬ (d.letters < 1 ∨ 6 < d.letters) := by omega
      rw [if_pos (by simp; omega), if_neg hno]
      by_cases h3 : 512 < (d.final.length : Int)
      · have h3' : 512 < d.final.length := by omega
        rw [if_pos h3, if_pos h3']
      have h3' : ¬ 512 < d.final.length := by omega
      rw [if_neg h3, if_neg h3']
      by_cases h0 : (d.final.length : Int) = 0
      · rw [if_pos h0, if_neg (by simp [z8L]; omega)]
      rw [if_neg h0]
      by_cases h4 : (d.next.length : Int) = (d.final.length : Int)
      · rw [if_pos h4]
        by_cases h5 : d.start < 0
        · rw [if_pos h5, if_neg (by simp [z8L]; omega)]
        rw [if_neg h5]
        by_cases h6 : (d.final.length : Int) <= d.start
        · rw [if_pos h6, if_neg (by simp [z8L]; omega)]
        rw [if_neg h6, zvN, zmL hc]
        congr 1
        have e1 : decide (d.next.length = d.final.length) = true := by simp; omega
        have e2 : decide (0 <= d.start /\ d.start < (d.final.length : Int)) = true := by simp; omega
        simp only [z8L, e1, e2, Bool.true_and]
      · rw [if_neg h4, if_neg (by simp [z8L]; omega)]
  · rw [if_neg h1]
    simp only [Option.bind_some]
    have hno : d.letters < 1 ∨ 6 < d.letters := by omega
    rw [if_pos hno]
    rfl
def zw2 (d : DFA) : Int := if zue d = 0 then (if 12 < d.final.length then 3 else 0) else zue d
theorem zkY {d : DFA} (hc : zw6 d) : z4c d = some (zw2 d) := by
  unfold z4c zw2
  rw [zso hc]
  simp only [Option.bind_some]
  split
  · split
    · rw [if_pos (by omega)]
    · rw [if_neg (by omega)]
  · rfl
theorem zxm {d : DFA} (hc : zw6 d) : z8P d = some (zw2 d) := by
  unfold z8P zw2
  rw [zrt hc]
  simp only [Option.bind_some]
  split
  · split
    · rw [if_pos (by omega)]
    · rw [if_neg (by omega)]
  · rfl
theorem zwe {d : DFA} {m n : Nat} (hd : DfaOk d m n) (hn : n <= 512) : zue d = 0 := by
  have h1 := hd.lt
  have h2 := hd.m1
  have h3 := hd.m6
  have hf := hd.fin
  have hl := hd.nl
  unfold zue
  rw [if_neg (by omega), if_neg (by omega), if_pos]
  have e1 : decide (d.next.length = d.final.length) = true := by simp; omega
  have e2 : decide (0 <= d.start /\ d.start < (d.final.length : Int)) = true := by have := hd.s0; have := hd.s1; simp; omega
  simp only [z8L, e1, e2, Bool.true_and, List.all_eq_true]
  intro r hr
  obtain ⟨a, b⟩ := hd.row r hr
  have e3 : decide ((r.length : Int) = d.letters) = true := by simp; omega
  simp only [zvY, e3, Bool.true_and, List.all_eq_true, decide_eq_true_eq]
  intro x hx
  have := b x hx
  omega
theorem zuq {d : DFA} {m n : Nat} (hd : DfaOk d m n) (hn : n <= 12) : zw2 d = 0 := by
  have hf := hd.fin
  unfold zw2
  rw [zwe hd (by omega), if_pos rfl, if_neg (by omega)]
theorem zuy {d : DFA} {m n : Nat} (hd : DfaOk d m n) (hn : n <= 12) : zw6 d := ⟨by rw [hd.fin]; omega, by rw [hd.nl]; omega, fun r hr => by have := (hd.row r hr).1; have := hd.m6; omega⟩
theorem zo9 {k : Nat} (h : 97 <= k) (h2 : k < 256) : IntKind.i64.wrap (IntKind.u8.wrap ((k : Int) - 97)) = ((k - 97 : Nat) : Int) := by
  rw [zwb (by omega) (by omega), z1Z (by omega) (by omega)]; omega
theorem zkG {w : ByteArray} {k : Nat} (h : k < w.size) : w[k] = w.data.toList.getD k 0 := by
  have h' : k < w.data.toList.length := by rw [Array.length_toList]; exact h
  rw [List.getD, List.getElem?_eq_getElem h', Option.getD_some, Array.getElem_toList]
  rfl
def zsY (m : Nat) (w : ByteArray) : Prop := w.size <= 2048 /\ ∀ c ∈ w.data.toList, 97 <= c.toNat /\ c.toNat < 97 + m
instance (m : Nat) (w : ByteArray) : Decidable (zsY m w) := by unfold zsY; exact inferInstance
theorem zxn {d : DFA} {m n : Nat} (hd : DfaOk d m n) (hn : n <= 12) : z8Q d = some (((2 ^ n - 1 : Nat) : Int)) := by
  have h12 := zcA hn
  have hp := Nat.two_pow_pos n
  unfold z8Q
  rw [hd.fin, zkV (by omega), z0m _ (by omega), z5w (by omega), z1Z (by omega) (by omega)]
  congr 1
  omega
theorem zay {r p : Nat} (hr : r < 2 ^ 62) (hp : p < 2 ^ 62) : z2P (r : Int) (p : Int) = some (decide (p &&& r = p)) := by
  unfold z2P
  congr 1
  rw [Bool.eq_iff_iff]; simp only [decide_eq_true_eq]
  exact zmI hp hr
def z4R (d : DFA) : Nat -> List UInt8 -> Nat
  | s, [] => s
  | s, c :: w => z4R d (mvN d s (c.toNat - 97)) w
theorem z6U (d : DFA) : ∀ (s : Nat) (u v : List UInt8), z4R d s (u ++ v) = z4R d (z4R d s u) v
  | s, [], v => rfl
  | s, c :: u, v => by simp only [List.cons_append, z4R, z6U]
theorem zeN {d : DFA} {m n : Nat} (hd : DfaOk d m n) : ∀ {w : List UInt8} {s : Nat}, s < 2 ^ n -> (∀ c ∈ w, 97 <= c.toNat /\ c.toNat < 97 + m) -> z4R d s w < 2 ^ n
  | [], s, hs, _ => hs
  | c :: w, s, hs, hw => by
    have hc := hw c (List.mem_cons_self ..)
    exact zeN (w := w) (s := mvN d s (c.toNat - 97)) hd (zeW hd (by omega)) fun c' hc' => hw c' (List.mem_cons_of_mem _ hc')
theorem zjH {α : Type} {l : List α} {k : Nat} (h : k < l.length) : l.take (k + 1) = l.take k ++ [l[k]] := by rw [List.take_succ_eq_append_getElem h]
theorem zvS {d : DFA} {m n : Nat} (hd : DfaOk d m n) (hn : n <= 12) {s : Nat} (hs : s < 2 ^ n) {w : ByteArray} (hw : zsY m w) : z7U d (s : Int) w = some ((z4R d s w.data.toList : Nat) : Int) := by
  have hl : w.data.toList.length = w.size := by rw [Array.length_toList]; rfl
  have h48 := hw.1
  unfold z7U
  refine z0t (s := ((s : Int), (0 : Int))) w.size (fun k => (((z4R d s (w.data.toList.take k) : Nat) : Int), (k : Int))) rfl (by simp only [LFm]; omega) (fun k hk => ?_) ?_
  · have hk' : k < w.data.toList.length := by omega
    have hc := hw.2 _ (List.getElem_mem hk')
    have hb : w[k] = w.data.toList[k] := by rw [zkG hk, List.getD, List.getElem?_eq_getElem hk', Option.getD_some]
    have h256 : w[k].toNat < 256 := w[k].toNat_lt
    simp only [z6u]
    rw [if_pos (by omega), zkH hk]
    simp only [Option.bind_some]
    rw [hb] at *
    rw [zo9 hc.1 h256, zfz hd hn (zeN hd hs fun c hc => hw.2 c (List.mem_of_mem_take hc)) (by omega)]
    simp only [Option.bind_some]
    rw [z0T (by omega), zjH hk', z6U]
    rfl
  · simp only [z6u]
    rw [if_neg (by omega), ← hl, List.take_length]
end
section
open Go
set_option maxRecDepth 100000
def zsS (a : Nat) : ByteArray := ⟨#[UInt8.ofNat (97 + a)]⟩
abbrev RS := List Nat × List ByteArray
def zhv (d : DFA) (i a : Nat) (st : RS) : RS := if mvN d (st.1.getD i 0) a ∈ st.1 then st else (st.1 ++ [mvN d (st.1.getD i 0) a], st.2 ++ [st.2.getD i ByteArray.empty ++ zsS a])
def z6A (d : DFA) (i : Nat) (st : RS) : Nat -> RS
  | 0 => st
  | a + 1 => zhv d i a (z6A d i st a)
def z6k (d : DFA) (m s : Nat) : Nat -> RS
  | 0 => ([s], [ByteArray.empty])
  | k + 1 => if k < (z6k d m s k).1.length then z6A d k (z6k d m s k) m else z6k d m s k
structure RInv (d : DFA) (m n s : Nat) (st : RS) : Prop where
  nd : st.1.Nodup
  lt : ∀ x ∈ st.1, x < 2 ^ n
  len : st.2.length = st.1.length
  f0 : st.1[0]? = some s
  w0 : st.2[0]? = some ByteArray.empty
  ok : ∀ i, i < st.1.length -> (st.2.getD i ByteArray.empty).size <= i /\ (∀ c ∈ (st.2.getD i ByteArray.empty).data.toList, 97 <= c.toNat /\ c.toNat < 97 + m) /\ z4R d s (st.2.getD i ByteArray.empty).data.toList = st.1.getD i 0
theorem z6G {α : Type} {l r : List α} {i : Nat} (d : α) (h : i < l.length) : (l ++ r).getD i d = l.getD i d := by
  rw [List.getD, List.getD, List.getElem?_append_left h]
theorem z8Y {α : Type} {l : List α} {x d : α} {i : Nat} (h : i = l.length) : (l ++ [x]).getD i d = x := by
  subst h; simp [List.getD]
theorem z0p {l : List Nat} {i : Nat} (h : i < l.length) : l.getD i 0 ∈ l := by
  rw [List.getD, List.getElem?_eq_getElem h]; exact List.getElem_mem h
theorem zhM {α : Type} : ∀ {l r : List α}, l.Nodup -> (∀ x ∈ l, x ∈ r) -> l.length <= r.length
  | [], r, _, _ => by simp
  | x :: l, r, hn, hs => by
    obtain ⟨a, b, rfl⟩ := List.append_of_mem (hs x (List.mem_cons_self ..))
    have hn' := List.nodup_cons.1 hn
    have := zhM (r := a ++ b) hn'.2 fun y hy => by
      have h1 := hs y (List.mem_cons_of_mem _ hy)
      have hne : y ≠ x := fun e => hn'.1 (e ▸ hy)
      rcases List.mem_append.1 h1 with h | h
      · exact List.mem_append.2 (.inl h)
      · rcases List.mem_cons.1 h with h | h
        · exact absurd h hne
        · exact List.mem_append.2 (.inr h)
    simp only [List.length_cons, List.length_append] at *
    omega
theorem z0z {l : List Nat} {N : Nat} (hn : l.Nodup) (hl : ∀ x ∈ l, x < N) : l.length <= N := by
  have := zhM hn (r := List.range N) fun x hx => List.mem_range.2 (hl x hx)
  simpa using this
theorem z8T (a : Nat) : (zsS a).data.toList = [UInt8.ofNat (97 + a)] := rfl
theorem zi6 (u v : ByteArray) : (u ++ v).data.toList = u.data.toList ++ v.data.toList := by simp
theorem zbk (u v : ByteArray) : (u ++ v).size = u.size + v.size := by simp
theorem z4x (a : Nat) : (zsS a).size = 1 := rfl
theorem zdg {a : Nat} (h : a < 26) : (UInt8.ofNat (97 + a)).toNat = 97 + a := by simp [UInt8.toNat_ofNat']; omega
theorem zt7 {d : DFA} {m n s : Nat} (hd : DfaOk d m n) {st : RS} (h : RInv d m n s st) {i a : Nat} (hi : i < st.1.length) (ha : a < m) :
    RInv d m n s (zhv d i a st) /\ mvN d (st.1.getD i 0) a ∈ (zhv d i a st).1 /\ ∃ S W, (zhv d i a st).1 = st.1 ++ S /\ (zhv d i a st).2 = st.2 ++ W := by
  have hm6 := hd.m6
  unfold zhv
  split
  · rename_i hm
    exact ⟨h, hm, [], [], by simp, by simp⟩
  · rename_i hm
    obtain ⟨o1, o2, o3⟩ := h.ok i hi
    refine ⟨⟨?_, ?_, by simp [h.len], ?_, ?_, ?_⟩, by simp, _, _, rfl, rfl⟩
    · refine List.nodup_append.2 ⟨h.nd, by simp, fun x hx y hy => ?_⟩
      obtain rfl : y = _ := by simpa using hy
      exact fun e => hm (e ▸ hx)
    · intro x hx
      rcases List.mem_append.1 hx with hx | hx
      · exact h.lt x hx
      · obtain rfl : x = _ := by simpa using hx
        exact zeW hd ha
    · rw [List.getElem?_append_left (by omega)]; exact h.f0
    · rw [List.getElem?_append_left (by rw [h.len]; omega)]; exact h.w0
    · intro j hj
      simp only [List.length_append, List.length_singleton] at hj
      by_cases e : j = st.1.length
      · rw [z8Y e, z8Y (by rw [h.len]; exact e), zbk, zi6, z8T, z4x, z6U, o3]
        refine ⟨by omega, fun c hc => ?_, ?_⟩
        · rcases List.mem_append.1 hc with hc | hc
          · exact o2 c hc
          · obtain rfl := List.mem_singleton.1 hc
            rw [zdg (by omega)]; omega
        · simp only [z4R]
          rw [zdg (by omega), Nat.add_sub_cancel_left]
      · rw [z6G _ (show j < st.2.length by rw [h.len]; omega), z6G _ (show j < st.1.length by omega)]
        exact h.ok j (by omega)
theorem zf6 {d : DFA} {m n s : Nat} (hd : DfaOk d m n) {st : RS} (h : RInv d m n s st) {i : Nat} (hi : i < st.1.length) : ∀ a, a <= m ->
    RInv d m n s (z6A d i st a) /\ (∀ b, b < a -> mvN d (st.1.getD i 0) b ∈ (z6A d i st a).1) /\ (∃ S W, (z6A d i st a).1 = st.1 ++ S /\ (z6A d i st a).2 = st.2 ++ W)
  | 0, _ => ⟨h, fun b hb => by omega, [], [], by simp [z6A], by simp [z6A]⟩
  | a + 1, ha => by
    obtain ⟨h1, h2, S, W, h3, h4⟩ := zf6 hd h hi a (by omega)
    have hi' : i < (z6A d i st a).1.length := by rw [h3, List.length_append]; omega
    obtain ⟨k1, k2, S', W', k3, k4⟩ := zt7 hd h1 hi' (show a < m by omega)
    have e : (z6A d i st a).1.getD i 0 = st.1.getD i 0 := by rw [h3, z6G _ hi]
    rw [e] at k2
    refine ⟨k1, fun b hb => ?_, S ++ S', W ++ W', by rw [z6A, k3, h3, List.append_assoc], by rw [z6A, k4, h4, List.append_assoc]⟩
    by_cases hb' : b = a
    · subst hb'; exact k2
    · rw [z6A, k3]; exact List.mem_append.2 (.inl (h2 b (by omega)))
theorem z8N {d : DFA} {m n s : Nat} (hd : DfaOk d m n) (hs : s < 2 ^ n) : ∀ k, RInv d m n s (z6k d m s k) /\ ∀ j, j < k -> j < (z6k d m s k).1.length -> ∀ a, a < m -> mvN d ((z6k d m s k).1.getD j 0) a ∈ (z6k d m s k).1
  | 0 => ⟨⟨by simp [z6k], by simpa [z6k] using hs, rfl, rfl, rfl, fun i hi => by
      obtain rfl : i = 0 := by simpa [z6k] using hi
      exact ⟨Nat.le_refl _, fun c hc => by simp [z6k, List.getD] at hc, rfl⟩⟩, fun j hj => by omega⟩
  | k + 1 => by
    obtain ⟨h1, h2⟩ := z8N hd hs k
    unfold z6k
    split
    · rename_i hk
      obtain ⟨k1, k2, S, W, k3, k4⟩ := zf6 hd h1 hk m (Nat.le_refl _)
      refine ⟨k1, fun j hj hjl a ha => ?_⟩
      by_cases e : j = k
      · subst e
        have := k2 a ha
        rwa [show (z6A d j (z6k d m s j) m).1.getD j 0 = (z6k d m s j).1.getD j 0 by rw [k3, z6G _ hk]]
      · have hj' : j < (z6k d m s k).1.length := by omega
        have := h2 j (by omega) hj' a ha
        rw [show (z6A d k (z6k d m s k) m).1.getD j 0 = (z6k d m s k).1.getD j 0 by rw [k3, z6G _ hj'], k3]
        exact List.mem_append.2 (.inl this)
    · rename_i hk
      exact ⟨h1, fun j hj hjl a ha => h2 j (by omega) hjl a ha⟩
theorem zhy {d : DFA} {m n s : Nat} (hd : DfaOk d m n) (hs : s < 2 ^ n) (k : Nat) : (z6k d m s k).1.length <= 2 ^ n := z0z (z8N hd hs k).1.nd (z8N hd hs k).1.lt
theorem zda {d : DFA} {m s : Nat} {k : Nat} (h : ¬ k < (z6k d m s k).1.length) : ∀ j, k <= j -> z6k d m s j = z6k d m s k
  | 0, hj => by
    obtain rfl : k = 0 := by omega
    rfl
  | j + 1, hj => by
    by_cases e : k = j + 1
    · rw [e]
    · have ih := zda h j (by omega)
      rw [z6k, ih, if_neg (by omega)]
def z0J (d : DFA) (m n s : Nat) : RS := z6k d m s (2 ^ n)
theorem zcX {d : DFA} {m n s : Nat} (hd : DfaOk d m n) (hs : s < 2 ^ n) {x a : Nat} (hx : x ∈ (z0J d m n s).1) (ha : a < m) : mvN d x a ∈ (z0J d m n s).1 := by
  obtain ⟨i, hi, rfl⟩ := List.getElem_of_mem hx
  have hl := zhy hd hs (2 ^ n)
  have := (z8N hd hs (2 ^ n)).2 i (by unfold z0J at hi; omega) hi a ha
  have e : (z6k d m s (2 ^ n)).1.getD i 0 = (z0J d m n s).1[i] := by
    show (z0J d m n s).1.getD i 0 = _
    rw [List.getD, List.getElem?_eq_getElem hi, Option.getD_some]
  rw [e] at this
  exact this
theorem z4a {d : DFA} {m n s : Nat} (hd : DfaOk d m n) (hs : s < 2 ^ n) : RInv d m n s (z0J d m n s) := (z8N hd hs _).1
def toI (l : List Nat) : List Int := l.map fun x => ((x : Nat) : Int)
theorem z0d (l : List Nat) : (toI l).length = l.length := by simp [toI]
theorem z3k (l : List Nat) (x : Nat) : toI (l ++ [x]) = toI l ++ [((x : Nat) : Int)] := by simp [toI]
theorem z0Y {l : List Nat} {i : Nat} (h : i < l.length) : atI (toI l) (i : Int) = some ((l.getD i 0 : Nat) : Int) := by
  rw [z1s (by rw [z0d]; exact h)]
  simp [toI, List.getD, h]
theorem zhu {l : List ByteArray} {i : Nat} (h : i < l.length) : atI l (i : Int) = some (l.getD i ByteArray.empty) := by
  rw [z1s h, List.getD, List.getElem?_eq_getElem h, Option.getD_some]
def zkb (n : Nat) (S : List Nat) : List Bool := (List.range (2 ^ n)).map fun x => decide (x ∈ S)
theorem zwR {n : Nat} {S : List Nat} {x : Nat} (h : x < 2 ^ n) : atI (zkb n S) (x : Int) = some (decide (x ∈ S)) := by
  rw [z1s (by simpa [zkb] using h)]; simp [zkb]
theorem zrJ {n : Nat} {S : List Nat} {x : Nat} : (zkb n S).set x true = zkb n (S ++ [x]) := by
  apply List.ext_getElem (by simp [zkb])
  intro i h1 h2
  simp only [zkb, List.getElem_set, List.getElem_map, List.getElem_range, List.mem_append, List.mem_singleton]
  by_cases e : x = i
  · subst e; simp
  · rw [if_neg e]
    have : ¬ i = x := fun h => e h.symm
    simp [this]
theorem zrK {n s : Nat} : (List.replicate (2 ^ n) false).set s true = zkb n [s] := by
  have : List.replicate (2 ^ n) false = zkb n [] := by
    apply List.ext_getElem (by simp [zkb])
    intro i h1 h2
    simp [zkb]
  rw [this, zrJ]; rfl
def zrO (S : List Nat) : List (Int × Bool) := S.map fun x => (((x : Nat) : Int), true)
theorem zrN (x : Nat) : ∀ S : List Nat, ((z8D ((x : Nat) : Int) (zrO S)).getD false) = decide (x ∈ S)
  | [] => rfl
  | y :: S => by
    have ih := zrN x S
    simp only [zrO, List.map_cons, z8D]
    by_cases e : y = x
    · subst e; simp
    · rw [if_neg (by omega)]
      have : ¬ x = y := fun h => e h.symm
      simp only [List.mem_cons, this, false_or]
      exact ih
theorem map_set {x : Nat} : ∀ {S : List Nat}, x ∉ S -> zaE ((x : Nat) : Int) true (zrO S) = zrO (S ++ [x])
  | [], _ => rfl
  | y :: S, h => by
    have ih := map_set (x := x) (S := S) (fun hh => h (List.mem_cons_of_mem _ hh))
    have hne : y ≠ x := fun e => h (by simp [e])
    simp only [zrO, List.map_cons, zaE, List.cons_append]
    rw [if_neg (by omega)]
    congr 1
theorem zcG {a : Nat} (h : a < 26) : (⟨#[UInt8.ofNat (IntKind.u8.wrap (IntKind.i64.wrap (97 + (a : Int)))).toNat]⟩ : ByteArray) = zsS a := by
  rw [z1Z (by omega) (by omega), zwb (by omega) (by omega)]
  have : (97 + (a : Int)).toNat = 97 + a := by omega
  rw [this]; rfl
theorem zmj {d : DFA} {m n s : Nat} (hd : DfaOk d m n) (hn : n <= 12) {st : RS} (h : RInv d m n s st) {i : Nat} (hi : i < st.1.length) :
    z0j (z4d d i) LFm (0, zkb n st.1, toI st.1, st.2) = z0e (((i + 1 : Nat) : Int), zkb n (z6A d i st m).1, toI (z6A d i st m).1, (z6A d i st m).2) := by
  have h12 := zcA hn
  have hm6 := hd.m6
  have hl := z0z h.nd h.lt
  refine z0t (s := ((0 : Int), zkb n st.1, toI st.1, st.2)) m (fun a => ((a : Int), zkb n (z6A d i st a).1, toI (z6A d i st a).1, (z6A d i st a).2)) rfl (by simp only [LFm]; omega) (fun a ha => ?_) ?_
  · obtain ⟨k1, _, S, W, k3, k4⟩ := zf6 hd h hi a (by omega)
    have hl2 := z0z k1.nd k1.lt
    have hi' : i < (z6A d i st a).1.length := by rw [k3, List.length_append]; omega
    have hx : (z6A d i st a).1.getD i 0 < 2 ^ n := k1.lt _ (z0p hi')
    obtain ⟨o1, _, _⟩ := k1.ok i hi'
    simp only [z4d]
    rw [if_pos (by rw [hd.lt]; omega), z0Y hi']
    simp only [Option.bind_some]
    rw [zrF hd hn hx ha]
    simp only [Option.bind_some]
    rw [zwR (zeW hd ha)]
    simp only [Option.bind_some, decide_eq_true_eq]
    rw [z0T (by omega), z6A]
    unfold zhv
    have hml := zeW hd (s := (z6A d i st a).1.getD i 0) ha
    have hlt := hd.lt
    clear hd h k3 k4
    revert hml
    generalize z6A d i st a = st' at *
    generalize mvN d (st'.1.getD i 0) a = x
    intro hml
    by_cases hm : x ∈ st'.1
    · rw [if_pos hm, if_pos hm]
    · rw [if_neg hm, if_neg hm, z0m _ (by unfold z1c; rw [z0d]; omega), zhu (by rw [k1.len]; exact hi'), Option.bind_some]
      rw [zcG (by omega), z0m _ (by unfold z6K; rw [z4x]; omega), z0m _ (by unfold z1c; rw [k1.len]; omega), Int.toNat_natCast, zrJ]
      rw [z3k]
  · simp only [z4d]
    rw [if_neg (by rw [hd.lt]; omega), z0T (by omega)]
theorem ztl {d : DFA} {m n s : Nat} (hd : DfaOk d m n) (hn : n <= 12) (hs : s < 2 ^ n) : z6g d (s : Int) = some (toI (z0J d m n s).1, (z0J d m n s).2) := by
  have h12 := zcA hn
  have hp := Nat.two_pow_pos n
  unfold z6g
  rw [hd.fin, z0m _ (by omega), z5w (by omega), z0m _ (by unfold z1g; omega), z0m _ (by omega), Int.toNat_natCast, Int.toNat_natCast, zrK]
  refine zba (s := ((0 : Int), zkb n [s], [(s : Int)], [ByteArray.empty])) (fun z => ∃ k : Nat, k <= 2 ^ n /\ z = ((k : Int), zkb n (z6k d m s k).1, toI (z6k d m s k).1, (z6k d m s k).2)) (fun z => 2 ^ n + 1 - z.1.toNat) ⟨0, by omega, rfl⟩ (by simp only [LFm]; omega) ?_
  rintro z ⟨k, hk, rfl⟩
  have hl := zhy hd hs k
  simp only [z6Y]
  by_cases h : k < (z6k d m s k).1.length
  · left
    rw [if_pos (by rw [z0d]; omega), zmj hd hn (z8N hd hs k).1 h]
    refine ⟨_, rfl, ⟨k + 1, by omega, ?_⟩, by simp only; omega⟩
    rw [z6k, if_pos h]
  · right
    rw [if_neg (by rw [z0d]; omega)]
    unfold z0J
    rw [zda h _ hk]
theorem zmk {d : DFA} {m n s : Nat} (hd : DfaOk d m n) (hn : n <= 12) {st : RS} (h : RInv d m n s st) {i : Nat} (hi : i < st.1.length) :
    z0j (z4v d i) LFm (0, toI st.1, st.2, zrO st.1) = z0e (((i + 1 : Nat) : Int), toI (z6A d i st m).1, (z6A d i st m).2, zrO (z6A d i st m).1) := by
  have h12 := zcA hn
  have hm6 := hd.m6
  have hl := z0z h.nd h.lt
  refine z0t (s := ((0 : Int), toI st.1, st.2, zrO st.1)) m (fun a => ((a : Int), toI (z6A d i st a).1, (z6A d i st a).2, zrO (z6A d i st a).1)) rfl (by simp only [LFm]; omega) (fun a ha => ?_) ?_
  · obtain ⟨k1, _, S, W, k3, k4⟩ := zf6 hd h hi a (by omega)
    have hl2 := z0z k1.nd k1.lt
    have hi' : i < (z6A d i st a).1.length := by rw [k3, List.length_append]; omega
    have hx : (z6A d i st a).1.getD i 0 < 2 ^ n := k1.lt _ (z0p hi')
    obtain ⟨o1, _, _⟩ := k1.ok i hi'
    simp only [z4v]
    rw [if_pos (by rw [hd.lt]; omega), z0Y hi']
    simp only [Option.bind_some]
    rw [zfz hd hn hx ha]
    simp only [Option.bind_some]
    rw [zrN]
    simp only [decide_eq_true_eq]
    rw [z0T (by omega), z6A]
    unfold zhv
    by_cases hm : mvN d ((z6A d i st a).1.getD i 0) a ∈ (z6A d i st a).1
    · rw [if_pos hm, if_pos hm]
    · rw [if_neg hm, if_neg hm, zhu (by rw [k1.len]; exact hi'), Option.bind_some]
      rw [z0m _ (by unfold z1c; rw [z0d]; omega), zcG (by omega), z0m _ (by unfold z6K; rw [z4x]; omega), z0m _ (by unfold z1c; rw [k1.len]; omega), map_set hm, z3k]
  · simp only [z4v]
    rw [if_neg (by rw [hd.lt]; omega), z0T (by omega)]
theorem zdr {d : DFA} {m n s : Nat} (hd : DfaOk d m n) (hn : n <= 12) (hs : s < 2 ^ n) : z3W d (s : Int) = some (toI (z0J d m n s).1, (z0J d m n s).2) := by
  have h12 := zcA hn
  have hp := Nat.two_pow_pos n
  unfold z3W
  refine zba (s := ((0 : Int), [(s : Int)], [ByteArray.empty], zrO [s])) (fun z => ∃ k : Nat, k <= 2 ^ n /\ z = ((k : Int), toI (z6k d m s k).1, (z6k d m s k).2, zrO (z6k d m s k).1)) (fun z => 2 ^ n + 1 - z.1.toNat) ⟨0, by omega, rfl⟩ (by simp only [LFm]; omega) ?_
  rintro z ⟨k, hk, rfl⟩
  have hl := zhy hd hs k
  simp only [z7E]
  by_cases h : k < (z6k d m s k).1.length
  · left
    rw [if_pos (by rw [z0d]; omega), zmk hd hn (z8N hd hs k).1 h]
    refine ⟨_, rfl, ⟨k + 1, by omega, ?_⟩, by simp only; omega⟩
    rw [z6k, if_pos h]
  · right
    rw [if_neg (by rw [z0d]; omega)]
    unfold z0J
    rw [zda h _ hk]
end
section
open Go
set_option maxRecDepth 100000
theorem zuz (x y : Int) : ∃ c, cmp_Compare_int x y = some c /\ (c < 0 ↔ x < y) := by
  simp only [cmp_Compare_int, cmp_isNaN_int, decide_true, Bool.not_true, Option.bind_some, Bool.false_eq_true, if_false]
  by_cases h1 : x < y
  · rw [if_pos h1]; exact ⟨_, rfl, by omega⟩
  · rw [if_neg h1]
    by_cases h2 : y < x
    · rw [if_pos h2]; exact ⟨_, rfl, by omega⟩
    · rw [if_neg h2]; exact ⟨_, rfl, by omega⟩
def kv (K : List Int) (x : Int) : Int := K.getD x.toNat 0
def zAm (K : List Int) (x : Int) : Prop := 0 <= x /\ x < K.length
abbrev zAY (K : List Int) (l : List Int) : Prop := ∀ x ∈ l, zAm K x
abbrev zE1 (K : List Int) (l : List Int) : Prop := l.Pairwise fun x y => kv K x <= kv K y
def zvG (K : List Int) : SrtC where
  cmp x y := z0U x y K
  key x := kv K x * 1048576 + x
  ok x := zAm K x /\ x < 1048576
  law x y hx hy h := by
    obtain ⟨i, rfl⟩ := Int.eq_ofNat_of_zero_le hx.1.1
    obtain ⟨j, rfl⟩ := Int.eq_ofNat_of_zero_le hy.1.1
    have hi : i < K.length := by have := hx.1.2; omega
    have hj : j < K.length := by have := hy.1.2; omega
    obtain ⟨c, h1, h2⟩ := zuz K[i] K[j]
    refine ⟨c, ?_, ?_⟩
    · unfold z0U
      rw [z1s hi, Option.bind_some, z1s hj, Option.bind_some, h1]; rfl
    · rw [h2]
      have e1 : kv K (i : Int) = K[i] := by simp [kv, List.getD, hi]
      have e2 : kv K (j : Int) = K[j] := by simp [kv, List.getD, hj]
      have := hx.2
      have := hy.2
      omega
theorem zn0 : ∀ k, z0n k = fun l a m b K => zuv k l a m b (zvG K)
  | 0 => rfl
  | k + 1 => by
    show z0D (z0n k) = _
    rw [zn0 k]
    rfl
theorem zt8 (l K : List Int) : z0o l K = zxw l (zvG K) := by
  have h9 : z0E = fun a K w => zcJ a (zvG K) w := by
    unfold z0E
    rw [zn0]
    all_goals rfl
  have h7 : z0F = fun a K => zfb a (zvG K) := by
    unfold z0F
    rw [h9]
    all_goals rfl
  have h2 : z0G = fun a K => zfc a (zvG K) := by
    unfold z0G
    rw [h7]
    all_goals rfl
  unfold z0o z0K
  rw [h2]
  all_goals rfl
theorem zsI (n : Nat) : ((List.range n).map fun x => ((x : Nat) : Int)).Pairwise (· < ·) := List.Pairwise.map _ (fun a b (h : a < b) => by omega) List.pairwise_lt_range
theorem zr6 {K : List Int} {n : Nat} (hv : zAY K (toI (List.range n))) (hn : (toI (List.range n)).length <= 5000) : ∃ S, z0o (toI (List.range n)) K = some S /\ zE1 K S /\ S.Perm (toI (List.range n)) := by
  have hok : ∀ x ∈ toI (List.range n), (zvG K).ok x := fun x hx => ⟨hv x hx, by
    rw [z0d, List.length_range] at hn
    obtain ⟨i, hi, rfl⟩ := List.mem_map.1 hx
    have := List.mem_range.1 hi
    omega⟩
  obtain ⟨S, e, h1, h2⟩ := zr7 (K := zvG K) hok (zsI n) hn
  refine ⟨S, by rw [zt8, e], ?_, h2⟩
  refine List.Pairwise.imp_of_mem (fun {x y} hx hy h => ?_) h1
  have o1 := hok x (h2.mem_iff.1 hx)
  have o2 := hok y (h2.mem_iff.1 hy)
  have a1 := o1.1.1
  have a2 := o1.2
  have b1 := o2.1.1
  have b2 := o2.2
  have h3 : kv K x * 1048576 + x <= kv K y * 1048576 + y := h
  show kv K x <= kv K y
  omega
end
section
open Go
noncomputable section
set_option maxRecDepth 100000
set_option maxHeartbeats 6000000
def z1w (a0 : Int) (a1 : Int) (m0 : List Int) (m9 : List Int) (p4 : List Int) (q2 : List (List Int)) (q3 : List ByteArray) (q4 : List ByteArray) (m1 : List (List Int)) : Option (Int) :=
  (atI m1 a1).bind fun v8 =>
  (atI v8 0).bind fun v9 =>
  (atI p4 v9).bind fun v10 =>
  (atI m1 a0).bind fun v11 =>
  (atI v11 0).bind fun v12 =>
  (atI p4 v12).bind fun v13 =>
  (cmp_Compare_int v10 v13).bind fun v14 =>
  some v14
instance holonomy_classes_1_ok {a0 : Int} {a1 : Int} {m0 : List Int} {m9 : List Int} {p4 : List Int} {q2 : List (List Int)} {q3 : List ByteArray} {q4 : List ByteArray} {m1 : List (List Int)} : Ok (z1w a0 a1 m0 m9 p4 q2 q3 q4 m1) (fun r => L 53 [.sc (.int .i64 a0), .sc (.int .i64 a1), .pr [.sl m0.length (m0.map fun x0 => .sc (.int .i64 x0)), .sl m9.length (m9.map fun x0 => .sc (.int .i64 x0)), .sl p4.length (p4.map fun x0 => .sc (.int .i64 x0)), .sl q2.length (q2.map fun x0 => .sl x0.length (x0.map fun x1 => .sc (.int .i64 x1))), .sl q3.length (q3.map fun x0 => .sc (.string x0)), .sl q4.length (q4.map fun x0 => .sc (.string x0))], .pr [.sl m1.length (m1.map fun x0 => .sl x0.length (x0.map fun x1 => .sc (.int .i64 x1)))]] = some (.sc (.int .i64 r), [.dead, .dead, .dead, .dead])) := ⟨fun r h => by have h := z4p h; unfold z1w at h; exact z4O zzJ zBM zDA⟩
abbrev z1t (a1 : Int) (n7 : List Int) (n8 : List Int) (n9 : List Int) (p0 : List (List Int)) (p1 : List ByteArray) (p2 : List ByteArray) (p3 : List (List Int)) (w95 : Int) : Int × List Int -> Option ((Int × List Int) ⊕ ((Int × List Int) ⊕ List Int))
  | (w127, w128) =>
  if a1 < w127 then
    (atI w128 w127).bind fun v136 =>
    (atI w128 (IntKind.i64.wrap (w127 - 1))).bind fun v137 =>
    (z1w v136 v137 n7 n8 n9 p0 p1 p2 p3).bind fun v138 =>
    if v138 < 0 then
      (atI (w128.set w127.toNat v137) (IntKind.i64.wrap (w127 - 1))).bind fun v142 =>
      z0e (IntKind.i64.wrap (w127 - 1), ((w128.set w127.toNat v137).set (IntKind.i64.wrap (w127 - 1)).toNat v136))
    else
      z0k <|
      z0e (IntKind.i64.wrap (w95 + 1), w128)
  else
    z0k <|
    z0e (IntKind.i64.wrap (w95 + 1), w128)
instance {a1 : Int} {n7 : List Int} {n8 : List Int} {n9 : List Int} {p0 : List (List Int)} {p1 : List ByteArray} {p2 : List ByteArray} {p3 : List (List Int)} {w95 : Int} : Hd (z1t a1 n7 n8 n9 p0 p1 p2 p3 w95) := ⟨fun (w127, w128) => ([(9, xI w127)], [(0, .os 1 w128.length (w128.map fun x0 => .sc (.int .i64 x0)))])⟩
abbrev z1u (a1 : Int) (a2 : Int) (n7 : List Int) (n8 : List Int) (n9 : List Int) (p0 : List (List Int)) (p1 : List ByteArray) (p2 : List ByteArray) (p3 : List (List Int)) : Int × List Int -> Option ((Int × List Int) ⊕ List Int)
  | (w95, w96) =>
  if w95 < a2 then
    z0j (z1t a1 n7 n8 n9 p0 p1 p2 p3 w95) LFm (w95, w96)
  else
    z0k <|
    some w96
instance {a1 : Int} {a2 : Int} {n7 : List Int} {n8 : List Int} {n9 : List Int} {p0 : List (List Int)} {p1 : List ByteArray} {p2 : List ByteArray} {p3 : List (List Int)} : Hd (z1u a1 a2 n7 n8 n9 p0 p1 p2 p3) := ⟨fun (w95, w96) => ([(8, xI w95)], [(0, .os 1 w96.length (w96.map fun x0 => .sc (.int .i64 x0)))])⟩
def z0I (a0 : List Int) (a1 : Int) (a2 : Int) (n7 : List Int) (n8 : List Int) (n9 : List Int) (p0 : List (List Int)) (p1 : List ByteArray) (p2 : List ByteArray) (p3 : List (List Int)) : Option (List Int) :=
  z0j (z1u a1 a2 n7 n8 n9 p0 p1 p2 p3) LFm (IntKind.i64.wrap (a1 + 1), a0)
instance slices_insertionSortCmpFunc_int_holonomy_classes_1_ok {a0 : List Int} {a1 : Int} {a2 : Int} {n7 : List Int} {n8 : List Int} {n9 : List Int} {p0 : List (List Int)} {p1 : List ByteArray} {p2 : List ByteArray} {p3 : List (List Int)} : Ok (z0I a0 a1 a2 n7 n8 n9 p0 p1 p2 p3) (fun r => L 84 [.os 1 a0.length (a0.map fun x0 => .sc (.int .i64 x0)), .sc (.int .i64 a1), .sc (.int .i64 a2), .cl 53 [.pr [.sl n7.length (n7.map fun x0 => .sc (.int .i64 x0)), .sl n8.length (n8.map fun x0 => .sc (.int .i64 x0)), .sl n9.length (n9.map fun x0 => .sc (.int .i64 x0)), .sl p0.length (p0.map fun x0 => .sl x0.length (x0.map fun x1 => .sc (.int .i64 x1))), .sl p1.length (p1.map fun x0 => .sc (.string x0)), .sl p2.length (p2.map fun x0 => .sc (.string x0))], .pr [.sl p3.length (p3.map fun x0 => .sl x0.length (x0.map fun x1 => .sc (.int .i64 x1)))]]] = some (.tup [], [.os 1 r.length (r.map fun x0 => .sc (.int .i64 x0)), .dead, .dead, .dead])) := ⟨fun r h => by have h := z4p h; unfold z0I at h; exact z4O zxf zAw zAO⟩
abbrev z1J (a1 : Int) (a2 : Int) (a3 : Int) : Int × List Int -> Option ((Int × List Int) ⊕ List Int)
  | (w19, w20) =>
  if w19 < a3 then
    (atI w20 (IntKind.i64.wrap (a2 + w19))).bind fun v25 =>
    (atI w20 (IntKind.i64.wrap (a1 + w19))).bind fun v26 =>
    (atI (w20.set (IntKind.i64.wrap (a1 + w19)).toNat v25) (IntKind.i64.wrap (a2 + w19))).bind fun v28 =>
    z0e (IntKind.i64.wrap (w19 + 1), ((w20.set (IntKind.i64.wrap (a1 + w19)).toNat v25).set (IntKind.i64.wrap (a2 + w19)).toNat v26))
  else
    z0k <|
    some w20
instance {a1 : Int} {a2 : Int} {a3 : Int} : Hd (z1J a1 a2 a3) := ⟨fun (w19, w20) => ([(10, xI w19)], [(0, .os 1 w20.length (w20.map fun x0 => .sc (.int .i64 x0)))])⟩
def z0B (a0 : List Int) (a1 : Int) (a2 : Int) (a3 : Int) (m2 : List Int) (m3 : List Int) (m4 : List Int) (m5 : List (List Int)) (m6 : List ByteArray) (m7 : List ByteArray) (m8 : List (List Int)) : Option (List Int) :=
  z0j (z1J a1 a2 a3) LFm (0, a0)
instance slices_swapRangeCmpFunc_int_holonomy_classes_1_ok {a0 : List Int} {a1 : Int} {a2 : Int} {a3 : Int} {m2 : List Int} {m3 : List Int} {m4 : List Int} {m5 : List (List Int)} {m6 : List ByteArray} {m7 : List ByteArray} {m8 : List (List Int)} : Ok (z0B a0 a1 a2 a3 m2 m3 m4 m5 m6 m7 m8) (fun r => L 103 [.os 1 a0.length (a0.map fun x0 => .sc (.int .i64 x0)), .sc (.int .i64 a1), .sc (.int .i64 a2), .sc (.int .i64 a3), .cl 53 [.pr [.sl m2.length (m2.map fun x0 => .sc (.int .i64 x0)), .sl m3.length (m3.map fun x0 => .sc (.int .i64 x0)), .sl m4.length (m4.map fun x0 => .sc (.int .i64 x0)), .sl m5.length (m5.map fun x0 => .sl x0.length (x0.map fun x1 => .sc (.int .i64 x1))), .sl m6.length (m6.map fun x0 => .sc (.string x0)), .sl m7.length (m7.map fun x0 => .sc (.string x0))], .pr [.sl m8.length (m8.map fun x0 => .sl x0.length (x0.map fun x1 => .sc (.int .i64 x1)))]]] = some (.tup [], [.os 1 r.length (r.map fun x0 => .sc (.int .i64 x0)), .dead, .dead, .dead, .dead])) := ⟨fun r h => by have h := z4p h; unfold z0B at h; exact z4O zuD zx8 zxj⟩
abbrev z1S (a2 : Int) (m2 : List Int) (m3 : List Int) (m4 : List Int) (m5 : List (List Int)) (m6 : List ByteArray) (m7 : List ByteArray) (m8 : List (List Int)) : Int × Int × List Int -> Option ((Int × Int × List Int) ⊕ List Int)
  | (w13, w15, w14) =>
  if w13 = w15 then
    z0k <|
    (z0B w14 (IntKind.i64.wrap (a2 - w13)) a2 w13 m2 m3 m4 m5 m6 m7 m8).bind fun v18 =>
    some v18
  else
    if w15 < w13 then
      (z0B w14 (IntKind.i64.wrap (a2 - w13)) a2 w15 m2 m3 m4 m5 m6 m7 m8).bind fun v19 =>
      z0e (IntKind.i64.wrap (w13 - w15), w15, v19)
    else
      (z0B w14 (IntKind.i64.wrap (a2 - w13)) (IntKind.i64.wrap ((IntKind.i64.wrap (a2 + w15)) - w13)) w13 m2 m3 m4 m5 m6 m7 m8).bind fun v20 =>
      z0e (w13, IntKind.i64.wrap (w15 - w13), v20)
instance {a2 : Int} {m2 : List Int} {m3 : List Int} {m4 : List Int} {m5 : List (List Int)} {m6 : List ByteArray} {m7 : List ByteArray} {m8 : List (List Int)} : Hd (z1S a2 m2 m3 m4 m5 m6 m7 m8) := ⟨fun (w13, w15, w14) => ([(10, xI w13), (11, xI w15)], [(0, .os 1 w14.length (w14.map fun x0 => .sc (.int .i64 x0)))])⟩
def z0W (a0 : List Int) (a1 : Int) (a2 : Int) (a3 : Int) (m2 : List Int) (m3 : List Int) (m4 : List Int) (m5 : List (List Int)) (m6 : List ByteArray) (m7 : List ByteArray) (m8 : List (List Int)) : Option (List Int) :=
  z0j (z1S a2 m2 m3 m4 m5 m6 m7 m8) LFm (IntKind.i64.wrap (a2 - a1), IntKind.i64.wrap (a3 - a2), a0)
instance slices_rotateCmpFunc_int_holonomy_classes_1_ok {a0 : List Int} {a1 : Int} {a2 : Int} {a3 : Int} {m2 : List Int} {m3 : List Int} {m4 : List Int} {m5 : List (List Int)} {m6 : List ByteArray} {m7 : List ByteArray} {m8 : List (List Int)} : Ok (z0W a0 a1 a2 a3 m2 m3 m4 m5 m6 m7 m8) (fun r => L 97 [.os 1 a0.length (a0.map fun x0 => .sc (.int .i64 x0)), .sc (.int .i64 a1), .sc (.int .i64 a2), .sc (.int .i64 a3), .cl 53 [.pr [.sl m2.length (m2.map fun x0 => .sc (.int .i64 x0)), .sl m3.length (m3.map fun x0 => .sc (.int .i64 x0)), .sl m4.length (m4.map fun x0 => .sc (.int .i64 x0)), .sl m5.length (m5.map fun x0 => .sl x0.length (x0.map fun x1 => .sc (.int .i64 x1))), .sl m6.length (m6.map fun x0 => .sc (.string x0)), .sl m7.length (m7.map fun x0 => .sc (.string x0))], .pr [.sl m8.length (m8.map fun x0 => .sl x0.length (x0.map fun x1 => .sc (.int .i64 x1)))]]] = some (.tup [], [.os 1 r.length (r.map fun x0 => .sc (.int .i64 x0)), .dead, .dead, .dead, .dead])) := ⟨fun r h => by have h := z4p h; unfold z0W at h; exact z4O zxd zAu zAM⟩
abbrev z1N (w102 : Int) : Int × List Int -> Option ((Int × List Int) ⊕ List Int)
  | (w114, w115) =>
  if w114 < (IntKind.i64.wrap (w102 - 1)) then
    (atI w115 (IntKind.i64.wrap (w114 + 1))).bind fun v120 =>
    (atI w115 w114).bind fun v121 =>
    (atI (w115.set w114.toNat v120) (IntKind.i64.wrap (w114 + 1))).bind fun v123 =>
    z0e (IntKind.i64.wrap (w114 + 1), ((w115.set w114.toNat v120).set (IntKind.i64.wrap (w114 + 1)).toNat v121))
  else
    z0k <|
    some w115
instance {w102 : Int} : Hd (z1N w102) := ⟨fun (w114, w115) => ([(13, xI w114)], [(0, .os 1 w115.length (w115.map fun x0 => .sc (.int .i64 x0)))])⟩
abbrev z1O (a0 : List Int) (a1 : Int) (m2 : List Int) (m3 : List Int) (m4 : List Int) (m5 : List (List Int)) (m6 : List ByteArray) (m7 : List ByteArray) (m8 : List (List Int)) : Int × Int -> Option ((Int × Int) ⊕ List Int)
  | (w102, w103) =>
  if w102 < w103 then
    chk (¬ 1 < 0) <|
    (atI a0 (IntKind.i64.wrap (z0l .u64 (IntKind.u64.wrap (IntKind.i64.wrap (w102 + w103))) 1))).bind fun v107 =>
    (atI a0 a1).bind fun v108 =>
    (z1w v107 v108 m2 m3 m4 m5 m6 m7 m8).bind fun v109 =>
    if v109 < 0 then
      z0e (IntKind.i64.wrap ((IntKind.i64.wrap (z0l .u64 (IntKind.u64.wrap (IntKind.i64.wrap (w102 + w103))) 1)) + 1), w103)
    else
      z0e (w102, IntKind.i64.wrap (z0l .u64 (IntKind.u64.wrap (IntKind.i64.wrap (w102 + w103))) 1))
  else
    z0k <|
    z0j (z1N w102) LFm (a1, a0)
instance {a0 : List Int} {a1 : Int} {m2 : List Int} {m3 : List Int} {m4 : List Int} {m5 : List (List Int)} {m6 : List ByteArray} {m7 : List ByteArray} {m8 : List (List Int)} : Hd (z1O a0 a1 m2 m3 m4 m5 m6 m7 m8) := ⟨fun (w102, w103) => ([(10, xI w102), (11, xI w103)], [])⟩
abbrev z1H (w128 : Int) : Int × List Int -> Option ((Int × List Int) ⊕ List Int)
  | (w139, w140) =>
  if w128 < w139 then
    (atI w140 (IntKind.i64.wrap (w139 - 1))).bind fun v145 =>
    (atI w140 w139).bind fun v146 =>
    (atI (w140.set w139.toNat v145) (IntKind.i64.wrap (w139 - 1))).bind fun v148 =>
    z0e (IntKind.i64.wrap (w139 - 1), ((w140.set w139.toNat v145).set (IntKind.i64.wrap (w139 - 1)).toNat v146))
  else
    z0k <|
    some w140
instance {w128 : Int} : Hd (z1H w128) := ⟨fun (w139, w140) => ([(17, xI w139)], [(0, .os 1 w140.length (w140.map fun x0 => .sc (.int .i64 x0)))])⟩
abbrev z1I (a0 : List Int) (a2 : Int) (m2 : List Int) (m3 : List Int) (m4 : List Int) (m5 : List (List Int)) (m6 : List ByteArray) (m7 : List ByteArray) (m8 : List (List Int)) : Int × Int -> Option ((Int × Int) ⊕ List Int)
  | (w128, w127) =>
  if w128 < w127 then
    chk (¬ 1 < 0) <|
    (atI a0 a2).bind fun v132 =>
    (atI a0 (IntKind.i64.wrap (z0l .u64 (IntKind.u64.wrap (IntKind.i64.wrap (w128 + w127))) 1))).bind fun v133 =>
    (z1w v132 v133 m2 m3 m4 m5 m6 m7 m8).bind fun v134 =>
    if v134 < 0 then
      z0e (w128, IntKind.i64.wrap (z0l .u64 (IntKind.u64.wrap (IntKind.i64.wrap (w128 + w127))) 1))
    else
      z0e (IntKind.i64.wrap ((IntKind.i64.wrap (z0l .u64 (IntKind.u64.wrap (IntKind.i64.wrap (w128 + w127))) 1)) + 1), w127)
  else
    z0k <|
    z0j (z1H w128) LFm (a2, a0)
instance {a0 : List Int} {a2 : Int} {m2 : List Int} {m3 : List Int} {m4 : List Int} {m5 : List (List Int)} {m6 : List ByteArray} {m7 : List ByteArray} {m8 : List (List Int)} : Hd (z1I a0 a2 m2 m3 m4 m5 m6 m7 m8) := ⟨fun (w128, w127) => ([(14, xI w128), (15, xI w127)], [])⟩
abbrev z1G (a0 : List Int) (a1 : Int) (a2 : Int) (a3 : Int) (m2 : List Int) (m3 : List Int) (m4 : List Int) (m5 : List (List Int)) (m6 : List ByteArray) (m7 : List ByteArray) (m8 : List (List Int)) (rf : List Int -> Int -> Int -> Int -> List Int -> List Int -> List Int -> List (List Int) -> List ByteArray -> List ByteArray -> List (List Int) -> Option (List Int)) : Int × Int -> Option ((Int × Int) ⊕ List Int)
  | (w153, w152) =>
  if w153 < w152 then
    chk (¬ 1 < 0) <|
    (atI a0 (IntKind.i64.wrap ((IntKind.i64.wrap ((IntKind.i64.wrap ((IntKind.i64.wrap (z0l .u64 (IntKind.u64.wrap (IntKind.i64.wrap (a1 + a3))) 1)) + a2)) - 1)) - (IntKind.i64.wrap (z0l .u64 (IntKind.u64.wrap (IntKind.i64.wrap (w153 + w152))) 1))))).bind fun v157 =>
    (atI a0 (IntKind.i64.wrap (z0l .u64 (IntKind.u64.wrap (IntKind.i64.wrap (w153 + w152))) 1))).bind fun v158 =>
    (z1w v157 v158 m2 m3 m4 m5 m6 m7 m8).bind fun v159 =>
    if v159 < 0 then
      z0e (w153, IntKind.i64.wrap (z0l .u64 (IntKind.u64.wrap (IntKind.i64.wrap (w153 + w152))) 1))
    else
      z0e (IntKind.i64.wrap ((IntKind.i64.wrap (z0l .u64 (IntKind.u64.wrap (IntKind.i64.wrap (w153 + w152))) 1)) + 1), w152)
  else
    z0k <|
    if w153 < a2 then
      if a2 < (IntKind.i64.wrap ((IntKind.i64.wrap ((IntKind.i64.wrap (z0l .u64 (IntKind.u64.wrap (IntKind.i64.wrap (a1 + a3))) 1)) + a2)) - w153)) then
        (z0W a0 w153 a2 (IntKind.i64.wrap ((IntKind.i64.wrap ((IntKind.i64.wrap (z0l .u64 (IntKind.u64.wrap (IntKind.i64.wrap (a1 + a3))) 1)) + a2)) - w153)) m2 m3 m4 m5 m6 m7 m8).bind fun v160 =>
        if a1 < w153 then
          if w153 < (IntKind.i64.wrap (z0l .u64 (IntKind.u64.wrap (IntKind.i64.wrap (a1 + a3))) 1)) then
            (rf v160 a1 w153 (IntKind.i64.wrap (z0l .u64 (IntKind.u64.wrap (IntKind.i64.wrap (a1 + a3))) 1)) m2 m3 m4 m5 m6 m7 m8).bind fun v161 =>
            if (IntKind.i64.wrap (z0l .u64 (IntKind.u64.wrap (IntKind.i64.wrap (a1 + a3))) 1)) < (IntKind.i64.wrap ((IntKind.i64.wrap ((IntKind.i64.wrap (z0l .u64 (IntKind.u64.wrap (IntKind.i64.wrap (a1 + a3))) 1)) + a2)) - w153)) then
              if (IntKind.i64.wrap ((IntKind.i64.wrap ((IntKind.i64.wrap (z0l .u64 (IntKind.u64.wrap (IntKind.i64.wrap (a1 + a3))) 1)) + a2)) - w153)) < a3 then
                (rf v161 (IntKind.i64.wrap (z0l .u64 (IntKind.u64.wrap (IntKind.i64.wrap (a1 + a3))) 1)) (IntKind.i64.wrap ((IntKind.i64.wrap ((IntKind.i64.wrap (z0l .u64 (IntKind.u64.wrap (IntKind.i64.wrap (a1 + a3))) 1)) + a2)) - w153)) a3 m2 m3 m4 m5 m6 m7 m8).bind fun v162 =>
                some v162
              else
                some v161
            else
              some v161
          else
            if (IntKind.i64.wrap (z0l .u64 (IntKind.u64.wrap (IntKind.i64.wrap (a1 + a3))) 1)) < (IntKind.i64.wrap ((IntKind.i64.wrap ((IntKind.i64.wrap (z0l .u64 (IntKind.u64.wrap (IntKind.i64.wrap (a1 + a3))) 1)) + a2)) - w153)) then
              if (IntKind.i64.wrap ((IntKind.i64.wrap ((IntKind.i64.wrap (z0l .u64 (IntKind.u64.wrap (IntKind.i64.wrap (a1 + a3))) 1)) + a2)) - w153)) < a3 then
                (rf v160 (IntKind.i64.wrap (z0l .u64 (IntKind.u64.wrap (IntKind.i64.wrap (a1 + a3))) 1)) (IntKind.i64.wrap ((IntKind.i64.wrap ((IntKind.i64.wrap (z0l .u64 (IntKind.u64.wrap (IntKind.i64.wrap (a1 + a3))) 1)) + a2)) - w153)) a3 m2 m3 m4 m5 m6 m7 m8).bind fun v163 =>
                some v163
              else
                some v160
            else
              some v160
        else
          if (IntKind.i64.wrap (z0l .u64 (IntKind.u64.wrap (IntKind.i64.wrap (a1 + a3))) 1)) < (IntKind.i64.wrap ((IntKind.i64.wrap ((IntKind.i64.wrap (z0l .u64 (IntKind.u64.wrap (IntKind.i64.wrap (a1 + a3))) 1)) + a2)) - w153)) then
            if (IntKind.i64.wrap ((IntKind.i64.wrap ((IntKind.i64.wrap (z0l .u64 (IntKind.u64.wrap (IntKind.i64.wrap (a1 + a3))) 1)) + a2)) - w153)) < a3 then
              (rf v160 (IntKind.i64.wrap (z0l .u64 (IntKind.u64.wrap (IntKind.i64.wrap (a1 + a3))) 1)) (IntKind.i64.wrap ((IntKind.i64.wrap ((IntKind.i64.wrap (z0l .u64 (IntKind.u64.wrap (IntKind.i64.wrap (a1 + a3))) 1)) + a2)) - w153)) a3 m2 m3 m4 m5 m6 m7 m8).bind fun v164 =>
              some v164
            else
              some v160
          else
            some v160
      else
        if a1 < w153 then
          if w153 < (IntKind.i64.wrap (z0l .u64 (IntKind.u64.wrap (IntKind.i64.wrap (a1 + a3))) 1)) then
            (rf a0 a1 w153 (IntKind.i64.wrap (z0l .u64 (IntKind.u64.wrap (IntKind.i64.wrap (a1 + a3))) 1)) m2 m3 m4 m5 m6 m7 m8).bind fun v165 =>
            if (IntKind.i64.wrap (z0l .u64 (IntKind.u64.wrap (IntKind.i64.wrap (a1 + a3))) 1)) < (IntKind.i64.wrap ((IntKind.i64.wrap ((IntKind.i64.wrap (z0l .u64 (IntKind.u64.wrap (IntKind.i64.wrap (a1 + a3))) 1)) + a2)) - w153)) then
              if (IntKind.i64.wrap ((IntKind.i64.wrap ((IntKind.i64.wrap (z0l .u64 (IntKind.u64.wrap (IntKind.i64.wrap (a1 + a3))) 1)) + a2)) - w153)) < a3 then
                (rf v165 (IntKind.i64.wrap (z0l .u64 (IntKind.u64.wrap (IntKind.i64.wrap (a1 + a3))) 1)) (IntKind.i64.wrap ((IntKind.i64.wrap ((IntKind.i64.wrap (z0l .u64 (IntKind.u64.wrap (IntKind.i64.wrap (a1 + a3))) 1)) + a2)) - w153)) a3 m2 m3 m4 m5 m6 m7 m8).bind fun v166 =>
                some v166
              else
                some v165
            else
              some v165
          else
            if (IntKind.i64.wrap (z0l .u64 (IntKind.u64.wrap (IntKind.i64.wrap (a1 + a3))) 1)) < (IntKind.i64.wrap ((IntKind.i64.wrap ((IntKind.i64.wrap (z0l .u64 (IntKind.u64.wrap (IntKind.i64.wrap (a1 + a3))) 1)) + a2)) - w153)) then
              if (IntKind.i64.wrap ((IntKind.i64.wrap ((IntKind.i64.wrap (z0l .u64 (IntKind.u64.wrap (IntKind.i64.wrap (a1 + a3))) 1)) + a2)) - w153)) < a3 then
                (rf a0 (IntKind.i64.wrap (z0l .u64 (IntKind.u64.wrap (IntKind.i64.wrap (a1 + a3))) 1)) (IntKind.i64.wrap ((IntKind.i64.wrap ((IntKind.i64.wrap (z0l .u64 (IntKind.u64.wrap (IntKind.i64.wrap (a1 + a3))) 1)) + a2)) - w153)) a3 m2 m3 m4 m5 m6 m7 m8).bind fun v167 =>
                some v167
              else
                some a0
            else
              some a0
        else
          if (IntKind.i64.wrap (z0l .u64 (IntKind.u64.wrap (IntKind.i64.wrap (a1 + a3))) 1)) < (IntKind.i64.wrap ((IntKind.i64.wrap ((IntKind.i64.wrap (z0l .u64 (IntKind.u64.wrap (IntKind.i64.wrap (a1 + a3))) 1)) + a2)) - w153)) then
            if (IntKind.i64.wrap ((IntKind.i64.wrap ((IntKind.i64.wrap (z0l .u64 (IntKind.u64.wrap (IntKind.i64.wrap (a1 + a3))) 1)) + a2)) - w153)) < a3 then
              (rf a0 (IntKind.i64.wrap (z0l .u64 (IntKind.u64.wrap (IntKind.i64.wrap (a1 + a3))) 1)) (IntKind.i64.wrap ((IntKind.i64.wrap ((IntKind.i64.wrap (z0l .u64 (IntKind.u64.wrap (IntKind.i64.wrap (a1 + a3))) 1)) + a2)) - w153)) a3 m2 m3 m4 m5 m6 m7 m8).bind fun v168 =>
              some v168
            else
              some a0
          else
            some a0
    else
      if a1 < w153 then
        if w153 < (IntKind.i64.wrap (z0l .u64 (IntKind.u64.wrap (IntKind.i64.wrap (a1 + a3))) 1)) then
          (rf a0 a1 w153 (IntKind.i64.wrap (z0l .u64 (IntKind.u64.wrap (IntKind.i64.wrap (a1 + a3))) 1)) m2 m3 m4 m5 m6 m7 m8).bind fun v169 =>
          if (IntKind.i64.wrap (z0l .u64 (IntKind.u64.wrap (IntKind.i64.wrap (a1 + a3))) 1)) < (IntKind.i64.wrap ((IntKind.i64.wrap ((IntKind.i64.wrap (z0l .u64 (IntKind.u64.wrap (IntKind.i64.wrap (a1 + a3))) 1)) + a2)) - w153)) then
            if (IntKind.i64.wrap ((IntKind.i64.wrap ((IntKind.i64.wrap (z0l .u64 (IntKind.u64.wrap (IntKind.i64.wrap (a1 + a3))) 1)) + a2)) - w153)) < a3 then
              (rf v169 (IntKind.i64.wrap (z0l .u64 (IntKind.u64.wrap (IntKind.i64.wrap (a1 + a3))) 1)) (IntKind.i64.wrap ((IntKind.i64.wrap ((IntKind.i64.wrap (z0l .u64 (IntKind.u64.wrap (IntKind.i64.wrap (a1 + a3))) 1)) + a2)) - w153)) a3 m2 m3 m4 m5 m6 m7 m8).bind fun v170 =>
              some v170
            else
              some v169
          else
            some v169
        else
          if (IntKind.i64.wrap (z0l .u64 (IntKind.u64.wrap (IntKind.i64.wrap (a1 + a3))) 1)) < (IntKind.i64.wrap ((IntKind.i64.wrap ((IntKind.i64.wrap (z0l .u64 (IntKind.u64.wrap (IntKind.i64.wrap (a1 + a3))) 1)) + a2)) - w153)) then
            if (IntKind.i64.wrap ((IntKind.i64.wrap ((IntKind.i64.wrap (z0l .u64 (IntKind.u64.wrap (IntKind.i64.wrap (a1 + a3))) 1)) + a2)) - w153)) < a3 then
              (rf a0 (IntKind.i64.wrap (z0l .u64 (IntKind.u64.wrap (IntKind.i64.wrap (a1 + a3))) 1)) (IntKind.i64.wrap ((IntKind.i64.wrap ((IntKind.i64.wrap (z0l .u64 (IntKind.u64.wrap (IntKind.i64.wrap (a1 + a3))) 1)) + a2)) - w153)) a3 m2 m3 m4 m5 m6 m7 m8).bind fun v171 =>
              some v171
            else
              some a0
          else
            some a0
      else
        if (IntKind.i64.wrap (z0l .u64 (IntKind.u64.wrap (IntKind.i64.wrap (a1 + a3))) 1)) < (IntKind.i64.wrap ((IntKind.i64.wrap ((IntKind.i64.wrap (z0l .u64 (IntKind.u64.wrap (IntKind.i64.wrap (a1 + a3))) 1)) + a2)) - w153)) then
          if (IntKind.i64.wrap ((IntKind.i64.wrap ((IntKind.i64.wrap (z0l .u64 (IntKind.u64.wrap (IntKind.i64.wrap (a1 + a3))) 1)) + a2)) - w153)) < a3 then
            (rf a0 (IntKind.i64.wrap (z0l .u64 (IntKind.u64.wrap (IntKind.i64.wrap (a1 + a3))) 1)) (IntKind.i64.wrap ((IntKind.i64.wrap ((IntKind.i64.wrap (z0l .u64 (IntKind.u64.wrap (IntKind.i64.wrap (a1 + a3))) 1)) + a2)) - w153)) a3 m2 m3 m4 m5 m6 m7 m8).bind fun v172 =>
            some v172
          else
            some a0
        else
          some a0
instance {a0 : List Int} {a1 : Int} {a2 : Int} {a3 : Int} {m2 : List Int} {m3 : List Int} {m4 : List Int} {m5 : List (List Int)} {m6 : List ByteArray} {m7 : List ByteArray} {m8 : List (List Int)} {rf : List Int -> Int -> Int -> Int -> List Int -> List Int -> List Int -> List (List Int) -> List ByteArray -> List ByteArray -> List (List Int) -> Option (List Int)} : Hd (z1G a0 a1 a2 a3 m2 m3 m4 m5 m6 m7 m8 rf) := ⟨fun (w153, w152) => ([(20, xI w153), (21, xI w152)], [])⟩
abbrev z1D (a0 : List Int) (a1 : Int) (a2 : Int) (a3 : Int) (m2 : List Int) (m3 : List Int) (m4 : List Int) (m5 : List (List Int)) (m6 : List ByteArray) (m7 : List ByteArray) (m8 : List (List Int)) (rf : List Int -> Int -> Int -> Int -> List Int -> List Int -> List Int -> List (List Int) -> List ByteArray -> List ByteArray -> List (List Int) -> Option (List Int)) : Int × Int -> Option ((Int × Int) ⊕ List Int)
  | (w177, w176) =>
  if w177 < w176 then
    chk (¬ 1 < 0) <|
    (atI a0 (IntKind.i64.wrap ((IntKind.i64.wrap ((IntKind.i64.wrap ((IntKind.i64.wrap (z0l .u64 (IntKind.u64.wrap (IntKind.i64.wrap (a1 + a3))) 1)) + a2)) - 1)) - (IntKind.i64.wrap (z0l .u64 (IntKind.u64.wrap (IntKind.i64.wrap (w177 + w176))) 1))))).bind fun v181 =>
    (atI a0 (IntKind.i64.wrap (z0l .u64 (IntKind.u64.wrap (IntKind.i64.wrap (w177 + w176))) 1))).bind fun v182 =>
    (z1w v181 v182 m2 m3 m4 m5 m6 m7 m8).bind fun v183 =>
    if v183 < 0 then
      z0e (w177, IntKind.i64.wrap (z0l .u64 (IntKind.u64.wrap (IntKind.i64.wrap (w177 + w176))) 1))
    else
      z0e (IntKind.i64.wrap ((IntKind.i64.wrap (z0l .u64 (IntKind.u64.wrap (IntKind.i64.wrap (w177 + w176))) 1)) + 1), w176)
  else
    z0k <|
    if w177 < a2 then
      if a2 < (IntKind.i64.wrap ((IntKind.i64.wrap ((IntKind.i64.wrap (z0l .u64 (IntKind.u64.wrap (IntKind.i64.wrap (a1 + a3))) 1)) + a2)) - w177)) then
        (z0W a0 w177 a2 (IntKind.i64.wrap ((IntKind.i64.wrap ((IntKind.i64.wrap (z0l .u64 (IntKind.u64.wrap (IntKind.i64.wrap (a1 + a3))) 1)) + a2)) - w177)) m2 m3 m4 m5 m6 m7 m8).bind fun v184 =>
        if a1 < w177 then
          if w177 < (IntKind.i64.wrap (z0l .u64 (IntKind.u64.wrap (IntKind.i64.wrap (a1 + a3))) 1)) then
            (rf v184 a1 w177 (IntKind.i64.wrap (z0l .u64 (IntKind.u64.wrap (IntKind.i64.wrap (a1 + a3))) 1)) m2 m3 m4 m5 m6 m7 m8).bind fun v185 =>
            if (IntKind.i64.wrap (z0l .u64 (IntKind.u64.wrap (IntKind.i64.wrap (a1 + a3))) 1)) < (IntKind.i64.wrap ((IntKind.i64.wrap ((IntKind.i64.wrap (z0l .u64 (IntKind.u64.wrap (IntKind.i64.wrap (a1 + a3))) 1)) + a2)) - w177)) then
              if (IntKind.i64.wrap ((IntKind.i64.wrap ((IntKind.i64.wrap (z0l .u64 (IntKind.u64.wrap (IntKind.i64.wrap (a1 + a3))) 1)) + a2)) - w177)) < a3 then
                (rf v185 (IntKind.i64.wrap (z0l .u64 (IntKind.u64.wrap (IntKind.i64.wrap (a1 + a3))) 1)) (IntKind.i64.wrap ((IntKind.i64.wrap ((IntKind.i64.wrap (z0l .u64 (IntKind.u64.wrap (IntKind.i64.wrap (a1 + a3))) 1)) + a2)) - w177)) a3 m2 m3 m4 m5 m6 m7 m8).bind fun v186 =>
                some v186
              else
                some v185
            else
              some v185
          else
            if (IntKind.i64.wrap (z0l .u64 (IntKind.u64.wrap (IntKind.i64.wrap (a1 + a3))) 1)) < (IntKind.i64.wrap ((IntKind.i64.wrap ((IntKind.i64.wrap (z0l .u64 (IntKind.u64.wrap (IntKind.i64.wrap (a1 + a3))) 1)) + a2)) - w177)) then
              if (IntKind.i64.wrap ((IntKind.i64.wrap ((IntKind.i64.wrap (z0l .u64 (IntKind.u64.wrap (IntKind.i64.wrap (a1 + a3))) 1)) + a2)) - w177)) < a3 then
                (rf v184 (IntKind.i64.wrap (z0l .u64 (IntKind.u64.wrap (IntKind.i64.wrap (a1 + a3))) 1)) (IntKind.i64.wrap ((IntKind.i64.wrap ((IntKind.i64.wrap (z0l .u64 (IntKind.u64.wrap (IntKind.i64.wrap (a1 + a3))) 1)) + a2)) - w177)) a3 m2 m3 m4 m5 m6 m7 m8).bind fun v187 =>
                some v187
              else
                some v184
            else
              some v184
        else
          if (IntKind.i64.wrap (z0l .u64 (IntKind.u64.wrap (IntKind.i64.wrap (a1 + a3))) 1)) < (IntKind.i64.wrap ((IntKind.i64.wrap ((IntKind.i64.wrap (z0l .u64 (IntKind.u64.wrap (IntKind.i64.wrap (a1 + a3))) 1)) + a2)) - w177)) then
            if (IntKind.i64.wrap ((IntKind.i64.wrap ((IntKind.i64.wrap (z0l .u64 (IntKind.u64.wrap (IntKind.i64.wrap (a1 + a3))) 1)) + a2)) - w177)) < a3 then
              (rf v184 (IntKind.i64.wrap (z0l .u64 (IntKind.u64.wrap (IntKind.i64.wrap (a1 + a3))) 1)) (IntKind.i64.wrap ((IntKind.i64.wrap ((IntKind.i64.wrap (z0l .u64 (IntKind.u64.wrap (IntKind.i64.wrap (a1 + a3))) 1)) + a2)) - w177)) a3 m2 m3 m4 m5 m6 m7 m8).bind fun v188 =>
              some v188
            else
              some v184
          else
            some v184
      else
        if a1 < w177 then
          if w177 < (IntKind.i64.wrap (z0l .u64 (IntKind.u64.wrap (IntKind.i64.wrap (a1 + a3))) 1)) then
            (rf a0 a1 w177 (IntKind.i64.wrap (z0l .u64 (IntKind.u64.wrap (IntKind.i64.wrap (a1 + a3))) 1)) m2 m3 m4 m5 m6 m7 m8).bind fun v189 =>
            if (IntKind.i64.wrap (z0l .u64 (IntKind.u64.wrap (IntKind.i64.wrap (a1 + a3))) 1)) < (IntKind.i64.wrap ((IntKind.i64.wrap ((IntKind.i64.wrap (z0l .u64 (IntKind.u64.wrap (IntKind.i64.wrap (a1 + a3))) 1)) + a2)) - w177)) then
              if (IntKind.i64.wrap ((IntKind.i64.wrap ((IntKind.i64.wrap (z0l .u64 (IntKind.u64.wrap (IntKind.i64.wrap (a1 + a3))) 1)) + a2)) - w177)) < a3 then
                (rf v189 (IntKind.i64.wrap (z0l .u64 (IntKind.u64.wrap (IntKind.i64.wrap (a1 + a3))) 1)) (IntKind.i64.wrap ((IntKind.i64.wrap ((IntKind.i64.wrap (z0l .u64 (IntKind.u64.wrap (IntKind.i64.wrap (a1 + a3))) 1)) + a2)) - w177)) a3 m2 m3 m4 m5 m6 m7 m8).bind fun v190 =>
                some v190
              else
                some v189
            else
              some v189
          else
            if (IntKind.i64.wrap (z0l .u64 (IntKind.u64.wrap (IntKind.i64.wrap (a1 + a3))) 1)) < (IntKind.i64.wrap ((IntKind.i64.wrap ((IntKind.i64.wrap (z0l .u64 (IntKind.u64.wrap (IntKind.i64.wrap (a1 + a3))) 1)) + a2)) - w177)) then
              if (IntKind.i64.wrap ((IntKind.i64.wrap ((IntKind.i64.wrap (z0l .u64 (IntKind.u64.wrap (IntKind.i64.wrap (a1 + a3))) 1)) + a2)) - w177)) < a3 then
                (rf a0 (IntKind.i64.wrap (z0l .u64 (IntKind.u64.wrap (IntKind.i64.wrap (a1 + a3))) 1)) (IntKind.i64.wrap ((IntKind.i64.wrap ((IntKind.i64.wrap (z0l .u64 (IntKind.u64.wrap (IntKind.i64.wrap (a1 + a3))) 1)) + a2)) - w177)) a3 m2 m3 m4 m5 m6 m7 m8).bind fun v191 =>
                some v191
              else
                some a0
            else
              some a0
        else
          if (IntKind.i64.wrap (z0l .u64 (IntKind.u64.wrap (IntKind.i64.wrap (a1 + a3))) 1)) < (IntKind.i64.wrap ((IntKind.i64.wrap ((IntKind.i64.wrap (z0l .u64 (IntKind.u64.wrap (IntKind.i64.wrap (a1 + a3))) 1)) + a2)) - w177)) then
            if (IntKind.i64.wrap ((IntKind.i64.wrap ((IntKind.i64.wrap (z0l .u64 (IntKind.u64.wrap (IntKind.i64.wrap (a1 + a3))) 1)) + a2)) - w177)) < a3 then
              (rf a0 (IntKind.i64.wrap (z0l .u64 (IntKind.u64.wrap (IntKind.i64.wrap (a1 + a3))) 1)) (IntKind.i64.wrap ((IntKind.i64.wrap ((IntKind.i64.wrap (z0l .u64 (IntKind.u64.wrap (IntKind.i64.wrap (a1 + a3))) 1)) + a2)) - w177)) a3 m2 m3 m4 m5 m6 m7 m8).bind fun v192 =>
              some v192
            else
              some a0
          else
            some a0
    else
      if a1 < w177 then
        if w177 < (IntKind.i64.wrap (z0l .u64 (IntKind.u64.wrap (IntKind.i64.wrap (a1 + a3))) 1)) then
          (rf a0 a1 w177 (IntKind.i64.wrap (z0l .u64 (IntKind.u64.wrap (IntKind.i64.wrap (a1 + a3))) 1)) m2 m3 m4 m5 m6 m7 m8).bind fun v193 =>
          if (IntKind.i64.wrap (z0l .u64 (IntKind.u64.wrap (IntKind.i64.wrap (a1 + a3))) 1)) < (IntKind.i64.wrap ((IntKind.i64.wrap ((IntKind.i64.wrap (z0l .u64 (IntKind.u64.wrap (IntKind.i64.wrap (a1 + a3))) 1)) + a2)) - w177)) then
            if (IntKind.i64.wrap ((IntKind.i64.wrap ((IntKind.i64.wrap (z0l .u64 (IntKind.u64.wrap (IntKind.i64.wrap (a1 + a3))) 1)) + a2)) - w177)) < a3 then
              (rf v193 (IntKind.i64.wrap (z0l .u64 (IntKind.u64.wrap (IntKind.i64.wrap (a1 + a3))) 1)) (IntKind.i64.wrap ((IntKind.i64.wrap ((IntKind.i64.wrap (z0l .u64 (IntKind.u64.wrap (IntKind.i64.wrap (a1 + a3))) 1)) + a2)) - w177)) a3 m2 m3 m4 m5 m6 m7 m8).bind fun v194 =>
              some v194
            else
              some v193
          else
            some v193
        else
          if (IntKind.i64.wrap (z0l .u64 (IntKind.u64.wrap (IntKind.i64.wrap (a1 + a3))) 1)) < (IntKind.i64.wrap ((IntKind.i64.wrap ((IntKind.i64.wrap (z0l .u64 (IntKind.u64.wrap (IntKind.i64.wrap (a1 + a3))) 1)) + a2)) - w177)) then
            if (IntKind.i64.wrap ((IntKind.i64.wrap ((IntKind.i64.wrap (z0l .u64 (IntKind.u64.wrap (IntKind.i64.wrap (a1 + a3))) 1)) + a2)) - w177)) < a3 then
              (rf a0 (IntKind.i64.wrap (z0l .u64 (IntKind.u64.wrap (IntKind.i64.wrap (a1 + a3))) 1)) (IntKind.i64.wrap ((IntKind.i64.wrap ((IntKind.i64.wrap (z0l .u64 (IntKind.u64.wrap (IntKind.i64.wrap (a1 + a3))) 1)) + a2)) - w177)) a3 m2 m3 m4 m5 m6 m7 m8).bind fun v195 =>
              some v195
            else
              some a0
          else
            some a0
      else
        if (IntKind.i64.wrap (z0l .u64 (IntKind.u64.wrap (IntKind.i64.wrap (a1 + a3))) 1)) < (IntKind.i64.wrap ((IntKind.i64.wrap ((IntKind.i64.wrap (z0l .u64 (IntKind.u64.wrap (IntKind.i64.wrap (a1 + a3))) 1)) + a2)) - w177)) then
          if (IntKind.i64.wrap ((IntKind.i64.wrap ((IntKind.i64.wrap (z0l .u64 (IntKind.u64.wrap (IntKind.i64.wrap (a1 + a3))) 1)) + a2)) - w177)) < a3 then
            (rf a0 (IntKind.i64.wrap (z0l .u64 (IntKind.u64.wrap (IntKind.i64.wrap (a1 + a3))) 1)) (IntKind.i64.wrap ((IntKind.i64.wrap ((IntKind.i64.wrap (z0l .u64 (IntKind.u64.wrap (IntKind.i64.wrap (a1 + a3))) 1)) + a2)) - w177)) a3 m2 m3 m4 m5 m6 m7 m8).bind fun v196 =>
            some v196
          else
            some a0
        else
          some a0
instance {a0 : List Int} {a1 : Int} {a2 : Int} {a3 : Int} {m2 : List Int} {m3 : List Int} {m4 : List Int} {m5 : List (List Int)} {m6 : List ByteArray} {m7 : List ByteArray} {m8 : List (List Int)} {rf : List Int -> Int -> Int -> Int -> List Int -> List Int -> List Int -> List (List Int) -> List ByteArray -> List ByteArray -> List (List Int) -> Option (List Int)} : Hd (z1D a0 a1 a2 a3 m2 m3 m4 m5 m6 m7 m8 rf) := ⟨fun (w177, w176) => ([(20, xI w177), (21, xI w176)], [])⟩
def z0O (rf : List Int -> Int -> Int -> Int -> List Int -> List Int -> List Int -> List (List Int) -> List ByteArray -> List ByteArray -> List (List Int) -> Option (List Int)) (a0 : List Int) (a1 : Int) (a2 : Int) (a3 : Int) (m2 : List Int) (m3 : List Int) (m4 : List Int) (m5 : List (List Int)) (m6 : List ByteArray) (m7 : List ByteArray) (m8 : List (List Int)) : Option (List Int) :=
  if (IntKind.i64.wrap (a2 - a1)) = 1 then
    z0j (z1O a0 a1 m2 m3 m4 m5 m6 m7 m8) LFm (a2, a3)
  else
    if (IntKind.i64.wrap (a3 - a2)) = 1 then
      z0j (z1I a0 a2 m2 m3 m4 m5 m6 m7 m8) LFm (a1, a2)
    else
      chk (¬ 1 < 0) <|
      if (IntKind.i64.wrap (z0l .u64 (IntKind.u64.wrap (IntKind.i64.wrap (a1 + a3))) 1)) < a2 then
        z0j (z1G a0 a1 a2 a3 m2 m3 m4 m5 m6 m7 m8 rf) LFm (IntKind.i64.wrap ((IntKind.i64.wrap ((IntKind.i64.wrap (z0l .u64 (IntKind.u64.wrap (IntKind.i64.wrap (a1 + a3))) 1)) + a2)) - a3), IntKind.i64.wrap (z0l .u64 (IntKind.u64.wrap (IntKind.i64.wrap (a1 + a3))) 1))
      else
        z0j (z1D a0 a1 a2 a3 m2 m3 m4 m5 m6 m7 m8 rf) LFm (a1, a2)
theorem z2Y {rf : List Int -> Int -> Int -> Int -> List Int -> List Int -> List Int -> List (List Int) -> List ByteArray -> List ByteArray -> List (List Int) -> Option (List Int)} [ih : ∀ (a0 : List Int) (a1 : Int) (a2 : Int) (a3 : Int) (m2 : List Int) (m3 : List Int) (m4 : List Int) (m5 : List (List Int)) (m6 : List ByteArray) (m7 : List ByteArray) (m8 : List (List Int)), Ok (rf a0 a1 a2 a3 m2 m3 m4 m5 m6 m7 m8) (fun r => L 85 [.os 1 a0.length (a0.map fun x0 => .sc (.int .i64 x0)), .sc (.int .i64 a1), .sc (.int .i64 a2), .sc (.int .i64 a3), .cl 53 [.pr [.sl m2.length (m2.map fun x0 => .sc (.int .i64 x0)), .sl m3.length (m3.map fun x0 => .sc (.int .i64 x0)), .sl m4.length (m4.map fun x0 => .sc (.int .i64 x0)), .sl m5.length (m5.map fun x0 => .sl x0.length (x0.map fun x1 => .sc (.int .i64 x1))), .sl m6.length (m6.map fun x0 => .sc (.string x0)), .sl m7.length (m7.map fun x0 => .sc (.string x0))], .pr [.sl m8.length (m8.map fun x0 => .sl x0.length (x0.map fun x1 => .sc (.int .i64 x1)))]]] = some (.tup [], [.os 1 r.length (r.map fun x0 => .sc (.int .i64 x0)), .dead, .dead, .dead, .dead]))] {a0 : List Int} {a1 : Int} {a2 : Int} {a3 : Int} {m2 : List Int} {m3 : List Int} {m4 : List Int} {m5 : List (List Int)} {m6 : List ByteArray} {m7 : List ByteArray} {m8 : List (List Int)} : Ok (z0O rf a0 a1 a2 a3 m2 m3 m4 m5 m6 m7 m8) (fun r => L 85 [.os 1 a0.length (a0.map fun x0 => .sc (.int .i64 x0)), .sc (.int .i64 a1), .sc (.int .i64 a2), .sc (.int .i64 a3), .cl 53 [.pr [.sl m2.length (m2.map fun x0 => .sc (.int .i64 x0)), .sl m3.length (m3.map fun x0 => .sc (.int .i64 x0)), .sl m4.length (m4.map fun x0 => .sc (.int .i64 x0)), .sl m5.length (m5.map fun x0 => .sl x0.length (x0.map fun x1 => .sc (.int .i64 x1))), .sl m6.length (m6.map fun x0 => .sc (.string x0)), .sl m7.length (m7.map fun x0 => .sc (.string x0))], .pr [.sl m8.length (m8.map fun x0 => .sl x0.length (x0.map fun x1 => .sc (.int .i64 x1)))]]] = some (.tup [], [.os 1 r.length (r.map fun x0 => .sc (.int .i64 x0)), .dead, .dead, .dead, .dead])) := ⟨fun r h => by have h := z4p h; unfold z0O at h; exact z4O zxe zAv zAN⟩
def z0r : Nat -> List Int -> Int -> Int -> Int -> List Int -> List Int -> List Int -> List (List Int) -> List ByteArray -> List ByteArray -> List (List Int) -> Option (List Int)
  | 0 => fun _ _ _ _ _ _ _ _ _ _ _ => none
  | k + 1 => z0O (z0r k)
instance slices_symMergeCmpFunc_int_holonomy_classes_1_ok : ∀ {k : Nat} {a0 : List Int} {a1 : Int} {a2 : Int} {a3 : Int} {m2 : List Int} {m3 : List Int} {m4 : List Int} {m5 : List (List Int)} {m6 : List ByteArray} {m7 : List ByteArray} {m8 : List (List Int)}, Ok (z0r k a0 a1 a2 a3 m2 m3 m4 m5 m6 m7 m8) (fun r => L 85 [.os 1 a0.length (a0.map fun x0 => .sc (.int .i64 x0)), .sc (.int .i64 a1), .sc (.int .i64 a2), .sc (.int .i64 a3), .cl 53 [.pr [.sl m2.length (m2.map fun x0 => .sc (.int .i64 x0)), .sl m3.length (m3.map fun x0 => .sc (.int .i64 x0)), .sl m4.length (m4.map fun x0 => .sc (.int .i64 x0)), .sl m5.length (m5.map fun x0 => .sl x0.length (x0.map fun x1 => .sc (.int .i64 x1))), .sl m6.length (m6.map fun x0 => .sc (.string x0)), .sl m7.length (m7.map fun x0 => .sc (.string x0))], .pr [.sl m8.length (m8.map fun x0 => .sl x0.length (x0.map fun x1 => .sc (.int .i64 x1)))]]] = some (.tup [], [.os 1 r.length (r.map fun x0 => .sc (.int .i64 x0)), .dead, .dead, .dead, .dead])) := by
  intro k
  induction k with
  | zero => intros; exact ⟨fun r h => by cases h⟩
  | succ k ih => intros; have ih2 := @ih; exact z2Y (rf := z0r k)
abbrev z0Q (a1 : Int) (n0 : List Int) (n1 : List Int) (n2 : List Int) (n3 : List (List Int)) (n4 : List ByteArray) (n5 : List ByteArray) (n6 : List (List Int)) (w45 : Int) : Int × Int × List Int -> Option ((Int × Int × List Int) ⊕ ((Int × List Int) ⊕ List Int))
  | (w55, w56, w57) =>
  if w56 <= a1 then
    (z0r 5000 w57 w55 (IntKind.i64.wrap (w55 + w45)) w56 n0 n1 n2 n3 n4 n5 n6).bind fun v59 =>
    z0e (w56, IntKind.i64.wrap (w56 + (IntKind.i64.wrap (2 * w45))), v59)
  else
    z0k <|
    if (IntKind.i64.wrap (w55 + w45)) < a1 then
      (z0r 5000 w57 w55 (IntKind.i64.wrap (w55 + w45)) a1 n0 n1 n2 n3 n4 n5 n6).bind fun v60 =>
      z0e (IntKind.i64.wrap (w45 * 2), v60)
    else
      z0e (IntKind.i64.wrap (w45 * 2), w57)
instance {a1 : Int} {n0 : List Int} {n1 : List Int} {n2 : List Int} {n3 : List (List Int)} {n4 : List ByteArray} {n5 : List ByteArray} {n6 : List (List Int)} {w45 : Int} : Hd (z0Q a1 n0 n1 n2 n3 n4 n5 n6 w45) := ⟨fun (w55, w56, w57) => ([(7, xI w55), (8, xI w56)], [(0, .os 1 w57.length (w57.map fun x0 => .sc (.int .i64 x0)))])⟩
abbrev z0R (a1 : Int) (n0 : List Int) (n1 : List Int) (n2 : List Int) (n3 : List (List Int)) (n4 : List ByteArray) (n5 : List ByteArray) (n6 : List (List Int)) : Int × List Int -> Option ((Int × List Int) ⊕ List Int)
  | (w45, w46) =>
  if w45 < a1 then
    z0j (z0Q a1 n0 n1 n2 n3 n4 n5 n6 w45) LFm (0, IntKind.i64.wrap (2 * w45), w46)
  else
    z0k <|
    some w46
instance {a1 : Int} {n0 : List Int} {n1 : List Int} {n2 : List Int} {n3 : List (List Int)} {n4 : List ByteArray} {n5 : List ByteArray} {n6 : List (List Int)} : Hd (z0R a1 n0 n1 n2 n3 n4 n5 n6) := ⟨fun (w45, w46) => ([(6, xI w45)], [(0, .os 1 w46.length (w46.map fun x0 => .sc (.int .i64 x0)))])⟩
abbrev z0S (a1 : Int) (n0 : List Int) (n1 : List Int) (n2 : List Int) (n3 : List (List Int)) (n4 : List ByteArray) (n5 : List ByteArray) (n6 : List (List Int)) : Int × Int × List Int -> Option ((Int × Int × List Int) ⊕ List Int)
  | (w32, w33, w34) =>
  if w33 <= a1 then
    (z0I w34 w32 w33 n0 n1 n2 n3 n4 n5 n6).bind fun v36 =>
    z0e (w33, IntKind.i64.wrap (w33 + 20), v36)
  else
    z0k <|
    (z0I w34 w32 a1 n0 n1 n2 n3 n4 n5 n6).bind fun v37 =>
    z0j (z0R a1 n0 n1 n2 n3 n4 n5 n6) LFm (20, v37)
instance {a1 : Int} {n0 : List Int} {n1 : List Int} {n2 : List Int} {n3 : List (List Int)} {n4 : List ByteArray} {n5 : List ByteArray} {n6 : List (List Int)} : Hd (z0S a1 n0 n1 n2 n3 n4 n5 n6) := ⟨fun (w32, w33, w34) => ([(7, xI w32), (8, xI w33)], [(0, .os 1 w34.length (w34.map fun x0 => .sc (.int .i64 x0)))])⟩
def z0V (a0 : List Int) (a1 : Int) (n0 : List Int) (n1 : List Int) (n2 : List Int) (n3 : List (List Int)) (n4 : List ByteArray) (n5 : List ByteArray) (n6 : List (List Int)) : Option (List Int) :=
  z0j (z0S a1 n0 n1 n2 n3 n4 n5 n6) LFm (0, 20, a0)
instance slices_stableCmpFunc_int_holonomy_classes_1_ok {a0 : List Int} {a1 : Int} {n0 : List Int} {n1 : List Int} {n2 : List Int} {n3 : List (List Int)} {n4 : List ByteArray} {n5 : List ByteArray} {n6 : List (List Int)} : Ok (z0V a0 a1 n0 n1 n2 n3 n4 n5 n6) (fun r => L 75 [.os 1 a0.length (a0.map fun x0 => .sc (.int .i64 x0)), .sc (.int .i64 a1), .cl 53 [.pr [.sl n0.length (n0.map fun x0 => .sc (.int .i64 x0)), .sl n1.length (n1.map fun x0 => .sc (.int .i64 x0)), .sl n2.length (n2.map fun x0 => .sc (.int .i64 x0)), .sl n3.length (n3.map fun x0 => .sl x0.length (x0.map fun x1 => .sc (.int .i64 x1))), .sl n4.length (n4.map fun x0 => .sc (.string x0)), .sl n5.length (n5.map fun x0 => .sc (.string x0))], .pr [.sl n6.length (n6.map fun x0 => .sl x0.length (x0.map fun x1 => .sc (.int .i64 x1)))]]] = some (.tup [], [.os 1 r.length (r.map fun x0 => .sc (.int .i64 x0)), .dead, .dead])) := ⟨fun r h => by have h := z4p h; unfold z0V at h; exact z4O zxg zAx zAP⟩
def z0x (a0 : List Int) (p5 : List Int) (p6 : List Int) (p7 : List Int) (p8 : List (List Int)) (p9 : List ByteArray) (q0 : List ByteArray) (q1 : List (List Int)) : Option (List Int) :=
  (z0V a0 (a0.length : Int) p5 p6 p7 p8 p9 q0 q1).bind fun v2 =>
  some v2
instance slices_SortStableFunc_Lint_int_holonomy_classes_1_ok {a0 : List Int} {p5 : List Int} {p6 : List Int} {p7 : List Int} {p8 : List (List Int)} {p9 : List ByteArray} {q0 : List ByteArray} {q1 : List (List Int)} : Ok (z0x a0 p5 p6 p7 p8 p9 q0 q1) (fun r => L 52 [.os 1 a0.length (a0.map fun x0 => .sc (.int .i64 x0)), .cl 53 [.pr [.sl p5.length (p5.map fun x0 => .sc (.int .i64 x0)), .sl p6.length (p6.map fun x0 => .sc (.int .i64 x0)), .sl p7.length (p7.map fun x0 => .sc (.int .i64 x0)), .sl p8.length (p8.map fun x0 => .sl x0.length (x0.map fun x1 => .sc (.int .i64 x1))), .sl p9.length (p9.map fun x0 => .sc (.string x0)), .sl q0.length (q0.map fun x0 => .sc (.string x0))], .pr [.sl q1.length (q1.map fun x0 => .sl x0.length (x0.map fun x1 => .sc (.int .i64 x1)))]]] = some (.tup [], [.os 1 r.length (r.map fun x0 => .sc (.int .i64 x0)), .dead])) := ⟨fun r h => by have h := z4p h; unfold z0x at h; exact z4O zxh zAz zAR⟩
def z3q (a0 : Imgs) (w36 : List (List Int)) : Int × List Int -> Option ((Int × List Int) ⊕ (List Int × List (List Int)))
  | (w50, w51) =>
  if w50 < (w36.length : Int) then
    (atI w36 w50).bind fun v55 =>
    (atI v55 0).bind fun v56 =>
    (atI a0.height v56).bind fun v57 =>
    if 1 <= v57 then
      chk (z1c 8 (w51.length + 1)) <|
      z0e (IntKind.i64.wrap (w50 + 1), w51 ++ [w50])
    else
      z0e (IntKind.i64.wrap (w50 + 1), w51)
  else
    z0k <|
    (z0x w51 a0.sets a0.class_ a0.height a0.tiles a0.words a0.back w36).bind fun v58 =>
    some (v58, w36)
def z2H (a0 : Imgs) (w36 : List (List Int)) : Int × List Int -> Fr
  | (w50, w51) => ⟨61, [(1, .one (.a 1 [] (0))), (4, .one (.a 4 [] (0))), (7, .one (.h 7 [])), (36, .one (.h 4 [0])), (37, .one (.t none (.sc (.int .i64 (w36.length : Int))))), (38, .one (.t none (.sc (.int .i64 w50))))], [(1, .vr [.sl a0.sets.length (a0.sets.map fun x0 => .sc (.int .i64 x0)), .sl a0.class_.length (a0.class_.map fun x0 => .sc (.int .i64 x0)), .sl a0.height.length (a0.height.map fun x0 => .sc (.int .i64 x0)), .sl a0.tiles.length (a0.tiles.map fun x0 => .sl x0.length (x0.map fun x1 => .sc (.int .i64 x1))), .sl a0.words.length (a0.words.map fun x0 => .sc (.string x0)), .sl a0.back.length (a0.back.map fun x0 => .sc (.string x0))]), (4, .vr [.os 1 w36.length (w36.map fun x0 => .os 1 x0.length (x0.map fun x1 => .sc (.int .i64 x1)))]), (7, .os 1 w51.length (w51.map fun x0 => .sc (.int .i64 x0)))]⟩
def z2R (a0 : Imgs) : Int × List (List Int) -> Option ((Int × List (List Int)) ⊕ (List Int × List (List Int)))
  | (w35, w36) =>
  if w35 < (a0.class_.length : Int) then
    (atI a0.class_ w35).bind fun v42 =>
    if v42 = (w36.length : Int) then
      chk (z1c 24 (w36.length + 1)) <|
      (atI (w36 ++ [[]]) v42).bind fun v43 =>
      chk (z1c 8 (v43.length + 1)) <|
      z0e (IntKind.i64.wrap (w35 + 1), ((w36 ++ [[]]).set v42.toNat (v43 ++ [w35])))
    else
      (atI w36 v42).bind fun v45 =>
      chk (z1c 8 (v45.length + 1)) <|
      z0e (IntKind.i64.wrap (w35 + 1), (w36.set v42.toNat (v45 ++ [w35])))
  else
    z0k <|
    z0j (z3q a0 w36) LFm (0, [])
def z2Q (a0 : Imgs) : Int × List (List Int) -> Fr
  | (w35, w36) => ⟨61, [(1, .one (.a 1 [] (0))), (4, .one (.a 4 [] (0))), (11, .one (.t none (.sl a0.class_.length (a0.class_.map fun x0 => .sc (.int .i64 x0))))), (12, .one (.t none (.sc (.int .i64 (a0.class_.length : Int))))), (13, .one (.t none (.sc (.int .i64 w35))))], [(1, .vr [.sl a0.sets.length (a0.sets.map fun x0 => .sc (.int .i64 x0)), .sl a0.class_.length (a0.class_.map fun x0 => .sc (.int .i64 x0)), .sl a0.height.length (a0.height.map fun x0 => .sc (.int .i64 x0)), .sl a0.tiles.length (a0.tiles.map fun x0 => .sl x0.length (x0.map fun x1 => .sc (.int .i64 x1))), .sl a0.words.length (a0.words.map fun x0 => .sc (.string x0)), .sl a0.back.length (a0.back.map fun x0 => .sc (.string x0))]), (4, .vr [.os 1 w36.length (w36.map fun x0 => .os 1 x0.length (x0.map fun x1 => .sc (.int .i64 x1)))])]⟩
def z3L (a0 : Imgs) : Option (List Int × List (List Int)) :=
  z0j (z2R a0) LFm (0, [])
instance holonomy_classes_ok {a0 : Imgs} : Ok (z3L a0) (fun r => L 25 [.agg [.sl a0.sets.length (a0.sets.map fun x0 => .sc (.int .i64 x0)), .sl a0.class_.length (a0.class_.map fun x0 => .sc (.int .i64 x0)), .sl a0.height.length (a0.height.map fun x0 => .sc (.int .i64 x0)), .sl a0.tiles.length (a0.tiles.map fun x0 => .sl x0.length (x0.map fun x1 => .sc (.int .i64 x1))), .sl a0.words.length (a0.words.map fun x0 => .sc (.string x0)), .sl a0.back.length (a0.back.map fun x0 => .sc (.string x0))]] = some (.tup [.sl r.1.length (r.1.map fun x0 => .sc (.int .i64 x0)), .sl r.2.length (r.2.map fun x0 => .sl x0.length (x0.map fun x1 => .sc (.int .i64 x1)))], [.dead])) := ⟨fun r h0 => by
  simp only [z3L] at h0
  refine zqu zA4 zC5 (zhA zDT ⟨of_decide_eq_true rfl, of_decide_eq_true rfl⟩ rfl ?_)
  simp only [z7d, z6q, z6h, z8B, z6z]
  refine zq rfl (zr rfl rfl rfl (by simp; rfl) ?_)
  refine z0a (zq rfl (zr rfl rfl rfl (by simp; rfl) ?_))
  refine z0a (zq rfl (zq rfl (zr rfl rfl rfl (by simp; rfl) ?_)))
  refine z0a (zb rfl (z2l h0 (z2Q a0) rfl rfl (by simp [z2Q]) fun s o1 h1 hr1 => ?_))
  obtain ⟨w35, w36⟩ := s
  simp only [z2R] at h1
  simp only [z2Q]
  refine zq rfl (zr rfl rfl rfl (by simp; rfl) ?_)
  refine z0a (zq rfl ?_)
  by_cases c57 : w35 < (a0.class_.length : Int)
  ·rw [if_pos c57] at h1
   refine z3i rfl (by simp [c57]) (z1E rfl (z0a (zq rfl (zb rfl (zq rfl ?_)))))
   obtain ⟨v42, f58, h2⟩ := z2k h1
   refine zr rfl rfl rfl (by simp [f58]; rfl) ?_
   refine z0a (zq rfl (zq rfl (zr rfl rfl rfl (by simp; rfl) ?_)))
   refine z0a ?_
   by_cases c59 : v42 = (w36.length : Int)
   ·rw [if_pos c59] at h2
    have c59e := eq_true c59
    refine z3i rfl (by simp [c59e]) ?_
    obtain ⟨f60, h3⟩ := zi7 h2
    refine zr rfl rfl rfl (by simp [f60]; rfl) ?_
    refine z0a ?_
    obtain ⟨v43, f61, h4⟩ := z1a h3
    obtain ⟨f61a, f61b, f61c, f61d, f61e⟩ := z9Q f61
    try simp at f61b f61c
    have f61s : ∀ hh, ((w36 ++ [[]]).map (fun x0 : List Int => (.os 1 x0.length (x0.map fun x1 => .sc (.int .i64 x1)) : T)))[v42.toNat]'hh = (fun x0 : List Int => (.os 1 x0.length (x0.map fun x1 => .sc (.int .i64 x1)) : T)) v43 := fun hh => by rw [List.getElem_map]; exact congrArg (fun x0 : List Int => (.os 1 x0.length (x0.map fun x1 => .sc (.int .i64 x1)) : T)) (f61e _)
    try simp only [List.map_set, List.map_append, List.map_cons, List.map_nil, List.length_nil] at f61s
    obtain ⟨f62, h5⟩ := zi7 h4
    refine zeQ rfl rfl rfl rfl ?_
    refine z3r rfl rfl (by simp [z0b, z0c, f61a, f61b, f61c, f61d, f61e, f61s, f62]; rfl) ?_
    refine z3r rfl rfl (by simp [z0b, z0c, f61a, f61b, f61c, f61d, f61e, f61s, f62]; rfl) ?_
    refine z3r rfl rfl (by simp [z0b, z0c, f61a, f61b, f61c, f61d, f61e, f61s, f62]; rfl) ?_
    refine z3r rfl rfl (by simp [z0b, z0c, f61a, f61b, f61c, f61d, f61e, f61s, f62]; rfl) ?_
    refine z3r rfl rfl (by simp [z0b, z0c, f61a, f61b, f61c, f61d, f61e, f61s, f62]; rfl) ?_
    refine z3r rfl rfl (by simp [z0b, z0c, f61a, f61b, f61c, f61d, f61e, f61s, f62]; rfl) ?_
    refine zeD ?_
    refine z3r rfl rfl (by simp [z0b, z0c, f61a, f61b, f61c, f61d, f61e, f61s, f62]; rfl) ?_
    refine z3r rfl rfl (by simp [z0b, z0c, f61a, f61b, f61c, f61d, f61e, f61s, f62]; rfl) ?_
    refine z3r rfl rfl (by simp [z0b, z0c, f61a, f61b, f61c, f61d, f61e, f61s, f62]; rfl) ?_
    refine z3r rfl rfl (by simp [z0b, z0c, f61a, f61b, f61c, f61d, f61e, f61s, f62]; rfl) ?_
    refine z3r rfl rfl (by simp [z0b, z0c, f61a, f61b, f61c, f61d, f61e, f61s, f62]; rfl) ?_
    refine zeB ?_
    refine ⟨?_, ?_⟩
    ·refine z3r rfl rfl (by simp [z0b, z0c, f61a, f61b, f61c, f61d, f61e, f61s, f62]; rfl) ?_
     refine zeD ?_
     refine z3r rfl rfl (by simp [z0b, z0c, f61a, f61b, f61c, f61d, f61e, f61s, f62]; rfl) ?_
     refine z3r rfl rfl (by simp [z0b, z0c, f61a, f61b, f61c, f61d, f61e, f61s, f62]; rfl) ?_
     refine z3r rfl rfl (by simp [z0b, z0c, f61a, f61b, f61c, f61d, f61e, f61s, f62]; rfl) ?_
     refine z3r rfl rfl (by simp [z0b, z0c, f61a, f61b, f61c, f61d, f61e, f61s, f62]; rfl) ?_
     refine zeB ?_
     refine ⟨?_, ?_⟩
     ·refine z3r rfl rfl (by simp [z0b, z0c, f61a, f61b, f61c, f61d, f61e, f61s, f62]; rfl) ?_
      refine z3r rfl rfl (by simp [z0b, z0c, f61a, f61b, f61c, f61d, f61e, f61s, f62]; rfl) ?_
      refine z3r rfl rfl (by simp [z0b, z0c, f61a, f61b, f61c, f61d, f61e, f61s, f62]; rfl) ?_
      refine z3r rfl rfl (by simp [z0b, z0c, f61a, f61b, f61c, f61d, f61e, f61s, f62]; rfl) ?_
      refine zeB ?_
      simp [z9S, f61a, f61b, f61c, f61d, f61e, f61s, f62]
     simp [z9S, f61a, f61b, f61c, f61d, f61e, f61s, f62]
    refine zeC rfl (by simp [f61a, f61b, f61c, f61d, f61e, f61s, f62]; rfl) ?_
    refine z0N (z0a (zr rfl rfl rfl (by simp; rfl) ?_))
    have ho := z0w h5
    refine z0H ho ?_
    simp [z2Q]
   ·rw [if_neg c59] at h2
    have c59e := eq_false c59
    refine z2V rfl (by simp [c59e]) (z1E rfl (z0a ?_))
    obtain ⟨v45, f63, h3⟩ := z2k h2
    obtain ⟨f64, h4⟩ := zi7 h3
    refine zeQ rfl rfl rfl rfl ?_
    refine z3r rfl rfl (by simp [z0b, z0c, f63, f64]; rfl) ?_
    refine z3r rfl rfl (by simp [z0b, z0c, f63, f64]; rfl) ?_
    refine z3r rfl rfl (by simp [z0b, z0c, f63, f64]; rfl) ?_
    refine z3r rfl rfl (by simp [z0b, z0c, f63, f64]; rfl) ?_
    refine z3r rfl rfl (by simp [z0b, z0c, f63, f64]; rfl) ?_
    refine z3r rfl rfl (by simp [z0b, z0c, f63, f64]; rfl) ?_
    refine zeD ?_
    refine z3r rfl rfl (by simp [z0b, z0c, f63, f64]; rfl) ?_
    refine z3r rfl rfl (by simp [z0b, z0c, f63, f64]; rfl) ?_
    refine z3r rfl rfl (by simp [z0b, z0c, f63, f64]; rfl) ?_
    refine z3r rfl rfl (by simp [z0b, z0c, f63, f64]; rfl) ?_
    refine z3r rfl rfl (by simp [z0b, z0c, f63, f64]; rfl) ?_
    refine zeB ?_
    refine ⟨?_, ?_⟩
    ·refine z3r rfl rfl (by simp [z0b, z0c, f63, f64]; rfl) ?_
     refine zeD ?_
     refine z3r rfl rfl (by simp [z0b, z0c, f63, f64]; rfl) ?_
     refine z3r rfl rfl (by simp [z0b, z0c, f63, f64]; rfl) ?_
     refine z3r rfl rfl (by simp [z0b, z0c, f63, f64]; rfl) ?_
     refine z3r rfl rfl (by simp [z0b, z0c, f63, f64]; rfl) ?_
     refine zeB ?_
     refine ⟨?_, ?_⟩
     ·refine z3r rfl rfl (by simp [z0b, z0c, f63, f64]; rfl) ?_
      refine z3r rfl rfl (by simp [z0b, z0c, f63, f64]; rfl) ?_
      refine z3r rfl rfl (by simp [z0b, z0c, f63, f64]; rfl) ?_
      refine z3r rfl rfl (by simp [z0b, z0c, f63, f64]; rfl) ?_
      refine zeB ?_
      simp [z9S, f63, f64]
     simp [z9S, f63, f64]
    refine zeC rfl (by simp [f63, f64]; rfl) ?_
    refine z0N (z0a (zr rfl rfl rfl (by simp; rfl) ?_))
    have ho := z0w h4
    refine z0H ho ?_
    simp [z2Q]
  ·rw [if_neg c57] at h1
   refine z2V rfl (by simp [c57]) (z2O rfl (z1U ?_))
   obtain ⟨rr1, h2, ho1⟩ := z0Z h1
   have hs1 := hr1 _ ho1
   subst hs1
   refine z1z ho1 (z0C rfl (z0a (zq rfl (zr rfl rfl rfl (by simp; rfl) ?_))))
   refine z0a (zq rfl (zq rfl (zr rfl rfl rfl (by simp; rfl) ?_)))
   refine z0a (zb rfl (z2l h2 (z2H a0 w36) rfl rfl (by simp [z2H]) fun s o2 h3 hr2 => ?_))
   obtain ⟨w50, w51⟩ := s
   simp only [z3q] at h3
   simp only [z2H]
   refine zq rfl (zr rfl rfl rfl (by simp; rfl) ?_)
   refine z0a (zq rfl ?_)
   by_cases c76 : w50 < (w36.length : Int)
   ·rw [if_pos c76] at h3
    refine z3i rfl (by simp [c76]) (z1E rfl (z0a (zq rfl (zb rfl (zq rfl ?_)))))
    obtain ⟨v55, f77, h4⟩ := z2k h3
    refine zr rfl rfl rfl (by simp [f77]; rfl) ?_
    refine z0a (zq rfl ?_)
    obtain ⟨v56, f78, h5⟩ := z1a h4
    obtain ⟨f78a, f78b, f78c, f78d, f78e⟩ := z9Q f78
    simp only [Int.reduceToNat, Int.toNat_natCast] at f78c f78d f78e
    have f78j : v55 ≠ [] := by intro hh; rw [hh] at f78c; simp at f78c
    have f78l : 0 < v55.length := by omega
    obtain ⟨v57, f79, h6⟩ := z2k h5
    refine z3N rfl rfl rfl rfl ?_; repeat' ((first | refine z1P rfl rfl fun Q' hQ => ?_ | refine z1r rfl fun Q' hQ => ?_); simp [f77, f78a, f78b, f78c, f78d, f78e, f78j, f78l, f79]; refine hQ.out _ ?_; clear hQ; clear Q')
    refine z0a ?_
    by_cases c80 : 1 <= v57
    ·rw [if_pos c80] at h6
     refine z3i rfl (by simp [c80]) ?_
     obtain ⟨f81, h7⟩ := zi7 h6
     refine zr rfl rfl rfl (by simp [f77, f81]; rfl) ?_
     refine z0N (z0a (zr rfl rfl rfl (by simp [f77]; rfl) ?_))
     have ho := z0w h7
     refine z0H ho ?_
     simp [z2H]
    ·rw [if_neg c80] at h6
     refine z2V rfl (by simp [c80]) (z1E rfl (z0N (z0a (zr rfl rfl rfl (by simp [f77]; rfl) ?_))))
     have ho := z0w h6
     refine z0H ho ?_
     simp [z2H]
   ·rw [if_neg c76] at h3
    refine z2V rfl (by simp [c76]) (z2O rfl (z1U ?_))
    obtain ⟨rr2, h4, ho2⟩ := z0Z h3
    have hs2 := hr2 _ ho2
    subst hs2
    refine z1z ho2 (z0C rfl (z0a (zq rfl (ztn rfl rfl (by simp; rfl) ?_))))
    obtain ⟨v58, f82, h5⟩ := z1a h4
    have f82k := Ok.ok _ f82
    try simp at f82k
    refine zr rfl rfl rfl (by simp [f82k]; rfl) ?_
    refine z0a (zq rfl ?_)
    refine z3N rfl rfl rfl rfl ?_; repeat' ((first | refine z1P rfl rfl fun Q' hQ => ?_ | refine z1r rfl fun Q' hQ => ?_); simp; refine hQ.out _ ?_; clear hQ; clear Q')
    refine z0a (zhE rfl ?_)
    cases h5
    simp⟩
end
end
section
open Go
set_option maxRecDepth 100000
def zvp (M : List (List Int)) (H : List Int) (x : Int) : Option Int := (atI M x).bind fun m => (atI m 0).bind fun r => atI H r
def zw7 (s c h : List Int) (t : List (List Int)) (w b : List ByteArray) (M : List (List Int)) : SrtC where
  cmp x y := z1w x y s c h t w b M
  key x := x - (zvp M h x).getD 0 * 1048576
  ok x := 0 <= x /\ x < 1048576 /\ (zvp M h x).isSome
  law x y hx hy hl := by
    obtain ⟨x0, x1, x2⟩ := hx
    obtain ⟨y0, y1, y2⟩ := hy
    obtain ⟨u, hu⟩ := Option.isSome_iff_exists.1 x2
    obtain ⟨v, hv⟩ := Option.isSome_iff_exists.1 y2
    have hu' := hu
    have hv' := hv
    unfold zvp at hu hv
    cases h1 : atI M x with
    | none => rw [h1] at hu; cases hu
    | some p =>
      cases h2 : atI M y with
      | none => rw [h2] at hv; cases hv
      | some q =>
        rw [h1, Option.bind_some] at hu
        rw [h2, Option.bind_some] at hv
        cases h3 : atI p 0 with
        | none => rw [h3] at hu; cases hu
        | some p0 =>
          cases h4 : atI q 0 with
          | none => rw [h4] at hv; cases hv
          | some q0 =>
            rw [h3, Option.bind_some] at hu
            rw [h4, Option.bind_some] at hv
            obtain ⟨z, e1, e2⟩ := zuz v u
            refine ⟨z, ?_, ?_⟩
            · unfold z1w
              rw [h2, Option.bind_some, h4, Option.bind_some, hv, Option.bind_some, h1, Option.bind_some, h3, Option.bind_some, hu, Option.bind_some, e1]; rfl
            · rw [e2, hu', hv', Option.getD_some, Option.getD_some]
              omega
theorem zjI : ∀ k, z0r k = fun l a m b s c h t w x M => zuv k l a m b (zw7 s c h t w x M)
  | 0 => rfl
  | k + 1 => by
    show z0O (z0r k) = _
    rw [zjI k]
    rfl
theorem zr5 (l s c h : List Int) (t : List (List Int)) (w b : List ByteArray) (M : List (List Int)) : z0x l s c h t w b M = zxw l (zw7 s c h t w b M) := by
  have h9 : z0Q = fun a s c h t w b M k => zcJ a (zw7 s c h t w b M) k := by
    unfold z0Q
    rw [zjI]
    all_goals rfl
  have h7 : z0R = fun a s c h t w b M => zfb a (zw7 s c h t w b M) := by
    unfold z0R
    rw [h9]
    all_goals rfl
  have h2 : z0S = fun a s c h t w b M => zfc a (zw7 s c h t w b M) := by
    unfold z0S
    rw [h7]
    all_goals rfl
  unfold z0x z0V
  rw [h2]
  all_goals rfl
end
section
open Go
set_option maxRecDepth 100000
def z7L (p r : Nat) : Prop := p &&& r = p
theorem z2n {p r : Nat} : z7L p r ↔ ∀ q, p.testBit q = true -> r.testBit q = true := by
  unfold z7L
  constructor
  · intro h q hq
    have : (p &&& r).testBit q = true := by rw [h]; exact hq
    rw [Nat.testBit_and, Bool.and_eq_true] at this
    exact this.2
  · intro h
    apply Nat.eq_of_testBit_eq
    intro q
    rw [Nat.testBit_and]
    cases hp : p.testBit q with
    | false => rfl
    | true => rw [h q hp]; rfl
theorem zht (p : Nat) : z7L p p := Nat.and_self p
theorem zr1 {p q r : Nat} (h1 : z7L p q) (h2 : z7L q r) : z7L p r := z2n.2 fun i hi => z2n.1 h2 i (z2n.1 h1 i hi)
theorem z8J {p q : Nat} (h1 : z7L p q) (h2 : z7L q p) : p = q := Nat.eq_of_testBit_eq fun i => by
  have a := z2n.1 h1 i
  have b := z2n.1 h2 i
  cases hp : p.testBit i <;> cases hq : q.testBit i <;> simp_all
theorem zvf {d : DFA} {m n : Nat} (hd : DfaOk d m n) {p r a : Nat} (ha : a < m) (h : z7L p r) : z7L (mvN d p a) (mvN d r a) := z2n.2 fun q hq => by
  obtain ⟨i, h1, h2, h3⟩ := (z8u hd ha q).1 hq
  exact (z8u hd ha q).2 ⟨i, h1, z2n.1 h i h2, h3⟩
theorem zhz {d : DFA} {m n : Nat} (hd : DfaOk d m n) : ∀ {w : List UInt8} {p r : Nat}, (∀ c ∈ w, 97 <= c.toNat /\ c.toNat < 97 + m) -> z7L p r -> z7L (z4R d p w) (z4R d r w)
  | [], p, r, _, h => h
  | c :: w, p, r, hw, h => zhz (w := w) (p := mvN d p (c.toNat - 97)) (r := mvN d r (c.toNat - 97)) hd (fun c' hc' => hw c' (List.mem_cons_of_mem _ hc')) (zvf hd (by have := hw c (List.mem_cons_self ..); omega) h)
theorem zeO {d : DFA} {m n s : Nat} (hd : DfaOk d m n) (hs : s < 2 ^ n) : ∀ {w : List UInt8} {x : Nat}, (∀ c ∈ w, 97 <= c.toNat /\ c.toNat < 97 + m) -> x ∈ (z0J d m n s).1 -> z4R d x w ∈ (z0J d m n s).1
  | [], x, _, h => h
  | c :: w, x, hw, h => zeO (w := w) (x := mvN d x (c.toNat - 97)) hd hs (fun c' hc' => hw c' (List.mem_cons_of_mem _ hc')) (zcX hd hs h (by have := hw c (List.mem_cons_self ..); omega))
theorem zcz {d : DFA} {m n s : Nat} (hd : DfaOk d m n) (hs : s < 2 ^ n) : s ∈ (z0J d m n s).1 := by
  have := (z4a hd hs).f0
  exact List.mem_of_getElem? this
def zwa (d : DFA) (m : Nat) (p r : Nat) : Prop := ∃ w : List UInt8, (∀ c ∈ w, 97 <= c.toNat /\ c.toNat < 97 + m) /\ z7L p (z4R d r w)
theorem zsC {d : DFA} {m n p r : Nat} (hd : DfaOk d m n) (hr : r < 2 ^ n) : zwa d m p r ↔ ∃ x ∈ (z0J d m n r).1, z7L p x := by
  constructor
  · rintro ⟨w, h1, h2⟩
    exact ⟨_, zeO hd hr h1 (zcz hd hr), h2⟩
  · rintro ⟨x, hx, hs⟩
    obtain ⟨i, hi, rfl⟩ := List.getElem_of_mem hx
    obtain ⟨_, o2, o3⟩ := (z4a hd hr).ok i hi
    refine ⟨_, o2, ?_⟩
    rw [o3, List.getD, List.getElem?_eq_getElem hi, Option.getD_some]
    exact hs
theorem znX (d : DFA) (m p : Nat) : zwa d m p p := ⟨[], fun c hc => by simp at hc, zht p⟩
theorem zfu {d : DFA} {m n p q r : Nat} (hd : DfaOk d m n) (h1 : zwa d m p q) (h2 : zwa d m q r) : zwa d m p r := by
  obtain ⟨u, u1, u2⟩ := h1
  obtain ⟨v, v1, v2⟩ := h2
  refine ⟨v ++ u, fun c hc => ?_, ?_⟩
  · rcases List.mem_append.1 hc with h | h
    · exact v1 c h
    · exact u1 c h
  · rw [z6U]
    exact zr1 u2 (zhz hd u1 v2)
end
section
open Go
theorem zsZ {a0 : List Int} {r : List Int} (h : zkZ a0 = some r) : L 68 [.os 1 a0.length (a0.map fun x0 => .sc (.int .i64 x0)), .sc (.func (.func 69) #[] #[])] = some (.tup [], [.os 1 r.length (r.map fun x0 => .sc (.int .i64 x0)), .dead]) := by
  refine zrS rfl ?_
  have e : (List.map (fun x0 => T.sc (Value.int IntKind.i64 x0)) a0) = a0.map fun x => .sc (.int .i64 x) := rfl
  simp only [xt, xtC, if_true, zuE, Array.isEmpty_empty, and_self, zkp, h, Option.map_some]
instance {a0 : List Int} : Ok (zkZ a0) (fun r => L 68 [.os 1 a0.length (a0.map fun x0 => .sc (.int .i64 x0)), .sc (.func (.func 69) #[] #[])] = some (.tup [], [.os 1 r.length (r.map fun x0 => .sc (.int .i64 x0)), .dead])) := ⟨fun _ h => zsZ h⟩
end
section
open Go
noncomputable section
set_option maxRecDepth 100000
set_option maxHeartbeats 6000000
abbrev z1Y (w93 : Int) (v122 : List Int) : Int × List Bool × List ByteArray × List Int -> Option ((Int × List Bool × List ByteArray × List Int) ⊕ ((Int × List Bool × List ByteArray × List Int) ⊕ (List Int × List ByteArray)))
  | (w129, w130, w131, w132) =>
  if w129 < (v122.length : Int) then
    (atI v122 w129).bind fun v139 =>
    (atI w130 v139).bind fun v140 =>
    if v140 = true then
      z0e (IntKind.i64.wrap (w129 + 1), w130, w131, w132)
    else
      (atI w132 w93).bind fun v142 =>
      (atI w131 v142).bind fun v143 =>
      chk (z6K v143 ⟨#[UInt8.ofNat (IntKind.u8.wrap (IntKind.i64.wrap (97 + w129))).toNat]⟩) <|
      (atI w131 v139).bind fun v144 =>
      chk (z1c 8 (w132.length + 1)) <|
      z0e (IntKind.i64.wrap (w129 + 1), (w130.set v139.toNat true), (w131.set v139.toNat (v143 ++ ⟨#[UInt8.ofNat (IntKind.u8.wrap (IntKind.i64.wrap (97 + w129))).toNat]⟩)), w132 ++ [v139])
  else
    z0k <|
    z0e (IntKind.i64.wrap (w93 + 1), w130, w131, w132)
instance {w93 : Int} {v122 : List Int} : Hd (z1Y w93 v122) := ⟨fun (w129, w130, w131, w132) => ([(40, xI w129)], [(6, .os 1 w130.length (w130.map fun x0 => .sc (.bool x0))), (7, .os 1 w131.length (w131.map fun x0 => .sc (.string x0))), (8, .os 1 w132.length (w132.map fun x0 => .sc (.int .i64 x0)))])⟩
abbrev z3y (a0 : Dgm) : Int × List Bool × List ByteArray × List Int -> Option ((Int × List Bool × List ByteArray × List Int) ⊕ (List Int × List ByteArray))
  | (w93, w94, w95, w96) =>
  if w93 < (w96.length : Int) then
    (atI w96 w93).bind fun v121 =>
    (atI a0.next v121).bind fun v122 =>
    z0j (z1Y w93 v122) LFm (0, w94, w95, w96)
  else
    z0k <|
    some (w96, w95)
instance {a0 : Dgm} : Hd (z3y a0) := ⟨fun (w93, w94, w95, w96) => ([(9, xI w93)], [(6, .os 1 w94.length (w94.map fun x0 => .sc (.bool x0))), (7, .os 1 w95.length (w95.map fun x0 => .sc (.string x0))), (8, .os 1 w96.length (w96.map fun x0 => .sc (.int .i64 x0)))])⟩
def z1C (a0 : Dgm) (a1 : Int) : Option (List Int × List ByteArray) :=
  chk (z1g 1 (a0.sets.length : Int)) <|
  chk (z1g 16 (a0.sets.length : Int)) <|
  chk (0 <= a1 /\ a1 < (a0.sets.length : Int)) <|
  z0j (z3y a0) LFm (0, ((List.replicate (a0.sets.length : Int).toNat (false : Bool)).set a1.toNat true), List.replicate (a0.sets.length : Int).toNat (ByteArray.empty : ByteArray), [a1])
instance images_diagram_search_ok {a0 : Dgm} {a1 : Int} : Ok (z1C a0 a1) (fun r => L 51 [.agg [.sl a0.sets.length (a0.sets.map fun x0 => .sc (.int .i64 x0)), .sl a0.next.length (a0.next.map fun x0 => .sl x0.length (x0.map fun x1 => .sc (.int .i64 x1))), .sl a0.below.length (a0.below.map fun x0 => .sl x0.length (x0.map fun x1 => .sc (.bool x1)))], .sc (.int .i64 a1)] = some (.tup [.os 1 r.1.length (r.1.map fun x0 => .sc (.int .i64 x0)), .os 1 r.2.length (r.2.map fun x0 => .sc (.string x0))], [.dead, .dead])) := ⟨fun r h => by have h := z4p h; unfold z1C at h; exact z4O zzK zBN zDB⟩
abbrev z2z (a0 : DFA) (a1 : List Int) (w226 : List Int) (w246 : Int) (w248 : List (List Bool)) (v266 : Int) : Int × List (List Int) -> Option ((Int × List (List Int)) ⊕ ((Int × List (List Int) × List (List Bool)) ⊕ Dgm))
  | (w272, w273) =>
  if w272 < a0.letters then
    (atI w273 w246).bind fun v278 =>
    (z5n a0 v266 w272).bind fun v279 =>
    (atI w226 v279).bind fun v280 =>
    (atI v278 w272).bind fun v281 =>
    z0e (IntKind.i64.wrap (w272 + 1), (w273.set w246.toNat (v278.set w272.toNat v280)))
  else
    z0k <|
    chk (z1g 1 (a1.length : Int)) <|
    (atI w248 w246).bind fun v282 =>
    z0e (IntKind.i64.wrap (w246 + 1), w273, (w248.set w246.toNat (List.replicate (a1.length : Int).toNat (false : Bool))))
instance {a0 : DFA} {a1 : List Int} {w226 : List Int} {w246 : Int} {w248 : List (List Bool)} {v266 : Int} : Hd (z2z a0 a1 w226 w246 w248 v266) := ⟨fun (w272, w273) => ([(60, xI w272)], [(8, .vr [.sl a1.length (a1.map fun x0 => .sc (.int .i64 x0)), .os 1 w273.length (w273.map fun x0 => .os 1 x0.length (x0.map fun x1 => .sc (.int .i64 x1))), .os 1 w248.length (w248.map fun x0 => .os 1 x0.length (x0.map fun x1 => .sc (.bool x1)))])])⟩
abbrev z2y (a1 : List Int) (w337 : Int) (v393 : List Int × List ByteArray) (w411 : Int) (w412 : List (List Bool)) (v430 : Int) : Int -> Option (Int ⊕ ((Int × List (List Bool)) ⊕ ((Int × List (List Bool)) ⊕ Dgm)))
  | w436 =>
  if w436 < (v393.1.length : Int) then
    (atI v393.1 w436).bind fun v442 =>
    (atI a1 v442).bind fun v443 =>
    (z2P v443 v430).bind fun v444 =>
    if v444 = true then
      (atI w412 w411).bind fun v445 =>
      (atI v445 w337).bind fun v446 =>
      z0k <|
      z0e (IntKind.i64.wrap (w411 + 1), (w412.set w411.toNat (v445.set w337.toNat true)))
    else
      z0e (IntKind.i64.wrap (w436 + 1))
  else
    z0k <|
    z0e (IntKind.i64.wrap (w411 + 1), w412)
instance {a1 : List Int} {w337 : Int} {v393 : List Int × List ByteArray} {w411 : Int} {w412 : List (List Bool)} {v430 : Int} : Hd (z2y a1 w337 v393 w411 w412 v430) := ⟨fun w436 => ([(106, xI w436)], [])⟩
abbrev z3e (a1 : List Int) (w337 : Int) (v393 : List Int × List ByteArray) (w247 : List (List Int)) : Int × List (List Bool) -> Option ((Int × List (List Bool)) ⊕ ((Int × List (List Bool)) ⊕ Dgm))
  | (w411, w412) =>
  if w411 < (a1.length : Int) then
    (atI a1 w411).bind fun v430 =>
    z0j (z2y a1 w337 v393 w411 w412 v430) LFm 0
  else
    z0k <|
    z0e (IntKind.i64.wrap (w337 + 1), w412)
instance {a1 : List Int} {w337 : Int} {v393 : List Int × List ByteArray} {w247 : List (List Int)} : Hd (z3e a1 w337 v393 w247) := ⟨fun (w411, w412) => ([(99, xI w411)], [(8, .vr [.sl a1.length (a1.map fun x0 => .sc (.int .i64 x0)), .os 1 w247.length (w247.map fun x0 => .os 1 x0.length (x0.map fun x1 => .sc (.int .i64 x1))), .os 1 w412.length (w412.map fun x0 => .os 1 x0.length (x0.map fun x1 => .sc (.bool x1)))])])⟩
abbrev z3f (a1 : List Int) (w247 : List (List Int)) : Int × List (List Bool) -> Option ((Int × List (List Bool)) ⊕ Dgm)
  | (w337, w338) =>
  if w337 < (a1.length : Int) then
    (z1C (⟨a1, w247, w338⟩ : Dgm) w337).bind fun v393 =>
    z0j (z3e a1 w337 v393 w247) LFm (0, w338)
  else
    z0k <|
    some (⟨a1, w247, w338⟩ : Dgm)
instance {a1 : List Int} {w247 : List (List Int)} : Hd (z3f a1 w247) := ⟨fun (w337, w338) => ([(88, xI w337)], [(8, .vr [.sl a1.length (a1.map fun x0 => .sc (.int .i64 x0)), .os 1 w247.length (w247.map fun x0 => .os 1 x0.length (x0.map fun x1 => .sc (.int .i64 x1))), .os 1 w338.length (w338.map fun x0 => .os 1 x0.length (x0.map fun x1 => .sc (.bool x1)))])])⟩
abbrev z3n (a0 : DFA) (a1 : List Int) (w226 : List Int) : Int × List (List Int) × List (List Bool) -> Option ((Int × List (List Int) × List (List Bool)) ⊕ Dgm)
  | (w246, w247, w248) =>
  if w246 < (a1.length : Int) then
    (atI a1 w246).bind fun v266 =>
    chk (z1g 8 a0.letters) <|
    (atI w247 w246).bind fun v267 =>
    z0j (z2z a0 a1 w226 w246 w248 v266) LFm (0, (w247.set w246.toNat (List.replicate a0.letters.toNat (0 : Int))))
  else
    z0k <|
    z0j (z3f a1 w247) LFm (0, w248)
instance {a0 : DFA} {a1 : List Int} {w226 : List Int} : Hd (z3n a0 a1 w226) := ⟨fun (w246, w247, w248) => ([(46, xI w246)], [(8, .vr [.sl a1.length (a1.map fun x0 => .sc (.int .i64 x0)), .os 1 w247.length (w247.map fun x0 => .os 1 x0.length (x0.map fun x1 => .sc (.int .i64 x1))), .os 1 w248.length (w248.map fun x0 => .os 1 x0.length (x0.map fun x1 => .sc (.bool x1)))])])⟩
abbrev z3o (a0 : DFA) (a1 : List Int) : Int × List Int -> Option ((Int × List Int) ⊕ Dgm)
  | (w225, w226) =>
  if w225 < (a1.length : Int) then
    (atI a1 w225).bind fun v229 =>
    (atI w226 v229).bind fun v230 =>
    z0e (IntKind.i64.wrap (w225 + 1), (w226.set v229.toNat w225))
  else
    z0k <|
    chk (z1g 24 (a1.length : Int)) <|
    z0j (z3n a0 a1 w226) LFm (0, List.replicate (a1.length : Int).toNat ([] : List Int), List.replicate (a1.length : Int).toNat ([] : List Bool))
instance {a0 : DFA} {a1 : List Int} : Hd (z3o a0 a1) := ⟨fun (w225, w226) => ([(26, xI w225)], [(5, .os 1 w226.length (w226.map fun x0 => .sc (.int .i64 x0)))])⟩
def z3x (a0 : DFA) (a1 : List Int) : Option (Dgm) :=
  chk (¬ (a0.final.length : Int) < 0) <|
  chk (z1g 8 (zjM .i64 1 (a0.final.length : Int))) <|
  z0j (z3o a0 a1) LFm (0, List.replicate (zjM .i64 1 (a0.final.length : Int)).toNat (0 : Int))
instance images_newDiagram_ok {a0 : DFA} {a1 : List Int} : Ok (z3x a0 a1) (fun r => L 47 [.agg [.sc (.int .i64 a0.letters), .sc (.int .i64 a0.start), .sl a0.final.length (a0.final.map fun x0 => .sc (.bool x0)), .sl a0.next.length (a0.next.map fun x0 => .sl x0.length (x0.map fun x1 => .sc (.int .i64 x1)))], .sl a1.length (a1.map fun x0 => .sc (.int .i64 x0))] = some (.agg [.sl r.sets.length (r.sets.map fun x0 => .sc (.int .i64 x0)), .os 1 r.next.length (r.next.map fun x0 => .os 1 x0.length (x0.map fun x1 => .sc (.int .i64 x1))), .os 1 r.below.length (r.below.map fun x0 => .os 1 x0.length (x0.map fun x1 => .sc (.bool x1)))], [.dead, .dead])) := ⟨fun r h => by have h := z4p h; unfold z3x at h; exact z4O zzO zBR zDF⟩
abbrev z2t (a0 : Dgm) (w50 : Int) (w52 : List Int) : Int × List Int -> Option ((Int × List Int) ⊕ ((Int × List Int × List Int) ⊕ (List Int × List Int)))
  | (w82, w83) =>
  if w82 < (w52.length : Int) then
    (atI w52 w82).bind fun v90 =>
    (atI a0.below w50).bind fun v91 =>
    (atI v91 v90).bind fun v92 =>
    if v92 = true then
      (atI a0.below v90).bind fun v93 =>
      (atI v93 w50).bind fun v94 =>
      if v94 = true then
        (atI w83 w50).bind fun v95 =>
        z0e (IntKind.i64.wrap (w82 + 1), (w83.set w50.toNat w82))
      else
        z0e (IntKind.i64.wrap (w82 + 1), w83)
    else
      z0e (IntKind.i64.wrap (w82 + 1), w83)
  else
    z0k <|
    (atI w83 w50).bind fun v96 =>
    if v96 = (w52.length : Int) then
      chk (z1c 8 (w52.length + 1)) <|
      z0e (IntKind.i64.wrap (w50 + 1), w83, w52 ++ [w50])
    else
      z0e (IntKind.i64.wrap (w50 + 1), w83, w52)
instance {a0 : Dgm} {w50 : Int} {w52 : List Int} : Hd (z2t a0 w50 w52) := ⟨fun (w82, w83) => ([(26, xI w82)], [(4, .os 1 w83.length (w83.map fun x0 => .sc (.int .i64 x0)))])⟩
abbrev z2u (a0 : Dgm) : Int × List Int × List Int -> Option ((Int × List Int × List Int) ⊕ (List Int × List Int))
  | (w50, w51, w52) =>
  if w50 < (a0.sets.length : Int) then
    (atI w51 w50).bind fun v75 =>
    z0j (z2t a0 w50 w52) LFm (0, (w51.set w50.toNat (w52.length : Int)))
  else
    z0k <|
    some (w51, w52)
instance {a0 : Dgm} : Hd (z2u a0) := ⟨fun (w50, w51, w52) => ([(16, xI w50)], [(4, .os 1 w51.length (w51.map fun x0 => .sc (.int .i64 x0))), (5, .os 1 w52.length (w52.map fun x0 => .sc (.int .i64 x0)))])⟩
def z2j (a0 : Dgm) : Option (List Int × List Int) :=
  chk (z1g 8 (a0.sets.length : Int)) <|
  z0j (z2u a0) LFm (0, List.replicate (a0.sets.length : Int).toNat (0 : Int), [])
instance images_diagram_classes_ok {a0 : Dgm} : Ok (z2j a0) (fun r => L 48 [.agg [.sl a0.sets.length (a0.sets.map fun x0 => .sc (.int .i64 x0)), .sl a0.next.length (a0.next.map fun x0 => .sl x0.length (x0.map fun x1 => .sc (.int .i64 x1))), .sl a0.below.length (a0.below.map fun x0 => .sl x0.length (x0.map fun x1 => .sc (.bool x1)))]] = some (.tup [.os 1 r.1.length (r.1.map fun x0 => .sc (.int .i64 x0)), .os 1 r.2.length (r.2.map fun x0 => .sc (.int .i64 x0))], [.dead])) := ⟨fun r h => by have h := z4p h; unfold z2j at h; exact z4O zzN zBQ zDE⟩
abbrev z2C (a0 : Dgm) (w64 : List Int) (w85 : Int) (w86 : List Int) (v101 : Int) : Int -> Option (Int ⊕ ((Int × List Int) ⊕ List Int))
  | w106 =>
  if w106 < (w64.length : Int) then
    (atI w64 w106).bind fun v111 =>
    if v111 = v101 then
      z0e (IntKind.i64.wrap (w106 + 1))
    else
      (atI a0.sets v111).bind fun v112 =>
      (atI a0.sets v101).bind fun v113 =>
      (z2P v112 v113).bind fun v114 =>
      if v114 = true then
        z0k <|
        z0e (IntKind.i64.wrap (w85 + 1), w86)
      else
        z0e (IntKind.i64.wrap (w106 + 1))
  else
    z0k <|
    chk (z1c 8 (w86.length + 1)) <|
    z0e (IntKind.i64.wrap (w85 + 1), w86 ++ [v101])
instance {a0 : Dgm} {w64 : List Int} {w85 : Int} {w86 : List Int} {v101 : Int} : Hd (z2C a0 w64 w85 w86 v101) := ⟨fun w106 => ([(53, xI w106)], [])⟩
abbrev z1X (a0 : Dgm) (w64 : List Int) : Int × List Int -> Option ((Int × List Int) ⊕ List Int)
  | (w85, w86) =>
  if w85 < (w64.length : Int) then
    (atI w64 w85).bind fun v101 =>
    z0j (z2C a0 w64 w85 w86 v101) LFm 0
  else
    z0k <|
    some w86
instance {a0 : Dgm} {w64 : List Int} : Hd (z1X a0 w64) := ⟨fun (w85, w86) => ([(47, xI w85)], [(8, .os 1 w86.length (w86.map fun x0 => .sc (.int .i64 x0)))])⟩
abbrev z2J (a0 : Dgm) (a1 : Int) : Int × List Int -> Option ((Int × List Int) ⊕ List Int)
  | (w63, w64) =>
  if w63 < (a0.sets.length : Int) then
    (atI a0.sets w63).bind fun v68 =>
    if w63 = a1 then
      z0e (IntKind.i64.wrap (w63 + 1), w64)
    else
      (atI a0.sets a1).bind fun v69 =>
      (z2P v69 v68).bind fun v70 =>
      if v70 = true then
        chk (z1c 8 (w64.length + 1)) <|
        z0e (IntKind.i64.wrap (w63 + 1), w64 ++ [w63])
      else
        z0e (IntKind.i64.wrap (w63 + 1), w64)
  else
    z0k <|
    z0j (z1X a0 w64) LFm (0, [])
instance {a0 : Dgm} {a1 : Int} : Hd (z2J a0 a1) := ⟨fun (w63, w64) => ([(23, xI w63)], [(5, .os 1 w64.length (w64.map fun x0 => .sc (.int .i64 x0)))])⟩
def z2F (a0 : Dgm) (a1 : Int) : Option (List Int) :=
  (atI a0.sets a1).bind fun v58 =>
  (z5m v58).bind fun v59 =>
  if v59 = 1 then
    some []
  else
    z0j (z2J a0 a1) LFm (0, [])
instance images_diagram_tiles_ok {a0 : Dgm} {a1 : Int} : Ok (z2F a0 a1) (fun r => L 50 [.agg [.sl a0.sets.length (a0.sets.map fun x0 => .sc (.int .i64 x0)), .sl a0.next.length (a0.next.map fun x0 => .sl x0.length (x0.map fun x1 => .sc (.int .i64 x1))), .sl a0.below.length (a0.below.map fun x0 => .sl x0.length (x0.map fun x1 => .sc (.bool x1)))], .sc (.int .i64 a1)] = some (.os 1 r.length (r.map fun x0 => .sc (.int .i64 x0)), [.dead, .dead])) := ⟨fun r h => by have h := z4p h; unfold z2F at h; exact z4O zzL zBO zDC⟩
abbrev z2B (a0 : List Int) (a1 : Int) : Int -> Option (Int ⊕ Int)
  | w6 =>
  if w6 < (a0.length : Int) then
    (atI a0 w6).bind fun v8 =>
    if a1 = v8 then
      z0k <|
      some w6
    else
      z0e (IntKind.i64.wrap (w6 + 1))
  else
    z0k <|
    some (-1)
instance {a0 : List Int} {a1 : Int} : Hd (z2B a0 a1) := ⟨fun w6 => ([(8, xI w6)], [])⟩
def z3b (a0 : List Int) (a1 : Int) : Option (Int) :=
  z0j (z2B a0 a1) LFm 0
instance slices_Index_Lint_int_ok {a0 : List Int} {a1 : Int} : Ok (z3b a0 a1) (fun r => L 80 [.sl a0.length (a0.map fun x0 => .sc (.int .i64 x0)), .sc (.int .i64 a1)] = some (.sc (.int .i64 r), [.dead, .dead])) := ⟨fun r h => by have h := z4p h; unfold z3b at h; exact z4O zzq zBu zDi⟩
def z1W (a0 : List Int) (a1 : Int) : Option (Bool) :=
  (z3b a0 a1).bind fun v2 =>
  some (decide (0 <= v2))
instance slices_Contains_Lint_int_ok {a0 : List Int} {a1 : Int} : Ok (z1W a0 a1) (fun r => L 67 [.sl a0.length (a0.map fun x0 => .sc (.int .i64 x0)), .sc (.int .i64 a1)] = some (.sc (.bool r), [.dead, .dead])) := ⟨fun r h => by have h := z4p h; unfold z1W at h; exact z4O zzx zBB zDp⟩
abbrev z5F (a0 : DFA) : Int × List Int -> Option ((Int × List Int) ⊕ List Int)
  | (w10, w11) =>
  if w10 < (a0.final.length : Int) then
    chk (¬ w10 < 0) <|
    (z1W w11 (zjM .i64 1 w10)).bind fun v13 =>
    if v13 = true then
      z0e (IntKind.i64.wrap (w10 + 1), w11)
    else
      chk (z1c 8 (w11.length + 1)) <|
      z0e (IntKind.i64.wrap (w10 + 1), w11 ++ [zjM .i64 1 w10])
  else
    z0k <|
    (zkZ w11).bind fun v14 =>
    some v14
instance {a0 : DFA} : Hd (z5F a0) := ⟨fun (w10, w11) => ([(19, xI w10)], [(3, .os 1 w11.length (w11.map fun x0 => .sc (.int .i64 x0)))])⟩
def z6Z (a0 : DFA) : Option (List Int) :=
  chk (¬ (a0.final.length : Int) < 0) <|
  (z6g a0 (IntKind.i64.wrap ((zjM .i64 1 (a0.final.length : Int)) - 1))).bind fun v8 =>
  z0j (z5F a0) LFm (0, v8.1)
instance images_list_ok {a0 : DFA} : Ok (z6Z a0) (fun r => L 46 [.agg [.sc (.int .i64 a0.letters), .sc (.int .i64 a0.start), .sl a0.final.length (a0.final.map fun x0 => .sc (.bool x0)), .sl a0.next.length (a0.next.map fun x0 => .sl x0.length (x0.map fun x1 => .sc (.int .i64 x1)))]] = some (.os 1 r.length (r.map fun x0 => .sc (.int .i64 x0)), [.dead])) := ⟨fun r h => by have h := z4p h; unfold z6Z at h; exact z4O zzP zBS zDG⟩
def z4Y (v69 : List Int) (v71 : List Int × List Int) (w107 : Int) (v123 : List Int × List ByteArray) : Int × List ByteArray -> Option ((Int × List ByteArray) ⊕ ((Int × List ByteArray) ⊕ (Imgs × Int)))
  | (w127, w128) =>
  if w127 < (v69.length : Int) then
    (atI v71.1 w127).bind fun v132 =>
    if v132 = w107 then
      (atI v123.2 w127).bind fun v133 =>
      (atI w128 w127).bind fun v134 =>
      z0e (IntKind.i64.wrap (w127 + 1), (w128.set w127.toNat v133))
    else
      z0e (IntKind.i64.wrap (w127 + 1), w128)
  else
    z0k <|
    z0e (IntKind.i64.wrap (w107 + 1), w128)
def z4X (v69 : List Int) (v70 : Dgm) (v71 : List Int × List Int) (v72 : List Int) (w79 : List (List Int)) (w80 : List ByteArray) (w107 : Int) (v123 : List Int × List ByteArray) : Int × List ByteArray -> Fr
  | (w127, w128) => ⟨120, [(2, .one (.a 2 [] (0))), (5, .one (.t none (.sl v69.length (v69.map fun x0 => .sc (.int .i64 x0))))), (7, .one (.a 7 [] (0))), (8, .one (.t none (.sl v71.1.length (v71.1.map fun x0 => .sc (.int .i64 x0))))), (10, .one (.a 10 [] (0))), (14, .one (.t none (.sc (.int .i64 w107)))), (17, .one (.h 17 [])), (85, .one (.h 9 [])), (86, .one (.t none (.sc (.int .i64 (v71.2.length : Int))))), (87, .one (.t none (.sc (.int .i64 w107)))), (99, .one (.t none (.sc (.int .i64 (v69.length : Int))))), (100, .one (.t none (.sc (.int .i64 w127))))], [(2, .vr [.os 1 0 [], .os 1 0 [], .os 1 0 [], .os 1 0 [], .os 1 0 [], .os 1 0 []]), (7, .vr [.sl v70.sets.length (v70.sets.map fun x0 => .sc (.int .i64 x0)), .os 1 v70.next.length (v70.next.map fun x0 => .os 1 x0.length (x0.map fun x1 => .sc (.int .i64 x1))), .os 1 v70.below.length (v70.below.map fun x0 => .os 1 x0.length (x0.map fun x1 => .sc (.bool x1)))]), (10, .vr [.sl v69.length (v69.map fun x0 => .sc (.int .i64 x0)), .sl v71.1.length (v71.1.map fun x0 => .sc (.int .i64 x0)), .os 1 v72.length (v72.map fun x0 => .sc (.int .i64 x0)), .os 1 w79.length (w79.map fun x0 => .os 1 x0.length (x0.map fun x1 => .sc (.int .i64 x1))), .os 1 w128.length (w128.map fun x0 => .sc (.string x0)), .os 1 w80.length (w80.map fun x0 => .sc (.string x0))]), (17, .os 1 v123.2.length (v123.2.map fun x0 => .sc (.string x0))), (9, .os 1 v71.2.length (v71.2.map fun x0 => .sc (.int .i64 x0)))]⟩
def z6D (v69 : List Int) (v70 : Dgm) (v71 : List Int × List Int) (v72 : List Int) (w79 : List (List Int)) (w80 : List ByteArray) : Int × List ByteArray -> Option ((Int × List ByteArray) ⊕ (Imgs × Int))
  | (w107, w108) =>
  if w107 < (v71.2.length : Int) then
    (atI v71.2 w107).bind fun v122 =>
    (z1C v70 v122).bind fun v123 =>
    z0j (z4Y v69 v71 w107 v123) LFm (0, w108)
  else
    z0k <|
    some ((⟨v69, v71.1, v72, w79, w108, w80⟩ : Imgs), 0)
def z6B (v69 : List Int) (v70 : Dgm) (v71 : List Int × List Int) (v72 : List Int) (w79 : List (List Int)) (w80 : List ByteArray) : Int × List ByteArray -> Fr
  | (w107, w108) => ⟨120, [(2, .one (.a 2 [] (0))), (5, .one (.t none (.sl v69.length (v69.map fun x0 => .sc (.int .i64 x0))))), (7, .one (.a 7 [] (0))), (8, .one (.t none (.sl v71.1.length (v71.1.map fun x0 => .sc (.int .i64 x0))))), (10, .one (.a 10 [] (0))), (85, .one (.h 9 [])), (86, .one (.t none (.sc (.int .i64 (v71.2.length : Int))))), (87, .one (.t none (.sc (.int .i64 w107))))], [(2, .vr [.os 1 0 [], .os 1 0 [], .os 1 0 [], .os 1 0 [], .os 1 0 [], .os 1 0 []]), (7, .vr [.sl v70.sets.length (v70.sets.map fun x0 => .sc (.int .i64 x0)), .os 1 v70.next.length (v70.next.map fun x0 => .os 1 x0.length (x0.map fun x1 => .sc (.int .i64 x1))), .os 1 v70.below.length (v70.below.map fun x0 => .os 1 x0.length (x0.map fun x1 => .sc (.bool x1)))]), (10, .vr [.sl v69.length (v69.map fun x0 => .sc (.int .i64 x0)), .sl v71.1.length (v71.1.map fun x0 => .sc (.int .i64 x0)), .os 1 v72.length (v72.map fun x0 => .sc (.int .i64 x0)), .os 1 w79.length (w79.map fun x0 => .os 1 x0.length (x0.map fun x1 => .sc (.int .i64 x1))), .os 1 w108.length (w108.map fun x0 => .sc (.string x0)), .os 1 w80.length (w80.map fun x0 => .sc (.string x0))]), (9, .os 1 v71.2.length (v71.2.map fun x0 => .sc (.int .i64 x0)))]⟩
def z6E (v69 : List Int) (v70 : Dgm) (v71 : List Int × List Int) (v72 : List Int) : Int × List (List Int) × List ByteArray -> Option ((Int × List (List Int) × List ByteArray) ⊕ (Imgs × Int))
  | (w78, w79, w80) =>
  if w78 < (v69.length : Int) then
    (z2F v70 w78).bind fun v88 =>
    (atI w79 w78).bind fun v89 =>
    (z1C v70 w78).bind fun v90 =>
    (atI v71.1 w78).bind fun v91 =>
    (atI v71.2 v91).bind fun v92 =>
    (atI v90.2 v92).bind fun v93 =>
    (atI w80 w78).bind fun v94 =>
    z0e (IntKind.i64.wrap (w78 + 1), (w79.set w78.toNat v88), (w80.set w78.toNat v93))
  else
    z0k <|
    z0j (z6D v69 v70 v71 v72 w79 w80) LFm (0, List.replicate (v69.length : Int).toNat (ByteArray.empty : ByteArray))
def z6C (v69 : List Int) (v70 : Dgm) (v71 : List Int × List Int) (v72 : List Int) : Int × List (List Int) × List ByteArray -> Fr
  | (w78, w79, w80) => ⟨120, [(2, .one (.a 2 [] (0))), (5, .one (.t none (.sl v69.length (v69.map fun x0 => .sc (.int .i64 x0))))), (7, .one (.a 7 [] (0))), (8, .one (.t none (.sl v71.1.length (v71.1.map fun x0 => .sc (.int .i64 x0))))), (9, .one (.h 9 [])), (10, .one (.a 10 [] (0))), (53, .one (.t none (.sc (.int .i64 (v69.length : Int))))), (54, .one (.t none (.sc (.int .i64 w78))))], [(2, .vr [.os 1 0 [], .os 1 0 [], .os 1 0 [], .os 1 0 [], .os 1 0 [], .os 1 0 []]), (7, .vr [.sl v70.sets.length (v70.sets.map fun x0 => .sc (.int .i64 x0)), .os 1 v70.next.length (v70.next.map fun x0 => .os 1 x0.length (x0.map fun x1 => .sc (.int .i64 x1))), .os 1 v70.below.length (v70.below.map fun x0 => .os 1 x0.length (x0.map fun x1 => .sc (.bool x1)))]), (9, .os 1 v71.2.length (v71.2.map fun x0 => .sc (.int .i64 x0))), (10, .vr [.sl v69.length (v69.map fun x0 => .sc (.int .i64 x0)), .sl v71.1.length (v71.1.map fun x0 => .sc (.int .i64 x0)), .os 1 v72.length (v72.map fun x0 => .sc (.int .i64 x0)), .os 1 w79.length (w79.map fun x0 => .os 1 x0.length (x0.map fun x1 => .sc (.int .i64 x1))), .os 1 (List.replicate (v69.length : Int).toNat (ByteArray.empty : ByteArray)).length ((List.replicate (v69.length : Int).toNat (ByteArray.empty : ByteArray)).map fun x0 => .sc (.string x0)), .os 1 w80.length (w80.map fun x0 => .sc (.string x0))])]⟩
def z8X (a0 : DFA) : Option (Imgs × Int) :=
  (z4c a0).bind fun v68 =>
  if v68 = 0 then
    (z6Z a0).bind fun v69 =>
    if 400 < (v69.length : Int) then
      some ((⟨[], [], [], [], [], []⟩ : Imgs), 3)
    else
      (z3x a0 v69).bind fun v70 =>
      (z2j v70).bind fun v71 =>
      (z2i v70 v71.1).bind fun v72 =>
      chk (z1g 24 (v69.length : Int)) <|
      chk (z1g 16 (v69.length : Int)) <|
      z0j (z6E v69 v70 v71 v72) LFm (0, List.replicate (v69.length : Int).toNat ([] : List Int), List.replicate (v69.length : Int).toNat (ByteArray.empty : ByteArray))
  else
    some ((⟨[], [], [], [], [], []⟩ : Imgs), v68)
instance images_Of_ok {a0 : DFA} : Ok (z8X a0) (fun r => L 24 [.agg [.sc (.int .i64 a0.letters), .sc (.int .i64 a0.start), .sl a0.final.length (a0.final.map fun x0 => .sc (.bool x0)), .sl a0.next.length (a0.next.map fun x0 => .sl x0.length (x0.map fun x1 => .sc (.int .i64 x1)))]] = some (.tup [.agg [.sl r.1.sets.length (r.1.sets.map fun x0 => .sc (.int .i64 x0)), .sl r.1.class_.length (r.1.class_.map fun x0 => .sc (.int .i64 x0)), .sl r.1.height.length (r.1.height.map fun x0 => .sc (.int .i64 x0)), .sl r.1.tiles.length (r.1.tiles.map fun x0 => .sl x0.length (x0.map fun x1 => .sc (.int .i64 x1))), .sl r.1.words.length (r.1.words.map fun x0 => .sc (.string x0)), .sl r.1.back.length (r.1.back.map fun x0 => .sc (.string x0))], .sc (.int .i64 r.2)], [.dead])) := ⟨fun r h0 => by
  simp only [z8X] at h0
  refine zqu zA5 zAC (zhA zAU ⟨of_decide_eq_true rfl, of_decide_eq_true rfl⟩ rfl ?_)
  simp only [z7d, z6q, z6h, z8B, z6z]
  refine zq rfl (zr rfl rfl rfl (by simp; rfl) ?_)
  refine z0a (zq rfl (zq rfl ?_))
  obtain ⟨v68, f87, h1⟩ := z1a h0
  have f87k := Ok.ok _ f87
  try simp at f87k
  refine zr rfl rfl rfl (by simp [f87k]; rfl) ?_
  refine z0a (zq rfl (zr rfl rfl rfl (by simp; rfl) ?_))
  refine z0a ?_
  by_cases c88 : v68 = 0
  ·rw [if_pos c88] at h1
   have c88e := eq_true c88
   refine z2V rfl (by simp [c88e]) (z1E rfl (z0a (zq rfl ?_)))
   obtain ⟨v69, f89, h2⟩ := z1a h1
   have f89k := Ok.ok _ f89
   try simp at f89k
   refine zr rfl rfl rfl (by simp [f89k]; rfl) ?_
   refine z0a (zq rfl (zr rfl rfl rfl (by simp; rfl) ?_))
   refine z0a (zq rfl (zq rfl (zr rfl rfl rfl (by simp; rfl) ?_)))
   refine z0a ?_
   by_cases c90 : 400 < (v69.length : Int)
   ·rw [if_pos c90] at h2
    refine z3i rfl (by simp [c90]) (zq rfl (zr rfl rfl rfl (by simp; rfl) ?_))
    refine z0a (zhE rfl (zeF ?_))
    cases h2
    simp
   ·rw [if_neg c90] at h2
    refine z2V rfl (by simp [c90]) (z1E rfl (z0a (zq rfl (ztn rfl rfl (by simp; rfl) ?_))))
    obtain ⟨v70, f91, h3⟩ := z1a h2
    have f91k := Ok.ok _ f91
    try simp at f91k
    refine zr rfl rfl rfl (by simp [f91k]; rfl) ?_
    refine z0a (zq rfl ?_)
    obtain ⟨v71, f92, h4⟩ := z1a h3
    have f92k := Ok.ok _ f92
    try simp at f92k
    refine zr rfl rfl rfl (by simp [f92k]; rfl) ?_
    refine z0a (zq rfl (ztn rfl rfl (by simp; rfl) ?_))
    obtain ⟨v72, f93, h5⟩ := z1a h4
    have f93k := Ok.ok _ f93
    try simp at f93k
    obtain ⟨f94, h6⟩ := zup h5
    obtain ⟨f95, h7⟩ := zup h6
    refine zeQ rfl rfl rfl rfl ?_
    refine zmW [(0, 0, 0, 1), (1, 1, 0, 2), (2, 2, 0, 3), (3, 3, 0, 4), (4, 5, 0, 5), (5, 7, 0, 6), (6, 9, 0, 7), (7, 4, 1, 8), (7, 6, 1, 9), (7, 8, 1, 10), (7, 10, 1, 11), (7, 12, 1, 12), (8, 6, 1, 13), (8, 8, 1, 14), (8, 10, 1, 15), (8, 12, 1, 16), (9, 4, 1, 13), (9, 8, 1, 17), (9, 10, 1, 18), (9, 12, 1, 19), (10, 4, 1, 14), (10, 6, 1, 17), (10, 10, 1, 20), (10, 12, 1, 21), (11, 4, 1, 15), (11, 6, 1, 18), (11, 8, 1, 20), (11, 12, 1, 22), (12, 4, 1, 16), (12, 6, 1, 19), (12, 8, 1, 21), (12, 10, 1, 22), (13, 8, 1, 23), (13, 10, 1, 24), (13, 12, 1, 25), (14, 6, 1, 23), (14, 10, 1, 26), (14, 12, 1, 27), (15, 6, 1, 24), (15, 8, 1, 26), (15, 12, 1, 28), (16, 6, 1, 25), (16, 8, 1, 27), (16, 10, 1, 28), (17, 4, 1, 23), (17, 10, 1, 29), (17, 12, 1, 30), (18, 4, 1, 24), (18, 8, 1, 29), (18, 12, 1, 31), (19, 4, 1, 25), (19, 8, 1, 30), (19, 10, 1, 31), (20, 4, 1, 26), (20, 6, 1, 29), (20, 12, 1, 32), (21, 4, 1, 27), (21, 6, 1, 30), (21, 10, 1, 32), (22, 4, 1, 28), (22, 6, 1, 31), (22, 8, 1, 32), (23, 10, 1, 33), (23, 12, 1, 34), (24, 8, 1, 33), (24, 12, 1, 35), (25, 8, 1, 34), (25, 10, 1, 35), (26, 6, 1, 33), (26, 12, 1, 36), (27, 6, 1, 34), (27, 10, 1, 36), (28, 6, 1, 35), (28, 8, 1, 36), (29, 4, 1, 33), (29, 12, 1, 37), (30, 4, 1, 34), (30, 10, 1, 37), (31, 4, 1, 35), (31, 8, 1, 37), (32, 4, 1, 36), (32, 6, 1, 37), (33, 11, 0, 38), (34, 10, 1, 39), (35, 8, 1, 39), (36, 6, 1, 39), (37, 4, 1, 39), (38, 12, 1, 40), (39, 11, 0, 40), (40, 13, 2, 41)] 41 (by kernel_rfl) ?_
    refine z0f rfl rfl rfl rfl (by simp [z0b, z0c, f93k, f94, f95]; rfl) ?_
    refine z0f rfl rfl rfl rfl (by simp [z0b, z0c, f93k, f94, f95]; rfl) ?_
    refine z0f rfl rfl rfl rfl (by simp [z0b, z0c, f93k, f94, f95]; rfl) ?_
    refine z0f rfl rfl rfl rfl (by simp [z0b, z0c, f93k, f94, f95]; rfl) ?_
    refine z0f rfl rfl rfl rfl (by simp [z0b, z0c, f93k, f94, f95]; rfl) ?_
    refine z0f rfl rfl rfl rfl (by simp [z0b, z0c, f93k, f94, f95]; rfl) ?_
    refine z0f rfl rfl rfl rfl (by simp [z0b, z0c, f93k, f94, f95]; rfl) ?_
    refine z0f rfl rfl rfl rfl (by simp [z0b, z0c, f93k, f94, f95]; rfl) ?_
    refine z0f rfl rfl rfl rfl (by simp [z0b, z0c, f93k, f94, f95]; rfl) ?_
    refine z0f rfl rfl rfl rfl (by simp [z0b, z0c, f93k, f94, f95]; rfl) ?_
    refine z0f rfl rfl rfl rfl (by simp [z0b, z0c, f93k, f94, f95]; rfl) ?_
    refine z0f rfl rfl rfl rfl (by simp [z0b, z0c, f93k, f94, f95]; rfl) ?_
    refine z0f rfl rfl rfl rfl (by simp [z0b, z0c, f93k, f94, f95]; rfl) ?_
    refine z0f rfl rfl rfl rfl (by simp [z0b, z0c, f93k, f94, f95]; rfl) ?_
    refine z0f rfl rfl rfl rfl (by simp [z0b, z0c, f93k, f94, f95]; rfl) ?_
    refine z0f rfl rfl rfl rfl (by simp [z0b, z0c, f93k, f94, f95]; rfl) ?_
    refine z0i rfl rfl rfl rfl (by simp [z0b, z0c, f93k, f94, f95]) ?_
    refine z0f rfl rfl rfl rfl (by simp [z0b, z0c, f93k, f94, f95]; rfl) ?_
    refine z0f rfl rfl rfl rfl (by simp [z0b, z0c, f93k, f94, f95]; rfl) ?_
    refine z0f rfl rfl rfl rfl (by simp [z0b, z0c, f93k, f94, f95]; rfl) ?_
    refine z0i rfl rfl rfl rfl (by simp [z0b, z0c, f93k, f94, f95]) ?_
    refine z0i rfl rfl rfl rfl (by simp [z0b, z0c, f93k, f94, f95]) ?_
    refine z0f rfl rfl rfl rfl (by simp [z0b, z0c, f93k, f94, f95]; rfl) ?_
    refine z0f rfl rfl rfl rfl (by simp [z0b, z0c, f93k, f94, f95]; rfl) ?_
    refine z0i rfl rfl rfl rfl (by simp [z0b, z0c, f93k, f94, f95]) ?_
    refine z0i rfl rfl rfl rfl (by simp [z0b, z0c, f93k, f94, f95]) ?_
    refine z0i rfl rfl rfl rfl (by simp [z0b, z0c, f93k, f94, f95]) ?_
    refine z0f rfl rfl rfl rfl (by simp [z0b, z0c, f93k, f94, f95]; rfl) ?_
    refine z0i rfl rfl rfl rfl (by simp [z0b, z0c, f93k, f94, f95]) ?_
    refine z0i rfl rfl rfl rfl (by simp [z0b, z0c, f93k, f94, f95]) ?_
    refine z0i rfl rfl rfl rfl (by simp [z0b, z0c, f93k, f94, f95]) ?_
    refine z0i rfl rfl rfl rfl (by simp [z0b, z0c, f93k, f94, f95]) ?_
    refine z0f rfl rfl rfl rfl (by simp [z0b, z0c, f93k, f94, f95]; rfl) ?_
    refine z0f rfl rfl rfl rfl (by simp [z0b, z0c, f93k, f94, f95]; rfl) ?_
    refine z0f rfl rfl rfl rfl (by simp [z0b, z0c, f93k, f94, f95]; rfl) ?_
    refine z0i rfl rfl rfl rfl (by simp [z0b, z0c, f93k, f94, f95]) ?_
    refine z0f rfl rfl rfl rfl (by simp [z0b, z0c, f93k, f94, f95]; rfl) ?_
    refine z0f rfl rfl rfl rfl (by simp [z0b, z0c, f93k, f94, f95]; rfl) ?_
    refine z0i rfl rfl rfl rfl (by simp [z0b, z0c, f93k, f94, f95]) ?_
    refine z0i rfl rfl rfl rfl (by simp [z0b, z0c, f93k, f94, f95]) ?_
    refine z0f rfl rfl rfl rfl (by simp [z0b, z0c, f93k, f94, f95]; rfl) ?_
    refine z0i rfl rfl rfl rfl (by simp [z0b, z0c, f93k, f94, f95]) ?_
    refine z0i rfl rfl rfl rfl (by simp [z0b, z0c, f93k, f94, f95]) ?_
    refine z0i rfl rfl rfl rfl (by simp [z0b, z0c, f93k, f94, f95]) ?_
    refine z0i rfl rfl rfl rfl (by simp [z0b, z0c, f93k, f94, f95]) ?_
    refine z0f rfl rfl rfl rfl (by simp [z0b, z0c, f93k, f94, f95]; rfl) ?_
    refine z0f rfl rfl rfl rfl (by simp [z0b, z0c, f93k, f94, f95]; rfl) ?_
    refine z0i rfl rfl rfl rfl (by simp [z0b, z0c, f93k, f94, f95]) ?_
    refine z0i rfl rfl rfl rfl (by simp [z0b, z0c, f93k, f94, f95]) ?_
    refine z0f rfl rfl rfl rfl (by simp [z0b, z0c, f93k, f94, f95]; rfl) ?_
    refine z0i rfl rfl rfl rfl (by simp [z0b, z0c, f93k, f94, f95]) ?_
    refine z0i rfl rfl rfl rfl (by simp [z0b, z0c, f93k, f94, f95]) ?_
    refine z0i rfl rfl rfl rfl (by simp [z0b, z0c, f93k, f94, f95]) ?_
    refine z0i rfl rfl rfl rfl (by simp [z0b, z0c, f93k, f94, f95]) ?_
    refine z0i rfl rfl rfl rfl (by simp [z0b, z0c, f93k, f94, f95]) ?_
    refine z0f rfl rfl rfl rfl (by simp [z0b, z0c, f93k, f94, f95]; rfl) ?_
    refine z0i rfl rfl rfl rfl (by simp [z0b, z0c, f93k, f94, f95]) ?_
    refine z0i rfl rfl rfl rfl (by simp [z0b, z0c, f93k, f94, f95]) ?_
    refine z0i rfl rfl rfl rfl (by simp [z0b, z0c, f93k, f94, f95]) ?_
    refine z0i rfl rfl rfl rfl (by simp [z0b, z0c, f93k, f94, f95]) ?_
    refine z0i rfl rfl rfl rfl (by simp [z0b, z0c, f93k, f94, f95]) ?_
    refine z0i rfl rfl rfl rfl (by simp [z0b, z0c, f93k, f94, f95]) ?_
    refine z0f rfl rfl rfl rfl (by simp [z0b, z0c, f93k, f94, f95]; rfl) ?_
    refine z0f rfl rfl rfl rfl (by simp [z0b, z0c, f93k, f94, f95]; rfl) ?_
    refine z0i rfl rfl rfl rfl (by simp [z0b, z0c, f93k, f94, f95]) ?_
    refine z0f rfl rfl rfl rfl (by simp [z0b, z0c, f93k, f94, f95]; rfl) ?_
    refine z0i rfl rfl rfl rfl (by simp [z0b, z0c, f93k, f94, f95]) ?_
    refine z0i rfl rfl rfl rfl (by simp [z0b, z0c, f93k, f94, f95]) ?_
    refine z0i rfl rfl rfl rfl (by simp [z0b, z0c, f93k, f94, f95]) ?_
    refine z0f rfl rfl rfl rfl (by simp [z0b, z0c, f93k, f94, f95]; rfl) ?_
    refine z0i rfl rfl rfl rfl (by simp [z0b, z0c, f93k, f94, f95]) ?_
    refine z0i rfl rfl rfl rfl (by simp [z0b, z0c, f93k, f94, f95]) ?_
    refine z0i rfl rfl rfl rfl (by simp [z0b, z0c, f93k, f94, f95]) ?_
    refine z0i rfl rfl rfl rfl (by simp [z0b, z0c, f93k, f94, f95]) ?_
    refine z0i rfl rfl rfl rfl (by simp [z0b, z0c, f93k, f94, f95]) ?_
    refine z0f rfl rfl rfl rfl (by simp [z0b, z0c, f93k, f94, f95]; rfl) ?_
    refine z0i rfl rfl rfl rfl (by simp [z0b, z0c, f93k, f94, f95]) ?_
    refine z0i rfl rfl rfl rfl (by simp [z0b, z0c, f93k, f94, f95]) ?_
    refine z0i rfl rfl rfl rfl (by simp [z0b, z0c, f93k, f94, f95]) ?_
    refine z0i rfl rfl rfl rfl (by simp [z0b, z0c, f93k, f94, f95]) ?_
    refine z0i rfl rfl rfl rfl (by simp [z0b, z0c, f93k, f94, f95]) ?_
    refine z0i rfl rfl rfl rfl (by simp [z0b, z0c, f93k, f94, f95]) ?_
    refine z0f rfl rfl rfl rfl (by simp [z0b, z0c, f93k, f94, f95]; rfl) ?_
    refine z0f rfl rfl rfl rfl (by simp [z0b, z0c, f93k, f94, f95]; rfl) ?_
    refine z0i rfl rfl rfl rfl (by simp [z0b, z0c, f93k, f94, f95]) ?_
    refine z0i rfl rfl rfl rfl (by simp [z0b, z0c, f93k, f94, f95]) ?_
    refine z0i rfl rfl rfl rfl (by simp [z0b, z0c, f93k, f94, f95]) ?_
    refine z0f rfl rfl rfl rfl (by simp [z0b, z0c, f93k, f94, f95]; rfl) ?_
    refine z0i rfl rfl rfl rfl (by simp [z0b, z0c, f93k, f94, f95]) ?_
    refine z0f rfl rfl rfl rfl (by simp [z0b, z0c, f93k, f94, f95]; rfl) ?_
    refine znN rfl ?_
    refine zeC rfl (by simp [f93k, f94, f95]; rfl) ?_
    refine z0a (zq rfl (zq rfl (zr rfl rfl rfl (by simp; rfl) ?_)))
    refine z0a (zb rfl (z2l h7 (z6C v69 v70 v71 v72) rfl rfl (by simp [z6C]) fun s o1 h8 hr1 => ?_))
    obtain ⟨w78, w79, w80⟩ := s
    simp only [z6E] at h8
    simp only [z6C]
    refine zq rfl (zr rfl rfl rfl (by simp; rfl) ?_)
    refine z0a (zq rfl ?_)
    by_cases c111 : w78 < (v69.length : Int)
    ·rw [if_pos c111] at h8
     refine z3i rfl (by simp [c111]) (z1E rfl (z0a (zq rfl (zb rfl (zq rfl (zr rfl rfl rfl (by simp; rfl) ?_))))))
     refine z0a (zq rfl ?_)
     obtain ⟨v88, f112, h9⟩ := z1a h8
     have f112k := Ok.ok _ f112
     try simp at f112k
     obtain ⟨v89, f113, h10⟩ := z2k h9
     refine z3N rfl rfl rfl rfl ?_; repeat' ((first | refine z1P rfl rfl fun Q' hQ => ?_ | refine z1r rfl fun Q' hQ => ?_); simp [f112k, f113]; refine hQ.out _ ?_; clear hQ; clear Q')
     refine z0a (zq rfl ?_)
     obtain ⟨v90, f114, h11⟩ := z1a h10
     have f114k := Ok.ok _ f114
     try simp at f114k
     refine zr rfl rfl rfl (by simp [f114k]; rfl) ?_
     refine z0a ?_
     obtain ⟨v91, f115, h12⟩ := z2k h11
     obtain ⟨v92, f116, h13⟩ := z2k h12
     obtain ⟨v93, f117, h14⟩ := z2k h13
     obtain ⟨v94, f118, h15⟩ := z2k h14
     refine z3N rfl rfl rfl rfl ?_; repeat' ((first | refine z1P rfl rfl fun Q' hQ => ?_ | refine z1r rfl fun Q' hQ => ?_); simp [f115, f116, f117, f118]; refine hQ.out _ ?_; clear hQ; clear Q')
     refine z0N (z0a (zr rfl rfl rfl (by simp; rfl) ?_))
     have ho := z0w h15
     refine z0H ho ?_
     simp [z6C]
    ·rw [if_neg c111] at h8
     refine z2V rfl (by simp [c111]) (z2O rfl (z1U ?_))
     obtain ⟨rr1, h9, ho1⟩ := z0Z h8
     have hs1 := hr1 _ ho1
     subst hs1
     refine z1z ho1 (z0C rfl (z0a (zq rfl (zq rfl (zr rfl rfl rfl (by simp; rfl) ?_)))))
     refine z0a (zb rfl (z2l h9 (z6B v69 v70 v71 v72 w79 w80) rfl rfl (by simp [z6B]) fun s o2 h10 hr2 => ?_))
     obtain ⟨w107, w108⟩ := s
     simp only [z6D] at h10
     simp only [z6B]
     refine zq rfl (zr rfl rfl rfl (by simp; rfl) ?_)
     refine z0a (zq rfl ?_)
     by_cases c155 : w107 < (v71.2.length : Int)
     ·rw [if_pos c155] at h10
      refine z3i rfl (by simp [c155]) (z1E rfl (z0a (zq rfl (zb rfl (zq rfl ?_)))))
      obtain ⟨v122, f156, h11⟩ := z2k h10
      refine zr rfl rfl rfl (by simp [f156]; rfl) ?_
      refine z0a (zq rfl ?_)
      obtain ⟨v123, f157, h12⟩ := z1a h11
      have f157k := Ok.ok _ f157
      try simp at f157k
      refine zr rfl rfl rfl (by simp [f157k]; rfl) ?_
      refine z0a (zq rfl (zr rfl rfl rfl (by simp; rfl) ?_))
      refine z0a (zb rfl (z2l h12 (z4X v69 v70 v71 v72 w79 w80 w107 v123) rfl rfl (by simp [z4X]) fun s o3 h13 hr3 => ?_))
      obtain ⟨w127, w128⟩ := s
      simp only [z4Y] at h13
      simp only [z4X]
      refine zq rfl (zr rfl rfl rfl (by simp; rfl) ?_)
      refine z0a (zq rfl ?_)
      by_cases c168 : w127 < (v69.length : Int)
      ·rw [if_pos c168] at h13
       refine z3i rfl (by simp [c168]) (z1E rfl (z0a (zq rfl (zb rfl (zq rfl (zr rfl rfl rfl (by simp; rfl) ?_))))))
       refine z0a (zq rfl ?_)
       obtain ⟨v132, f169, h14⟩ := z2k h13
       refine zr rfl rfl rfl (by simp [f169]; rfl) ?_
       refine z0a ?_
       by_cases c170 : v132 = w107
       ·rw [if_pos c170] at h14
        have c170e := eq_true c170
        refine z3i rfl (by simp [c170e]) ?_
        obtain ⟨v133, f171, h15⟩ := z2k h14
        obtain ⟨v134, f172, h16⟩ := z2k h15
        refine z3N rfl rfl rfl rfl ?_; repeat' ((first | refine z1P rfl rfl fun Q' hQ => ?_ | refine z1r rfl fun Q' hQ => ?_); simp [f171, f172]; refine hQ.out _ ?_; clear hQ; clear Q')
        refine z0N (z0a (zr rfl rfl rfl (by simp; rfl) ?_))
        have ho := z0w h16
        refine z0H ho ?_
        simp [z4X]
       ·rw [if_neg c170] at h14
        have c170e := eq_false c170
        refine z2V rfl (by simp [c170e]) (z1E rfl (z0N (z0a (zr rfl rfl rfl (by simp; rfl) ?_))))
        have ho := z0w h14
        refine z0H ho ?_
        simp [z4X]
      ·rw [if_neg c168] at h13
       refine z2V rfl (by simp [c168]) (z2O rfl (z1U ?_))
       obtain ⟨rr3, h14, ho3⟩ := z0Z h13
       have hs3 := hr3 _ ho3
       subst hs3
       refine z1z ho3 (z0C rfl (z0N (z0a (zr rfl rfl rfl (by simp; rfl) ?_))))
       have ho := z0w h14
       refine z0H ho ?_
       simp [z6B]
     ·rw [if_neg c155] at h10
      refine z2V rfl (by simp [c155]) (z2O rfl (z1U ?_))
      obtain ⟨rr2, h11, ho2⟩ := z0Z h10
      have hs2 := hr2 _ ho2
      subst hs2
      refine z1z ho2 (z0C rfl (z0a (zq rfl (zr rfl rfl rfl (by simp; rfl) ?_))))
      refine z0a (zhE rfl ?_)
      cases h11
      simp
  ·rw [if_neg c88] at h1
   have c88e := eq_false c88
   refine z3i rfl (by simp [c88e]) (zq rfl (zr rfl rfl rfl (by simp; rfl) ?_))
   refine z0a (zhE rfl (zeF ?_))
   cases h1
   simp⟩
end
end
section
open Go
set_option maxRecDepth 100000
theorem zaB (a b : Nat) : zqs a b = true ↔ (szN b < szN a ∨ (szN a = szN b /\ a <= b)) := by unfold zqs; simp
theorem zmG (a b : Nat) : zqs a b = false ↔ ¬ (szN b < szN a ∨ (szN a = szN b /\ a <= b)) := by rw [← zaB]; simp
def ztH (x : Nat) : List Nat -> List Nat
  | [] => [x]
  | y :: l => if zqs x y = true then x :: y :: l else y :: ztH x l
def zhw : List Nat -> List Nat
  | [] => []
  | x :: l => ztH x (zhw l)
abbrev zkR (l : List Nat) : Prop := l.Pairwise fun a b => zqs a b = true
theorem zns (x : Nat) : ∀ l : List Nat, ztI (x : Int) (toI l) = toI (ztH x l)
  | [] => rfl
  | y :: l => by
    have ih := zns x l
    have e : leI (x : Int) (y : Int) = zqs x y := by simp [leI]
    simp only [toI, List.map_cons, ztI, ztH] at ih ⊢
    rw [e]
    by_cases h : zqs x y = true
    · rw [if_pos h, if_pos h]; rfl
    · rw [if_neg h, if_neg h, ih]; rfl
theorem zjL : ∀ l : List Nat, zaW (toI l) = toI (zhw l)
  | [] => rfl
  | x :: l => by
    have ih := zjL l
    simp only [toI, List.map_cons, zaW, zhw] at ih ⊢
    rw [ih]; exact zns x (zhw l)
theorem zf3 (x : Nat) : ∀ l : List Nat, (ztH x l).Perm (x :: l)
  | [] => .refl _
  | y :: l => by
    unfold ztH
    split
    · exact .refl _
    · exact ((zf3 x l).cons y).trans (.swap x y l)
theorem z9F : ∀ l : List Nat, (zhw l).Perm l
  | [] => .refl _
  | x :: l => (zf3 x (zhw l)).trans ((z9F l).cons x)
theorem zf2 (x : Nat) : ∀ l : List Nat, zkR l -> zkR (ztH x l)
  | [], _ => by simp [ztH]
  | y :: l, h => by
    unfold ztH
    rw [zkR, List.pairwise_cons] at h
    split
    · rename_i hxy
      refine List.pairwise_cons.2 ⟨fun z hz => ?_, List.pairwise_cons.2 h⟩
      rcases List.mem_cons.1 hz with rfl | hz
      · exact hxy
      · have := h.1 z hz
        rw [zaB] at *
        omega
    · rename_i hxy
      refine List.pairwise_cons.2 ⟨fun z hz => ?_, zf2 x l h.2⟩
      rcases List.mem_cons.1 ((zf3 x l).mem_iff.1 hz) with rfl | hz
      · rw [zaB] at *
        omega
      · exact h.1 z hz
theorem z8K : ∀ l : List Nat, zkR (zhw l)
  | [] => by simp [zhw]
  | x :: l => zf2 x _ (z8K l)
theorem zh3 : ∀ {l1 l2 : List Nat}, l1.Perm l2 -> zkR l1 -> zkR l2 -> l1 = l2
  | [], l2, h, _, _ => by rw [List.nil_perm] at h; exact h.symm
  | a :: l1, [], h, _, _ => by simp at h
  | a :: l1, b :: l2, h, h1, h2 => by
    have hab : a = b := by
      rcases List.mem_cons.1 (h.mem_iff.1 (List.mem_cons_self ..)) with e | ha
      · exact e
      · rcases List.mem_cons.1 (h.mem_iff.2 (List.mem_cons_self ..)) with e | hb
        · exact e.symm
        · have e1 := (List.pairwise_cons.1 h2).1 a ha
          have e2 := (List.pairwise_cons.1 h1).1 b hb
          rw [zaB] at e1 e2
          omega
    subst hab
    rw [zh3 (List.perm_cons a |>.1 h) (List.pairwise_cons.1 h1).2 (List.pairwise_cons.1 h2).2]
def z7K (S : List Nat) : Nat -> List Nat
  | 0 => S
  | q + 1 => if 2 ^ q ∈ z7K S q then z7K S q else z7K S q ++ [2 ^ q]
theorem z5u {S : List Nat} (hS : S.Nodup) : ∀ q, (z7K S q).Nodup /\ (∀ x, x ∈ z7K S q ↔ x ∈ S ∨ ∃ i, i < q /\ x = 2 ^ i) /\ (z7K S q).length <= S.length + q
  | 0 => ⟨hS, fun x => by simp [z7K], by simp [z7K]⟩
  | q + 1 => by
    obtain ⟨h1, h2, h3⟩ := z5u hS q
    unfold z7K
    split
    · rename_i h
      refine ⟨h1, fun x => ?_, by omega⟩
      rw [h2]
      constructor
      · rintro (h | ⟨i, h, e⟩)
        · exact .inl h
        · exact .inr ⟨i, by omega, e⟩
      · rintro (h' | ⟨i, h', e⟩)
        · exact .inl h'
        · by_cases ei : i = q
          · subst ei; rw [e]; exact (h2 _).1 h
          · exact .inr ⟨i, by omega, e⟩
    · rename_i h
      refine ⟨List.nodup_append.2 ⟨h1, by simp, fun a ha b hb e => ?_⟩, fun x => ?_, by rw [List.length_append, List.length_singleton]; omega⟩
      · obtain rfl := List.mem_singleton.1 hb
        exact h (e ▸ ha)
      · rw [List.mem_append, h2, List.mem_singleton]
        constructor
        · rintro ((h' | ⟨i, h', e⟩) | e)
          · exact .inl h'
          · exact .inr ⟨i, by omega, e⟩
          · exact .inr ⟨q, by omega, e⟩
        · rintro (h' | ⟨i, h', e⟩)
          · exact .inl (.inl h')
          · by_cases ei : i = q
            · subst ei; exact .inr e
            · exact .inl (.inr ⟨i, by omega, e⟩)
def z2E (d : DFA) (m n : Nat) : List Nat := zhw (z7K (z0J d m n (2 ^ n - 1)).1 n)
structure SetsP (d : DFA) (m n : Nat) (S : List Nat) : Prop where
  nd : S.Nodup
  lt : ∀ x ∈ S, x < 2 ^ n
  cl : ∀ x ∈ S, ∀ a, a < m -> mvN d x a ∈ S
  one : ∀ q, q < n -> 2 ^ q ∈ S
  srt : zkR S
theorem zwO {d : DFA} {m n : Nat} (hd : DfaOk d m n) {q a : Nat} (hq : q < n) (ha : a < m) : ∃ p, p < n /\ mvN d (2 ^ q) a = 2 ^ p := by
  obtain ⟨h1, h2, e, h3, h4⟩ := zcx hd hq ha
  refine ⟨((d.next.getD q []).getD a 0).toNat, by rw [e]; omega, Nat.eq_of_testBit_eq fun i => ?_⟩
  rw [Bool.eq_iff_iff, z8u hd ha, Nat.testBit_two_pow, decide_eq_true_iff]
  constructor
  · rintro ⟨j, j1, j2, j3⟩
    rw [Nat.testBit_two_pow, decide_eq_true_iff] at j2
    subst j2; exact j3
  · intro h
    exact ⟨q, hq, by rw [Nat.testBit_two_pow]; simp, h⟩
theorem z8r {d : DFA} {m n : Nat} (hd : DfaOk d m n) : SetsP d m n (z2E d m n) := by
  have hp := Nat.two_pow_pos n
  have hf : 2 ^ n - 1 < 2 ^ n := by omega
  have hi := z4a hd hf
  obtain ⟨h1, h2, h3⟩ := z5u hi.nd n
  have hpm := z9F (z7K (z0J d m n (2 ^ n - 1)).1 n)
  have hm : ∀ x, x ∈ z2E d m n ↔ x ∈ (z0J d m n (2 ^ n - 1)).1 ∨ ∃ i, i < n /\ x = 2 ^ i := fun x => hpm.mem_iff.trans (h2 x)
  refine ⟨hpm.nodup_iff.2 h1, fun x hx => ?_, fun x hx a ha => ?_, fun q hq => (hm _).2 (.inr ⟨q, hq, rfl⟩), z8K _⟩
  · rcases (hm x).1 hx with h | ⟨i, hi', rfl⟩
    · exact hi.lt x h
    · exact Nat.pow_lt_pow_right (by omega) hi'
  · rcases (hm x).1 hx with h | ⟨i, hi', rfl⟩
    · exact (hm _).2 (.inl (zcX hd hf h ha))
    · obtain ⟨p, hp1, hp2⟩ := zwO hd hi' ha
      exact (hm _).2 (.inr ⟨p, hp1, hp2⟩)
theorem zmJ {S : List Nat} (hl : S.length < 4611686018427387904) (x : Nat) : z1W (toI S) (x : Int) = some (decide (x ∈ S)) := by
  unfold z1W z3b
  rw [z7X (s := (0 : Int)) S.length (fun k => (k : Int)) (fun k => decide (x = S.getD k 0)) (fun k => some (k : Int)) (x := some (-1)) rfl (by simp only [LFm]; omega)]
  · cases h : (List.range S.length).find? (fun k => decide (x = S.getD k 0)) with
    | none =>
      have := zfk.1 h
      rw [Option.bind_some]
      congr 1
      have hn : ¬ x ∈ S := fun hx => by
        obtain ⟨i, hi, rfl⟩ := List.getElem_of_mem hx
        have := this i hi
        simp [List.getD, hi] at this
      simp [hn]
    | some k =>
      obtain ⟨k1, k2, _⟩ := zfj.1 h
      rw [Option.bind_some]
      congr 1
      have hx : x ∈ S := by
        have : x = S.getD k 0 := by simpa using k2
        rw [this]; exact z0p k1
      simp [hx]
  · intro k hk
    simp only [z2B]
    rw [if_pos (by rw [z0d]; omega), z0Y hk, Option.bind_some]
    by_cases h : x = S.getD k 0
    · rw [if_pos (by omega), if_pos (by simpa using h)]
    · rw [if_neg (by omega), if_neg (by simpa using h), z0T (by omega)]
  · simp only [z2B]
    rw [if_neg (by rw [z0d]; omega)]
theorem zvm {d : DFA} {m n : Nat} (hd : DfaOk d m n) (hn : n <= 7) : z6Z d = some (toI (z2E d m n)) := by
  have hp := Nat.two_pow_pos n
  have h128 : 2 ^ n <= 128 := Nat.pow_le_pow_right (n := 2) (by omega) hn
  have hf : 2 ^ n - 1 < 2 ^ n := by omega
  have hi := z4a hd hf
  have hl := z0z hi.nd hi.lt
  obtain ⟨h1, h2, h3⟩ := z5u hi.nd n
  unfold z6Z
  have ew : IntKind.i64.wrap (((2 ^ n : Nat) : Int) - 1) = ((2 ^ n - 1 : Nat) : Int) := by rw [z1Z (by omega) (by omega)]; omega
  rw [hd.fin, z0m _ (by omega), z5w (by omega), ew, ztl hd (by omega) hf, Option.bind_some]
  refine z0t (s := ((0 : Int), toI (z0J d m n (2 ^ n - 1)).1)) n (fun q => ((q : Int), toI (z7K (z0J d m n (2 ^ n - 1)).1 q))) rfl (by simp only [LFm]; omega) (fun q hq => ?_) ?_
  · have h3' := (z5u hi.nd q).2.2
    simp only [z5F]
    rw [if_pos (by rw [hd.fin]; omega), z0m _ (by omega), z5w (by omega), zmJ (by omega), Option.bind_some, z0T (by omega), z7K]
    by_cases h : 2 ^ q ∈ z7K (z0J d m n (2 ^ n - 1)).1 q
    · rw [if_pos (by simpa using h), if_pos h]
    · rw [if_neg (by simpa using h), if_neg h, z0m _ (by unfold z1c; rw [z0d]; omega), z3k]
  · simp only [z5F]
    rw [if_neg (by rw [hd.fin]; omega)]
    have hv : zkZ (toI (z7K (z0J d m n (2 ^ n - 1)).1 n)) = some (toI (z2E d m n)) := by
      unfold zkZ
      rw [if_pos, zjL]; rfl
      refine ⟨fun h => ?_, by rw [z0d]; omega, ?_⟩
      · have hm := (h2 (2 ^ n - 1)).2 (.inl (zcz hd hf))
        have := congrArg List.length h
        rw [z0d] at this
        have h0 := List.length_pos_of_mem hm
        simp at this
        rw [this] at h0; simp at h0
      · rw [List.all_eq_true]
        intro x hx
        simp only [toI, List.mem_map] at hx
        obtain ⟨y, hy, rfl⟩ := hx
        have : y < 2 ^ n := by
          rcases (h2 y).1 hy with h | ⟨i, hi', rfl⟩
          · exact hi.lt y h
          · exact Nat.pow_lt_pow_right (by omega) hi'
        simp; omega
    rw [hv, Option.bind_some]
end
section
open Go
set_option maxRecDepth 100000
def z1b {α : Type} (N : Nat) (f : Nat -> α) (z : α) (k : Nat) : List α := (List.range N).map fun i => if i < k then f i else z
theorem z9O {α : Type} (N : Nat) (f : Nat -> α) (z : α) (k : Nat) : (z1b N f z k).length = N := by simp [z1b]
theorem z7c {α : Type} (N : Nat) (f : Nat -> α) (z : α) : z1b N f z 0 = List.replicate N z := by
  apply List.ext_getElem (by simp [z1b]); intro i h1 h2; simp [z1b]
theorem z7b {α : Type} (N : Nat) (f : Nat -> α) (z : α) : z1b N f z N = (List.range N).map f := by
  apply List.ext_getElem (by simp [z1b]); intro i h1 h2
  have : i < N := by simpa [z1b] using h1
  simp [z1b, this]
theorem z5r {α : Type} {N : Nat} {f : Nat -> α} {z : α} {k i : Nat} (h : i < N) : atI (z1b N f z k) (i : Int) = some (if i < k then f i else z) := by
  rw [z1s (by rw [z9O]; exact h)]; simp [z1b]
theorem z3I {α : Type} {N : Nat} {f : Nat -> α} {z : α} {k : Nat} (h : k < N) : (z1b N f z k).set k (f k) = z1b N f z (k + 1) := by
  apply List.ext_getElem (by simp [z1b]); intro i h1 h2
  simp only [z1b, List.getElem_set, List.getElem_map, List.getElem_range]
  by_cases e : k = i
  · subst e; rw [if_pos rfl, if_pos (by omega)]
  · rw [if_neg e]
    by_cases e2 : i < k
    · rw [if_pos e2, if_pos (by omega)]
    · rw [if_neg e2, if_neg (by omega)]
theorem zky {α : Type} {N : Nat} {f : Nat -> α} {z : α} {k : Nat} (h : f k = z) : z1b N f z k = z1b N f z (k + 1) := by
  apply List.ext_getElem (by simp [z1b]); intro i h1 h2
  simp only [z1b, List.getElem_map, List.getElem_range]
  by_cases e : k = i
  · subst e; rw [if_neg (by omega), if_pos (by omega), h]
  · by_cases e2 : i < k
    · rw [if_pos e2, if_pos (by omega)]
    · rw [if_neg e2, if_neg (by omega)]
theorem z1q {α : Type} {N : Nat} {f : Nat -> α} {i : Nat} (h : i < N) : atI ((List.range N).map f) (i : Int) = some (f i) := by
  rw [z1s (by simpa using h)]; simp
theorem zh4 {α : Type} {l : List α} {i : Nat} {x : α} (h : i < l.length) : atI (l.set i x) (i : Int) = some x := by
  rw [z1s (by simpa using h)]; simp
theorem zeJ {α : Type} (l : List α) (i : Nat) (x y : α) : (l.set i x).set i y = l.set i y := by simp
theorem z8w {S : List Nat} (hS : S.Nodup) {i : Nat} (h : i < S.length) : S.idxOf (S.getD i 0) = i := by
  rw [List.getD, List.getElem?_eq_getElem h, Option.getD_some]
  have hm : S[i] ∈ S := List.getElem_mem h
  have h1 := List.idxOf_lt_length_of_mem hm
  have h2 : S[S.idxOf S[i]] = S[i] := List.getElem_idxOf h1
  exact (List.getElem_inj hS).1 h2
theorem z3H {S : List Nat} {x : Nat} (h : x ∈ S) : S.getD (S.idxOf x) 0 = x := by
  have := List.idxOf_lt_length_of_mem h
  rw [List.getD, List.getElem?_eq_getElem this, Option.getD_some, List.getElem_idxOf]
theorem z7A {S : List Nat} {x : Nat} (h : x ∈ S) : S.idxOf x < S.length := List.idxOf_lt_length_of_mem h
theorem zax {S : List Nat} (hS : S.Nodup) {i j : Nat} (hi : i < S.length) (hj : j < S.length) (h : S.getD i 0 = S.getD j 0) : i = j := by
  rw [← z8w hS hi, h, z8w hS hj]
def z5I (st : RS) (x : Nat) : ByteArray := st.2.getD (st.1.idxOf x) ByteArray.empty
theorem zkX {st : RS} (hl : st.2.length = st.1.length) {x : Nat} (hx : x ∉ st.1) (w : ByteArray) (y : Nat) : z5I (st.1 ++ [x], st.2 ++ [w]) y = if y = x then w else z5I st y := by
  unfold z5I
  simp only
  by_cases hy : y ∈ st.1
  · have hne : y ≠ x := fun e => hx (e ▸ hy)
    rw [if_neg hne, List.idxOf_append, if_pos hy, z6G _ (by rw [hl]; exact z7A hy)]
  · rw [List.idxOf_append, if_neg hy]
    by_cases e : y = x
    · subst e
      rw [if_pos rfl, show List.idxOf y [y] = 0 by simp, Nat.zero_add, z8Y hl.symm]
    · rw [if_neg e]
      have h1 : List.idxOf y [x] = 1 := by
        rw [List.idxOf_cons]
        have : (x == y) = false := by simpa using fun h => e h.symm
        simp [this]
      have h2 : st.1.idxOf y = st.1.length := List.idxOf_eq_length hy
      rw [h1, h2, List.getD, List.getD, List.getElem?_eq_none (by simp [hl]; omega), List.getElem?_eq_none (by omega)]
theorem zn6 {d : DFA} {m n : Nat} {S : List Nat} (hS : SetsP d m n S) : ∀ {w : List UInt8} {s : Nat}, (∀ c ∈ w, 97 <= c.toNat /\ c.toNat < 97 + m) -> s ∈ S -> z4R d s w ∈ S
  | [], s, _, h => h
  | c :: w, s, hw, h => zn6 (w := w) (s := mvN d s (c.toNat - 97)) hS (fun c' hc' => hw c' (List.mem_cons_of_mem _ hc')) (hS.cl s h _ (by have := hw c (List.mem_cons_self ..); omega))
theorem zrW {d : DFA} {m n s : Nat} {S : List Nat} (hS : SetsP d m n S) (hs : s ∈ S) {st : RS} (h : RInv d m n s st) {x : Nat} (hx : x ∈ st.1) : x ∈ S := by
  obtain ⟨i, hi, rfl⟩ := List.getElem_of_mem hx
  obtain ⟨_, o2, o3⟩ := h.ok i hi
  rw [List.getD, List.getD, List.getElem?_eq_getElem hi, Option.getD_some] at o3
  rw [← o3]
  exact zn6 hS o2 hs
def znc (d : DFA) (m : Nat) (S : List Nat) (i : Nat) : List Int := (List.range m).map fun a => ((S.idxOf (mvN d (S.getD i 0) a) : Nat) : Int)
def zw1 (d : DFA) (m : Nat) (S : List Nat) : List (List Int) := (List.range S.length).map (znc d m S)
def zrL (S : List Nat) (st : RS) : List Bool := (List.range S.length).map fun i => decide (S.getD i 0 ∈ st.1)
def zin (S : List Nat) (st : RS) : List ByteArray := (List.range S.length).map fun i => z5I st (S.getD i 0)
def zfF (S : List Nat) (st : RS) : List Int := toI (st.1.map S.idxOf)
theorem zrv {S : List Nat} {st : RS} {k : Nat} (h : k < st.1.length) : atI (zfF S st) (k : Int) = some ((S.idxOf (st.1.getD k 0) : Nat) : Int) := by
  unfold zfF
  rw [z0Y (by simpa using h)]
  simp [List.getD, h]
theorem zjS {d : DFA} {m n s : Nat} (hd : DfaOk d m n) (hn : n <= 12) {S : List Nat} (hS : SetsP d m n S) (hs : s ∈ S) {st : RS} (h : RInv d m n s st) {k : Nat} (hk : k < st.1.length) :
    z0j (z1Y (k : Int) (znc d m S (S.idxOf (st.1.getD k 0)))) LFm (0, zrL S st, zin S st, zfF S st) = z0e (((k + 1 : Nat) : Int), zrL S (z6A d k st m), zin S (z6A d k st m), zfF S (z6A d k st m)) := by
  have h12 := zcA hn
  have hm6 := hd.m6
  have hSl := z0z hS.nd hS.lt
  refine z0t (s := ((0 : Int), zrL S st, zin S st, zfF S st)) m (fun a => ((a : Int), zrL S (z6A d k st a), zin S (z6A d k st a), zfF S (z6A d k st a))) rfl (by simp only [LFm]; omega) (fun a ha => ?_) ?_
  · obtain ⟨k1, _, X, W, k3, k4⟩ := zf6 hd h hk a (by omega)
    have hk' : k < (z6A d k st a).1.length := by rw [k3, List.length_append]; omega
    have hl := z0z k1.nd k1.lt
    have eg : (z6A d k st a).1.getD k 0 = st.1.getD k 0 := by rw [k3, z6G _ hk]
    have hkS : st.1.getD k 0 ∈ S := zrW hS hs h (z0p hk)
    have hxS : mvN d (st.1.getD k 0) a ∈ S := hS.cl _ hkS a ha
    obtain ⟨o1, _, _⟩ := k1.ok k hk'
    have hwk : z5I (z6A d k st a) (st.1.getD k 0) = (z6A d k st a).2.getD k ByteArray.empty := by
      unfold z5I; rw [← eg, z8w k1.nd hk']
    simp only [z1Y]
    rw [if_pos (by simp [znc]; omega), znc, z1q ha, Option.bind_some, z3H hkS, zrL, z1q (z7A hxS), Option.bind_some, z3H hxS, z0T (by omega), z6A]
    unfold zhv
    rw [eg]
    simp only [decide_eq_true_eq]
    by_cases hm : mvN d (st.1.getD k 0) a ∈ (z6A d k st a).1
    · rw [if_pos hm, if_pos hm]; rfl
    · rw [if_neg hm, if_neg hm, zrv hk', Option.bind_some, eg, zin, z1q (z7A hkS), Option.bind_some, z3H hkS, hwk, zcG (by omega), z0m _ (by unfold z6K; rw [z4x]; omega), z1q (z7A hxS), Option.bind_some, z0m _ (by unfold z1c zfF; rw [z0d, List.length_map]; omega), Int.toNat_natCast]
      congr 1
      refine Prod.ext rfl (Prod.ext ?_ (Prod.ext ?_ ?_))
      · simp only [zrL]
        apply List.ext_getElem (by simp)
        intro i i1 i2
        have hi : i < S.length := by simpa using i2
        simp only [List.getElem_set, List.getElem_map, List.getElem_range, List.mem_append, List.mem_singleton]
        by_cases e : S.idxOf (mvN d (st.1.getD k 0) a) = i
        · subst e; rw [if_pos rfl, z3H hxS]; simp
        · rw [if_neg e]
          have : S.getD i 0 ≠ mvN d (st.1.getD k 0) a := fun hh => e (by rw [← hh, z8w hS.nd hi])
          simp only [this, or_false]
      · simp only [zin]
        apply List.ext_getElem (by simp)
        intro i i1 i2
        have hi : i < S.length := by simpa using i2
        simp only [List.getElem_set, List.getElem_map, List.getElem_range]
        rw [zkX k1.len hm]
        by_cases e : S.idxOf (mvN d (st.1.getD k 0) a) = i
        · subst e; rw [if_pos rfl, z3H hxS, if_pos rfl]
        · have : S.getD i 0 ≠ mvN d (st.1.getD k 0) a := fun hh => e (by rw [← hh, z8w hS.nd hi])
          rw [if_neg e, if_neg this]
      · simp only [zfF, List.map_append, List.map_cons, List.map_nil]
        rw [z3k]
  · simp only [z1Y]
    have := z0z h.nd h.lt
    rw [if_neg (by simp [znc]), z0T (by omega)]
theorem zeL {d : DFA} {m n : Nat} (hd : DfaOk d m n) (hn : n <= 12) {S : List Nat} (hS : SetsP d m n S) (bl : List (List Bool)) {j : Nat} (hj : j < S.length) :
    z1C ⟨toI S, zw1 d m S, bl⟩ (j : Int) = some (zfF S (z0J d m n (S.getD j 0)), zin S (z0J d m n (S.getD j 0))) := by
  have h12 := zcA hn
  have hp := Nat.two_pow_pos n
  have hSl := z0z hS.nd hS.lt
  have hs : S.getD j 0 ∈ S := z0p hj
  have hs2 : S.getD j 0 < 2 ^ n := hS.lt _ hs
  unfold z1C
  simp only
  rw [z0d, z0m _ (by unfold z1g; omega), z0m _ (by unfold z1g; omega), z0m _ (by omega), Int.toNat_natCast, Int.toNat_natCast]
  have e1 : (List.replicate S.length false).set j true = zrL S (z6k d m (S.getD j 0) 0) := by
    apply List.ext_getElem (by simp [zrL])
    intro i i1 i2
    have hi : i < S.length := by simpa using i1
    simp only [zrL, z6k, List.getElem_set, List.getElem_map, List.getElem_range, List.getElem_replicate, List.mem_singleton]
    by_cases e : j = i
    · subst e; simp
    · rw [if_neg e]
      have : S.getD i 0 ≠ S.getD j 0 := fun hh => e (zax hS.nd hi hj hh).symm
      symm; simpa using this
  have e2 : List.replicate S.length (ByteArray.empty : ByteArray) = zin S (z6k d m (S.getD j 0) 0) := by
    apply List.ext_getElem (by simp [zin])
    intro i i1 i2
    simp only [zin, z6k, List.getElem_map, List.getElem_range, List.getElem_replicate, z5I]
    generalize List.idxOf (S.getD i 0) [S.getD j 0] = q
    cases q <;> rfl
  have e3 : [(j : Int)] = zfF S (z6k d m (S.getD j 0) 0) := by
    simp only [zfF, z6k, List.map_cons, List.map_nil, z8w hS.nd hj]; rfl
  rw [e1, e2, e3]
  refine zba (s := ((0 : Int), zrL S (z6k d m (S.getD j 0) 0), zin S (z6k d m (S.getD j 0) 0), zfF S (z6k d m (S.getD j 0) 0))) (fun z => ∃ k : Nat, k <= 2 ^ n /\ z = ((k : Int), zrL S (z6k d m (S.getD j 0) k), zin S (z6k d m (S.getD j 0) k), zfF S (z6k d m (S.getD j 0) k))) (fun z => 2 ^ n + 1 - z.1.toNat) ⟨0, by omega, rfl⟩ (by simp only [LFm]; omega) ?_
  rintro z ⟨k, hk, rfl⟩
  have hl := zhy hd hs2 k
  have hqs : (zfF S (z6k d m (S.getD j 0) k)).length = (z6k d m (S.getD j 0) k).1.length := by simp [zfF, toI]
  simp only [z3y]
  by_cases h : k < (z6k d m (S.getD j 0) k).1.length
  · left
    have hinv := (z8N hd hs2 k).1
    have hkS : (z6k d m (S.getD j 0) k).1.getD k 0 ∈ S := zrW hS hs hinv (z0p h)
    rw [if_pos (by rw [hqs]; omega), zrv h, Option.bind_some, zw1, z1q (z7A hkS), Option.bind_some, zjS hd hn hS hs hinv h]
    refine ⟨_, rfl, ⟨k + 1, by omega, ?_⟩, by simp only; omega⟩
    rw [z6k, if_pos h]
  · right
    rw [if_neg (by rw [hqs]; omega)]
    unfold z0J
    rw [zda h _ hk]
end
section
open Go
set_option maxRecDepth 100000
def z2W (d : DFA) (m n : Nat) (S : List Nat) (i j : Nat) : Bool := (z0J d m n (S.getD j 0)).1.any fun x => decide (S.getD i 0 &&& x = S.getD i 0)
def zu6 (d : DFA) (m n : Nat) (S : List Nat) : List (List Bool) := (List.range S.length).map fun i => (List.range S.length).map (z2W d m n S i)
def dgm (d : DFA) (m n : Nat) (S : List Nat) : Dgm := ⟨toI S, zw1 d m S, zu6 d m n S⟩
theorem z3S {d : DFA} {m n : Nat} (hd : DfaOk d m n) {S : List Nat} (hS : SetsP d m n S) {i j : Nat} (hj : j < S.length) : z2W d m n S i j = true ↔ zwa d m (S.getD i 0) (S.getD j 0) := by
  rw [zsC hd (hS.lt _ (z0p hj))]
  unfold z2W z7L
  simp
def zqv (n : Nat) (S : List Nat) (k : Nat) : List Int := (List.range (2 ^ n)).map fun x => if x ∈ S.take k then ((S.idxOf x : Nat) : Int) else 0
theorem ztK {n : Nat} {S : List Nat} (hS : S.Nodup) {k : Nat} (hk : k < S.length) : (zqv n S k).set (S.getD k 0) (k : Int) = zqv n S (k + 1) := by
  have hg : S.getD k 0 = S[k] := by rw [List.getD, List.getElem?_eq_getElem hk, Option.getD_some]
  apply List.ext_getElem (by simp [zqv])
  intro i h1 h2
  simp only [zqv, List.getElem_set, List.getElem_map, List.getElem_range]
  rw [List.take_succ_eq_append_getElem hk]
  simp only [List.mem_append, List.mem_singleton]
  by_cases e : S.getD k 0 = i
  · rw [if_pos e, if_pos (.inr (by rw [← hg]; exact e.symm)), ← e, z8w hS hk]
  · rw [if_neg e]
    have : ¬ i = S[k] := fun h => e (by rw [hg]; exact h.symm)
    simp [this]
theorem zut {n : Nat} {S : List Nat} {k x : Nat} (h : x < 2 ^ n) : atI (zqv n S k) (x : Int) = some (if x ∈ S.take k then ((S.idxOf x : Nat) : Int) else 0) := by
  unfold zqv; rw [z1q h]
theorem zpL {d : DFA} {m n : Nat} (hd : DfaOk d m n) (hn : n <= 12) {S : List Nat} (hS : SetsP d m n S) {i : Nat} (hi : i < S.length) :
    z0j (z2z d (toI S) (zqv n S S.length) (i : Int) (z1b S.length (fun _ => List.replicate S.length false) [] i) ((S.getD i 0 : Nat) : Int)) LFm (0, (z1b S.length (znc d m S) [] i).set i (List.replicate m 0)) =
      z0e (((i + 1 : Nat) : Int), z1b S.length (znc d m S) [] (i + 1), z1b S.length (fun _ => List.replicate S.length false) [] (i + 1)) := by
  have h12 := zcA hn
  have hm6 := hd.m6
  have hSl := z0z hS.nd hS.lt
  have hx : S.getD i 0 ∈ S := z0p hi
  refine z0t (s := ((0 : Int), (z1b S.length (znc d m S) [] i).set i (List.replicate m 0))) m (fun a => ((a : Int), (z1b S.length (znc d m S) [] i).set i (z1b m (fun a => ((S.idxOf (mvN d (S.getD i 0) a) : Nat) : Int)) 0 a))) (by rw [z7c]; rfl) (by simp only [LFm]; omega) (fun a ha => ?_) ?_
  · have hmv : mvN d (S.getD i 0) a ∈ S := hS.cl _ hx a ha
    simp only [z2z]
    rw [if_pos (by rw [hd.lt]; omega), zh4 (by rw [z9O]; exact hi), Option.bind_some, zrF hd hn (hS.lt _ hx) ha, Option.bind_some, zut (hS.lt _ hmv), Option.bind_some, List.take_length, if_pos hmv, z5r ha, Option.bind_some, z0T (by omega), Int.toNat_natCast, Int.toNat_natCast, zeJ]
    rw [z3I (f := fun a => ((S.idxOf (mvN d (S.getD i 0) a) : Nat) : Int)) (z := 0) ha]
  · simp only [z2z]
    rw [if_neg (by rw [hd.lt]; omega), z0d, z0m _ (by unfold z1g; omega), z5r hi, Option.bind_some, z0T (by omega), Int.toNat_natCast, Int.toNat_natCast, z7b]
    have e1 := z3I (f := znc d m S) (z := []) hi
    have e2 := z3I (f := fun _ => List.replicate S.length false) (z := []) hi
    rw [show ((List.range m).map fun a => ((S.idxOf (mvN d (S.getD i 0) a) : Nat) : Int)) = znc d m S i from rfl, e1, e2]
def zdp (d : DFA) (m n : Nat) (S : List Nat) (j i : Nat) : List (List Bool) := (List.range S.length).map fun i' => z1b S.length (z2W d m n S i') false (if i' < i then j + 1 else j)
theorem zyl {d : DFA} {m n : Nat} {S : List Nat} {j : Nat} : zdp d m n S j S.length = zdp d m n S (j + 1) 0 := by
  unfold zdp
  refine List.map_congr_left fun i hi => ?_
  rw [if_pos (List.mem_range.1 hi), if_neg (by omega)]
theorem zua {α : Type} (p : α -> Bool) (l : List α) (d : α) : ((List.range l.length).find? fun k => p (l.getD k d)).isSome = l.any p := by
  rw [Bool.eq_iff_iff, List.any_eq_true]
  rw [List.find?_isSome]
  constructor
  · rintro ⟨k, hk, h⟩
    have hk := List.mem_range.1 hk
    exact ⟨_, by rw [List.getD, List.getElem?_eq_getElem hk, Option.getD_some]; exact List.getElem_mem hk, h⟩
  · rintro ⟨x, hx, h⟩
    obtain ⟨i, hi, rfl⟩ := List.getElem_of_mem hx
    exact ⟨i, List.mem_range.2 hi, by rw [List.getD, List.getElem?_eq_getElem hi, Option.getD_some]; exact h⟩
theorem zsB {d : DFA} {m n : Nat} (hd : DfaOk d m n) (hn : n <= 12) {S : List Nat} (hS : SetsP d m n S) {i j : Nat} (hi : i < S.length) (hj : j < S.length) (w : List ByteArray) :
    z0j (z2y (toI S) (j : Int) (zfF S (z0J d m n (S.getD j 0)), w) (i : Int) (zdp d m n S j i) ((S.getD i 0 : Nat) : Int)) LFm 0 = z0e (((i + 1 : Nat) : Int), zdp d m n S j (i + 1)) := by
  have h12 := zcA hn
  have hSl := z0z hS.nd hS.lt
  have hjS := z0p hj
  have hinv := z4a hd (hS.lt _ hjS)
  have hl := z0z hinv.nd hinv.lt
  have hx62 : S.getD i 0 < 2 ^ n := hS.lt _ (z0p hi)
  have hcol : z2W d m n S i j = true -> (zdp d m n S j i).set i ((z1b S.length (z2W d m n S i) false j).set j true) = zdp d m n S j (i + 1) := fun hb => by
    have e := z3I (f := z2W d m n S i) (z := false) hj
    rw [hb] at e
    rw [e]
    apply List.ext_getElem (by simp [zdp])
    intro k h1 h2
    simp only [zdp, List.getElem_set, List.getElem_map, List.getElem_range]
    by_cases ek : i = k
    · subst ek; rw [if_pos rfl, if_pos (by omega)]
    · rw [if_neg ek]
      by_cases e2 : k < i
      · rw [if_pos e2, if_pos (by omega)]
      · rw [if_neg e2, if_neg (by omega)]
  have hcol0 : z2W d m n S i j = false -> zdp d m n S j i = zdp d m n S j (i + 1) := fun hb => by
    unfold zdp
    refine List.map_congr_left fun k hk => ?_
    by_cases ek : k = i
    · subst ek; rw [if_neg (by omega), if_pos (by omega)]; exact zky hb
    · by_cases e2 : k < i
      · rw [if_pos e2, if_pos (by omega)]
      · rw [if_neg e2, if_neg (by omega)]
  rw [z7X (s := (0 : Int)) (z0J d m n (S.getD j 0)).1.length (fun k => (k : Int)) (fun k => decide (S.getD i 0 &&& (z0J d m n (S.getD j 0)).1.getD k 0 = S.getD i 0)) (fun _ => z0e (((i + 1 : Nat) : Int), (zdp d m n S j i).set i ((z1b S.length (z2W d m n S i) false j).set j true))) (x := z0e (((i + 1 : Nat) : Int), zdp d m n S j i)) rfl (by simp only [LFm]; omega)]
  · have ha : ((List.range (z0J d m n (S.getD j 0)).1.length).find? fun k => decide (S.getD i 0 &&& (z0J d m n (S.getD j 0)).1.getD k 0 = S.getD i 0)).isSome = z2W d m n S i j := zua (fun x => decide (S.getD i 0 &&& x = S.getD i 0)) (z0J d m n (S.getD j 0)).1 0
    revert ha
    cases (List.range (z0J d m n (S.getD j 0)).1.length).find? fun k => decide (S.getD i 0 &&& (z0J d m n (S.getD j 0)).1.getD k 0 = S.getD i 0) with
    | none => intro ha; simp only; rw [hcol0 (by simpa using ha.symm)]
    | some k => intro ha; simp only; rw [hcol (by simpa using ha.symm)]
  · intro k hk
    have hkS : (z0J d m n (S.getD j 0)).1.getD k 0 ∈ S := zrW hS hjS hinv (z0p hk)
    have hqs : (zfF S (z0J d m n (S.getD j 0))).length = (z0J d m n (S.getD j 0)).1.length := by simp [zfF, toI]
    have h62 := hS.lt _ hkS
    simp only [z2y]
    rw [if_pos (by rw [hqs]; omega), zrv hk, Option.bind_some, z0Y (z7A hkS), z3H hkS, Option.bind_some, zay (by omega) (by omega), Option.bind_some]
    simp only [decide_eq_true_eq]
    split
    · rw [zdp, z1q hi, Option.bind_some, z5r hj, Option.bind_some, z0T (by omega), if_neg (by omega : ¬ i < i), Int.toNat_natCast, Int.toNat_natCast]
    · rw [z0T (by omega)]
  · have hqs : (zfF S (z0J d m n (S.getD j 0))).length = (z0J d m n (S.getD j 0)).1.length := by simp [zfF, toI]
    simp only [z2y]
    rw [if_neg (by rw [hqs]; omega), z0T (by omega)]
theorem zqi {d : DFA} {m n : Nat} (hd : DfaOk d m n) (hn : n <= 12) {S : List Nat} (hS : SetsP d m n S) : z3x d (toI S) = some (dgm d m n S) := by
  have h12 := zcA hn
  have hm6 := hd.m6
  have hp := Nat.two_pow_pos n
  have hSl := z0z hS.nd hS.lt
  unfold z3x
  rw [hd.fin, z0m _ (by omega), z5w (by omega), z0m _ (by unfold z1g; omega), Int.toNat_natCast]
  have e0 : List.replicate (2 ^ n) (0 : Int) = zqv n S 0 := by
    apply List.ext_getElem (by simp [zqv]); intro i h1 h2; simp [zqv]
  rw [e0]
  refine z0t (s := ((0 : Int), zqv n S 0)) S.length (fun k => ((k : Int), zqv n S k)) rfl (by simp only [LFm]; omega) (fun k hk => ?_) ?_
  · simp only [z3o]
    rw [if_pos (by rw [z0d]; omega), z0Y hk, Option.bind_some, zut (hS.lt _ (z0p hk)), Option.bind_some, z0T (by omega), Int.toNat_natCast, ztK hS.nd hk]
  · simp only [z3o]
    rw [if_neg (by rw [z0d]; omega), z0d, z0m _ (by unfold z1g; omega), Int.toNat_natCast]
    congr 1
    have f1 : List.replicate S.length ([] : List Int) = z1b S.length (znc d m S) [] 0 := (z7c _ _ _).symm
    have f2 : List.replicate S.length ([] : List Bool) = z1b S.length (fun _ => List.replicate S.length false) [] 0 := (z7c _ _ _).symm
    rw [f1, f2]
    refine z0t (s := ((0 : Int), z1b S.length (znc d m S) [] 0, z1b S.length (fun _ => List.replicate S.length false) [] 0)) S.length (fun k => ((k : Int), z1b S.length (znc d m S) [] k, z1b S.length (fun _ => List.replicate S.length false) [] k)) rfl (by simp only [LFm]; omega) (fun k hk => ?_) ?_
    · simp only [z3n]
      rw [if_pos (by rw [z0d]; omega), z0Y hk, Option.bind_some, hd.lt, z0m _ (by unfold z1g; omega), z5r hk, Option.bind_some, Int.toNat_natCast, Int.toNat_natCast, zpL hd hn hS hk]
    · simp only [z3n]
      rw [if_neg (by rw [z0d]; omega), z7b, z7b]
      congr 1
      have f3 : ((List.range S.length).map fun _ => List.replicate S.length false) = zdp d m n S 0 0 := by
        unfold zdp
        refine List.map_congr_left fun i hi => ?_
        rw [if_neg (by omega), z7c]
      rw [f3]
      refine z0t (s := ((0 : Int), zdp d m n S 0 0)) S.length (fun j => ((j : Int), zdp d m n S j 0)) rfl (by simp only [LFm]; omega) (fun j hj => ?_) ?_
      · simp only [z3f]
        rw [if_pos (by rw [z0d]; omega)]
        have es := zeL hd hn hS (zdp d m n S j 0) hj
        unfold zw1 at es
        rw [es, Option.bind_some]
        refine z0t (s := ((0 : Int), zdp d m n S j 0)) S.length (fun i => ((i : Int), zdp d m n S j i)) rfl (by simp only [LFm]; omega) (fun i hi => ?_) ?_
        · simp only [z3e]
          rw [if_pos (by rw [z0d]; omega), z0Y hi, Option.bind_some, zsB hd hn hS hi hj]
        · simp only [z3e]
          rw [if_neg (by rw [z0d]; omega), z0T (by omega), zyl]
      · simp only [z3f]
        rw [if_neg (by rw [z0d]; omega)]
        have f4 : zdp d m n S S.length 0 = zu6 d m n S := by
          unfold zdp zu6
          refine List.map_congr_left fun i hi => ?_
          rw [if_neg (by omega), z7b]
        rw [f4]; rfl
end
section
open Go
set_option maxRecDepth 100000
structure EqvN (N : Nat) (e : Nat -> Nat -> Bool) : Prop where
  refl : ∀ i, i < N -> e i i = true
  symm : ∀ i j, i < N -> j < N -> e i j = true -> e j i = true
  trans : ∀ i j k, i < N -> j < N -> k < N -> e i j = true -> e j k = true -> e i k = true
def z0P (e : Nat -> Nat -> Bool) : Nat -> List Nat
  | 0 => []
  | i + 1 => if (z0P e i).any (e i) = true then z0P e i else z0P e i ++ [i]
def z6I (e : Nat -> Nat -> Bool) (N i : Nat) : Nat := (z0P e N).findIdx (e i)
theorem zcK (e : Nat -> Nat -> Bool) {i : Nat} : ∀ j, i <= j -> ∃ R, z0P e j = z0P e i ++ R
  | 0, h => by
    obtain rfl : i = 0 := by omega
    exact ⟨[], by simp⟩
  | j + 1, h => by
    by_cases e0 : i = j + 1
    · subst e0; exact ⟨[], by simp⟩
    · obtain ⟨R, hR⟩ := zcK e (i := i) j (by omega)
      rw [show z0P e (j + 1) = if (z0P e j).any (e j) = true then z0P e j else z0P e j ++ [j] from rfl]
      split
      · exact ⟨R, hR⟩
      · exact ⟨R ++ [j], by rw [hR, List.append_assoc]⟩
theorem za0 (e : Nat -> Nat -> Bool) : ∀ i, ∀ f ∈ z0P e i, f < i
  | 0, f, h => by simp [z0P] at h
  | i + 1, f, h => by
    unfold z0P at h
    split at h
    · have := za0 e i f h; omega
    · rcases List.mem_append.1 h with h | h
      · have := za0 e i f h; omega
      · have := List.mem_singleton.1 h; omega
theorem z7a (e : Nat -> Nat -> Bool) : ∀ i, (z0P e i).length <= i
  | 0 => by simp [z0P]
  | i + 1 => by
    have := z7a e i
    unfold z0P
    split
    · omega
    · rw [List.length_append, List.length_singleton]; omega
theorem zbi {N : Nat} {e : Nat -> Nat -> Bool} (he : EqvN N e) : ∀ i, i <= N -> (z0P e i).Pairwise fun f g => e f g = false /\ e g f = false
  | 0, _ => by simp [z0P]
  | i + 1, hi => by
    have ih := zbi he i (by omega)
    unfold z0P
    split
    · exact ih
    · rename_i h
      refine List.pairwise_append.2 ⟨ih, by simp, fun a ha b hb => ?_⟩
      obtain rfl := List.mem_singleton.1 hb
      have hlt := za0 e b a ha
      have h1 : e b a = false := by
        cases hh : e b a with
        | false => rfl
        | true => exact absurd (List.any_eq_true.2 ⟨a, ha, hh⟩) h
      refine ⟨?_, h1⟩
      cases hh : e a b with
      | false => rfl
      | true => rw [he.symm a b (by omega) (by omega) hh] at h1; cases h1
theorem zmo {N : Nat} {e : Nat -> Nat -> Bool} (he : EqvN N e) {i c c' : Nat} {l : List Nat} (hl : l.Pairwise fun f g => e f g = false /\ e g f = false) (hlt : ∀ f ∈ l, f < N) (hi : i < N) (hc : c < l.length) (hc' : c' < l.length) (h : e i (l.getD c 0) = true) (h' : e i (l.getD c' 0) = true) : c = c' := by
  have m1 : l.getD c 0 < N := hlt _ (z0p hc)
  have m2 : l.getD c' 0 < N := hlt _ (z0p hc')
  have hcc := he.trans _ _ _ m1 hi m2 (he.symm _ _ hi m1 h) h'
  rcases Nat.lt_trichotomy c c' with hlt' | rfl | hlt'
  · have := (List.pairwise_iff_getElem.1 hl c c' hc hc' hlt').1
    rw [List.getD, List.getD, List.getElem?_eq_getElem hc, List.getElem?_eq_getElem hc', Option.getD_some, Option.getD_some, this] at hcc
    cases hcc
  · rfl
  · have := (List.pairwise_iff_getElem.1 hl c' c hc' hc hlt').2
    rw [List.getD, List.getD, List.getElem?_eq_getElem hc, List.getElem?_eq_getElem hc', Option.getD_some, Option.getD_some, this] at hcc
    cases hcc
theorem zuB {N : Nat} {e : Nat -> Nat -> Bool} (he : EqvN N e) {i : Nat} (hi : i < N) : (z0P e i).findIdx (e i) = z6I e N i := by
  unfold z6I
  obtain ⟨R, hR⟩ := zcK e (i := i + 1) N (by omega)
  rw [hR]
  by_cases h : (z0P e i).any (e i) = true
  · have : z0P e (i + 1) = z0P e i := by rw [z0P, if_pos h]
    rw [this, List.findIdx_append, if_pos]
    obtain ⟨x, hx, hp⟩ := List.any_eq_true.1 h
    exact List.findIdx_lt_length_of_exists ⟨x, hx, hp⟩
  · have e1 : z0P e (i + 1) = z0P e i ++ [i] := by rw [z0P, if_neg h]
    have e2 : (z0P e i).findIdx (e i) = (z0P e i).length := List.findIdx_eq_length.2 fun x hx => by
      cases hh : e i x with
      | false => rfl
      | true => exact absurd (List.any_eq_true.2 ⟨x, hx, hh⟩) h
    rw [e1, List.append_assoc, List.findIdx_append, if_neg (by rw [e2]; omega), List.singleton_append, List.findIdx_cons, he.refl i hi, e2]
    simp
theorem zaz {N : Nat} {e : Nat -> Nat -> Bool} (he : EqvN N e) {i : Nat} (hi : i < N) : z6I e N i < (z0P e N).length /\ e i ((z0P e N).getD (z6I e N i) 0) = true := by
  have hex : ∃ x ∈ z0P e N, e i x = true := by
    obtain ⟨R, hR⟩ := zcK e (i := i + 1) N (by omega)
    by_cases h : (z0P e i).any (e i) = true
    · obtain ⟨x, hx, hp⟩ := List.any_eq_true.1 h
      refine ⟨x, ?_, hp⟩
      rw [hR, z0P, if_pos h]
      exact List.mem_append.2 (.inl hx)
    · refine ⟨i, ?_, he.refl i hi⟩
      rw [hR, z0P, if_neg h]; simp
  have hlt : z6I e N i < (z0P e N).length := List.findIdx_lt_length_of_exists hex
  refine ⟨hlt, ?_⟩
  rw [List.getD, List.getElem?_eq_getElem hlt, Option.getD_some]
  exact List.findIdx_getElem (w := hlt)
theorem zi5 {N : Nat} {e : Nat -> Nat -> Bool} (he : EqvN N e) {i j : Nat} (hi : i < N) (hj : j < N) : z6I e N i = z6I e N j ↔ e i j = true := by
  obtain ⟨a1, a2⟩ := zaz he hi
  obtain ⟨b1, b2⟩ := zaz he hj
  have hF := za0 e N
  have m1 := hF _ (z0p a1)
  constructor
  · intro h
    rw [← h] at b2
    exact he.trans _ _ _ hi m1 hj a2 (he.symm _ _ hj m1 b2)
  · intro h
    exact zmo he (zbi he N (Nat.le_refl _)) hF hj a1 b1 (he.trans _ _ _ hj hi m1 (he.symm _ _ hi hj h) a2) b2
def z1F (d : DFA) (m n : Nat) (S : List Nat) (i j : Nat) : Bool := z2W d m n S i j && z2W d m n S j i
theorem z6p {d : DFA} {m n : Nat} (hd : DfaOk d m n) {S : List Nat} (hS : SetsP d m n S) : EqvN S.length (z1F d m n S) where
  refl i hi := by
    have := (z3S hd hS hi (i := i)).2 (znX d m _)
    simp [z1F, this]
  symm i j hi hj h := by
    simp only [z1F, Bool.and_eq_true] at h ⊢
    exact ⟨h.2, h.1⟩
  trans i j k hi hj hk h1 h2 := by
    simp only [z1F, Bool.and_eq_true] at h1 h2 ⊢
    exact ⟨(z3S hd hS hk).2 (zfu hd ((z3S hd hS hj).1 h1.1) ((z3S hd hS hk).1 h2.1)), (z3S hd hS hi).2 (zfu hd ((z3S hd hS hj).1 h2.2) ((z3S hd hS hi).1 h1.2))⟩
theorem znY {d : DFA} {m n : Nat} {S : List Nat} {i : Nat} (hi : i < S.length) : atI (zu6 d m n S) (i : Int) = some ((List.range S.length).map (z2W d m n S i)) := z1q hi
def zmB (d : DFA) (m n : Nat) (S : List Nat) : List Int := (List.range S.length).map fun i => ((z6I (z1F d m n S) S.length i : Nat) : Int)
def z8f (d : DFA) (m n : Nat) (S : List Nat) : List Nat := z0P (z1F d m n S) S.length
theorem zqn {d : DFA} {m n : Nat} (hd : DfaOk d m n) (hn : n <= 12) {S : List Nat} (hS : SetsP d m n S) : z2j (dgm d m n S) = some (zmB d m n S, toI (z8f d m n S)) := by
  have h12 := zcA hn
  have hSl := z0z hS.nd hS.lt
  have he := z6p hd hS
  unfold z2j
  have ed : (dgm d m n S).sets = toI S := rfl
  have eb : (dgm d m n S).below = zu6 d m n S := rfl
  rw [ed, z0d, z0m _ (by unfold z1g; omega), Int.toNat_natCast]
  have f1 : List.replicate S.length (0 : Int) = z1b S.length (fun i => ((z6I (z1F d m n S) S.length i : Nat) : Int)) 0 0 := (z7c _ _ _).symm
  rw [f1]
  refine z0t (s := ((0 : Int), z1b S.length (fun i => ((z6I (z1F d m n S) S.length i : Nat) : Int)) 0 0, ([] : List Int))) S.length (fun k => ((k : Int), z1b S.length (fun i => ((z6I (z1F d m n S) S.length i : Nat) : Int)) 0 k, toI (z0P (z1F d m n S) k))) rfl (by simp only [LFm]; omega) (fun i hi => ?_) ?_
  · have hF := z7a (z1F d m n S) i
    have hFl := za0 (z1F d m n S) i
    have hap := zbi he i (by omega)
    have hcl := zuB he hi
    simp only [z2u]
    rw [ed, if_pos (by rw [z0d]; omega), z5r hi, Option.bind_some, z0d, Int.toNat_natCast]
    generalize hL : z1b S.length (fun i => ((z6I (z1F d m n S) S.length i : Nat) : Int)) 0 i = L at *
    have hLl : L.length = S.length := by rw [← hL, z9O]
    have hstep : ∀ c, c < (z0P (z1F d m n S) i).length -> (z1F d m n S i ((z0P (z1F d m n S) i).getD c 0) = true ↔ (z0P (z1F d m n S) i).findIdx (z1F d m n S i) = c) := fun c hc => by
      constructor
      · intro h
        have hex : (z0P (z1F d m n S) i).findIdx (z1F d m n S i) < (z0P (z1F d m n S) i).length := List.findIdx_lt_length_of_exists ⟨_, z0p hc, h⟩
        have hp : z1F d m n S i ((z0P (z1F d m n S) i).getD ((z0P (z1F d m n S) i).findIdx (z1F d m n S i)) 0) = true := by
          rw [List.getD, List.getElem?_eq_getElem hex, Option.getD_some]
          exact List.findIdx_getElem (w := hex)
        exact zmo he hap (fun f hf => by have := hFl f hf; omega) hi hex hc hp h
      · intro h
        have hex : (z0P (z1F d m n S) i).findIdx (z1F d m n S i) < (z0P (z1F d m n S) i).length := by omega
        have hp : z1F d m n S i ((z0P (z1F d m n S) i)[(z0P (z1F d m n S) i).findIdx (z1F d m n S i)]) = true := List.findIdx_getElem (w := hex)
        rw [← h, List.getD, List.getElem?_eq_getElem hex, Option.getD_some]
        exact hp
    refine z0t (s := ((0 : Int), L.set i (((z0P (z1F d m n S) i).length : Nat) : Int))) (z0P (z1F d m n S) i).length (fun c => ((c : Int), L.set i (((if (z0P (z1F d m n S) i).findIdx (z1F d m n S i) < c then (z0P (z1F d m n S) i).findIdx (z1F d m n S i) else (z0P (z1F d m n S) i).length : Nat)) : Int))) (by simp) (by simp only [LFm]; omega) (fun c hc => ?_) ?_
    · have hf := hFl _ (z0p hc)
      simp only [z2t]
      rw [eb, if_pos (by rw [z0d]; omega), z0Y hc, Option.bind_some, znY hi, Option.bind_some, z1q (by omega), Option.bind_some, z0T (by omega)]
      by_cases h1 : z2W d m n S i ((z0P (z1F d m n S) i).getD c 0) = true
      · rw [if_pos h1, znY (by omega), Option.bind_some, z1q hi, Option.bind_some]
        by_cases h2 : z2W d m n S ((z0P (z1F d m n S) i).getD c 0) i = true
        · have := (hstep c hc).1 ((Bool.and_eq_true _ _).mpr ⟨h1, h2⟩)
          rw [if_pos h2, zh4 (by omega), Option.bind_some, Int.toNat_natCast, zeJ, this, if_pos (by omega)]
        · have : ¬ (z0P (z1F d m n S) i).findIdx (z1F d m n S i) = c := fun h => by
            have := (hstep c hc).2 h
            simp only [z1F, Bool.and_eq_true] at this
            exact h2 this.2
          rw [if_neg h2]
          congr 3
          by_cases h3 : (z0P (z1F d m n S) i).findIdx (z1F d m n S i) < c
          · rw [if_pos h3, if_pos (by omega)]
          · rw [if_neg h3, if_neg (by omega)]
      · have : ¬ (z0P (z1F d m n S) i).findIdx (z1F d m n S i) = c := fun h => by
          have := (hstep c hc).2 h
          simp only [z1F, Bool.and_eq_true] at this
          exact h1 this.1
        rw [if_neg h1]
        congr 3
        by_cases h3 : (z0P (z1F d m n S) i).findIdx (z1F d m n S i) < c
        · rw [if_pos h3, if_pos (by omega)]
        · rw [if_neg h3, if_neg (by omega)]
    · have hle : (z0P (z1F d m n S) i).findIdx (z1F d m n S i) <= (z0P (z1F d m n S) i).length := List.findIdx_le_length
      have hv : (if (z0P (z1F d m n S) i).findIdx (z1F d m n S i) < (z0P (z1F d m n S) i).length then (z0P (z1F d m n S) i).findIdx (z1F d m n S i) else (z0P (z1F d m n S) i).length) = (z0P (z1F d m n S) i).findIdx (z1F d m n S i) := by split <;> omega
      have hset : L.set i ((z6I (z1F d m n S) S.length i : Nat) : Int) = z1b S.length (fun i => ((z6I (z1F d m n S) S.length i : Nat) : Int)) 0 (i + 1) := by
        rw [← hL]; exact z3I (f := fun i => ((z6I (z1F d m n S) S.length i : Nat) : Int)) (z := 0) hi
      simp only [z2t]
      rw [if_neg (by rw [z0d]; omega), hv, zh4 (by omega), Option.bind_some, hcl, hset, z0T (by omega), z0d, z0P]
      by_cases h : (z0P (z1F d m n S) i).any (z1F d m n S i) = true
      · obtain ⟨x, hx, hpx⟩ := List.any_eq_true.1 h
        have := List.findIdx_lt_length_of_exists ⟨x, hx, hpx⟩
        rw [if_pos h, if_neg (by omega)]
      · have e2 : (z0P (z1F d m n S) i).findIdx (z1F d m n S i) = (z0P (z1F d m n S) i).length := List.findIdx_eq_length.2 fun x hx => by
          cases hh : z1F d m n S i x with
          | false => rfl
          | true => exact absurd (List.any_eq_true.2 ⟨x, hx, hh⟩) h
        rw [if_neg h, if_pos (by omega), z0m _ (by unfold z1c; omega), z3k]
  · simp only [z2u]
    rw [ed, if_neg (by rw [z0d]; omega), z7b]
    rfl
end
section
open Go
set_option maxRecDepth 100000
def z7e (g : Nat -> Nat) : Nat -> Nat
  | 0 => 0
  | k + 1 => max (z7e g k) (g k)
theorem znh {g : Nat -> Nat} {k j : Nat} (h : j < k) : g j <= z7e g k := by
  induction k with
  | zero => omega
  | succ k ih =>
    simp only [z7e]
    by_cases e : j = k
    · subst e; omega
    · have := ih (by omega); omega
theorem z8v {g : Nat -> Nat} {k b : Nat} (h : ∀ j, j < k -> g j <= b) : z7e g k <= b := by
  induction k with
  | zero => simp [z7e]
  | succ k ih =>
    have := ih fun j hj => h j (by omega)
    have := h k (by omega)
    simp only [z7e]; omega
theorem zm9 {g g' : Nat -> Nat} {k : Nat} (h : ∀ j, j < k -> g j = g' j) : z7e g k = z7e g' k := by
  induction k with
  | zero => rfl
  | succ k ih => simp only [z7e]; rw [ih fun j hj => h j (by omega), h k (by omega)]
def z4z (p : Nat -> Bool) : Nat -> Nat
  | 0 => 0
  | k + 1 => z4z p k + (if p k = true then 1 else 0)
theorem zsp (p : Nat -> Bool) (k : Nat) : z4z p k <= k := by
  induction k with
  | zero => simp [z4z]
  | succ k ih => simp only [z4z]; split <;> omega
theorem znR {p q : Nat -> Bool} {k : Nat} (h : ∀ j, j < k -> p j = true -> q j = true) : z4z p k <= z4z q k := by
  induction k with
  | zero => simp [z4z]
  | succ k ih =>
    have := ih fun j hj => h j (by omega)
    have := h k (by omega)
    simp only [z4z]
    by_cases h1 : p k = true
    · rw [if_pos h1, if_pos (this h1)]; omega
    · rw [if_neg h1]; split <;> omega
theorem zfn {p q : Nat -> Bool} {k i : Nat} (h : ∀ j, j < k -> p j = true -> q j = true) (hi : i < k) (hp : p i = false) (hq : q i = true) : z4z p k < z4z q k := by
  induction k with
  | zero => omega
  | succ k ih =>
    simp only [z4z]
    by_cases e : i = k
    · subst e
      have := znR (p := p) (q := q) (k := i) fun j hj => h j (by omega)
      rw [hp, hq]; simp; omega
    · have h1 := ih (fun j hj => h j (by omega)) (by omega)
      have := h k (by omega)
      by_cases h2 : p k = true
      · rw [if_pos h2, if_pos (this h2)]; omega
      · rw [if_neg h2]; split <;> omega
structure BelN (N : Nat) (b : Nat -> Nat -> Bool) : Prop where
  refl : ∀ i, i < N -> b i i = true
  trans : ∀ i j k, i < N -> j < N -> k < N -> b i j = true -> b j k = true -> b i k = true
def zfH (N : Nat) (b : Nat -> Nat -> Bool) (i : Nat) : Nat := z4z (fun j => b j i) N
def sbN (b : Nat -> Nat -> Bool) (j i : Nat) : Bool := b j i && !b i j
theorem znl {N : Nat} {b : Nat -> Nat -> Bool} (hb : BelN N b) {i j : Nat} (hi : i < N) (hj : j < N) (h : sbN b j i = true) : zfH N b j < zfH N b i := by
  simp only [sbN, Bool.and_eq_true, Bool.not_eq_true'] at h
  exact zfn (fun k hk hkj => hb.trans k j i hk hj hi hkj h.1) hi h.2 (hb.refl i hi)
def zAl (N : Nat) (b : Nat -> Nat -> Bool) (z : Nat -> Bool) (h : Nat -> Nat) : Prop := ∀ i, i < N -> h i = if z i = true then 0 else z7e (fun j => if sbN b j i = true then h j + 1 else 0) N
def zx3 (N : Nat) (b : Nat -> Nat -> Bool) (z : Nat -> Bool) : Nat -> Nat -> Nat
  | 0, _ => 0
  | f + 1, i => if z i = true then 0 else z7e (fun j => if sbN b j i = true then zx3 N b z f j + 1 else 0) N
def zii (N : Nat) (b : Nat -> Nat -> Bool) (z : Nat -> Bool) (i : Nat) : Nat := zx3 N b z N i
theorem zhg {N : Nat} {b : Nat -> Nat -> Bool} (hb : BelN N b) (z : Nat -> Bool) : ∀ f i, i < N -> zfH N b i <= f -> ∀ g, zfH N b i <= g -> zx3 N b z f i = zx3 N b z g i
  | 0, i, hi, hl, g, hg => by
    exfalso
    have := zfn (p := fun _ => false) (q := fun j => b j i) (k := N) (i := i) (fun j _ hf => by simp at hf) hi rfl (hb.refl i hi)
    unfold zfH at hl; omega
  | f + 1, i, hi, hl, 0, hg => by
    exfalso
    have := zfn (p := fun _ => false) (q := fun j => b j i) (k := N) (i := i) (fun j _ hf => by simp at hf) hi rfl (hb.refl i hi)
    unfold zfH at hg; omega
  | f + 1, i, hi, hl, g + 1, hg => by
    simp only [zx3]
    split
    · rfl
    · refine zm9 fun j hj => ?_
      by_cases hs : sbN b j i = true
      · have := znl hb hi hj hs
        rw [if_pos hs, if_pos hs, zhg hb z f j hj (by omega) g (by omega)]
      · rw [if_neg hs, if_neg hs]
theorem zhh {N : Nat} {b : Nat -> Nat -> Bool} (hb : BelN N b) (z : Nat -> Bool) : zAl N b z (zii N b z) := fun i hi => by
  have hl : zfH N b i <= N := zsp _ _
  unfold zii
  rw [zhg hb z N i hi hl (N + 1) (by omega)]
  rfl
theorem zks {N : Nat} {b : Nat -> Nat -> Bool} (hb : BelN N b) (z : Nat -> Bool) {i : Nat} (hi : i < N) : zii N b z i <= N := by
  have : ∀ L i, i < N -> zfH N b i <= L -> zii N b z i <= L := by
    intro L
    induction L with
    | zero =>
      intro i hi hl
      exfalso
      have := zfn (p := fun _ => false) (q := fun j => b j i) (k := N) (i := i) (fun j _ hf => by simp at hf) hi rfl (hb.refl i hi)
      unfold zfH at hl; omega
    | succ L ih =>
      intro i hi hl
      rw [zhh hb z i hi]
      split
      · omega
      · refine z8v fun j hj => ?_
        by_cases hs : sbN b j i = true
        · have := znl hb hi hj hs
          have := ih j hj (by omega)
          rw [if_pos hs]; omega
        · rw [if_neg hs]; omega
  exact this N i hi (zsp _ _)
theorem zkI {d : DFA} {m n : Nat} (hd : DfaOk d m n) {S : List Nat} (hS : SetsP d m n S) : BelN S.length (z2W d m n S) where
  refl i hi := (z3S hd hS hi).2 (znX d m _)
  trans i j k hi hj hk h1 h2 := (z3S hd hS hk).2 (zfu hd ((z3S hd hS hj).1 h1) ((z3S hd hS hk).1 h2))
theorem zra {s : Nat} (h : s < 128) : z5m (s : Int) = some ((szN s : Nat) : Int) := by
  unfold z5m z3E
  rw [zkV (by omega)]
  have : z2v (s : Int) = some ((szN s : Nat) : Int) := by
    unfold z2v
    rw [z0m _ (by omega), z0m _ (by omega), z0m _ (by omega), z0m _ (by omega), z0m _ (by omega), z0m _ (by omega)]
    congr 1
    revert s
    decide +kernel
  rw [this]; rfl
def z8g (S : List Nat) (i : Nat) : Bool := decide (szN (S.getD i 0) = 1)
def z5f (d : DFA) (m n : Nat) (S : List Nat) (i : Nat) : Nat := zii S.length (z2W d m n S) (z8g S) i
def zw3 (d : DFA) (m n : Nat) (S : List Nat) : List Int := (List.range S.length).map fun i => ((z5f d m n S i : Nat) : Int)
theorem zqT (N : Nat) : toI (List.range N) = (List.range N).map fun i => ((i : Nat) : Int) := rfl
theorem zpR {d : DFA} {m n : Nat} {S : List Nat} (hl : S.length < 4611686018427387904) {i : Nat} (hi : i < S.length) (C O : List Int) (L : List Int) (hL : L.length = S.length) (h0 : L.getD i 0 = 0) :
    z0j (z1R (dgm d m n S) (i : Int) O) LFm (0, L) = z0e (((i + 1 : Nat) : Int), L.set i ((zfH S.length (z2W d m n S) i : Nat) : Int), O.set i (i : Int)) := by
  refine z0t (s := ((0 : Int), L)) S.length (fun k => ((k : Int), L.set i ((z4z (fun j => z2W d m n S j i) k : Nat) : Int))) ?_ (by simp only [LFm]; omega) (fun k hk => ?_) ?_
  · refine Prod.ext rfl ?_
    show L = L.set i 0
    apply List.ext_getElem (by simp)
    intro j h1 h2
    rw [List.getElem_set]
    by_cases e : i = j
    · subst e
      rw [if_pos rfl]
      rw [List.getD, List.getElem?_eq_getElem h1, Option.getD_some] at h0
      exact h0
    · rw [if_neg e]
  · have hc := zsp (fun j => z2W d m n S j i) k
    have ed : (dgm d m n S).sets = toI S := rfl
    have eb : (dgm d m n S).below = zu6 d m n S := rfl
    simp only [z1R]
    rw [ed, eb, if_pos (by rw [z0d]; omega), znY hk, Option.bind_some, z1q hi, Option.bind_some, z0T (by omega)]
    simp only [z4z]
    by_cases h : z2W d m n S k i = true
    · rw [if_pos h, if_pos h, zh4 (by omega), Option.bind_some, Int.toNat_natCast, zeJ, z0T (by omega)]
    · rw [if_neg h, if_neg h]; rfl
  · have ed : (dgm d m n S).sets = toI S := rfl
    simp only [z1R]
    rw [ed, if_neg (by rw [z0d]; omega), z0T (by omega), Int.toNat_natCast]
    rfl
theorem zs3 {d : DFA} {m n : Nat} (hd : DfaOk d m n) {S : List Nat} (hS : SetsP d m n S) (hl : S.length < 100000) (k : Int) {i : Nat} (hi : i < S.length) {H : Nat -> Nat} (h0 : H i = 0) (hlow : ∀ j, j < S.length -> sbN (z2W d m n S) j i = true -> H j = z5f d m n S j) :
    z0j (z1K (dgm d m n S) (zmB d m n S) k (i : Int)) LFm (0, (List.range S.length).map fun j => ((H j : Nat) : Int)) = z0e (IntKind.i64.wrap (k + 1), (List.range S.length).map fun j => (((if j = i then z7e (fun j => if sbN (z2W d m n S) j i = true then z5f d m n S j + 1 else 0) S.length else H j) : Nat) : Int)) := by
  have he := z6p hd hS
  have hb := zkI hd hS
  have ed : (dgm d m n S).sets = toI S := rfl
  have eb : (dgm d m n S).below = zu6 d m n S := rfl
  refine z0t (s := ((0 : Int), (List.range S.length).map fun j => ((H j : Nat) : Int))) S.length (fun q => ((q : Int), (List.range S.length).map fun j => (((if j = i then z7e (fun j => if sbN (z2W d m n S) j i = true then z5f d m n S j + 1 else 0) q else H j) : Nat) : Int))) ?_ (by simp only [LFm]; omega) (fun q hq => ?_) ?_
  · refine Prod.ext rfl ?_
    refine List.map_congr_left fun j hj => ?_
    by_cases e : j = i
    · subst e; simp [z7e, h0]
    · rw [if_neg e]
  · have hle := zks hb (z8g S) hq
    have hmx : z7e (fun j => if sbN (z2W d m n S) j i = true then z5f d m n S j + 1 else 0) q <= S.length + 1 := z8v fun j hj => by
      have := zks hb (z8g S) (i := j) (by omega)
      unfold z5f; split <;> omega
    have hse : z2W d m n S q i = true -> (sbN (z2W d m n S) q i = true ↔ ¬ z6I (z1F d m n S) S.length q = z6I (z1F d m n S) S.length i) := fun h => by
      rw [zi5 he hq hi]
      simp only [sbN, z1F, h, Bool.true_and, Bool.not_eq_true', Bool.not_eq_true]
    have hfin : ∀ v : Nat, v = (if sbN (z2W d m n S) q i = true then max (z7e (fun j => if sbN (z2W d m n S) j i = true then z5f d m n S j + 1 else 0) q) (z5f d m n S q + 1) else z7e (fun j => if sbN (z2W d m n S) j i = true then z5f d m n S j + 1 else 0) q) -> ((List.range S.length).map fun j => (((if j = i then v else H j) : Nat) : Int)) = (List.range S.length).map fun j => (((if j = i then z7e (fun j => if sbN (z2W d m n S) j i = true then z5f d m n S j + 1 else 0) (q + 1) else H j) : Nat) : Int) := fun v hv => by
      refine List.map_congr_left fun j hj => ?_
      by_cases e : j = i
      · rw [if_pos e, if_pos e, hv]
        simp only [z7e]
        by_cases h : sbN (z2W d m n S) q i = true
        · rw [if_pos h, if_pos h]
        · rw [if_neg h, if_neg h]; congr 1; omega
      · rw [if_neg e, if_neg e]
    simp only [z1K]
    rw [ed, eb, if_pos (by rw [z0d]; omega), znY hq, Option.bind_some, z1q hi, Option.bind_some, z0T (by omega)]
    by_cases h : z2W d m n S q i = true
    · rw [if_pos h, zmB, z1q hq, Option.bind_some, z1q hi, Option.bind_some]
      by_cases hc : z6I (z1F d m n S) S.length q = z6I (z1F d m n S) S.length i
      · have hs : ¬ sbN (z2W d m n S) q i = true := fun hh => (hse h).1 hh hc
        rw [if_pos (by rw [hc]), hfin _ (by rw [if_neg hs])]
      · have hs := (hse h).2 hc
        have hqi : q ≠ i := fun e => by subst e; exact hc rfl
        rw [if_neg (by omega), z1q hi, Option.bind_some, z1q hq, Option.bind_some, if_pos rfl, if_neg hqi, hlow q hq hs, z0T (by unfold z5f; omega), Int.toNat_natCast]
        have hset : ∀ v : Nat, ((List.range S.length).map fun j => (((if j = i then z7e (fun j => if sbN (z2W d m n S) j i = true then z5f d m n S j + 1 else 0) q else H j) : Nat) : Int)).set i (v : Int) = (List.range S.length).map fun j => (((if j = i then v else H j) : Nat) : Int) := fun v => by
          apply List.ext_getElem (by simp)
          intro j h1 h2
          simp only [List.getElem_set, List.getElem_map, List.getElem_range]
          by_cases e : i = j
          · subst e; rw [if_pos rfl, if_pos rfl]
          · rw [if_neg e, if_neg (fun hh => e hh.symm), if_neg (fun hh => e hh.symm)]
        by_cases hlt : ((z7e (fun j => if sbN (z2W d m n S) j i = true then z5f d m n S j + 1 else 0) q : Nat) : Int) < ((z5f d m n S q + 1 : Nat) : Int)
        · rw [if_pos hlt, hset, hfin _ (by rw [if_pos hs]; omega)]
        · rw [if_neg hlt, hset, hfin _ (by rw [if_pos hs]; omega)]
    · have hs : ¬ sbN (z2W d m n S) q i = true := fun hh => by simp only [sbN, Bool.and_eq_true] at hh; exact h hh.1
      rw [if_neg h, hfin _ (by rw [if_neg hs])]
  · simp only [z1K]
    rw [ed, if_neg (by rw [z0d]; omega)]
theorem zq7 {d : DFA} {m n : Nat} (hd : DfaOk d m n) (hn : n <= 7) {S : List Nat} (hS : SetsP d m n S) : z2i (dgm d m n S) (zmB d m n S) = some (zw3 d m n S) := by
  have h128 : 2 ^ n <= 128 := Nat.pow_le_pow_right (n := 2) (by omega) hn
  have hSl := z0z hS.nd hS.lt
  have hb := zkI hd hS
  have he := z6p hd hS
  have ed : (dgm d m n S).sets = toI S := rfl
  unfold z2i
  rw [ed, z0d, z0m _ (by unfold z1g; omega), Int.toNat_natCast]
  have f1 : List.replicate S.length (0 : Int) = z1b S.length (fun i => ((zfH S.length (z2W d m n S) i : Nat) : Int)) 0 0 := (z7c _ _ _).symm
  have f2 : (List.replicate S.length (0 : Int)) = z1b S.length (fun i => ((i : Nat) : Int)) 0 0 := (z7c _ _ _).symm
  conv => lhs; arg 3; rw [show ((0 : Int), List.replicate S.length (0 : Int), List.replicate S.length (0 : Int)) = ((0 : Int), z1b S.length (fun i => ((zfH S.length (z2W d m n S) i : Nat) : Int)) 0 0, z1b S.length (fun i => ((i : Nat) : Int)) 0 0) by rw [← f1, ← f2]]
  refine z0t (s := ((0 : Int), z1b S.length (fun i => ((zfH S.length (z2W d m n S) i : Nat) : Int)) 0 0, z1b S.length (fun i => ((i : Nat) : Int)) 0 0)) S.length (fun k => ((k : Int), z1b S.length (fun i => ((zfH S.length (z2W d m n S) i : Nat) : Int)) 0 k, z1b S.length (fun i => ((i : Nat) : Int)) 0 k)) rfl (by simp only [LFm]; omega) (fun i hi => ?_) ?_
  · simp only [z2s]
    rw [ed, if_pos (by rw [z0d]; omega), z5r hi, Option.bind_some, zpR (by omega) hi [] _ _ (z9O _ _ _ _) (by simp [z1b, List.getD, hi])]
    have e1 := z3I (f := fun i => ((zfH S.length (z2W d m n S) i : Nat) : Int)) (z := 0) hi
    have e2 := z3I (f := fun i => ((i : Nat) : Int)) (z := 0) hi
    rw [e1, e2]
  · simp only [z2s]
    rw [ed, if_neg (by rw [z0d]; omega), z7b, z7b]
    have hK : ((List.range S.length).map fun i => ((zfH S.length (z2W d m n S) i : Nat) : Int)).length = S.length := by simp
    have hv : zAY ((List.range S.length).map fun i => ((zfH S.length (z2W d m n S) i : Nat) : Int)) (toI (List.range S.length)) := fun x hx => by
      simp only [toI, List.mem_map, List.mem_range] at hx
      obtain ⟨i, hi, rfl⟩ := hx
      exact ⟨by omega, by rw [hK]; omega⟩
    obtain ⟨O, hO, hs, hp⟩ := zr6 hv (by rw [z0d, List.length_range]; omega)
    rw [← zqT, hO, Option.bind_some, z0d, z0m _ (by unfold z1g; omega), Int.toNat_natCast]
    have hOl : O.length = S.length := by rw [hp.length_eq, z0d, List.length_range]
    have hOn : O.Nodup := hp.nodup_iff.2 (by
      unfold toI
      exact List.Pairwise.map _ (fun a b h e => h (by omega)) List.nodup_range)
    have hmem : ∀ x, x ∈ O ↔ ∃ i, i < S.length /\ x = (i : Int) := fun x => by
      rw [hp.mem_iff]; simp only [toI, List.mem_map, List.mem_range]
      constructor
      · rintro ⟨i, hi, rfl⟩; exact ⟨i, hi, rfl⟩
      · rintro ⟨i, hi, rfl⟩; exact ⟨i, hi, rfl⟩
    have hkv : ∀ i, i < S.length -> kv ((List.range S.length).map fun i => ((zfH S.length (z2W d m n S) i : Nat) : Int)) (i : Int) = ((zfH S.length (z2W d m n S) i : Nat) : Int) := fun i hi => by
      simp [kv, List.getD, hi]
    congr 1
    have f3 : List.replicate S.length (0 : Int) = (List.range S.length).map fun (j : Nat) => (((if (j : Int) ∈ O.take 0 then z5f d m n S j else 0) : Nat) : Int) := by
      apply List.ext_getElem (by simp); intro i h1 h2; simp
    rw [f3]
    refine z0t (s := ((0 : Int), (List.range S.length).map fun (j : Nat) => (((if (j : Int) ∈ O.take 0 then z5f d m n S j else 0) : Nat) : Int))) S.length (fun k => ((k : Int), (List.range S.length).map fun (j : Nat) => (((if (j : Int) ∈ O.take k then z5f d m n S j else 0) : Nat) : Int))) rfl (by simp only [LFm]; omega) (fun k hk => ?_) ?_
    · have hkO : k < O.length := by omega
      obtain ⟨i, hi, hOk⟩ := (hmem O[k]).1 (List.getElem_mem hkO)
      have hnot : (i : Int) ∉ O.take k := fun h => by
        obtain ⟨j, hj, hji⟩ := List.getElem_of_mem h
        rw [List.length_take] at hj
        rw [List.getElem_take, ← hOk] at hji
        have := (List.getElem_inj hOn).1 hji
        omega
      have htake : ∀ j : Nat, (j : Int) ∈ O.take (k + 1) ↔ (j = i ∨ (j : Int) ∈ O.take k) := fun j => by
        rw [List.take_succ_eq_append_getElem hkO, List.mem_append, List.mem_singleton, hOk]
        constructor
        · rintro (h | h)
          · exact .inr h
          · exact .inl (by omega)
        · rintro (h | h)
          · exact .inr (by omega)
          · exact .inl h
      have hupd : ((List.range S.length).map fun (j : Nat) => (((if j = i then z5f d m n S i else if (j : Int) ∈ O.take k then z5f d m n S j else 0) : Nat) : Int)) = (List.range S.length).map fun (j : Nat) => (((if (j : Int) ∈ O.take (k + 1) then z5f d m n S j else 0) : Nat) : Int) := by
        refine List.map_congr_left fun j hj => ?_
        by_cases e : j = i
        · subst e; rw [if_pos rfl, if_pos ((htake j).2 (.inl rfl))]
        · rw [if_neg e]
          by_cases h : (j : Int) ∈ O.take k
          · rw [if_pos h, if_pos ((htake j).2 (.inr h))]
          · rw [if_neg h, if_neg (fun hh => ((htake j).1 hh).elim e h)]
      have hlt128 : S.getD i 0 < 2 ^ n := hS.lt _ (z0p hi)
      simp only [z2g]
      rw [if_pos (by omega), z1s hkO, Option.bind_some, hOk, ed, z0Y hi, Option.bind_some, zra (by omega), Option.bind_some]
      have hok := zhh hb (z8g S) i hi
      by_cases hz : szN (S.getD i 0) = 1
      · rw [if_pos (by omega), z0T (by omega)]
        have hh : z5f d m n S i = 0 := by
          unfold z5f; rw [hok, if_pos (by simp only [z8g, hz, decide_true])]
        refine congrArg z0e (Prod.ext rfl ?_)
        refine List.map_congr_left fun j hj => ?_
        by_cases e : j = i
        · subst e; rw [if_neg hnot, if_pos ((htake j).2 (.inl rfl)), hh]
        · by_cases h : (j : Int) ∈ O.take k
          · rw [if_pos h, if_pos ((htake j).2 (.inr h))]
          · rw [if_neg h, if_neg (fun hh => ((htake j).1 hh).elim e h)]
      · rw [if_neg (by omega), zs3 hd hS (by omega) (k : Int) hi (H := fun (j : Nat) => if (j : Int) ∈ O.take k then z5f d m n S j else 0) (if_neg hnot) (fun j hj hsb => ?_), z0T (by omega)]
        · have hh : z7e (fun j => if sbN (z2W d m n S) j i = true then z5f d m n S j + 1 else 0) S.length = z5f d m n S i := by
            have : z5f d m n S i = _ := hok
            rw [this, if_neg (by simp only [z8g, hz, decide_false]; simp)]; rfl
          rw [hh, hupd]
        · have hl := znl hb hi hj hsb
          have hjO : (j : Int) ∈ O := (hmem _).2 ⟨j, hj, rfl⟩
          obtain ⟨p, hpO, hpj⟩ := List.getElem_of_mem hjO
          refine if_pos ?_
          rcases Nat.lt_trichotomy p k with h | h | h
          · rw [← hpj]
            exact List.mem_take_iff_getElem.2 ⟨p, by omega, rfl⟩
          · subst h
            rw [hOk] at hpj
            have : i = j := by omega
            subst this; omega
          · have := List.pairwise_iff_getElem.1 hs k p hkO hpO h
            rw [hOk, hpj, hkv i hi, hkv j hj] at this
            omega
    · simp only [z2g]
      rw [if_neg (by omega)]
      congr 2
      unfold zw3
      refine List.map_congr_left fun j hj => ?_
      rw [List.take_of_length_le (by omega), if_pos ((hmem _).2 ⟨j, List.mem_range.1 hj, rfl⟩)]
end
section
open Go
set_option maxRecDepth 100000
def zd1 (S : List Nat) (i j : Nat) : Bool := !decide (j = i) && decide (S.getD j 0 &&& S.getD i 0 = S.getD j 0)
def z9U (S : List Nat) (i : Nat) : List Nat := (List.range S.length).filter (zd1 S i)
def zeE (S : List Nat) (i j : Nat) : Bool := (z9U S i).all fun k => decide (k = j) || !decide (S.getD j 0 &&& S.getD k 0 = S.getD j 0)
def z7D (S : List Nat) (i : Nat) : List Nat := if szN (S.getD i 0) = 1 then [] else (z9U S i).filter (zeE S i)
theorem zfm {α : Type} {p : α -> Bool} {l : List α} {k : Nat} (h : k < l.length) : (l.take (k + 1)).filter p = (l.take k).filter p ++ (if p l[k] = true then [l[k]] else []) := by
  rw [List.take_succ_eq_append_getElem h, List.filter_append, List.filter_cons, List.filter_nil]
theorem zhf {S : List Nat} {i j : Nat} (h : j ∈ z9U S i) : j < S.length := List.mem_range.1 (List.mem_filter.1 h).1
theorem zcL {α : Type} (p : α -> Bool) (l : List α) : (l.filter p).length <= l.length := List.length_filter_le p l
theorem zt1 {d : DFA} {m n : Nat} (hn : n <= 7) {S : List Nat} (hS : SetsP d m n S) {i : Nat} (hi : i < S.length) : z2F (dgm d m n S) (i : Int) = some (toI (z7D S i)) := by
  have h128 : 2 ^ n <= 128 := Nat.pow_le_pow_right (n := 2) (by omega) hn
  have hSl := z0z hS.nd hS.lt
  have ed : (dgm d m n S).sets = toI S := rfl
  have lt62 : ∀ j, j < S.length -> S.getD j 0 < 2 ^ 62 := fun j hj => by have := hS.lt _ (z0p hj); omega
  have hil := hS.lt _ (z0p hi)
  unfold z2F z7D
  rw [ed, z0Y hi, Option.bind_some, zra (by omega), Option.bind_some]
  by_cases hz : szN (S.getD i 0) = 1
  · rw [if_pos (by omega), if_pos hz]; rfl
  rw [if_neg (by omega), if_neg hz]
  have hrl : (List.range S.length).length = S.length := List.length_range
  refine z0t (s := ((0 : Int), ([] : List Int))) S.length (fun j => ((j : Int), toI (((List.range S.length).take j).filter (zd1 S i)))) rfl (by simp only [LFm]; omega) (fun j hj => ?_) ?_
  · have hfl : (((List.range S.length).take j).filter (zd1 S i)).length <= j := Nat.le_trans (zcL _ _) (by rw [List.length_take]; omega)
    have hst := zfm (p := zd1 S i) (l := List.range S.length) (k := j) (by omega)
    rw [List.getElem_range] at hst
    simp only [z2J]
    rw [ed, if_pos (by rw [z0d]; omega), z0Y hj, Option.bind_some, z0T (by omega), hst]
    by_cases e : j = i
    · have : zd1 S i j = false := by unfold zd1; rw [decide_eq_true e]; rfl
      rw [if_pos (by omega), this, if_neg (by simp), List.append_nil]
    · rw [if_neg (by omega), z0Y hi, Option.bind_some, zay (lt62 i hi) (lt62 j hj), Option.bind_some]
      have : zd1 S i j = decide (S.getD j 0 &&& S.getD i 0 = S.getD j 0) := by unfold zd1; rw [decide_eq_false e]; rfl
      rw [this]
      by_cases h : decide (S.getD j 0 &&& S.getD i 0 = S.getD j 0) = true
      · rw [if_pos h, if_pos h, z0m _ (by unfold z1c; rw [z0d]; omega), z3k]
      · rw [if_neg h, if_neg h, List.append_nil]
  · simp only [z2J]
    rw [ed, if_neg (by rw [z0d]; omega), List.take_of_length_le (by omega)]
    congr 1
    have hil : (z9U S i).length <= S.length := Nat.le_trans (zcL _ _) (by omega)
    show z0j (z1X (dgm d m n S) (toI (z9U S i))) LFm (0, []) = _
    refine z0t (s := ((0 : Int), ([] : List Int))) (z9U S i).length (fun q => ((q : Int), toI (((z9U S i).take q).filter (zeE S i)))) rfl (by simp only [LFm]; omega) (fun q hq => ?_) ?_
    · have hfl : (((z9U S i).take q).filter (zeE S i)).length <= q := Nat.le_trans (zcL _ _) (by rw [List.length_take]; omega)
      have hst := zfm (p := zeE S i) (l := z9U S i) (k := q) hq
      have hg : (z9U S i).getD q 0 = (z9U S i)[q] := by rw [List.getD, List.getElem?_eq_getElem hq, Option.getD_some]
      have hjl : (z9U S i)[q] < S.length := zhf (List.getElem_mem hq)
      simp only [z1X]
      rw [if_pos (by rw [z0d]; omega), z0Y hq, Option.bind_some, hg, hst]
      generalize (z9U S i)[q] = j at hjl
      rw [z7X (s := (0 : Int)) (z9U S i).length (fun k => (k : Int)) (fun k => !(decide ((z9U S i).getD k 0 = j) || !decide (S.getD j 0 &&& S.getD ((z9U S i).getD k 0) 0 = S.getD j 0))) (fun _ => z0e (((q + 1 : Nat) : Int), toI (((z9U S i).take q).filter (zeE S i)))) (x := z0e (((q + 1 : Nat) : Int), toI (((z9U S i).take q).filter (zeE S i)) ++ [(j : Int)])) rfl (by simp only [LFm]; omega)]
      · rw [zhZ]
        simp only [Bool.not_not]
        rw [zjY (fun k => decide (k = j) || !decide (S.getD j 0 &&& S.getD k 0 = S.getD j 0))]
        show (if zeE S i j = true then _ else _) = _
        by_cases h : zeE S i j = true
        · rw [if_pos h, if_pos h, z3k]
        · rw [if_neg h, if_neg h, List.append_nil]
      · intro k hk
        have hkl : (z9U S i).getD k 0 < S.length := zhf (z0p hk)
        simp only [z2C]
        rw [if_pos (by rw [z0d]; omega), z0Y hk, Option.bind_some]
        by_cases e : (z9U S i).getD k 0 = j
        · rw [if_pos (by omega), decide_eq_true e, z0T (by omega)]; rfl
        · rw [if_neg (by omega), decide_eq_false e, ed, z0Y hkl, Option.bind_some, z0Y hjl, Option.bind_some, zay (lt62 _ hkl) (lt62 _ hjl), Option.bind_some, Bool.false_or, Bool.not_not, z0T (by omega), z0T (by omega)]
      · simp only [z2C]
        rw [if_neg (by rw [z0d]; omega), z0m _ (by unfold z1c; rw [z0d]; omega), z0T (by omega)]
    · simp only [z1X]
      rw [if_neg (by rw [z0d]; omega), List.take_length]
def z3a (d : DFA) (m n : Nat) (S : List Nat) (i : Nat) : Nat := (z8f d m n S).getD (z6I (z1F d m n S) S.length i) 0
def zbp (d : DFA) (m n : Nat) (S : List Nat) (i : Nat) : ByteArray := z5I (z0J d m n (S.getD (z3a d m n S i) 0)) (S.getD i 0)
def zfB (d : DFA) (m n : Nat) (S : List Nat) (i : Nat) : ByteArray := z5I (z0J d m n (S.getD i 0)) (S.getD (z3a d m n S i) 0)
def z2m (d : DFA) (m n : Nat) (S : List Nat) : Imgs := ⟨toI S, zmB d m n S, zw3 d m n S, (List.range S.length).map fun i => toI (z7D S i), (List.range S.length).map (zbp d m n S), (List.range S.length).map (zfB d m n S)⟩
theorem zmp {d : DFA} {m n : Nat} {S : List Nat} {c : Nat} (hc : c < (z8f d m n S).length) : (z8f d m n S).getD c 0 < S.length := za0 _ _ _ (z0p hc)
theorem zkW {d : DFA} {m n : Nat} (hd : DfaOk d m n) {S : List Nat} (hS : SetsP d m n S) (hSl : S.length < 100000) {c : Nat} (hc : c < (z8f d m n S).length) (q : List Int) :
    z0j (z4Y (toI S) (zmB d m n S, toI (z8f d m n S)) (c : Int) (q, zin S (z0J d m n (S.getD ((z8f d m n S).getD c 0) 0)))) LFm (0, (List.range S.length).map fun j => if z6I (z1F d m n S) S.length j < c then zbp d m n S j else ByteArray.empty) =
      z0e (((c + 1 : Nat) : Int), (List.range S.length).map fun j => if z6I (z1F d m n S) S.length j < c + 1 then zbp d m n S j else ByteArray.empty) := by
  have hcl : (z8f d m n S).length <= S.length := z7a _ _
  refine z0t (s := ((0 : Int), (List.range S.length).map fun j => if z6I (z1F d m n S) S.length j < c then zbp d m n S j else ByteArray.empty)) S.length (fun k => ((k : Int), (List.range S.length).map fun j => if z6I (z1F d m n S) S.length j < c ∨ (z6I (z1F d m n S) S.length j = c /\ j < k) then zbp d m n S j else ByteArray.empty)) ?_ (by simp only [LFm]; omega) (fun k hk => ?_) ?_
  · refine Prod.ext rfl (List.map_congr_left fun j hj => ?_)
    simp
  · simp only [z4Y]
    rw [if_pos (by rw [z0d]; omega), zmB, z1q hk, Option.bind_some, z0T (by omega)]
    by_cases h : z6I (z1F d m n S) S.length k = c
    · have hw : z5I (z0J d m n (S.getD ((z8f d m n S).getD c 0) 0)) (S.getD k 0) = zbp d m n S k := by unfold zbp z3a; rw [h]
      rw [if_pos (by omega), zin, z1q hk, Option.bind_some, hw, z1q hk, Option.bind_some, Int.toNat_natCast]
      refine congrArg z0e (Prod.ext rfl ?_)
      apply List.ext_getElem (by simp)
      intro j h1 h2
      simp only [List.getElem_set, List.getElem_map, List.getElem_range]
      by_cases e : k = j
      · subst e; rw [if_pos rfl, if_pos (.inr ⟨h, by omega⟩)]
      · rw [if_neg e]
        congr 1
        refine propext ⟨fun hh => hh.imp id fun hh => ⟨hh.1, by omega⟩, fun hh => hh.imp id fun hh => ⟨hh.1, by omega⟩⟩
    · rw [if_neg (by omega)]
      refine congrArg z0e (Prod.ext rfl (List.map_congr_left fun j hj => ?_))
      congr 1
      refine propext ⟨fun hh => hh.imp id fun hh => ⟨hh.1, by omega⟩, fun hh => hh.imp id fun hh => ⟨hh.1, ?_⟩⟩
      have : j ≠ k := fun e => h (e ▸ hh.1)
      omega
  · simp only [z4Y]
    rw [if_neg (by rw [z0d]; omega), z0T (by omega)]
    congr 3
    refine List.map_congr_left fun j hj => ?_
    have hj := List.mem_range.1 hj
    congr 1
    refine propext ⟨fun hh => ?_, fun hh => ?_⟩
    · rcases hh with hh | hh <;> omega
    · by_cases e : z6I (z1F d m n S) S.length j = c
      · exact .inr ⟨e, hj⟩
      · exact .inl (by omega)
theorem zAk {d : DFA} {m n : Nat} (hd : DfaOk d m n) (hn : n <= 7) : z8X d = some (z2m d m n (z2E d m n), 0) := by
  have h128 : 2 ^ n <= 128 := Nat.pow_le_pow_right (n := 2) (by omega) hn
  have hS := z8r hd
  have hSl := z0z hS.nd hS.lt
  have he := z6p hd hS
  unfold z8X
  rw [zkY (zuy hd (by omega)), zuq hd (by omega), Option.bind_some, if_pos rfl, zvm hd hn, Option.bind_some]
  generalize z2E d m n = S at hS hSl he
  have hcl : (z8f d m n S).length <= S.length := z7a _ _
  rw [if_neg (by rw [z0d]; omega), zqi hd (by omega) hS, Option.bind_some, zqn hd (by omega) hS, Option.bind_some]
  simp only
  rw [zq7 hd hn hS, Option.bind_some, z0d, z0m _ (by unfold z1g; omega), z0m _ (by unfold z1g; omega), Int.toNat_natCast]
  have f1 : List.replicate S.length ([] : List Int) = z1b S.length (fun i => toI (z7D S i)) [] 0 := (z7c _ _ _).symm
  have f2 : List.replicate S.length (ByteArray.empty : ByteArray) = z1b S.length (zfB d m n S) ByteArray.empty 0 := (z7c _ _ _).symm
  rw [f1, f2]
  refine z0t (s := ((0 : Int), z1b S.length (fun i => toI (z7D S i)) [] 0, z1b S.length (zfB d m n S) ByteArray.empty 0)) S.length (fun k => ((k : Int), z1b S.length (fun i => toI (z7D S i)) [] k, z1b S.length (zfB d m n S) ByteArray.empty k)) rfl (by simp only [LFm]; omega) (fun k hk => ?_) ?_
  · obtain ⟨c1, c2⟩ := zaz he hk
    have c1 : z6I (z1F d m n S) S.length k < (z8f d m n S).length := c1
    have hf : (z8f d m n S).getD (z6I (z1F d m n S) S.length k) 0 < S.length := zmp c1
    simp only [z6E]
    rw [if_pos (by rw [z0d]; omega), zt1 hn hS hk, Option.bind_some, z5r hk, Option.bind_some, show dgm d m n S = ⟨toI S, zw1 d m S, zu6 d m n S⟩ from rfl, zeL hd (by omega) hS _ hk, Option.bind_some, zmB, z1q hk, Option.bind_some, z0Y c1, Option.bind_some, show (zfF S (z0J d m n (S.getD k 0)), zin S (z0J d m n (S.getD k 0))).2 = zin S (z0J d m n (S.getD k 0)) from rfl, zin, z1q hf, Option.bind_some, z5r hk, Option.bind_some, z0T (by omega), Int.toNat_natCast]
    have e1 := z3I (f := fun i => toI (z7D S i)) (z := []) hk
    have e2 := z3I (f := zfB d m n S) (z := ByteArray.empty) hk
    have e3 : z5I (z0J d m n (S.getD k 0)) (S.getD ((z8f d m n S).getD (z6I (z1F d m n S) S.length k) 0) 0) = zfB d m n S k := rfl
    rw [e1, e3, e2]
  · simp only [z6E]
    rw [if_neg (by rw [z0d]; omega), z0d, z7b, z7b, Int.toNat_natCast]
    congr 1
    have f3 : List.replicate S.length (ByteArray.empty : ByteArray) = (List.range S.length).map fun j => if z6I (z1F d m n S) S.length j < 0 then zbp d m n S j else ByteArray.empty := by
      apply List.ext_getElem (by simp); intro i h1 h2; simp
    rw [f3]
    refine z0t (s := ((0 : Int), (List.range S.length).map fun j => if z6I (z1F d m n S) S.length j < 0 then zbp d m n S j else ByteArray.empty)) (z8f d m n S).length (fun c => ((c : Int), (List.range S.length).map fun j => if z6I (z1F d m n S) S.length j < c then zbp d m n S j else ByteArray.empty)) rfl (by simp only [LFm]; omega) (fun c hc => ?_) ?_
    · have hf := zmp hc
      simp only [z6D]
      rw [if_pos (by rw [z0d]; omega), z0Y hc, Option.bind_some, show dgm d m n S = ⟨toI S, zw1 d m S, zu6 d m n S⟩ from rfl, zeL hd (by omega) hS _ hf, Option.bind_some, zkW hd hS (by omega) hc]
    · simp only [z6D]
      rw [if_neg (by rw [z0d]; omega)]
      have : ((List.range S.length).map fun j => if z6I (z1F d m n S) S.length j < (z8f d m n S).length then zbp d m n S j else ByteArray.empty) = (List.range S.length).map (zbp d m n S) := List.map_congr_left fun j hj => if_pos (zaz he (List.mem_range.1 hj)).1
      rw [this]; rfl
end
section
open Go
set_option maxRecDepth 100000
theorem z8z (s : Nat) : szN s = z4z (fun q => s.testBit q) 7 := by
  simp only [szN, z4z, List.range, List.range.loop, List.countP_cons, List.countP_nil]
  omega
theorem zAL {s : Nat} (h : s < 128) {q : Nat} (hq : s.testBit q = true) : q < 7 := by
  rcases Nat.lt_or_ge q 7 with h' | h'
  · exact h'
  · have : s.testBit q = false := Nat.testBit_lt_two_pow (Nat.lt_of_lt_of_le h (Nat.pow_le_pow_right (n := 2) (by omega) h'))
    rw [this] at hq; cases hq
theorem zlV {a b : Nat} (h : z7L a b) : szN a <= szN b := by
  rw [z8z, z8z]; exact znR fun q _ hq => z2n.1 h q hq
theorem zwl {a b : Nat} (hb : b < 128) (h : z7L a b) (hne : a ≠ b) : szN a < szN b := by
  have : ∃ q, b.testBit q = true /\ a.testBit q = false := by
    refine Classical.byContradiction fun hn => hne (z8J h (z2n.2 fun q hq => ?_))
    cases ha : a.testBit q with
    | true => rfl
    | false => exact absurd ⟨q, hq, ha⟩ hn
  obtain ⟨q, h1, h2⟩ := this
  rw [z8z, z8z]
  exact zfn (fun q _ hq => z2n.1 h q hq) (zAL hb h1) h2 h1
theorem zuP {a b : Nat} (hb : b < 128) (h : z7L a b) (he : szN b <= szN a) : a = b := by
  refine Classical.byContradiction fun hne => ?_
  have := zwl hb h hne
  omega
theorem zqZ {x p : Nat} (hx : x < 128) (hp : p < 7) : szN (x ||| 2 ^ p) <= szN x + 1 := by
  revert p; revert x; decide +kernel
theorem zxO {x y : Nat} (hx : x < 128) (hy : y < 128) : szN (x ||| y) <= szN x + szN y := by
  rw [z8z, z8z, z8z]
  have : ∀ k, z4z (fun q => (x ||| y).testBit q) k <= z4z (fun q => x.testBit q) k + z4z (fun q => y.testBit q) k := by
    intro k
    induction k with
    | zero => simp [z4z]
    | succ k ih =>
      simp only [z4z, Nat.testBit_or]
      simp only [Nat.testBit_or] at ih
      have : ∀ a b : Bool, (if (a || b) = true then 1 else 0) <= (if a = true then 1 else 0) + (if b = true then 1 else 0) := by decide
      have := this (x.testBit k) (y.testBit k)
      omega
  exact this 7
theorem zy5 {d : DFA} {m n : Nat} (hd : DfaOk d m n) {x y a : Nat} (ha : a < m) : mvN d (x ||| y) a = mvN d x a ||| mvN d y a := by
  apply Nat.eq_of_testBit_eq
  intro p
  rw [Bool.eq_iff_iff, Nat.testBit_or, Bool.or_eq_true, z8u hd ha, z8u hd ha, z8u hd ha]
  constructor
  · rintro ⟨i, h1, h2, h3⟩
    rw [Nat.testBit_or, Bool.or_eq_true] at h2
    exact h2.imp (fun h => ⟨i, h1, h, h3⟩) fun h => ⟨i, h1, h, h3⟩
  · rintro (⟨i, h1, h2, h3⟩ | ⟨i, h1, h2, h3⟩)
    · exact ⟨i, h1, by rw [Nat.testBit_or, h2]; rfl, h3⟩
    · exact ⟨i, h1, by rw [Nat.testBit_or, h2, Bool.or_true], h3⟩
abbrev zvk (m : Nat) (w : List UInt8) : Prop := ∀ c ∈ w, 97 <= c.toNat /\ c.toNat < 97 + m
theorem zmd {m : Nat} {c : UInt8} {w : List UInt8} (h : zvk m (c :: w)) : zvk m w /\ c.toNat - 97 < m := ⟨fun c' hc' => h c' (List.mem_cons_of_mem _ hc'), by have := h c (List.mem_cons_self ..); omega⟩
theorem zrm {d : DFA} {m n : Nat} (hd : DfaOk d m n) : ∀ {w : List UInt8} {x y : Nat}, zvk m w -> z4R d (x ||| y) w = z4R d x w ||| z4R d y w
  | [], x, y, _ => rfl
  | c :: w, x, y, hw => by
    obtain ⟨h1, h2⟩ := zmd hw
    simp only [z4R]
    rw [zy5 hd h2, zrm hd h1]
theorem zy4 {d : DFA} {m n : Nat} (hd : DfaOk d m n) (hn : n <= 7) {s a : Nat} (hs : s < 2 ^ n) (ha : a < m) : szN (mvN d s a) <= szN s := by
  have h128 : 2 ^ n <= 128 := Nat.pow_le_pow_right (n := 2) (by omega) hn
  have key : ∀ q, q <= n -> szN (zk8 d.next s a q) <= z4z (fun q => s.testBit q) q := by
    intro q
    induction q with
    | zero => intro _; exact (by decide : szN 0 <= 0)
    | succ q ih =>
      intro hq
      have hlt := zeV hd (s := s) ha q (by omega)
      obtain ⟨h1, h2, e, h3, h4⟩ := zcx hd (q := q) (by omega) ha
      simp only [zk8, z4z]
      by_cases hb : s.testBit q = true
      · rw [if_pos hb, if_pos hb]
        have := zqZ (x := zk8 d.next s a q) (p := ((d.next.getD q []).getD a 0).toNat) (by omega) (by rw [e]; omega)
        have := ih (by omega)
        omega
      · rw [if_neg hb, if_neg hb]
        have := ih (by omega)
        omega
  have h1 := key n (Nat.le_refl _)
  have h2 : z4z (fun q => s.testBit q) n <= szN s := by
    rw [z8z]
    have : ∀ j, z4z (fun q => s.testBit q) n <= z4z (fun q => s.testBit q) (n + j) := by
      intro j
      induction j with
      | zero => exact Nat.le_refl _
      | succ j ih => rw [← Nat.add_assoc]; simp only [z4z]; omega
    have := this (7 - n)
    rwa [show n + (7 - n) = 7 by omega] at this
  unfold mvN
  rw [hd.nl]
  omega
theorem zcw {d : DFA} {m n : Nat} (hd : DfaOk d m n) (hn : n <= 7) : ∀ {w : List UInt8} {s : Nat}, s < 2 ^ n -> zvk m w -> szN (z4R d s w) <= szN s
  | [], s, _, _ => Nat.le_refl _
  | c :: w, s, hs, hw => by
    obtain ⟨h1, h2⟩ := zmd hw
    simp only [z4R]
    exact Nat.le_trans (zcw hd hn (zeW hd h2) h1) (zy4 hd hn hs h2)
theorem zwN {d : DFA} {m n : Nat} (hd : DfaOk d m n) {s a : Nat} (hs : s < 2 ^ n) (h0 : s ≠ 0) (ha : a < m) : mvN d s a ≠ 0 := by
  obtain ⟨q, hq⟩ : ∃ q, s.testBit q = true := Nat.exists_testBit_of_ne_zero h0
  have hqn : q < n := by
    rcases Nat.lt_or_ge q n with h' | h'
    · exact h'
    · have : s.testBit q = false := Nat.testBit_lt_two_pow (Nat.lt_of_lt_of_le hs (Nat.pow_le_pow_right (n := 2) (by omega) h'))
      rw [this] at hq; cases hq
  intro h
  have := (z8u hd ha (s := s) ((d.next.getD q []).getD a 0).toNat).2 ⟨q, hqn, hq, rfl⟩
  rw [h, Nat.zero_testBit] at this
  cases this
theorem zn5 {d : DFA} {m n : Nat} (hd : DfaOk d m n) {x : Nat} (hx : x ∈ z2E d m n) : x ≠ 0 := by
  have hp := Nat.two_pow_pos n
  have h2n : 2 <= 2 ^ n := by have := Nat.pow_le_pow_right (n := 2) (by omega) hd.n1; omega
  have hf : 2 ^ n - 1 < 2 ^ n := by omega
  have hi := z4a hd hf
  obtain ⟨_, h2, _⟩ := z5u hi.nd n
  have hpm := z9F (z7K (z0J d m n (2 ^ n - 1)).1 n)
  rcases (h2 x).1 (hpm.mem_iff.1 hx) with h | ⟨i, _, rfl⟩
  · obtain ⟨i, hil, rfl⟩ := List.getElem_of_mem h
    obtain ⟨_, o2, o3⟩ := hi.ok i hil
    rw [List.getD, List.getD, List.getElem?_eq_getElem hil, Option.getD_some] at o3
    rw [← o3]
    have : ∀ {w : List UInt8} {s : Nat}, s < 2 ^ n -> s ≠ 0 -> zvk m w -> z4R d s w ≠ 0 := by
      intro w
      induction w with
      | nil => intro s _ h0 _; exact h0
      | cons c w ih =>
        intro s hs h0 hw
        obtain ⟨q1, q2⟩ := zmd hw
        exact ih (zeW hd q2) (zwN hd hs h0 q2) q1
    exact this hf (by omega) o2
  · exact Nat.ne_of_gt (Nat.two_pow_pos i)
theorem zaw {S : List Nat} {i j : Nat} : j ∈ z9U S i ↔ j < S.length /\ j ≠ i /\ z7L (S.getD j 0) (S.getD i 0) := by
  unfold z9U zd1 z7L
  rw [List.mem_filter, List.mem_range]
  simp
theorem zmY {S : List Nat} {i j : Nat} : zeE S i j = true ↔ ∀ k, k ∈ z9U S i -> k ≠ j -> ¬ z7L (S.getD j 0) (S.getD k 0) := by
  unfold zeE z7L
  rw [List.all_eq_true]
  constructor
  · intro h k hk hne hs
    have := h k hk
    simp only [Bool.or_eq_true, decide_eq_true_eq, Bool.not_eq_true', decide_eq_false_iff_not] at this
    exact this.elim hne fun hh => hh hs
  · intro h k hk
    simp only [Bool.or_eq_true, decide_eq_true_eq, Bool.not_eq_true', decide_eq_false_iff_not]
    by_cases e : k = j
    · exact .inl e
    · exact .inr (h k hk e)
theorem zlT {S : List Nat} {i j : Nat} (hz : szN (S.getD i 0) ≠ 1) : j ∈ z7D S i ↔ j ∈ z9U S i /\ zeE S i j = true := by
  unfold z7D
  rw [if_neg hz, List.mem_filter]
theorem zcs {S : List Nat} {i j : Nat} (h : j ∈ z7D S i) : j ∈ z9U S i /\ zeE S i j = true /\ szN (S.getD i 0) ≠ 1 := by
  by_cases hz : szN (S.getD i 0) = 1
  · unfold z7D at h; rw [if_pos hz] at h; simp at h
  · exact ⟨((zlT hz).1 h).1, ((zlT hz).1 h).2, hz⟩
theorem zqW (S : List Nat) (i : Nat) : (z7D S i).Nodup := by
  unfold z7D
  split
  · simp
  · exact List.Pairwise.filter _ (List.Pairwise.filter _ List.nodup_range)
theorem zqX {d : DFA} {m n : Nat} (hn : n <= 7) {S : List Nat} (hS : SetsP d m n S) {i k : Nat} (hi : i < S.length) (h : k ∈ z7D S i) : i < k /\ k < S.length /\ z7L (S.getD k 0) (S.getD i 0) /\ S.getD k 0 ≠ S.getD i 0 := by
  have h128 : 2 ^ n <= 128 := Nat.pow_le_pow_right (n := 2) (by omega) hn
  obtain ⟨h1, _, _⟩ := zcs h
  obtain ⟨hk, hne, hs⟩ := zaw.1 h1
  have hx : S.getD k 0 ≠ S.getD i 0 := fun e => hne (zax hS.nd hk hi e)
  refine ⟨?_, hk, hs, hx⟩
  have hlt := zwl (by have := hS.lt _ (z0p hi); omega) hs hx
  rcases Nat.lt_trichotomy i k with h' | h' | h'
  · exact h'
  · exact absurd h'.symm hne
  · have := List.pairwise_iff_getElem.1 hS.srt k i hk hi h'
    rw [zaB] at this
    rw [List.getD, List.getD, List.getElem?_eq_getElem hk, List.getElem?_eq_getElem hi, Option.getD_some, Option.getD_some] at hlt
    omega
theorem znu {N : Nat} {b : Nat -> Nat -> Bool} (hb : BelN N b) {z : Nat -> Bool} (hz : ∀ i k, i < N -> k < N -> z k = true -> b i k = true -> z i = true) {i k : Nat} (hi : i < N) (hk : k < N) (h : b i k = true) : zii N b z i <= zii N b z k := by
  rw [zhh hb z i hi]
  split
  · omega
  · rename_i hzi
    have hzk : ¬ z k = true := fun hh => hzi (hz i k hi hk hh h)
    rw [zhh hb z k hk, if_neg hzk]
    refine z8v fun j hj => ?_
    by_cases hs : sbN b j i = true
    · rw [if_pos hs]
      have hsk : sbN b j k = true := by
        simp only [sbN, Bool.and_eq_true, Bool.not_eq_true'] at hs ⊢
        refine ⟨hb.trans j i k hj hi hk hs.1 h, ?_⟩
        cases hkj : b k j with
        | false => rfl
        | true =>
          have := hb.trans i k j hi hk hj h hkj
          rw [this] at hs; cases hs.2
      have := znh (g := fun j => if sbN b j k = true then zii N b z j + 1 else 0) hj
      simp only [hsk, if_true] at this
      exact this
    · rw [if_neg hs]; omega
theorem zsy {d : DFA} {m n : Nat} (hd : DfaOk d m n) (hn : n <= 7) {i k : Nat} (hi : i < (z2E d m n).length) (hk : k < (z2E d m n).length) (hz : z8g (z2E d m n) k = true) (h : z2W d m n (z2E d m n) i k = true) : z8g (z2E d m n) i = true := by
  have hS := z8r hd
  have h128 : 2 ^ n <= 128 := Nat.pow_le_pow_right (n := 2) (by omega) hn
  obtain ⟨w, h1, h2⟩ := (z3S hd hS hk).1 h
  have hkl := hS.lt _ (z0p hk)
  simp only [z8g, decide_eq_true_eq] at hz ⊢
  have a1 := zlV h2
  have a2 := zcw hd hn hkl h1
  have h0 := zn5 hd (z0p hi)
  have : 1 <= szN ((z2E d m n).getD i 0) := by
    obtain ⟨q, hq⟩ := Nat.exists_testBit_of_ne_zero h0
    have hil := hS.lt _ (z0p hi)
    have := zfn (p := fun _ => false) (q := fun q => ((z2E d m n).getD i 0).testBit q) (k := 7) (i := q) (fun j _ hf => by simp at hf) (zAL (by omega) hq) rfl hq
    rw [z8z]; omega
  omega
end
section
open Go
set_option maxRecDepth 100000
theorem zt3 {A K : Nat} (h : z7L A K) : szN A + szN (K ^^^ A) = szN K := by
  rw [z8z, z8z, z8z]
  have hb := z2n.1 h
  have : ∀ k, z4z (fun q => A.testBit q) k + z4z (fun q => (K ^^^ A).testBit q) k = z4z (fun q => K.testBit q) k := by
    intro k
    induction k with
    | zero => simp [z4z]
    | succ k ih =>
      have h1 := hb k
      simp only [z4z]
      have h2 : (K ^^^ A).testBit k = (K.testBit k ^^ A.testBit k) := Nat.testBit_xor ..
      have h3 : ∀ a b c : Bool, (a = true -> b = true) -> c = (b ^^ a) -> (if a = true then 1 else 0) + (if c = true then 1 else 0) = (if b = true then 1 else 0) := by decide
      have := h3 _ _ _ h1 h2
      omega
  exact this 7
theorem zul {A K : Nat} (h : z7L A K) : A ||| (K ^^^ A) = K := by
  apply Nat.eq_of_testBit_eq
  intro q
  have h1 := z2n.1 h q
  rw [Nat.testBit_or, Nat.testBit_xor]
  revert h1
  cases A.testBit q <;> cases K.testBit q <;> simp
theorem zr2 {A K : Nat} (h : z7L A K) : A <= K := by
  unfold z7L at h; rw [← h]; exact Nat.and_le_right
theorem zt6 (A B : Nat) : z7L A (A ||| B) := z2n.2 fun q hq => by rw [Nat.testBit_or, hq]; rfl
theorem zn1 (A B : Nat) : z7L B (A ||| B) := z2n.2 fun q hq => by rw [Nat.testBit_or, hq, Bool.or_true]
theorem zk5 {A B : Nat} (h : z7L A B) : A ||| B = B := z8J (z2n.2 fun q hq => by
  rw [Nat.testBit_or, Bool.or_eq_true] at hq
  exact hq.elim (z2n.1 h q) id) (zn1 A B)
theorem zwm {A B K : Nat} (h1 : z7L A K) (h2 : z7L B K) : z7L (A ||| B) K := z2n.2 fun q hq => by
  rw [Nat.testBit_or, Bool.or_eq_true] at hq
  exact hq.elim (z2n.1 h1 q) (z2n.1 h2 q)
structure Lead (d : DFA) (m n K I : Nat) (w : List UInt8) : Prop where
  hw : zvk m w
  hK : K < 2 ^ n
  hI : I < 2 ^ n
  run : z4R d K w = I
  sz : szN I = szN K
theorem zmf {d : DFA} {m n : Nat} (hd : DfaOk d m n) (hn : n <= 7) {K I : Nat} {w : List UInt8} (h : Lead d m n K I w) {A : Nat} (hA : z7L A K) : szN (z4R d A w) = szN A := by
  have h128 : 2 ^ n <= 128 := Nat.pow_le_pow_right (n := 2) (by omega) hn
  have hAK := zr2 hA
  have hK := h.hK
  have hB : z7L (K ^^^ A) K := by
    have := zul hA
    rw [← this]; rw [this]; rw [← this]
    exact (by rw [this]; exact (by
      refine z2n.2 fun q hq => ?_
      rw [Nat.testBit_xor] at hq
      have h1 := z2n.1 hA q
      revert hq h1
      cases A.testBit q <;> cases K.testBit q <;> simp))
  have hBl := zr2 hB
  have e1 := zrm hd (x := A) (y := K ^^^ A) h.hw
  rw [zul hA, h.run] at e1
  have l1 := zeN hd (s := A) (w := w) (by omega) h.hw
  have l2 := zeN hd (s := K ^^^ A) (w := w) (by omega) h.hw
  have s1 := zxO (x := z4R d A w) (y := z4R d (K ^^^ A) w) (by omega) (by omega)
  rw [← e1, h.sz] at s1
  have s2 := zcw hd hn (s := K ^^^ A) (by omega) h.hw
  have s3 := zcw hd hn (s := A) (by omega) h.hw
  have s4 := zt3 hA
  omega
theorem zhN {d : DFA} {m n : Nat} (hd : DfaOk d m n) (hn : n <= 7) {K I : Nat} {w : List UInt8} (h : Lead d m n K I w) {A B : Nat} (hA : z7L A K) (hB : z7L B K) (hs : z7L (z4R d A w) (z4R d B w)) : z7L A B := by
  have h128 : 2 ^ n <= 128 := Nat.pow_le_pow_right (n := 2) (by omega) hn
  have hK := h.hK
  have hAB := zwm hA hB
  have hl := zr2 hAB
  have e1 := zmf hd hn h hAB
  rw [zrm hd h.hw, zk5 hs, zmf hd hn h hB] at e1
  have := zuP (a := B) (b := A ||| B) (by omega) (zn1 A B) (by omega)
  rw [this]
  exact zt6 A B
theorem znm {d : DFA} {m n : Nat} (hd : DfaOk d m n) (hn : n <= 7) {K I : Nat} {w : List UInt8} (h : Lead d m n K I w) {A B : Nat} (hA : z7L A K) (hB : z7L B K) (he : z4R d A w = z4R d B w) : A = B :=
  z8J (zhN hd hn h hA hB (by rw [he]; exact zht _)) (zhN hd hn h hB hA (by rw [he]; exact zht _))
theorem zt4 {α β : Type} {l : List α} {r : List β} {f : α -> β} (hl : (l.map f).Nodup) (hs : ∀ x ∈ l.map f, x ∈ r) (hle : r.length <= l.length) {u : β} (hu : u ∈ r) : u ∈ l.map f := by
  refine Classical.byContradiction fun hn => ?_
  have := zhM (l := u :: l.map f) (r := r) (List.nodup_cons.2 ⟨hn, hl⟩) fun x hx => by
    rcases List.mem_cons.1 hx with rfl | hx
    · exact hu
    · exact hs x hx
  rw [List.length_cons, List.length_map] at this
  omega
theorem zeU {α β : Type} {l : List α} {f : α -> β} (hl : l.Nodup) (hf : ∀ x ∈ l, ∀ y ∈ l, f x = f y -> x = y) : (l.map f).Nodup := by
  induction l with
  | nil => simp
  | cons a l ih =>
    rw [List.nodup_cons] at hl
    rw [List.map_cons, List.nodup_cons]
    refine ⟨fun h => ?_, ih hl.2 fun x hx y hy => hf x (List.mem_cons_of_mem _ hx) y (List.mem_cons_of_mem _ hy)⟩
    obtain ⟨x, hx, he⟩ := List.mem_map.1 h
    have := hf x (List.mem_cons_of_mem _ hx) a (List.mem_cons_self ..) he
    exact hl.1 (this ▸ hx)
section
variable {d : DFA} {m n : Nat} {S : List Nat} (hd : DfaOk d m n) (hn : n <= 7) (hS : SetsP d m n S)
include hd hn hS
theorem zrZ {k i : Nat} (hk : k < S.length) (hi : i < S.length) {w : List UInt8} (h : Lead d m n (S.getD k 0) (S.getD i 0) w) :
    (∀ j ∈ z9U S k, S.idxOf (z4R d (S.getD j 0) w) ∈ z9U S i /\ S.getD (S.idxOf (z4R d (S.getD j 0) w)) 0 = z4R d (S.getD j 0) w) /\ ((z9U S k).map fun j => S.idxOf (z4R d (S.getD j 0) w)).Nodup := by
  have h128 : 2 ^ n <= 128 := Nat.pow_le_pow_right (n := 2) (by omega) hn
  have hmem : ∀ j, j < S.length -> z4R d (S.getD j 0) w ∈ S := fun j hj => zn6 hS h.hw (z0p hj)
  refine ⟨fun j hj => ?_, zeU (List.Pairwise.filter _ List.nodup_range) fun x hx y hy e => ?_⟩
  · obtain ⟨h1, h2, h3⟩ := zaw.1 hj
    have hg := z3H (hmem j h1)
    refine ⟨zaw.2 ⟨z7A (hmem j h1), fun e => ?_, ?_⟩, hg⟩
    · rw [e] at hg
      have s1 := zmf hd hn h h3
      rw [← hg, h.sz] at s1
      have := zuP (a := S.getD j 0) (b := S.getD k 0) (by have := h.hK; omega) h3 (by omega)
      exact h2 (zax hS.nd h1 hk this)
    · rw [hg, ← h.run]
      exact zhz hd h.hw h3
  · obtain ⟨h1, h2, h3⟩ := zaw.1 hx
    obtain ⟨k1, k2, k3⟩ := zaw.1 hy
    have e2 : z4R d (S.getD x 0) w = z4R d (S.getD y 0) w := by
      rw [← z3H (hmem x h1), ← z3H (hmem y k1)]
      exact congrArg (fun q => S.getD q 0) e
    exact zax hS.nd h1 k1 (znm hd hn h h3 k3 e2)
theorem zvs {k i : Nat} (hk : k < S.length) (hi : i < S.length) {w : List UInt8} (h : Lead d m n (S.getD k 0) (S.getD i 0) w) : (z9U S k).length <= (z9U S i).length := by
  obtain ⟨h1, h2⟩ := zrZ hd hn hS hk hi h
  have := zhM h2 (r := z9U S i) fun x hx => by
    obtain ⟨j, hj, rfl⟩ := List.mem_map.1 hx
    exact (h1 j hj).1
  simpa using this
theorem zuN {k i : Nat} (hk : k < S.length) (hi : i < S.length) {w v : List UInt8} (h : Lead d m n (S.getD k 0) (S.getD i 0) w) (h' : Lead d m n (S.getD i 0) (S.getD k 0) v) {t : Nat} (ht : t ∈ z7D S k) : S.idxOf (z4R d (S.getD t 0) w) ∈ z7D S i := by
  obtain ⟨h1, h2⟩ := zrZ hd hn hS hk hi h
  obtain ⟨t1, t2, t3⟩ := zcs ht
  have hz : szN (S.getD i 0) ≠ 1 := by rw [h.sz]; exact t3
  refine (zlT hz).2 ⟨(h1 t t1).1, zmY.2 fun u hu hne hs => ?_⟩
  have hsur := zt4 (l := z9U S k) (r := z9U S i) h2 (fun x hx => by
    obtain ⟨j, hj, rfl⟩ := List.mem_map.1 hx
    exact (h1 j hj).1) (zvs hd hn hS hi hk h') hu
  obtain ⟨j, hj, rfl⟩ := List.mem_map.1 hsur
  rw [(h1 t t1).2, (h1 j hj).2] at hs
  have hsub := zhN hd hn h (zaw.1 t1).2.2 (zaw.1 hj).2.2 hs
  exact zmY.1 t2 j hj (fun e => hne (by rw [e])) hsub
theorem zdm {k i : Nat} (hk : k < S.length) (hi : i < S.length) (he : z1F d m n S i k = true) : szN (S.getD i 0) = szN (S.getD k 0) /\ S.getD i 0 ∈ (z0J d m n (S.getD k 0)).1 := by
  have h128 : 2 ^ n <= 128 := Nat.pow_le_pow_right (n := 2) (by omega) hn
  simp only [z1F, Bool.and_eq_true] at he
  obtain ⟨w, w1, w2⟩ := (z3S hd hS hk).1 he.1
  obtain ⟨v, v1, v2⟩ := (z3S hd hS hi).1 he.2
  have hkl := hS.lt _ (z0p hk)
  have hil := hS.lt _ (z0p hi)
  have a1 := zlV w2
  have a2 := zcw hd hn hkl w1
  have a3 := zlV v2
  have a4 := zcw hd hn hil v1
  refine ⟨by omega, ?_⟩
  have hrl := zeN hd hkl w1
  have := zuP (by omega) w2 (by omega)
  rw [this]
  exact zeO hd hkl w1 (zcz hd hkl)
omit hn hS in
theorem zio {s x : Nat} (hs : s < 2 ^ n) (hx : x ∈ (z0J d m n s).1) : zvk m (z5I (z0J d m n s) x).data.toList /\ (z5I (z0J d m n s) x).size <= 2 ^ n /\ z4R d s (z5I (z0J d m n s) x).data.toList = x := by
  have hi := z4a hd hs
  have hl := z0z hi.nd hi.lt
  have hlt := z7A hx
  obtain ⟨o1, o2, o3⟩ := hi.ok _ hlt
  unfold z5I
  exact ⟨o2, by omega, by rw [o3, z3H hx]⟩
end
end
end Go.Proofs.Ytodliknibbafeaa
