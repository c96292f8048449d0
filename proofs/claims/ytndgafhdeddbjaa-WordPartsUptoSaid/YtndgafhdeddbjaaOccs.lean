/- Plain facts on occurrences of subwords. No program. -/
namespace Go.Proofs.Ytndgafhdeddbjaa

/-- How often the first list, read backwards, is a subword of the second, read backwards. -/
def cnt : List UInt8 → List UInt8 → Nat
  | [], _ => 1
  | _ :: _, [] => 0
  | a :: u, b :: w => cnt (a :: u) w + if a = b then cnt u w else 0

/-- How often u is a subword of w. -/
def occ (u w : List UInt8) : Nat := cnt u.reverse w.reverse

theorem cnt_nil (w : List UInt8) : cnt [] w = 1 := by cases w <;> rfl

theorem occ_nil (w : List UInt8) : occ [] w = 1 := by simp [occ, cnt_nil]

theorem occ_snoc (u w : List UInt8) (a b : UInt8) : occ (u ++ [a]) (w ++ [b]) = occ (u ++ [a]) w + if a = b then occ u w else 0 := by
  simp [occ, cnt]

theorem occ_snoc_nil (u : List UInt8) (a : UInt8) : occ (u ++ [a]) [] = 0 := by simp [occ, cnt]

theorem cnt_short : ∀ (u w : List UInt8), w.length < u.length → cnt u w = 0
  | [], w, h => by simp at h
  | _ :: _, [], _ => rfl
  | a :: u, b :: w, h => by
    simp only [List.length_cons] at h
    rw [cnt, cnt_short (a :: u) w (by simp only [List.length_cons]; omega), cnt_short u w (by omega)]
    simp

theorem occ_short (u w : List UInt8) (h : w.length < u.length) : occ u w = 0 := cnt_short _ _ (by simpa using h)

/-- The counters after i letters of w: of the prefix of u of length j. -/
def tab (u w : List UInt8) (m i j : Nat) : Nat := occ (u.take j) (w.take i) % m

theorem tab_first (u w : List UInt8) (m i : Nat) : tab u w m i 0 = 1 % m := by simp [tab, occ_nil]

theorem tab_start (u w : List UInt8) (m j : Nat) (h : j < u.length) : tab u w m 0 (j + 1) = 0 := by
  simp only [tab, List.take_zero, List.take_succ_eq_append_getElem h, occ_snoc_nil]
  exact Nat.zero_mod _

theorem tab_step (u w : List UInt8) (m i j : Nat) (hi : i < w.length) (hj : j < u.length) :
    tab u w m (i + 1) (j + 1) = if u[j] = w[i] then (tab u w m i (j + 1) + tab u w m i j) % m else tab u w m i (j + 1) := by
  simp only [tab, List.take_succ_eq_append_getElem hj, List.take_succ_eq_append_getElem hi, occ_snoc]
  split
  · rw [Nat.add_mod]
  · simp

theorem tab_lt (u w : List UInt8) (m i j : Nat) (hm : 1 ≤ m) : tab u w m i j < m := Nat.mod_lt _ (by omega)

theorem tab_end (u w : List UInt8) (m : Nat) : tab u w m w.length u.length = occ u w % m := by simp [tab]

/-- What the functions answer. -/
def occM (u w : List UInt8) (m : Int) : Nat := if 1 ≤ m ∧ m ≤ 2147483648 then occ u w % m.toNat else 0

/-- Pascal's rule, and concatenations. -/
theorem cnt_append : ∀ (u w v : List UInt8), cnt u (w ++ v) = ((List.range (u.length + 1)).map fun i => cnt (u.take i) w * cnt (u.drop i) v).sum
  | [], w, v => by simp [cnt_nil]
  | a :: u, [], v => by
    rw [List.nil_append, List.length_cons, List.range_succ_eq_map, List.map_cons, List.sum_cons]
    have : (List.map (fun i => cnt (List.take i (a :: u)) [] * cnt (List.drop i (a :: u)) v) (List.map Nat.succ (List.range (u.length + 1)))).sum = 0 := by
      rw [List.map_map]
      apply List.sum_eq_zero_iff_forall_eq_nat.2
      intro x hx
      obtain ⟨i, _, rfl⟩ := List.mem_map.1 hx
      simp [cnt]
    rw [this]
    simp [cnt_nil]
  | a :: u, b :: w, v => by
    have h1 := cnt_append (a :: u) w v
    have h2 := cnt_append u w v
    rw [List.length_cons] at h1
    rw [List.cons_append, cnt, h1, List.length_cons]
    rw [List.range_succ_eq_map (n := u.length + 1)]
    simp only [List.map_cons, List.sum_cons, List.map_map, List.take_zero, cnt_nil, List.drop_zero]
    have hs : ∀ (l : List Nat) (f g h : Nat → Nat), (∀ x, f x = g x + h x) → (l.map f).sum = (l.map g).sum + (l.map h).sum := by
      intro l f g h hf
      induction l with
      | nil => rfl
      | cons x l ih => simp only [List.map_cons, List.sum_cons, ih, hf]; omega
    rw [hs (List.range (u.length + 1)) ((fun i => cnt (List.take i (a :: u)) (b :: w) * cnt (List.drop i (a :: u)) v) ∘ Nat.succ)
      ((fun i => cnt (List.take i (a :: u)) w * cnt (List.drop i (a :: u)) v) ∘ Nat.succ)
      (fun i => if a = b then cnt (u.take i) w * cnt (u.drop i) v else 0) (fun i => by
        simp only [Function.comp, Nat.succ_eq_add_one, List.take_succ_cons, List.drop_succ_cons, cnt]
        split
        · rw [Nat.add_mul]
        · simp)]
    split
    · rw [h2]; omega
    · have : ∀ l : List Nat, (l.map fun _ => 0).sum = 0 := by
        intro l; induction l with
        | nil => rfl
        | cons x l ih => simp [ih]
      rw [this]; omega

theorem occ_append (u v w : List UInt8) : occ u (v ++ w) = ((List.range (u.length + 1)).map fun i => occ (u.take i) v * occ (u.drop i) w).sum := by
  unfold occ
  rw [List.reverse_append, cnt_append]
  simp only [List.length_reverse]
  have hrev : ∀ (n : Nat) (f : Nat → Nat), ((List.range (n + 1)).map f).sum = ((List.range (n + 1)).map fun i => f (n - i)).sum := by
    intro n f
    have e : (List.range (n + 1)).map (fun i => f (n - i)) = ((List.range (n + 1)).map f).reverse := by
      apply List.ext_getElem
      · simp
      · intro i h1 h2
        simp at h1
        simp [List.getElem_reverse]
    rw [e, List.sum_reverse]
  rw [hrev u.length]
  congr 1
  apply List.map_congr_left
  intro i hi
  have hi' : i ≤ u.length := by simp at hi; omega
  rw [Nat.mul_comm]
  have e1 : u.reverse.take (u.length - i) = (u.drop i).reverse := by
    rw [List.reverse_drop]
  have e2 : u.reverse.drop (u.length - i) = (u.take i).reverse := by
    rw [List.reverse_take]
  rw [e1, e2]

end Go.Proofs.Ytndgafhdeddbjaa
