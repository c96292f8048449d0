/- Proved here: a part of the proof of the law at hand, in one text: no condition. -/
import Derived.Test.YthalofddjlhcjaaDoorMCC4
set_option linter.unusedVariables false
set_option linter.unusedSimpArgs false
namespace Go.Proofs.YthalofddjlhcjaaDoor
section
def ziu (rows : List CRow) (p : List Int) : Nat := (rows.takeWhile fun r => decide (z8e r.pre p < 0)).length
def ze4 (rows : List CRow) (p : List Int) : Bool := rows.any fun r => decide (r.pre = p)
def zlr (rows : List CRow) (p : List Int) (i : Nat) (b : Bool) : Prop := i = ziu rows p /\ b = ze4 rows p
theorem z8n {α : Type} (q : α -> Bool) : ∀ (l : List α) (i : Nat), i <= l.length -> (∀ k (h : k < l.length), k < i -> q l[k] = true) -> (∀ h : i < l.length, q l[i] = false) -> (l.takeWhile q).length = i
  | [], i, hi, _, _ => by simp at hi; simp [hi]
  | a :: l, 0, _, _, h2 => by
    have := h2 (by simp)
    simp at this
    simp [List.takeWhile_cons, this]
  | a :: l, i + 1, hi, h1, h2 => by
    have e := h1 0 (by simp) (by omega)
    simp at e
    have ih := z8n q l i (by simpa using hi) (fun k h hk => by have := h1 (k + 1) (by simpa using h) (by omega); simpa using this) (fun h => by have := h2 (by simpa using h); simpa using this)
    simp [List.takeWhile_cons, e, ih]
theorem zbK (rows : List CRow) (p : List Int) : ze4 rows p = true ↔ ∃ j, ∃ h : j < rows.length, rows[j].pre = p := by
  unfold ze4
  rw [List.any_eq_true]
  constructor
  · rintro ⟨r, hr, e⟩
    obtain ⟨j, hj, rfl⟩ := List.getElem_of_mem hr
    exact ⟨j, hj, of_decide_eq_true e⟩
  · rintro ⟨j, hj, e⟩
    exact ⟨rows[j], List.getElem_mem _, decide_eq_true e⟩
def z6F (rows : List CRow) (p : List Int) (i j : Nat) : Prop :=
  (∀ k (h : k < rows.length), k < i -> z8e rows[k].pre p < 0) /\ (∀ k (h : k < rows.length), j <= k -> ¬ z8e rows[k].pre p < 0)
theorem zgC {rows : List CRow} (hu : UpR rows) {p : List Int} {i j k : Nat} (h : z6F rows p i j) (hk : k < rows.length) (hc : z8e rows[k].pre p < 0) : z6F rows p (k + 1) j :=
  ⟨fun l hl hlk => by
    by_cases e : l = k
    · subst e; exact hc
    · exact z7B _ _ _ (hu l k hl hk (by omega)) hc, h.2⟩
theorem zdo {rows : List CRow} (hu : UpR rows) {p : List Int} {i j k : Nat} (h : z6F rows p i j) (hk : k < rows.length) (hc : ¬ z8e rows[k].pre p < 0) : z6F rows p i k :=
  ⟨h.1, fun l hl hlk => by
    by_cases e : l = k
    · subst e; exact hc
    · exact fun h' => hc (z7B _ _ _ (hu k l hk hl (by omega)) h')⟩
theorem zeR {rows : List CRow} {p : List Int} {i : Nat} (h : z6F rows p i i) (hi : i <= rows.length) : ziu rows p = i :=
  z8n _ rows i hi (fun k hk hki => decide_eq_true (h.1 k hk hki)) (fun hk => decide_eq_false (h.2 i hk (Nat.le_refl _)))
theorem zj1 {rows : List CRow} (hu : UpR rows) {p : List Int} {i : Nat} (h : z6F rows p i i) (hi : i < rows.length) : zlr rows p i (decide (z8e rows[i].pre p = 0)) := by
  refine ⟨(zeR h (by omega)).symm, ?_⟩
  rw [Bool.eq_iff_iff, decide_eq_true_iff, zbK]
  constructor
  · exact fun e => ⟨i, hi, (z5D _ _).1 e⟩
  · rintro ⟨j, hj, e⟩
    rcases Nat.lt_trichotomy j i with hl | hl | hl
    · have := h.1 j hj hl; rw [(z5D _ _).2 e] at this; omega
    · subst hl; exact (z5D _ _).2 e
    · have := hu i j hi hj hl
      rw [e] at this
      exact absurd this (h.2 i hi (Nat.le_refl _))
theorem zgs {rows : List CRow} {p : List Int} {i : Nat} (h : z6F rows p i i) (hi : ¬ i < rows.length) (hi2 : i <= rows.length) : zlr rows p i false := by
  refine ⟨(zeR h hi2).symm, ?_⟩
  rw [eq_comm, ← Bool.not_eq_true, zbK]
  rintro ⟨j, hj, e⟩
  have := h.1 j hj (by omega)
  rw [(z5D _ _).2 e] at this
  omega
theorem zdZ {rows : List CRow} (hu : UpR rows) {p : List Int} (h : ze4 rows p = true) : ∃ hl : ziu rows p < rows.length, rows[ziu rows p].pre = p := by
  obtain ⟨j, hj, e⟩ := (zbK _ _).1 h
  have hb : z6F rows p j j := ⟨fun k hk hkj => by rw [← e]; exact hu k j hk hj hkj, fun k hk hjk => by
    by_cases ek : k = j
    · subst ek; rw [(z5D _ _).2 e]; omega
    · intro hlt
      have := hu j k hj hk (by omega)
      rw [e] at this
      have h2 := z7B _ _ _ this hlt
      rw [(z5D p p).2 rfl] at h2
      omega⟩
  have hl := zeR hb (by omega)
  exact ⟨by omega, by simp only [hl]; exact e⟩
end
section
def zfT (c : Casc) (p : List Int) : Option Nat := c.rows.findIdx? fun r => decide (r.pre = p)
def zfP (c : Casc) (x : List Int) (l : Nat) (i : Nat) : Int := match zfT c (x.take i) with
  | some k => ((c.rows.getD k ⟨[], []⟩).maps.getD l []).getD (x.getD i 0).toNat 0
  | none => 0
def stV (c : Casc) (x : List Int) (l : Nat) : List Int := (List.range x.length).map (zfP c x l)
def zkM (c : Casc) (x : List Int) : Bool := (List.range x.length).all fun i => ze4 c.rows (x.take i)
def z6a (c : Casc) (x : List Int) (l : Int) : List Int × Int :=
  if z7R c.sizes x = true /\ 0 <= l /\ l < c.letters then (if zkM c x = true then (stV c x l.toNat, 0) else ([], 23)) else ([], 1)
theorem zcv {c : Casc} (hu : UpR c.rows) {p : List Int} (h : ze4 c.rows p = true) : zfT c p = some (ziu c.rows p) := by
  obtain ⟨hl, e⟩ := zdZ hu h
  unfold zfT
  rw [List.findIdx?_eq_some_iff_getElem]
  refine ⟨hl, by simpa using e, fun j hj => ?_⟩
  intro hh
  have e2 : c.rows[j].pre = p := by simpa using hh
  have := hu j _ (by omega) hl hj
  rw [e, e2, (z5D p p).2 rfl] at this
  omega
theorem zfS {c : Casc} {p : List Int} (h : ze4 c.rows p = false) : zfT c p = none := by
  unfold zfT
  rw [List.findIdx?_eq_none_iff]
  intro r hr
  rw [← Bool.not_eq_true]
  intro e
  rw [← Bool.not_eq_true] at h
  apply h
  unfold ze4
  rw [List.any_eq_true]
  exact ⟨r, hr, e⟩
theorem z2J (c : Casc) (x : List Int) (l : Nat) : (stV c x l).length = x.length := by simp [stV]
theorem zdE (c : Casc) (x : List Int) (l i : Nat) (h : i < x.length) : (stV c x l)[i]? = some (zfP c x l i) := by
  simp [stV, h]
theorem z9T {c : Casc} (hv : Valid c) {x : List Int} (hx : z7R c.sizes x = true) {l k : Nat} (hl : (l : Int) < c.letters) (hk : k < x.length) (hh : ze4 c.rows (x.take k) = true) :
    ∃ (low s : Nat) (h1 : low < c.rows.length) (h2 : l < c.rows[low].maps.length) (h3 : s < c.rows[low].maps[l].length), ziu c.rows (x.take k) = low /\ x[k] = s /\ zfP c x l k = c.rows[low].maps[l][s] := by
  obtain ⟨h1, e1⟩ := zdZ hv.up hh
  obtain ⟨f1, f2, f3, f4⟩ := z6b (hv.row _ h1)
  have h2 : l < c.rows[ziu c.rows (x.take k)].maps.length := by omega
  have hlen : x.length = c.sizes.length /\ inB c.sizes x = true := by simpa [z7R] using hx
  have hxk := (z4S c.sizes x (by omega)).1 hlen.2 k hk
  rw [z0r 0 hk] at hxk
  obtain ⟨g1, -⟩ := f4 l h2
  rw [z0r _ h2, e1] at g1
  have hpl : (x.take k).length = k := by simp; omega
  rw [hpl] at g1
  obtain ⟨s, hs⟩ := Int.eq_ofNat_of_zero_le hxk.1
  have h3 : s < c.rows[ziu c.rows (x.take k)].maps[l].length := by omega
  refine ⟨_, s, h1, h2, h3, rfl, hs, ?_⟩
  unfold zfP
  rw [zcv hv.up hh]
  simp only
  rw [z0r _ h1, z0r _ h2, z0r 0 hk, hs]
  simp only [Int.toNat_natCast]
  rw [z0r _ h3]
end
section
open Go
theorem z5Y (a b : List Int) (h : a.length < 4611686018427387904) : z1s a b = some (z8e a b) := by
  unfold z1s
  simp only [zbk, zdu _ _ h, Option.bind_some, zns]
  congr 1
  unfold z8e zkj
  split <;> (try split) <;> (try split) <;> simp_all <;> omega
theorem z8X (sz xs : List Int) (h : xs.length < 4611686018427387904) : z1w sz xs = some (z7R sz xs) := by
  unfold z1w z7R
  split
  · rename_i hl
    have hl : xs.length = sz.length := by omega
    rw [z2Y (s := (0 : Int)) xs.length (fun k => (k : Int)) (fun k => !decide (0 <= xs.getD k 0 /\ xs.getD k 0 < sz.getD k 0)) (fun _ => some false) (x := some true) rfl (by simp only [LFm]; omega)]
    · rw [z6D, decide_eq_true hl]
      simp only [Bool.not_not, Bool.true_and]
      congr 1
      cases hb : inB sz xs with
      | true =>
        have := (z4S sz xs (by omega)).1 hb
        rw [if_pos]
        simp only [List.all_eq_true, List.mem_range, decide_eq_true_eq]
        exact this
      | false =>
        rw [if_neg]
        intro hh
        simp only [List.all_eq_true, List.mem_range, decide_eq_true_eq] at hh
        rw [(z4S sz xs (by omega)).2 hh] at hb
        cases hb
    · intro k hk
      simp only [z2U]
      rw [if_pos (by omega), z1b 0 hk, z1E (by omega)]
      simp only [Option.bind_some]
      split
      · rename_i h0
        rw [if_pos]
        simp only [Bool.not_eq_true', decide_eq_false_iff_not]; omega
      · rw [z1b 0 (by omega)]
        simp only [Option.bind_some]
        split
        · rw [if_pos]
          simp only [Bool.not_eq_true', decide_eq_false_iff_not]; omega
        · rw [if_neg]
          simp only [Bool.not_eq_true', decide_eq_false_iff_not]; omega
    · simp [z2U]
  · rename_i hl
    rw [decide_eq_false (by omega)]; rfl
theorem zle (sz xs : List Int) (h : xs.length < 4611686018427387904) (hl : xs.length <= sz.length) : z7o sz xs = some (inB sz xs) := by
  unfold z7o
  rw [z2Y (s := (0 : Int)) xs.length (fun k => (k : Int)) (fun k => !decide (0 <= xs.getD k 0 /\ xs.getD k 0 < sz.getD k 0)) (fun _ => some false) (x := some true) rfl (by simp only [LFm]; omega)]
  · rw [z6D]
    simp only [Bool.not_not]
    congr 1
    cases hb : inB sz xs with
    | true =>
      have := (z4S sz xs (by omega)).1 hb
      rw [if_pos]
      simp only [List.all_eq_true, List.mem_range, decide_eq_true_eq]
      exact this
    | false =>
      rw [if_neg]
      intro hh
      simp only [List.all_eq_true, List.mem_range, decide_eq_true_eq] at hh
      rw [(z4S sz xs (by omega)).2 hh] at hb
      cases hb
  · intro k hk
    simp only [z6w]
    rw [if_pos (by omega), z1b 0 hk, z1E (by omega)]
    simp only [Option.bind_some]
    split
    · rename_i h0
      rw [if_pos]
      simp only [Bool.not_eq_true', decide_eq_false_iff_not]; omega
    · rw [z1b 0 (by omega)]
      simp only [Option.bind_some]
      split
      · rw [if_pos]
        simp only [Bool.not_eq_true', decide_eq_false_iff_not]; omega
      · rw [if_neg]
        simp only [Bool.not_eq_true', decide_eq_false_iff_not]; omega
  · simp [z6w]
theorem zbj (c : Casc) (xs : List Int) (h : xs.length < 4611686018427387904) : z3h c xs = some (z7R c.sizes xs) := by
  unfold z3h z7R
  split
  · rename_i hl
    rw [zle _ _ h (by omega), decide_eq_true (by omega)]; rfl
  · rw [decide_eq_false (by omega)]; rfl
theorem zir (a b : List Int) (h : a.length < 4611686018427387904) : z6e a b = some (decide (z8e a b < 0)) := by
  unfold z6e
  split
  · rename_i hl
    rw [zkq _ _ h, zi7]
    have : z8e a b = z6p a b := by unfold z8e; rw [if_neg (by omega), if_neg (by omega)]
    rw [this]; rfl
  · rename_i hl
    congr 1
    unfold z8e
    split
    · simp_all
    · rw [if_pos (by omega)]; simp_all
def zj4 {α : Type} (p : α -> Bool) (l : List α) : Int := match l.findIdx? p with | some i => (i : Int) | none => -1
theorem ze7 {α : Type} (p : α -> Bool) (l : List α) (d : α) : (match (List.range l.length).find? (fun k => p (l.getD k d)) with | some k => (k : Int) | none => -1) = zj4 p l := by
  unfold zj4
  cases h : (List.range l.length).find? (fun k => p (l.getD k d)) with
  | none =>
    rw [z8J] at h
    have : l.findIdx? p = none := by
      rw [List.findIdx?_eq_none_iff]
      intro x hx
      obtain ⟨i, hi, rfl⟩ := List.getElem_of_mem hx
      have := h i hi
      rwa [z0r _ hi] at this
    rw [this]
  | some k =>
    rw [z8I] at h
    have : l.findIdx? p = some k := by
      rw [List.findIdx?_eq_some_iff_getElem]
      refine ⟨h.1, by have := h.2.1; rwa [z0r _ h.1] at this, fun j hj => ?_⟩
      have := h.2.2 j hj
      rw [z0r _ (by omega)] at this
      simp [this]
    rw [this]
structure CB (c : Casc) : Prop where
  sz : c.sizes.length < 4611686018427387904
  rl : c.rows.length < 4611686018427387904
  row : ∀ r ∈ c.rows, r.pre.length < 4611686018427387904 /\ r.maps.length < 4611686018427387904 /\ ∀ m ∈ r.maps, m.length < 4611686018427387904
theorem zlq (c : Casc) (p : List Int) (h : CB c) : z6Y c p = some (zj4 (fun r => decide (r.pre = p)) c.rows) := by
  unfold z6Y
  have hr := h.rl
  rw [z2Y (s := (0 : Int)) c.rows.length (fun k => (k : Int)) (fun k => decide ((c.rows.getD k ⟨[], []⟩).pre = p)) (fun k => some (k : Int)) (x := some (-1)) rfl (by simp only [LFm]; omega)]
  · rw [← ze7 (fun r => decide (r.pre = p)) c.rows ⟨[], []⟩]
    split <;> rename_i hh <;> simp only [hh]
  · intro k hk
    simp only [z5N]
    rw [if_pos (by omega), z1b ⟨[], []⟩ hk, z1E (by omega)]
    simp only [Option.bind_some]
    rw [zc5 _ _ (by rw [z0r _ hk]; exact (h.row _ (List.getElem_mem hk)).1)]
    simp only [Option.bind_some]
  · simp [z5N]
theorem zeQ {ρ : Type} {b : Int -> Option (Int ⊕ ρ)} {m : List Int} {n : Int} {A B : Option ρ} (h : m.length < 4611686018427387904) (step : ∀ k, (h : k < m.length) -> b (k : Int) = if 0 <= m.getD k 0 /\ m.getD k 0 < n then z0y ((k + 1 : Nat) : Int) else z0t A) (last : b (m.length : Int) = z0t B) :
    z0E b LFm 0 = if (m.all fun s => decide (0 <= s) && decide (s < n)) = true then B else A :=
  za9 0 _ h (fun k hk => by rw [step k hk]; simp only [Bool.and_eq_true, decide_eq_true_eq]) last
theorem zcM {ρ : Type} {b : Int -> Option (Int ⊕ ρ)} {ms : List (List Int)} {n : Int} {A B : Option ρ} (h : ms.length < 4611686018427387904) (step : ∀ k, (h : k < ms.length) -> b (k : Int) = if z9C n (ms.getD k []) = true then z0y ((k + 1 : Nat) : Int) else z0t A) (last : b (ms.length : Int) = z0t B) :
    z0E b LFm 0 = if ms.all (z9C n) = true then B else A := za9 [] _ h step last
theorem zdC (c : Casc) (r : CRow) (h : CB c) (hr : r.pre.length < 4611686018427387904 /\ r.maps.length < 4611686018427387904 /\ ∀ m ∈ r.maps, m.length < 4611686018427387904) : z2G c r = some (z9r c r) := by
  obtain ⟨h1, h2, h3⟩ := hr
  unfold z2G
  split
  · rename_i hp
    rw [zfV c r (by omega)]
  · rename_i hp
    have hp : r.pre.length < c.sizes.length := by omega
    rw [z8t (by omega)]
    simp only [Option.bind_some]
    rw [z8X _ _ h1]
    simp only [Option.bind_some]
    rw [zgV _ _ hp]
    split
    · rename_i hin
      split
      · rename_i hl
        rw [zhp c r hp hin hl]
        rw [zcM (ms := r.maps) (n := c.sizes.getD r.pre.length 0) (A := some false) (B := some true) h2]
        · split <;> simp_all
        · intro k hk
          have hm := h3 _ (List.getElem_mem hk)
          rw [← z0r [] hk] at hm
          generalize hg : r.maps.getD k [] = m at *
          simp only [z2w]
          rw [if_pos (by omega), z1b [] hk, z1b 0 hp, hg]
          simp only [Option.bind_some]
          split
          · rename_i hml
            have hmb : z9C (c.sizes.getD r.pre.length 0) m = m.all fun s => decide (0 <= s) && decide (s < c.sizes.getD r.pre.length 0) := by
              unfold z9C; rw [decide_eq_true hml, Bool.true_and]
            rw [hmb]
            rw [zeQ (m := m) (n := c.sizes.getD r.pre.length 0) (A := z0t (some false)) (B := z0y ((k + 1 : Nat) : Int)) hm]
            · intro j hj
              simp only [z2b]
              rw [if_pos (by omega), z1b 0 hj, z1E (by omega)]
              simp only [Option.bind_some]
              split
              · rw [if_neg (by omega)]
              · rw [z1b 0 hp]
                simp only [Option.bind_some]
                split
                · rw [if_neg (by omega)]
                · rw [if_pos (by omega)]
            · simp only [z2b]
              rw [if_neg (by omega), z1E (by omega)]
          · rename_i hml
            rw [if_neg]
            unfold z9C
            rw [decide_eq_false hml]; simp
        · simp [z2w]
      · rename_i hl
        rw [zcw c r hl]
    · rename_i hin
      rw [zjM c r (by simpa using hin)]
theorem zaZ {ρ : Type} {b : Int -> Option (Int ⊕ ρ)} {m : List Int} {A B : Option ρ} (h : m.length < 4611686018427387904) (step : ∀ k, (h : k < m.length) -> b (k : Int) = if 1 <= m.getD k 0 /\ m.getD k 0 <= 32 then z0y ((k + 1 : Nat) : Int) else z0t A) (last : b (m.length : Int) = z0t B) :
    z0E b LFm 0 = if (m.all fun n => decide (1 <= n) && decide (n <= 32)) = true then B else A :=
  za9 0 _ h (fun k hk => by rw [step k hk]; simp only [Bool.and_eq_true, decide_eq_true_eq]) last
theorem zcs {ρ : Type} {b : Int -> Option (Int ⊕ ρ)} {c : Casc} {A B : Option ρ} (h : c.rows.length < 4611686018427387904) (step : ∀ k, (h : k < c.rows.length) -> b (k : Int) = if (z9r c (c.rows.getD k ⟨[], []⟩) && (decide (k = 0) || decide (z8e (c.rows.getD (k - 1) ⟨[], []⟩).pre (c.rows.getD k ⟨[], []⟩).pre < 0))) = true then z0y ((k + 1 : Nat) : Int) else z0t A) (last : b (c.rows.length : Int) = z0t B) :
    z0E b LFm 0 = if z6W c c.rows.length = true then B else A := by
  rw [z2Y (s := (0 : Int)) c.rows.length (fun k => (k : Int)) (fun k => !(z9r c (c.rows.getD k ⟨[], []⟩) && (decide (k = 0) || decide (z8e (c.rows.getD (k - 1) ⟨[], []⟩).pre (c.rows.getD k ⟨[], []⟩).pre < 0)))) (fun _ => A) (x := B) rfl (by simp only [LFm]; omega) (fun k hk => ?_) last]
  · rw [z6D]
    simp only [Bool.not_not]
    rfl
  · rw [step k hk]
    generalize (z9r c (c.rows.getD k ⟨[], []⟩) && (decide (k = 0) || decide (z8e (c.rows.getD (k - 1) ⟨[], []⟩).pre (c.rows.getD k ⟨[], []⟩).pre < 0))) = q
    cases q <;> simp
end
section
open Go
theorem zaN (c : Casc) (x : Option Int) : (if c.letters < 1 then some 1 else if 6 < c.letters then some 1 else if 24 < (c.sizes.length : Int) then some 3 else if 48000 < (c.rows.length : Int) then some 3 else x) =
    if c.letters < 1 ∨ 6 < c.letters then some 1 else if 24 < c.sizes.length ∨ 48000 < c.rows.length then some 3 else x := by
  by_cases h1 : c.letters < 1 <;> by_cases h2 : 6 < c.letters <;> by_cases h3 : 24 < c.sizes.length <;> by_cases h4 : 48000 < c.rows.length <;>
    simp only [h1, h2, if_true, if_false, true_or, or_true, false_or, or_false, or_self] <;>
    (try (first | rw [if_pos (by omega), if_pos (by omega)] | (rw [if_neg (by omega)]; first | rw [if_pos (by omega), if_pos (by omega)] | rw [if_neg (by omega), if_neg (by omega)])))
theorem z5H (c : Casc) (h : CB c) : z1n c = some (z2M c) := by
  unfold z1n z2M
  have h1 := h.sz
  have h2 := h.rl
  rw [zaN]
  by_cases hl : c.letters < 1 ∨ 6 < c.letters
  · rw [if_pos hl, if_pos hl]
  rw [if_neg hl, if_neg hl]
  by_cases hs : 24 < c.sizes.length ∨ 48000 < c.rows.length
  · rw [if_pos hs, if_pos hs]
  rw [if_neg hs, if_neg hs]
  rw [zaZ (m := c.sizes) (A := some 23) (B := z0E (z1H c) LFm 0) h1]
  · rw [zcs (c := c) (A := some 23) (B := some 0) h2]
    · cases (c.sizes.all fun n => decide (1 <= n) && decide (n <= 32)) <;> cases z6W c c.rows.length <;> simp
    · intro k hk
      have hr := h.row _ (List.getElem_mem hk)
      rw [← z0r ⟨[], []⟩ hk] at hr
      simp only [z1H]
      rw [if_pos (by omega), z1b ⟨[], []⟩ hk, z1E (by omega)]
      simp only [Option.bind_some]
      rw [zdC c _ h hr]
      simp only [Option.bind_some]
      split
      · rename_i hv
        rw [hv]
        split
        · rename_i hk0
          have hk1 : k - 1 < c.rows.length := by omega
          have hr1 := h.row _ (List.getElem_mem hk1)
          rw [← z0r ⟨[], []⟩ hk1] at hr1
          have ek : IntKind.i64.wrap ((k : Int) - 1) = ((k - 1 : Nat) : Int) := by rw [z5Q (by omega) (by omega)]; omega
          rw [ek, z1b ⟨[], []⟩ hk1]
          simp only [Option.bind_some]
          rw [z5Y _ _ hr1.1]
          simp only [Option.bind_some]
          have hk0' : ¬ k = 0 := by omega
          split
          · rw [if_neg]; simp only [Bool.and_eq_true, Bool.or_eq_true, decide_eq_true_eq]; omega
          · rw [if_pos]; simp only [Bool.and_eq_true, Bool.or_eq_true, decide_eq_true_eq, true_and]; omega
        · have hk0' : k = 0 := by omega
          rw [if_pos]; simp only [Bool.and_eq_true, Bool.or_eq_true, decide_eq_true_eq, true_and]; omega
      · rename_i hv
        rw [if_neg]; intro hh; simp only [Bool.and_eq_true] at hh; exact hv hh.1
    · simp [z1H]
  · intro k hk
    simp only [z2A]
    rw [if_pos (by omega), z1b 0 hk, z1E (by omega)]
    simp only [Option.bind_some]
    split
    · rw [if_neg (by omega)]
    · split
      · rw [if_neg (by omega)]
      · rw [if_pos (by omega)]
  · simp only [z2A]
    rw [if_neg (by omega)]
theorem zfU (c : Casc) (r : CRow) : z9r c r = (decide (r.pre.length < c.sizes.length) && (inB c.sizes r.pre && (decide ((r.maps.length : Int) = c.letters) && r.maps.all (z9C (c.sizes.getD r.pre.length 0))))) := by
  unfold z9r; simp [Bool.and_assoc]
theorem z6G {σ : Type} (n : Int) (ms : List (List Int)) (A B : Option σ) (b18 : Int -> Option (Int ⊕ σ)) (b23 : Int -> List Int -> Int -> Option (Int ⊕ (Int ⊕ σ))) (h2 : ms.length < 4611686018427387904) (h3 : ∀ m ∈ ms, m.length < 4611686018427387904)
    (h18 : ∀ w, b18 w = if w < (ms.length : Int) then (atI ms w).bind fun v => if (v.length : Int) = n then z0E (b23 w v) LFm 0 else z0t A else z0t B)
    (h23 : ∀ w v j, b23 w v j = if j < (v.length : Int) then (atI v j).bind fun x => if x < 0 then z0t (z0t A) else if n <= x then z0t (z0t A) else z0y (IntKind.i64.wrap (j + 1)) else z0t (z0y (IntKind.i64.wrap (w + 1)))) :
    z0E b18 LFm 0 = if ms.all (z9C n) = true then B else A := by
  rw [zcM (ms := ms) (n := n) (A := A) (B := B) h2]
  · intro k hk
    have hm := h3 _ (List.getElem_mem hk)
    rw [← z0r [] hk] at hm
    generalize hg : ms.getD k [] = m at *
    rw [h18, if_pos (by omega), z1b [] hk, hg]
    simp only [Option.bind_some]
    split
    · rename_i hml
      have hmb : z9C n m = m.all fun s => decide (0 <= s) && decide (s < n) := by
        unfold z9C; rw [decide_eq_true hml, Bool.true_and]
      rw [hmb]
      rw [zeQ (m := m) (n := n) (A := z0t A) (B := z0y ((k + 1 : Nat) : Int)) hm]
      · intro j hj
        rw [h23, if_pos (by omega), z1b 0 hj, z1E (by omega)]
        simp only [Option.bind_some]
        split
        · rw [if_neg (by omega)]
        · split
          · rw [if_neg (by omega)]
          · rw [if_pos (by omega)]
      · rw [h23, if_neg (by omega), z1E (by omega)]
    · rename_i hml
      rw [if_neg]
      unfold z9C
      rw [decide_eq_false hml]; simp
  · rw [h18, if_neg (by omega)]
theorem z3w (c : Casc) (h : CB c) : z1t c = some (z2M c) := by
  unfold z1t z2M
  have h1 := h.sz
  have h2 := h.rl
  rw [zaN]
  by_cases hl : c.letters < 1 ∨ 6 < c.letters
  · rw [if_pos hl, if_pos hl]
  rw [if_neg hl, if_neg hl]
  by_cases hs : 24 < c.sizes.length ∨ 48000 < c.rows.length
  · rw [if_pos hs, if_pos hs]
  rw [if_neg hs, if_neg hs]
  rw [zaZ (m := c.sizes) (A := some 23) (B := z0E (z1V c) LFm 0) h1]
  · rw [zcs (c := c) (A := some 23) (B := some 0) h2]
    · cases (c.sizes.all fun n => decide (1 <= n) && decide (n <= 32)) <;> cases z6W c c.rows.length <;> simp
    · intro k hk
      have hr := h.row _ (List.getElem_mem hk)
      rw [← z0r ⟨[], []⟩ hk] at hr
      simp only [z1V]
      rw [if_pos (by omega), z1b ⟨[], []⟩ hk]
      simp only [Option.bind_some]
      rw [zfU]
      split
      · rename_i hp
        rw [if_neg]; simp only [Bool.and_eq_true, decide_eq_true_eq]; omega
      · rename_i hp
        have hp : (c.rows.getD k ⟨[], []⟩).pre.length < c.sizes.length := by omega
        rw [zle _ _ hr.1 (by omega), decide_eq_true hp, Bool.true_and]
        simp only [Option.bind_some]
        split
        · rename_i hin
          rw [hin, Bool.true_and]
          split
          · rename_i hk0
            have hk1 : k - 1 < c.rows.length := by omega
            have hr1 := h.row _ (List.getElem_mem hk1)
            rw [← z0r ⟨[], []⟩ hk1] at hr1
            have ek : IntKind.i64.wrap ((k : Int) - 1) = ((k - 1 : Nat) : Int) := by rw [z5Q (by omega) (by omega)]; omega
            have hk0' : ¬ k = 0 := by omega
            rw [ek, z1b ⟨[], []⟩ hk1, decide_eq_false hk0', Bool.false_or]
            simp only [Option.bind_some]
            rw [zir _ _ hr1.1]
            simp only [Option.bind_some]
            split
            · rename_i hlt
              rw [hlt, Bool.and_true]
              split
              · rename_i hl
                rw [decide_eq_true hl, Bool.true_and, z1b 0 hp]
                simp only [Option.bind_some]
                rw [z6G _ _ (z0t (some 23)) (z0y ((k + 1 : Nat) : Int)) _ (fun w v => z2P (c.sizes.getD (c.rows.getD k ⟨[], []⟩).pre.length 0) w v) hr.2.1 hr.2.2]
                · intro w
                  simp only [z4f]
                  rw [z1E (by omega)]
                · intro w v j
                  simp only [z2P]
              · rename_i hl
                rw [if_neg]; rw [decide_eq_false hl]; simp
            · rename_i hlt
              rw [if_neg]; simp only [Bool.not_eq_true] at hlt; rw [hlt]; simp
          · have hk0' : k = 0 := by omega
            rw [decide_eq_true hk0', Bool.true_or, Bool.and_true]
            split
            · rename_i hl
              rw [decide_eq_true hl, Bool.true_and, z1b 0 hp]
              simp only [Option.bind_some]
              rw [z6G _ _ (z0t (some 23)) (z0y ((k + 1 : Nat) : Int)) _ (fun w v => z2s (c.sizes.getD (c.rows.getD k ⟨[], []⟩).pre.length 0) w v) hr.2.1 hr.2.2]
              · intro w
                simp only [z3N]
                rw [z1E (by omega)]
              · intro w v j
                simp only [z2s]
            · rename_i hl
              rw [if_neg]; rw [decide_eq_false hl]; simp
        · rename_i hin
          rw [if_neg]; simp only [Bool.not_eq_true] at hin; rw [hin]; simp
    · simp [z1V]
  · intro k hk
    simp only [z3g]
    rw [if_pos (by omega), z1b 0 hk, z1E (by omega)]
    simp only [Option.bind_some]
    split
    · rw [if_neg (by omega)]
    · split
      · rw [if_neg (by omega)]
      · rw [if_pos (by omega)]
  · simp only [z3g]
    rw [if_neg (by omega)]
theorem zl6 (i j : Nat) (h : i + j < 4611686018427387904) : IntKind.i64.wrap (zjJ .u64 (IntKind.u64.wrap (IntKind.i64.wrap ((i : Int) + j))) 1) = (((i + j) / 2 : Nat) : Int) := by
  rw [z5Q (x := (i : Int) + j) (by omega) (by omega)]
  have e : IntKind.u64.wrap ((i : Int) + j) = (i : Int) + j := by rw [IntKind.wrap_u64]; omega
  have e2 : zjJ .u64 ((i : Int) + j) 1 = (((i + j) / 2 : Nat) : Int) := by
    unfold zjJ
    have : (2 : Int) ^ (min (1 : Int).toNat IntKind.u64.bits) = 2 := by decide
    rw [this, Int.fdiv_eq_ediv_of_nonneg _ (by omega)]
    omega
  rw [e, e2, z5Q (by omega) (by omega)]
theorem ziq (rs : List CRow) (p : List Int) (hu : UpR rs) (hr : rs.length <= 48000) (hb : ∀ r ∈ rs, r.pre.length < 4611686018427387904) : z0k rs p = some ((ziu rs p : Int), ze4 rs p) := by
  unfold z0k
  refine z7t (fun s => ∃ i j : Nat, s = ((i : Int), (j : Int)) /\ i <= j /\ j <= rs.length /\ z6F rs p i j) (fun s => (s.2 - s.1).toNat) ⟨0, rs.length, rfl, by omega, by omega, fun k h1 => by omega, fun k h1 h2 => by omega⟩ (by simp only [LFm]; omega) ?_
  rintro _ ⟨i, j, rfl, hij, hj, hB⟩
  simp only [z0q]
  by_cases hlt : i < j
  · left
    rw [if_pos (by omega), z0R _ (by omega), zl6 i j (by omega)]
    have hm : (i + j) / 2 < rs.length := by omega
    rw [z0T hm]
    simp only [Option.bind_some, z1f]
    rw [z5Y _ _ (hb _ (List.getElem_mem hm))]
    simp only [Option.bind_some]
    split
    · rename_i hc
      rw [z1E (by omega)]
      exact ⟨_, rfl, ⟨(i + j) / 2 + 1, j, rfl, by omega, hj, zgC hu hB hm hc⟩, by simp only; omega⟩
    · rename_i hc
      exact ⟨_, rfl, ⟨i, (i + j) / 2, rfl, by omega, by omega, zdo hu hB hm hc⟩, by simp only; omega⟩
  · right
    have : i = j := by omega
    subst this
    rw [if_neg (by omega)]
    congr 1
    have hl := zeR hB hj
    split
    · rename_i h
      have h : i < rs.length := by omega
      rw [z0T h]
      simp only [Option.bind_some, z1f]
      rw [z5Y _ _ (hb _ (List.getElem_mem h))]
      simp only [Option.bind_some]
      obtain ⟨f1, f2⟩ := zj1 hu hB h
      rw [f2, hl]
    · rename_i h
      obtain ⟨f1, f2⟩ := zgs hB (by omega) hj
      rw [← f2, hl]
end
section
open Go
structure SmR (r : CRow) : Prop where
  p1 : r.pre.length <= 24
  p2 : ∀ x ∈ r.pre, 0 <= x /\ x < 100
  m1 : r.maps.length <= 6
  m2 : ∀ m ∈ r.maps, m.length <= 32 /\ ∀ x ∈ m, 0 <= x /\ x < 100
theorem zjs {c : Casc} (hV : Valid c) {r : CRow} (hr : r ∈ c.rows) : SmR r := by
  obtain ⟨i, hi, rfl⟩ := List.getElem_of_mem hr
  have h := hV.row i hi
  have hs := hV.s1
  have hl := hV.l2
  have hz := hV.sz
  generalize c.rows[i] = r at h
  unfold z9r at h
  simp only [Bool.and_eq_true, decide_eq_true_eq, List.all_eq_true] at h
  obtain ⟨⟨⟨h1, h2⟩, h3⟩, h4⟩ := h
  have h5 := hz _ h1
  refine ⟨by omega, fun x hx => ?_, by omega, fun m hm => ?_⟩
  · obtain ⟨j, hj, rfl⟩ := List.getElem_of_mem hx
    have := (z4S _ _ (by omega)).1 h2 j hj
    have h6 := hz j (by omega)
    rw [show r.pre.getD j 0 = r.pre[j] by simp [List.getD, List.getElem?_eq_getElem hj]] at this
    omega
  · have := h4 m hm
    unfold z9C at this
    simp only [Bool.and_eq_true, decide_eq_true_eq, List.all_eq_true] at this
    refine ⟨by omega, fun x hx => ?_⟩
    have := this.2 x hx
    omega
def z5V (ms : List (List Int)) : List Int := ms.flatMap fun m => [32, 59] ++ z2D m
def zfR (r : CRow) : List Int := [114, 111, 119] ++ z2D r.pre ++ z5V r.maps ++ [10]
theorem zb5 (xs : List (List Int)) (k : Nat) (h : k < xs.length) : z5V (xs.take (k + 1)) = z5V (xs.take k) ++ ([32, 59] ++ z2D (xs.getD k [])) := by
  have e : xs.getD k [] = xs[k] := by simp [List.getD, List.getElem?_eq_getElem h]
  rw [List.take_succ_eq_append_getElem h, e]
  unfold z5V
  rw [List.flatMap_append]
  simp
theorem z6j : ∀ ms : List (List Int), (∀ m ∈ ms, m.length <= 32) -> (z5V ms).length <= 98 * ms.length
  | [], _ => by simp [z5V]
  | m :: ms, h => by
    have h1 := z6j ms fun x hx => h x (List.mem_cons_of_mem _ hx)
    have h2 := z2i m
    have h3 := h m List.mem_cons_self
    simp only [z5V, List.flatMap_cons, List.length_append, List.length_cons, List.length_nil] at h1 ⊢
    omega
theorem zeG {r : CRow} (h : SmR r) : (zfR r).length <= 1000 := by
  have h1 := z2i r.pre
  have h2 := z6j r.maps fun m hm => (h.m2 m hm).1
  have h3 := h.p1
  have h4 := h.m1
  simp only [zfR, List.length_append, List.length_cons, List.length_nil]
  omega
def z4T : List CRow -> List Int -> Option (List Int)
  | [], t => some t
  | r :: rs, t => if 1048576 < (t ++ zfR r).length then none else z4T rs (t ++ zfR r)
def zgo (c : Casc) : List Int := [99, 97, 115, 99, 97, 100, 101] ++ z2D [c.letters] ++ z2D c.sizes ++ [10]
def znz (c : Casc) : ByteArray × Int := match z4T c.rows (zgo c) with | some t => (z0P t, 0) | none => (ByteArray.empty, 3)
def zlz (c : Casc) : ByteArray × Int := if z2M c = 0 then znz c else (ByteArray.empty, z2M c)
theorem zj3 {r : CRow} (h : SmR r) (w : Int) (t : List Int) (ht : t.length <= 2000000) : z0E (z1W w r) LFm (0, t) = if 1048576 < (t ++ z5V r.maps).length + 1 then z0t (some (ByteArray.empty, 3)) else z0y (IntKind.i64.wrap (w + 1), t ++ z5V r.maps ++ [10]) := by
  have hm := h.m1
  have hL := z6j r.maps fun m hm => (h.m2 m hm).1
  refine z2L (x := _) r.maps.length (fun k => ((k : Int), t ++ z5V (r.maps.take k))) (by simp [z5V]) (by simp only [LFm]; omega) (fun k hk => ?_) ?_
  · have hx := h.m2 _ (z7x [] hk)
    have hl := z6j (r.maps.take k) fun m hm => (h.m2 m (List.mem_of_mem_take hm)).1
    rw [List.length_take] at hl
    simp only [z1W]
    rw [if_pos (by omega), zdq [] hk]
    simp only [Option.bind_some]
    rw [z0R _ (by unfold z1g; simp only [List.length_append]; omega)]
    rw [show z8F ⟨#[32, 59]⟩ = [32, 59] from rfl]
    rw [z3M _ _ hx.2 (by simp only [List.length_append, List.length_cons, List.length_nil]; omega)]
    simp only [Option.bind_some]
    rw [z1E (by omega), zb5 _ k hk]
    simp
  · simp only [z1W]
    rw [if_neg (by omega), List.take_length]
    rw [z0R _ (by unfold z1g; simp only [List.length_append]; omega)]
    simp only [List.length_append] at hL ⊢
    by_cases hc : 1048576 < t.length + (z5V r.maps).length + 1
    · rw [if_pos (by omega), if_pos hc]
    · rw [if_neg (by omega), if_neg hc]
theorem zj2 {c : Casc} (hV : Valid c) (t0 : List Int) (h0 : t0.length <= 1100000) : z0E (z3s c) LFm (0, t0) = some (match z4T c.rows t0 with | some t => (z0P t, 0) | none => (ByteArray.empty, 3)) := by
  have hr := hV.r1
  refine z7t (fun s => ∃ k : Nat, k <= c.rows.length /\ s.1 = (k : Int) /\ s.2.length <= 1100000 /\ z4T (c.rows.drop k) s.2 = z4T c.rows t0) (fun s => c.rows.length - s.1.toNat) ⟨0, by omega, rfl, h0, rfl⟩ (by simp only [LFm]; omega) ?_
  rintro ⟨_, t⟩ ⟨k, hk, rfl, ht, he⟩
  simp only at ht he
  simp only [z3s]
  by_cases hlt : k < c.rows.length
  · have hS := zjs hV (List.getElem_mem hlt)
    have hp := z2i c.rows[k].pre
    have hp1 := hS.p1
    have hR := zeG hS
    rw [List.drop_eq_getElem_cons hlt] at he
    simp only [z4T] at he
    rw [if_pos (by omega), z0T hlt]
    simp only [Option.bind_some]
    rw [z0R _ (by unfold z1g; omega), show z8F ⟨#[114, 111, 119]⟩ = [114, 111, 119] from rfl]
    rw [z3M _ _ hS.p2 (by simp only [List.length_append, List.length_cons, List.length_nil]; omega)]
    simp only [Option.bind_some]
    rw [zj3 hS _ _ (by simp only [zfR, List.length_append, List.length_cons, List.length_nil] at hR ⊢; omega)]
    have e1 : t ++ [114, 111, 119] ++ z2D c.rows[k].pre ++ z5V c.rows[k].maps ++ [10] = t ++ zfR c.rows[k] := by simp [zfR]
    have e2 : (t ++ [114, 111, 119] ++ z2D c.rows[k].pre ++ z5V c.rows[k].maps).length + 1 = (t ++ zfR c.rows[k]).length := by rw [← e1]; simp; omega
    rw [e1, e2]
    by_cases hc : 1048576 < (t ++ zfR c.rows[k]).length
    · rw [if_pos hc] at he ⊢
      right
      rw [← he]
    · rw [if_neg hc] at he ⊢
      left
      refine ⟨_, rfl, ⟨k + 1, by omega, z1E (by omega), by simp only; omega, he⟩, ?_⟩
      simp only
      rw [z1E (by omega)]
      omega
  · right
    have : k = c.rows.length := by omega
    subst this
    rw [List.drop_length] at he
    simp only [z4T] at he
    rw [if_neg (by omega), ← he]
theorem zd0 {c : Casc} (hV : Valid c) : (zgo c).length <= 100 := by
  have h1 := z2i [c.letters]
  have h2 := z2i c.sizes
  have h3 := hV.s1
  simp only [zgo, List.length_append, List.length_cons, List.length_nil] at h1 ⊢
  omega
theorem zit (c : Casc) (h : CB c) : z3C c = some (zlz c) := by
  unfold z3C zlz
  rw [z5H c h]
  simp only [Option.bind_some]
  by_cases hv : z2M c = 0
  case neg => rw [if_neg hv, if_neg hv]
  rw [if_pos hv, if_pos hv]
  have hV := z4z c hv
  have l1 := hV.l1
  have l2 := hV.l2
  have s1 := hV.s1
  have hl := zd0 hV
  have hz : ∀ x ∈ c.sizes, 0 <= x /\ x < 100 := fun x hx => by
    obtain ⟨j, hj, rfl⟩ := List.getElem_of_mem hx
    have := hV.sz j hj
    rw [show c.sizes.getD j 0 = c.sizes[j] by simp [List.getD, List.getElem?_eq_getElem hj]] at this
    omega
  rw [z3M _ _ (by intro x hx; have : x = c.letters := (by simpa using hx); omega) (by simp)]
  simp only [Option.bind_some]
  rw [z3M _ _ hz (by have := z2i [c.letters]; simp only [List.length_append, List.length_cons, List.length_nil] at this ⊢; omega)]
  simp only [Option.bind_some]
  have e : [99, 97, 115, 99, 97, 100, 101] ++ z2D [c.letters] ++ z2D c.sizes ++ [10] = zgo c := rfl
  rw [z0R _ (by unfold z1g; rw [← e] at hl; simp only [List.length_append, List.length_cons, List.length_nil] at hl ⊢; omega), e, zj2 hV _ (by omega)]
  rfl
end
section
open Go
set_option maxHeartbeats 1000000
def idF : Nat -> List Int -> Bool
  | _, [] => true
  | k, x :: l => decide ((k : Int) = x) && idF (k + 1) l
theorem zbJ : ∀ (l : List Int) (k : Nat) (x : Int), idF k (l ++ [x]) = (idF k l && decide (((k + l.length : Nat) : Int) = x))
  | [], k, x => by simp [idF]
  | y :: l, k, x => by
    simp only [List.cons_append, idF, zbJ l (k + 1) x, List.length_cons, Bool.and_assoc]
    rw [show k + 1 + l.length = k + (l.length + 1) by omega]
def eqF (h : Int) (l : List Int) : Bool := l.all fun x => decide (x = h)
def ndF (l : List Int) : Bool := decide l.Nodup
theorem zfi (h : Int) (l : List Int) (x : Int) : eqF h (l ++ [x]) = (eqF h l && decide (x = h)) := by simp [eqF]
theorem zeO (l : List Int) (x : Int) : ndF (l ++ [x]) = (ndF l && !decide (x ∈ l)) := by
  unfold ndF
  rw [Bool.eq_iff_iff]
  simp only [decide_eq_true_eq, Bool.and_eq_true, Bool.not_eq_true', decide_eq_false_iff_not, List.nodup_append]
  simp only [List.nodup_cons, List.not_mem_nil, not_false_eq_true, List.nodup_nil, and_self, true_and, List.mem_singleton, forall_eq]
  constructor
  · rintro ⟨h1, h2⟩; exact ⟨h1, fun h => h2 x h rfl⟩
  · rintro ⟨h1, h2⟩; exact ⟨h1, fun a ha e => h2 (e ▸ ha)⟩
def mkT (t : Traits) (p c i : Bool) : Traits := ⟨true, t.perms && p, t.resets && (c || i), t.mixed && (p || c)⟩
def ze3 (t : Traits) (m : List Int) : Traits := mkT t (ndF m) (eqF (m.getD 0 0) m) (idF 0 m)
theorem ziC {α : Type} {m : List α} {k : Nat} (h : k < m.length) : m.take (k + 1) = m.take k ++ [m[k]] := List.take_succ_eq_append_getElem h
theorem zgn (t : Traits) (m : List Int) (hl : m.length <= 32) (hm : ∀ x ∈ m, 0 <= x /\ x < 32) : z1r t m = some (ze3 t m) := by
  unfold z1r
  refine z2L m.length (fun k => (idF 0 (m.take k), eqF (m.getD 0 0) (m.take k), ndF (m.take k), (k : Int), (List.range 32).map fun (v : Nat) => decide ((v : Int) ∈ m.take k))) (by simp [idF, eqF, ndF]; rfl) (by simp only [LFm]; omega) (fun k hlt => ?_) ?_
  · simp only [z1u]
    have hx := hm m[k] (List.getElem_mem hlt)
    have h0 : atI m 0 = some (m.getD 0 0) := zdq (k := 0) 0 (by omega)
    rw [ziC hlt, zbJ, zfi, zeO, if_pos (by omega), z0T hlt, Option.bind_some, z1E (by omega), h0, List.length_take, Nat.min_eq_left (by omega)]
    obtain ⟨v, hv⟩ : ∃ v : Nat, m[k] = v := ⟨m[k].toNat, by omega⟩
    rw [hv] at hx ⊢
    have hmet : atI ((List.range 32).map fun (v : Nat) => decide ((v : Int) ∈ m.take k)) (v : Int) = some (decide ((v : Int) ∈ m.take k)) := by
      rw [z0T (by simp; omega)]; simp
    have hset : ((List.range 32).map fun (v : Nat) => decide ((v : Int) ∈ m.take k)).set v true = (List.range 32).map fun (u : Nat) => decide ((u : Int) ∈ m.take k ++ [(v : Int)]) := by
      apply List.ext_getElem (by simp)
      intro j h1 h2
      rw [List.getElem_set]
      by_cases e : v = j
      · subst e; simp
      · rw [if_neg e]
        have : ¬ (j : Int) = v := by omega
        simp [this]
    simp only [Int.toNat_natCast, hmet, Option.bind_some, hset, Nat.zero_add]
    generalize idF 0 (m.take k) = bi
    generalize eqF (m.getD 0 0) (m.take k) = bc
    generalize ndF (m.take k) = bp
    cases bi <;> cases bc <;> cases bp <;> simp [chk, hx]
  · simp only [z1u]
    rw [if_neg (by omega), List.take_length]
    unfold ze3
    generalize idF 0 m = bi
    generalize eqF (m.getD 0 0) m = bc
    generalize ndF m = bp
    rcases t with ⟨a, b, c, d⟩
    cases b <;> cases c <;> cases d <;> cases bi <;> cases bc <;> cases bp <;> rfl
theorem z8v {ρ : Type} {b : Bool × Int -> Option ((Bool × Int) ⊕ ρ)} {m : List Int} {i : Nat} {v : Int} (p : Bool) (R : Bool -> Option ρ) (hi : i <= m.length) (hl : m.length <= 32)
    (hb : ∀ p j, b (p, j) = if j < (i : Int) then (if p = true then (atI m j).bind fun x => z0y (!decide (x = v), IntKind.i64.wrap (j + 1)) else z0y (false, IntKind.i64.wrap (j + 1))) else z0t (R p)) :
    z0E b LFm (p, 0) = R (p && !decide (v ∈ m.take i)) := by
  refine z2L i (fun k => (p && !decide (v ∈ m.take k), (k : Int))) (by simp) (by simp only [LFm]; omega) (fun k hlt => ?_) ?_
  · have hk : k < m.length := by omega
    rw [hb, if_pos (by omega), ziC hk, z1E (by omega), z0T hk, Option.bind_some]
    generalize m[k] = x
    by_cases h1 : v ∈ m.take k
    · simp [h1]
    · by_cases h2 : x = v
      · subst h2
        cases p <;> simp [h1]
      · have h3 : ¬ v = x := fun e => h2 e.symm
        cases p <;> simp [h1, h2, h3]
  · rw [hb, if_neg (by omega)]
theorem zfY (m : List Int) (hl : m.length <= 32) : z6c m = some (ndF m, eqF (m.getD 0 0) m, idF 0 m) := by
  unfold z6c
  refine z2L m.length (fun k => (ndF (m.take k), eqF (m.getD 0 0) (m.take k), idF 0 (m.take k), (k : Int))) (by simp [idF, eqF, ndF]) (by simp only [LFm]; omega) (fun k hlt => ?_) ?_
  · simp only [z5a]
    have h0 : atI m 0 = some (m.getD 0 0) := zdq (k := 0) 0 (by omega)
    rw [ziC hlt, zbJ, zfi, zeO, if_pos (by omega), z0T hlt, Option.bind_some, h0, List.length_take, Nat.min_eq_left (by omega)]
    simp only [Option.bind_some, Nat.zero_add]
    have e1 : ∀ x : Int, decide (x = (k : Int)) = decide ((k : Int) = x) := fun x => by
      by_cases h : x = (k : Int)
      · simp [h]
      · have h' : ¬ (k : Int) = x := fun e => h e.symm
        simp [h, h']
    generalize eqF (m.getD 0 0) (m.take k) = bc
    generalize idF 0 (m.take k) = bi
    generalize ndF (m.take k) = bp
    have hw := z1E (k := k) (by omega)
    have hk : k <= m.length := by omega
    cases bc with
    | true =>
      rw [if_pos rfl]
      cases bi with
      | true =>
        rw [if_pos rfl, z8v (b := z6u m (k : Int) m[k] (m.getD 0 0)) bp (fun p => z0y (p, decide (m[k] = m.getD 0 0), decide (m[k] = (k : Int)), IntKind.i64.wrap ((k : Int) + 1))) hk hl (fun p j => rfl), hw, e1]
        simp
      | false =>
        rw [if_neg (by simp), z8v (b := z5T m (k : Int) m[k] (m.getD 0 0)) bp (fun p => z0y (p, decide (m[k] = m.getD 0 0), false, IntKind.i64.wrap ((k : Int) + 1))) hk hl (fun p j => rfl), hw]
        simp
    | false =>
      rw [if_neg (by simp)]
      cases bi with
      | true =>
        rw [if_pos rfl, z8v (b := z5S m (k : Int) m[k]) bp (fun p => z0y (p, false, decide (m[k] = (k : Int)), IntKind.i64.wrap ((k : Int) + 1))) hk hl (fun p j => rfl), hw, e1]
        simp
      | false =>
        rw [if_neg (by simp), z8v (b := z5R m (k : Int) m[k]) bp (fun p => z0y (p, false, false, IntKind.i64.wrap ((k : Int) + 1))) hk hl (fun p j => rfl), hw]
        simp
  · simp only [z5a]
    rw [if_neg (by omega), List.take_length]
def tr0 : Traits := ⟨false, true, true, true⟩
def zfA (i : Nat) (t : Traits) (r : CRow) : Traits := if r.pre.length = i then r.maps.foldl ze3 t else t
def zcb (rs : List CRow) (i : Nat) : Traits := rs.foldl (zfA i) tr0
def zcU (t : Traits) : Int := if t.some_ = true then (if t.perms = true then 1 else if t.resets = true then 2 else if t.mixed = true then 3 else 4) else 0
def zb9 (c : Casc) : List Int := if z2M c = 0 then (List.range c.sizes.length).map fun i => zcU (zcb c.rows i) else []
theorem zk3 (t : Traits) : z2x t = some (zcU t) := by
  rcases t with ⟨a, b, c, d⟩
  cases a <;> cases b <;> cases c <;> cases d <;> rfl
theorem z9U {α : Type} (f : Nat -> α) (n p : Nat) (v : α) : ((List.range n).map f).set p v = (List.range n).map fun i => if i = p then v else f i := by
  apply List.ext_getElem (by simp)
  intro j h1 h2
  rw [List.getElem_set]
  by_cases e : p = j
  · subst e; simp
  · rw [if_neg e]
    have : ¬ j = p := fun e' => e e'.symm
    simp [this]
theorem z9M {α : Type} (f : Nat -> α) {n p : Nat} (h : p < n) : atI ((List.range n).map f) (p : Int) = some (f p) := by
  rw [z0T (by simpa using h)]; simp
theorem zhH {c : Casc} (hV : Valid c) {r : CRow} (hr : r ∈ c.rows) : r.pre.length < c.sizes.length /\ r.maps.length <= 6 /\ ∀ m ∈ r.maps, m.length <= 32 /\ ∀ x ∈ m, 0 <= x /\ x < 32 := by
  obtain ⟨i, hi, rfl⟩ := List.getElem_of_mem hr
  have h := hV.row i hi
  have hl := hV.l2
  have hz := hV.sz
  generalize c.rows[i] = r at h
  unfold z9r at h
  simp only [Bool.and_eq_true, decide_eq_true_eq, List.all_eq_true] at h
  obtain ⟨⟨⟨h1, h2⟩, h3⟩, h4⟩ := h
  have h5 := hz _ h1
  refine ⟨h1, by omega, fun m hm => ?_⟩
  have := h4 m hm
  unfold z9C at this
  simp only [Bool.and_eq_true, decide_eq_true_eq, List.all_eq_true] at this
  refine ⟨by omega, fun x hx => ?_⟩
  have := this.2 x hx
  omega
theorem z7z {α β : Type} (f : β -> α -> β) (b : β) (l : List α) {k : Nat} (h : k < l.length) : (l.take (k + 1)).foldl f b = f ((l.take k).foldl f b) l[k] := by
  rw [ziC h, List.foldl_append]; rfl
theorem zjl (c : Casc) (h : CB c) : z4m c = some (zb9 c) := by
  unfold z4m zb9
  rw [z5H c h]
  simp only [Option.bind_some]
  by_cases hv : z2M c = 0
  case neg => rw [if_neg hv, if_neg hv]
  rw [if_pos hv, if_pos hv]
  have hV := z4z c hv
  have s1 := hV.s1
  have r1 := hV.r1
  rw [z0R _ (by unfold z8w; omega)]
  have e0 : (List.replicate (c.sizes.length : Int).toNat ((⟨false, false, false, false⟩ : Traits) : Traits)) = (List.range c.sizes.length).map fun i => if i < 0 then tr0 else ⟨false, false, false, false⟩ := by
    apply List.ext_getElem (by simp)
    intro j h1 h2
    simp
  rw [e0]
  refine z2L c.sizes.length (fun k => ((k : Int), (List.range c.sizes.length).map fun i => if i < k then tr0 else ⟨false, false, false, false⟩)) rfl (by simp only [LFm]; omega) (fun k hk => ?_) ?_
  · simp only [z3L]
    rw [if_pos (by omega), z9M _ hk, Option.bind_some, z1E (by omega), Int.toNat_natCast, z9U]
    congr 4
    funext i
    by_cases e : i = k
    · subst e; simp [tr0]
    · rw [if_neg e]
      by_cases e2 : i < k
      · rw [if_pos e2, if_pos (by omega)]
      · rw [if_neg e2, if_neg (by omega)]
  simp only [z3L]
  rw [if_neg (by omega)]
  congr 1
  have e1 : ((List.range c.sizes.length).map fun i => if i < c.sizes.length then tr0 else ⟨false, false, false, false⟩) = (List.range c.sizes.length).map fun i => zcb (c.rows.take 0) i := by
    apply List.ext_getElem (by simp)
    intro j h1 h2
    have : j < c.sizes.length := by simpa using h1
    simp [this, zcb]
  rw [e1]
  refine z2L c.rows.length (fun k => ((k : Int), (List.range c.sizes.length).map fun i => zcb (c.rows.take k) i)) rfl (by simp only [LFm]; omega) (fun k hk => ?_) ?_
  · simp only [z3q]
    rw [if_pos (by omega), z0T hk, Option.bind_some]
    obtain ⟨q1, q2, q3⟩ := zhH hV (List.getElem_mem hk)
    obtain ⟨f, hf⟩ : ∃ f : Nat -> Traits, ∀ i, zcb (c.rows.take k) i = f i := ⟨_, fun _ => rfl⟩
    have hf' : (fun i => zcb (c.rows.take k) i) = f := funext hf
    have e2 : (fun i => zcb (c.rows.take (k + 1)) i) = fun i => zfA i (f i) c.rows[k] := by
      funext i
      rw [← hf]
      unfold zcb
      exact z7z _ _ _ hk
    rw [e2, hf']
    generalize c.rows[k] = r at q1 q2 q3 ⊢
    refine z2L r.maps.length (fun j => ((j : Int), (List.range c.sizes.length).map fun i => if i = r.pre.length then (r.maps.take j).foldl ze3 (f r.pre.length) else f i)) ?_ (by simp only [LFm]; omega) (fun j hj => ?_) ?_
    · simp only [List.take_zero, List.foldl_nil]
      congr 2
      funext i
      split
      · rename_i e; rw [e]
      · rfl
    · simp only [z3p]
      obtain ⟨p1, p2⟩ := q3 _ (List.getElem_mem hj)
      rw [if_pos (by omega), z0T hj, Option.bind_some, z9M _ q1, Option.bind_some, if_pos rfl, zgn _ _ p1 p2, Option.bind_some, z1E (by omega), Int.toNat_natCast, z9U, z7z _ _ _ hj]
      congr 4
      funext i
      by_cases e : i = r.pre.length
      · rw [if_pos e, if_pos e]
      · rw [if_neg e, if_neg e, if_neg e]
    · simp only [z3p]
      rw [if_neg (by omega), z1E (by omega), List.take_length]
      congr 4
      funext i
      unfold zfA
      by_cases e : i = r.pre.length
      · subst e; simp
      · rw [if_neg e, if_neg (fun e' => e e'.symm)]
  simp only [z3q]
  rw [if_neg (by omega), z0R _ (by unfold z8w; simp; omega), List.take_length]
  congr 1
  obtain ⟨f, hf⟩ : ∃ f : Nat -> Traits, ∀ i, zcb c.rows i = f i := ⟨_, fun _ => rfl⟩
  simp only [hf]
  have e3 : (List.replicate (((List.range c.sizes.length).map f).length : Int).toNat (0 : Int)) = (List.range c.sizes.length).map fun i => if i < 0 then zcU (f i) else 0 := by
    apply List.ext_getElem (by simp)
    intro j h1 h2
    simp
  rw [e3]
  refine z2L c.sizes.length (fun k => ((k : Int), (List.range c.sizes.length).map fun i => if i < k then zcU (f i) else 0)) rfl (by simp only [LFm]; omega) (fun k hk => ?_) ?_
  · simp only [z3o]
    rw [if_pos (by simp; omega), z9M _ hk, Option.bind_some, zk3, Option.bind_some, z9M _ hk, Option.bind_some, z1E (by omega), Int.toNat_natCast, z9U]
    congr 4
    funext i
    by_cases e : i = k
    · subst e; simp
    · rw [if_neg e]
      by_cases e2 : i < k
      · rw [if_pos e2, if_pos (by omega)]
      · rw [if_neg e2, if_neg (by omega)]
  simp only [z3o]
  rw [if_neg (by simp)]
  congr 2
  apply List.ext_getElem (by simp)
  intro j h1 h2
  have : j < c.sizes.length := by simpa using h1
  simp [this]
def tt5 (t : Traits) (k : Int) : Bool × Bool × Bool × Bool × Int := (t.some_, t.perms, t.resets, t.mixed, k)
theorem zdN (c : Casc) (h : CB c) : z5w c = some (zb9 c) := by
  unfold z5w zb9
  rw [z3w c h]
  simp only [Option.bind_some]
  by_cases hv : z2M c = 0
  case neg => rw [if_neg hv, if_neg hv]
  rw [if_pos hv, if_pos hv]
  have hV := z4z c hv
  have s1 := hV.s1
  have r1 := hV.r1
  refine z2L c.sizes.length (fun k => ((k : Int), (List.range k).map fun i => zcU (zcb c.rows i))) rfl (by simp only [LFm]; omega) (fun k hk => ?_) ?_
  case refine_2 =>
    simp only [z4E]
    rw [if_neg (by omega)]
  simp only [z4E]
  rw [if_pos (by omega), List.range_succ, List.map_append]
  have hlen : ((List.range k).map fun i => zcU (zcb c.rows i)).length = k := by simp
  generalize ((List.range k).map fun i => zcU (zcb c.rows i)) = out at hlen
  refine z2L c.rows.length (fun j => tt5 (zcb (c.rows.take j) k) (j : Int)) rfl (by simp only [LFm]; omega) (fun j hj => ?_) ?_
  · simp only [tt5]; simp only [z4D]
    rw [if_pos (show (j : Int) < (c.rows.length : Int) by omega), z0T hj, Option.bind_some]
    obtain ⟨q1, q2, q3⟩ := zhH hV (List.getElem_mem hj)
    have e2 : zcb (c.rows.take (j + 1)) k = zfA k (zcb (c.rows.take j) k) c.rows[j] := z7z _ _ _ hj
    rw [e2]
    generalize c.rows[j] = r at q1 q2 q3 ⊢
    generalize zcb (c.rows.take j) k = t
    have hfin : ∀ t' : Traits, (z0y (t'.some_, t'.perms, t'.resets, t'.mixed, ((j + 1 : Nat) : Int)) : Option ((Bool × Bool × Bool × Bool × Int) ⊕ ((Int × List Int) ⊕ List Int))) = z0y (tt5 t' ((j + 1 : Nat) : Int)) := fun _ => rfl
    by_cases e : r.pre.length = k
    · refine z2L r.maps.length (fun i => tt5 ((r.maps.take i).foldl ze3 t) (i : Int)) rfl (by simp only [LFm]; omega) (fun i hi => ?_) ?_
      · simp only [tt5]; simp only [z2h]
        obtain ⟨p1, p2⟩ := q3 _ (List.getElem_mem hi)
        rw [if_pos (by omega), z0T hi, Option.bind_some, if_pos (by omega), zfY _ p1, Option.bind_some, z1E (by omega), z7z _ _ _ hi]
        generalize (r.maps.take i).foldl ze3 t = t'
        unfold ze3
        generalize ndF r.maps[i] = bp
        generalize eqF (r.maps[i].getD 0 0) r.maps[i] = bc
        generalize idF 0 r.maps[i] = bi
        rcases t' with ⟨a, b, c, d⟩
        cases b <;> cases c <;> cases d <;> cases bi <;> cases bc <;> cases bp <;> rfl
      · simp only [tt5]; simp only [z2h]
        rw [if_neg (by omega), z1E (by omega), List.take_length]
        unfold zfA
        rw [if_pos e]
    · refine z2L r.maps.length (fun i => tt5 t (i : Int)) rfl (by simp only [LFm]; omega) (fun i hi => ?_) ?_
      · simp only [tt5]; simp only [z2h]
        rw [if_pos (by omega), z0T hi, Option.bind_some, if_neg (by omega), z1E (by omega)]
      · simp only [tt5]; simp only [z2h]
        rw [if_neg (by omega), z1E (by omega)]
        unfold zfA
        rw [if_neg e]
  · simp only [tt5]; simp only [z4D]
    rw [if_neg (show ¬ (c.rows.length : Int) < (c.rows.length : Int) by omega), List.take_length, z1E (by omega)]
    simp only [List.map_cons, List.map_nil]
    generalize zcb c.rows k = t
    rcases t with ⟨a, b, c', d⟩
    have hc : z1g 8 (out.length + 1) := by unfold z1g; omega
    cases a <;> cases b <;> cases c' <;> cases d <;> simp [zcU, z0R _ hc]
end
section
open Go
theorem z1X (a b : List Int) : z0P (a ++ b) = z0P a ++ z0P b := by
  unfold z0P
  apply ByteArray.ext
  simp
theorem z8h (a : List Int) : (z0P a).size = a.length := by simp [z0P]
theorem z6E {a b : List Int} (h : a.length + b.length < 100000000) : z5E (z0P a) (z0P b) := by
  unfold z5E; rw [z8h, z8h]; omega
theorem zdL (t : List Int) (x : Int) (hx : 0 <= x /\ x < 100) (ht : t.length < 10000000) {α : Type} (K : ByteArray -> Option α) :
    ((z1l 12 x).bind fun v => chk (z5E ⟨#[32]⟩ v) (chk (z5E (z0P t) (⟨#[32]⟩ ++ v)) (K (z0P t ++ (⟨#[32]⟩ ++ v))))) = K (z0P (t ++ (32 :: zgx x))) := by
  have h1 := zbT x
  have e0 : (⟨#[32]⟩ : ByteArray) = z0P [32] := rfl
  rw [zdb x hx.1 hx.2]
  simp only [Option.bind_some]
  rw [e0, ← z1X, ← z1X, z0R _ (z6E (by simp only [List.length_singleton]; omega)), z0R _ (z6E (by simp only [List.length_append, List.length_singleton]; omega))]
  rfl
theorem zjO {m : List Int} (hx : ∀ x ∈ m, 0 <= x /\ x < 100) (hl : m.length <= 32) (w : Int) (t : List Int) (ht : t.length <= 2000000) : z0E (z2B w m) LFm (z0P t, 0) = z0y (z0P (t ++ z2D m), IntKind.i64.wrap (w + 1)) := by
  refine z2L (x := _) m.length (fun k => (z0P (t ++ z2D (m.take k)), (k : Int))) (by simp [z2D]) (by simp only [LFm]; omega) (fun k hk => ?_) ?_
  · have hm := hx _ (z7x 0 hk)
    have hn := z2i (m.take k)
    rw [List.length_take] at hn
    simp only [z2B]
    rw [if_pos (by omega), zdq 0 hk]
    simp only [Option.bind_some]
    rw [zdL _ _ hm (by simp only [List.length_append]; omega) (fun v => z0y (v, IntKind.i64.wrap ((k : Int) + 1)))]
    rw [z1E (by omega), z7r m k hk]
    simp
  · simp only [z2B]
    rw [if_neg (by omega), List.take_length]
theorem ziL {r : CRow} (h : SmR r) (w : Int) (t : List Int) (ht : t.length <= 1900000) : z0E (z1m w r) LFm (z0P t, 0) = if 1048576 < (t ++ z5V r.maps).length + 1 then z0t (some (ByteArray.empty, 3)) else z0y (z0P (t ++ z5V r.maps ++ [10]), IntKind.i64.wrap (w + 1)) := by
  have hm := h.m1
  have hL := z6j r.maps fun m hm => (h.m2 m hm).1
  refine z2L (x := _) r.maps.length (fun k => (z0P (t ++ z5V (r.maps.take k)), (k : Int))) (by simp [z5V]) (by simp only [LFm]; omega) (fun k hk => ?_) ?_
  · have hx := h.m2 _ (z7x [] hk)
    have hl := z6j (r.maps.take k) fun m hm => (h.m2 m (List.mem_of_mem_take hm)).1
    rw [List.length_take] at hl
    simp only [z1m]
    rw [if_pos (by omega), zdq [] hk]
    rw [Option.bind_some]
    have e0 : (⟨#[32, 59]⟩ : ByteArray) = z0P [32, 59] := rfl
    rw [e0, z0R _ (z6E (by simp only [List.length_append, List.length_cons, List.length_nil]; omega)), ← z1X]
    rw [zjO hx.2 hx.1 _ _ (by simp only [List.length_append, List.length_cons, List.length_nil]; omega)]
    rw [z1E (by omega), zb5 _ k hk]
    simp
  · simp only [z1m]
    rw [if_neg (by omega), List.take_length]
    have e0 : (⟨#[10]⟩ : ByteArray) = z0P [10] := rfl
    rw [e0, z0R _ (z6E (by simp only [List.length_append, List.length_cons, List.length_nil]; omega)), ← z1X, z8h]
    simp only [List.length_append, List.length_singleton] at hL ⊢
    by_cases hc : 1048576 < t.length + (z5V r.maps).length + 1
    · rw [if_pos (by omega), if_pos hc]
    · rw [if_neg (by omega), if_neg hc]
theorem zjN {r : CRow} (h : SmR r) (w : Int) (t : List Int) (ht : t.length <= 1800000) : z0E (z2C w r) LFm (z0P t, 0) = z0E (z1m w r) LFm (z0P (t ++ z2D r.pre), 0) := by
  have hm := h.p1
  cases hE : z0E (z1m w r) LFm (z0P (t ++ z2D r.pre), 0) with
  | _ =>
    rw [← hE]
    refine z2L (x := z0E (z1m w r) LFm (z0P (t ++ z2D r.pre), 0)) r.pre.length (fun k => (z0P (t ++ z2D (r.pre.take k)), (k : Int))) (by simp [z2D]) (by simp only [LFm]; omega) (fun k hk => ?_) ?_
    · have hx := h.p2 _ (z7x 0 hk)
      have hn := z2i (r.pre.take k)
      rw [List.length_take] at hn
      simp only [z2C]
      rw [if_pos (by omega), zdq 0 hk]
      simp only [Option.bind_some]
      rw [zdL _ _ hx (by simp only [List.length_append]; omega) (fun v => z0y (v, IntKind.i64.wrap ((k : Int) + 1)))]
      rw [z1E (by omega), z7r _ k hk]
      simp
    · simp only [z2C]
      rw [if_neg (by omega), List.take_length]
theorem ziK {c : Casc} (hV : Valid c) (t0 : List Int) (h0 : t0.length <= 1100000) : z0E (z3H c) LFm (z0P t0, 0) = some (match z4T c.rows t0 with | some t => (z0P t, 0) | none => (ByteArray.empty, 3)) := by
  have hr := hV.r1
  refine z7t (fun s => ∃ k : Nat, ∃ t : List Int, k <= c.rows.length /\ s = (z0P t, (k : Int)) /\ t.length <= 1100000 /\ z4T (c.rows.drop k) t = z4T c.rows t0) (fun s => c.rows.length - s.2.toNat) ⟨0, t0, by omega, rfl, h0, rfl⟩ (by simp only [LFm]; omega) ?_
  rintro _ ⟨k, t, hk, rfl, ht, he⟩
  simp only [z3H]
  by_cases hlt : k < c.rows.length
  · have hS := zjs hV (List.getElem_mem hlt)
    have hp := z2i c.rows[k].pre
    have hp1 := hS.p1
    have hR := zeG hS
    rw [List.drop_eq_getElem_cons hlt] at he
    simp only [z4T] at he
    have e0 : (⟨#[114, 111, 119]⟩ : ByteArray) = z0P [114, 111, 119] := rfl
    rw [if_pos (by omega), z0T hlt]
    rw [Option.bind_some]
    rw [e0, z0R _ (z6E (by simp only [List.length_cons, List.length_nil]; omega)), ← z1X]
    rw [zjN hS _ _ (by simp only [List.length_append, List.length_cons, List.length_nil]; omega), ziL hS _ _ (by simp only [List.length_append, List.length_cons, List.length_nil]; omega)]
    have e1 : t ++ [114, 111, 119] ++ z2D c.rows[k].pre ++ z5V c.rows[k].maps ++ [10] = t ++ zfR c.rows[k] := by simp [zfR]
    have e2 : (t ++ [114, 111, 119] ++ z2D c.rows[k].pre ++ z5V c.rows[k].maps).length + 1 = (t ++ zfR c.rows[k]).length := by rw [← e1]; simp; omega
    rw [e1, e2]
    by_cases hc : 1048576 < (t ++ zfR c.rows[k]).length
    · rw [if_pos hc] at he ⊢
      right
      rw [← he]
    · rw [if_neg hc] at he ⊢
      left
      refine ⟨_, rfl, ⟨k + 1, _, by omega, by rw [z1E (by omega)], by omega, he⟩, ?_⟩
      simp only
      rw [z1E (by omega)]
      omega
  · right
    have : k = c.rows.length := by omega
    subst this
    rw [List.drop_length] at he
    simp only [z4T] at he
    rw [if_neg (by omega), ← he]
theorem zcz (c : Casc) (h : CB c) : z4N c = some (zlz c) := by
  unfold z4N zlz
  rw [z3w c h]
  simp only [Option.bind_some]
  by_cases hv : z2M c = 0
  case neg => rw [if_neg hv, if_neg hv]
  rw [if_pos hv, if_pos hv]
  have hV := z4z c hv
  have l1 := hV.l1
  have l2 := hV.l2
  have s1 := hV.s1
  have hl := zd0 hV
  have hz : ∀ x ∈ c.sizes, 0 <= x /\ x < 100 := fun x hx => by
    obtain ⟨j, hj, rfl⟩ := List.getElem_of_mem hx
    have := hV.sz j hj
    rw [show c.sizes.getD j 0 = c.sizes[j] by simp [List.getD, List.getElem?_eq_getElem hj]] at this
    omega
  have hd := zbT c.letters
  have e0 : (⟨#[99, 97, 115, 99, 97, 100, 101, 32]⟩ : ByteArray) = z0P [99, 97, 115, 99, 97, 100, 101, 32] := rfl
  rw [zdb _ (by omega) (by omega)]
  simp only [Option.bind_some]
  rw [e0, z0R _ (z6E (by simp only [List.length_cons, List.length_nil]; omega)), ← z1X]
  have e1 : [99, 97, 115, 99, 97, 100, 101, 32] ++ zgx c.letters = [99, 97, 115, 99, 97, 100, 101] ++ z2D [c.letters] := by simp [z2D]
  rw [e1]
  refine z2L (x := some (znz c)) c.sizes.length (fun k => (z0P ([99, 97, 115, 99, 97, 100, 101] ++ z2D [c.letters] ++ z2D (c.sizes.take k)), (k : Int))) (by simp [z2D]) (by simp only [LFm]; omega) (fun k hk => ?_) ?_
  · have hx := hz _ (z7x 0 hk)
    have hn := z2i (c.sizes.take k)
    have hn2 := z2i [c.letters]
    rw [List.length_take] at hn
    simp only [z4h]
    rw [if_pos (by omega), zdq 0 hk]
    simp only [Option.bind_some]
    rw [zdL _ _ hx (by simp only [List.length_append, List.length_cons, List.length_nil] at hn2 ⊢; omega) (fun v => z0y (v, IntKind.i64.wrap ((k : Int) + 1)))]
    rw [z1E (by omega), z7r _ k hk]
    simp
  · simp only [z4h]
    have e2 : (⟨#[10]⟩ : ByteArray) = z0P [10] := rfl
    have e3 : [99, 97, 115, 99, 97, 100, 101] ++ z2D [c.letters] ++ z2D c.sizes ++ [10] = zgo c := rfl
    have hh : ([99, 97, 115, 99, 97, 100, 101] ++ z2D [c.letters] ++ z2D c.sizes).length + 1 = (zgo c).length := by rw [← e3]; simp; omega
    rw [if_neg (by omega), List.take_length, e2, z0R _ (z6E (by simp only [List.length_singleton]; omega)), ← z1X, e3, ziK hV _ (by omega)]
    rfl
end
section
open Go
structure TapeOk (t : Tape) : Prop where
  a0 : 0 <= t.at_
  a1 : t.at_ <= t.l.length
  a2 : t.l.length <= 80
theorem z5z (x n : Int) (h1 : 1 <= n) (h2 : n < 4611686018427387904) : ∃ v, z5h x n = some v /\ 0 <= v /\ v < n := by
  have hx : x.tmod n < n := Int.tmod_lt_of_pos _ (by omega)
  have hy : -n < x.tmod n := Int.lt_tmod_of_pos x (by omega)
  unfold z5h
  rw [if_neg (by omega), z0R _ (by omega)]
  split
  · rw [z5Q (by omega) (by omega)]; exact ⟨_, rfl, by omega, by omega⟩
  · exact ⟨_, rfl, by omega, by omega⟩
theorem z7b {t : Tape} (ht : TapeOk t) (n : Int) (h1 : 1 <= n) (h2 : n < 4611686018427387904) : ∃ v t', z0U t n = some (v, t') /\ 0 <= v /\ v < n /\ TapeOk t' := by
  obtain ⟨a0, a1, a2⟩ := ht
  unfold z0U
  split
  · exact ⟨_, _, rfl, by omega, by omega, a0, a1, a2⟩
  · rename_i hlt
    rw [z5Q (x := t.at_ + 1) (by omega) (by omega), z5Q (by omega) (by omega)]
    obtain ⟨k, hk⟩ := Int.eq_ofNat_of_zero_le a0
    have e : t.at_ + 1 - 1 = (k : Int) := by omega
    rw [e, z0T (by omega)]
    obtain ⟨v, hv, h3, h4⟩ := z5z t.l[k] n h1 h2
    simp only [Option.bind_some, hv]
    exact ⟨_, _, rfl, h3, h4, by simp only; omega, by simp only; omega, a2⟩
theorem zl1 (l : List Int) : ∃ t, z8z l = some t /\ TapeOk t := by
  unfold z8z
  split
  · rename_i h
    have := z8t (xs := l) (k := 80) (by omega)
    simp only [Int.cast_ofNat_Int] at this
    rw [this]
    exact ⟨_, rfl, by simp, by simp, by simp only [List.length_take]; omega⟩
  · exact ⟨_, rfl, by simp, by simp, by simp; omega⟩
end
section
open Go
theorem zdH (c : Casc) (p : List Int) : zj4 (fun r => decide (r.pre = p)) c.rows = match zfT c p with | some k => (k : Int) | none => -1 := rfl
theorem CB.of {c : Casc} (hv : Valid c) : CB c := by
  have h1 := hv.s1
  have h2 := hv.r1
  refine ⟨by omega, by omega, fun r hr => ?_⟩
  obtain ⟨i, hi, rfl⟩ := List.getElem_of_mem hr
  obtain ⟨f1, f2, f3, f4⟩ := z6b (hv.row i hi)
  have h3 := hv.l2
  refine ⟨by omega, by omega, fun m hm => ?_⟩
  obtain ⟨j, hj, rfl⟩ := List.getElem_of_mem hm
  obtain ⟨g1, -⟩ := f4 j hj
  rw [z0r _ hj, z0r _ f1] at g1
  have := hv.sz _ f1
  rw [z0r _ f1] at this
  omega
theorem z7Q (c : Casc) (hv : Valid c) (x : List Int) (l : Int) (hx : x.length < 4611686018427387904) : z0S ⟨c⟩ x l = some (z6a c x l) := by
  have hcb := CB.of hv
  unfold z0S z6a
  rw [z8X _ _ hx]
  simp only [Option.bind_some]
  by_cases ht : z7R c.sizes x = true
  case neg => rw [if_neg ht, if_neg (fun h => ht h.1)]
  rw [if_pos ht]
  by_cases h0 : l < 0
  · rw [if_pos h0, if_neg (by omega)]
  rw [if_neg h0]
  by_cases h1 : c.letters <= l
  · rw [if_pos h1, if_neg (by omega)]
  rw [if_neg h1, if_pos ⟨ht, by omega, by omega⟩]
  have hlen : x.length = c.sizes.length /\ inB c.sizes x = true := by simpa [z7R] using ht
  have hs1 := hv.s1
  rw [z0R _ (by unfold z8w; omega)]
  obtain ⟨n, rfl⟩ := Int.eq_ofNat_of_zero_le (show 0 <= l by omega)
  have hlt : (n : Int) < c.letters := by omega
  rw [z2Y (n := x.length) (fun k => ((k : Int), (stV c x n).take k ++ List.replicate (x.length - k) 0)) (fun k => !ze4 c.rows (x.take k)) (fun _ => some ([], 23)) (x := some (stV c x n, 0)) (by simp) (by simp only [LFm]; omega)]
  · rw [z6D]
    simp only [Bool.not_not, Int.toNat_natCast]
    unfold zkM
    split <;> rfl
  · intro k hk
    simp only [z1P]
    rw [if_pos (by omega), z0T hk, z8t (by omega)]
    simp only [Option.bind_some]
    rw [ziq _ _ hv.up (by exact hv.r1) (fun r hr => (hcb.row r hr).1)]
    simp only [Option.bind_some]
    cases hh : ze4 c.rows (x.take k) with
    | false => simp
    | true =>
      obtain ⟨low, s, k1, k2, k3, e1, e2, e3⟩ := z9T hv ht hlt hk hh
      rw [e1, e2, z0T k1]
      simp only [Option.bind_some, if_true]
      rw [z0T k2]
      simp only [Option.bind_some]
      rw [z0T k3]
      simp only [Option.bind_some]
      have hy : k < ((stV c x n).take k ++ List.replicate (x.length - k) 0).length := by simp [z2J]; omega
      rw [z0T hy, z1E (by omega)]
      simp only [Option.bind_some, Bool.not_true, Bool.false_eq_true, if_false]
      congr 2
      have hvv : (stV c x n)[k]? = some (zfP c x n k) := zdE c x n k hk
      have hl := z2J c x n
      rw [Int.toNat_natCast, ← e3, List.set_append_right _ _ (by simp; omega)]
      have e : k - (List.take k (stV c x n)).length = 0 := by simp; omega
      rw [e, List.take_add_one, hvv]
      obtain ⟨m, hm⟩ : ∃ m, x.length - k = m + 1 := ⟨x.length - k - 1, by omega⟩
      rw [hm, show x.length - (k + 1) = m by omega]
      simp [List.replicate_succ]
  · simp only [z1P]
    rw [if_neg (by omega)]
    simp [List.take_of_length_le (Nat.le_of_eq (z2J c x n))]
theorem zha (c : Casc) (hv : Valid c) (x : List Int) (l : Int) (ht : z7R c.sizes x = true) (h0 : 0 <= l) (h1 : l < c.letters) : z5o c x l = some (z6a c x l) := by
  have hcb := CB.of hv
  have hlen : x.length = c.sizes.length /\ inB c.sizes x = true := by simpa [z7R] using ht
  have hs1 := hv.s1
  unfold z5o z6a
  rw [if_pos ⟨ht, h0, h1⟩]
  obtain ⟨n, rfl⟩ := Int.eq_ofNat_of_zero_le h0
  rw [z2Y (n := x.length) (fun k => ((k : Int), (stV c x n).take k)) (fun k => !ze4 c.rows (x.take k)) (fun _ => some ([], 23)) (x := some (stV c x n, 0)) (by simp) (by simp only [LFm]; omega)]
  · rw [z6D]
    simp only [Bool.not_not, Int.toNat_natCast]
    unfold zkM
    split <;> rfl
  · intro k hk
    simp only [z4Z]
    rw [if_pos (by omega), z8t (by omega)]
    simp only [Option.bind_some]
    rw [zlq _ _ hcb, zdH]
    simp only [Option.bind_some]
    cases hh : ze4 c.rows (x.take k) with
    | false => rw [zfS hh]; simp
    | true =>
      obtain ⟨low, s, k1, k2, k3, e1, e2, e3⟩ := z9T hv ht h1 hk hh
      rw [zcv hv.up hh, e1]
      simp only
      rw [if_neg (by omega), z0T k1]
      simp only [Option.bind_some]
      rw [z0T k2]
      simp only [Option.bind_some]
      rw [z0T hk]
      simp only [Option.bind_some]
      rw [e2, z0T k3]
      simp only [Option.bind_some]
      have hl := z2J c x n
      rw [z0R _ (by unfold z1g; simp; omega), z1E (by omega)]
      simp only [Bool.not_true, Bool.false_eq_true, if_false]
      have hvv : (stV c x n)[k]? = some (zfP c x n k) := zdE c x n k hk
      rw [List.take_add_one, hvv, e3]
      rfl
  · simp only [z4Z]
    rw [if_neg (by omega)]
    simp [List.take_of_length_le (Nat.le_of_eq (z2J c x n))]
end
section
open Go
noncomputable section
set_option maxRecDepth 100000
set_option maxHeartbeats 1000000
end
end
section
open Go
structure FlOk (c : Casc) (ts : List (List Int)) : Prop where
  tup : ∀ t ∈ ts, z7R c.sizes t = true
  len : ts.length <= 2000
theorem ziD {c : Casc} {x : List Int} {l : Int} (h : (z6a c x l).2 = 0) : z7R c.sizes x = true /\ 0 <= l /\ l < c.letters /\ zkM c x = true /\ z6a c x l = (stV c x l.toNat, 0) := by
  unfold z6a at h ⊢
  split at h
  · rename_i h1
    split at h
    · rename_i h2
      exact ⟨h1.1, h1.2.1, h1.2.2, h2, by rw [if_pos h1, if_pos h2]⟩
    · cases h
  · cases h
theorem zck {c : Casc} (hv : Valid c) {x : List Int} {l : Int} (h : (z6a c x l).2 = 0) : z7R c.sizes (z6a c x l).1 = true := by
  obtain ⟨h1, h2, h3, h4, e⟩ := ziD h
  rw [e]
  have hlen : x.length = c.sizes.length /\ inB c.sizes x = true := by simpa [z7R] using h1
  simp only [z7R, Bool.and_eq_true, decide_eq_true_eq]
  refine ⟨by rw [z2J]; exact hlen.1, ?_⟩
  rw [z4S _ _ (by rw [z2J]; omega)]
  intro i hi
  rw [z2J] at hi
  have hh : ze4 c.rows (x.take i) = true := by
    unfold zkM at h4
    exact List.all_eq_true.1 h4 i (List.mem_range.2 hi)
  obtain ⟨low, s, k1, k2, k3, e1, e2, e3⟩ := z9T hv h1 (l := l.toNat) (by omega) hi hh
  obtain ⟨_, e1'⟩ := zdZ hv.up hh
  obtain ⟨f1, f2, f3, f4⟩ := z6b (hv.row low k1)
  obtain ⟨g1, g2⟩ := f4 l.toNat k2
  rw [z0r _ k2] at g1 g2
  have hg := g2 s k3
  rw [z0r _ k3] at hg
  have hpl : c.rows[low].pre.length = i := by
    have : c.rows[low].pre = x.take i := by
      have e5 : ∀ (a b : Nat) (ha : a < c.rows.length) (hb : b < c.rows.length), a = b -> c.rows[a].pre = c.rows[b].pre := fun a b ha hb h => by subst h; rfl
      rw [← e1', ← e5 (ziu c.rows (x.take i)) low (by omega) k1 e1]
    rw [this]
    simp; omega
  rw [hpl] at hg
  rw [z0r 0 (by rw [z2J]; exact hi)]
  have := zdE c x l.toNat i hi
  rw [List.getElem?_eq_getElem (by rw [z2J]; exact hi)] at this
  rw [Option.some.inj this, e3]
  exact hg
end
section
open Go
set_option maxHeartbeats 1000000
end
section
open Go
theorem z8Q (s : ByteArray) : s.data.toList.length = s.size := by simp
theorem z7S (s : ByteArray) {k : Nat} (h : k < s.size) : s.data.toList.drop k = s[k] :: s.data.toList.drop (k + 1) := by
  rw [List.drop_eq_getElem_cons (by rw [z8Q]; exact h)]
  rfl
end
section
open Go
set_option maxHeartbeats 1000000
def okL (m : Int) (b : UInt8) : Bool := decide (97 <= (b.toNat : Int) /\ (b.toNat : Int) - 97 < m)
def zax (m : Int) (w : ByteArray) : Bool := w.data.toList.all (okL m)
theorem zaM (w : ByteArray) (m : Int) (hw : w.size <= 2048) (hm : m <= 6) : z0E (z3A w m) LFm 0 = some (zax m w) := by
  refine z7t (fun st : Int => ∃ k : Nat, k <= w.size /\ st = (k : Int) /\ (w.data.toList.drop k).all (okL m) = zax m w) (fun st => w.size - st.toNat) (s := 0) ⟨0, by omega, rfl, rfl⟩ (by simp only [LFm]; omega) ?_
  rintro _ ⟨k, hk, rfl, he⟩
  simp only [z3A]
  by_cases hlt : k < w.size
  · rw [z7S w hlt, List.all_cons] at he
    rw [if_pos (by omega), zap hlt, Option.bind_some]
    have hB := w[k].toNat_lt
    by_cases h1 : (w[k].toNat : Int) < 97
    · right
      rw [if_pos h1, ← he]
      have : okL m w[k] = false := by unfold okL; simp; omega
      rw [this]
      all_goals rfl
    · rw [if_neg h1, zgP (by omega) (by omega), z5Q (by omega) (by omega)]
      by_cases h2 : m <= (w[k].toNat : Int) - 97
      · right
        rw [if_pos h2, ← he]
        have : okL m w[k] = false := by unfold okL; simp; omega
        rw [this]
        all_goals rfl
      · left
        rw [if_neg h2, z1E (by omega)]
        have : okL m w[k] = true := by unfold okL; simp; omega
        rw [this, Bool.true_and] at he
        exact ⟨_, rfl, ⟨k + 1, by omega, rfl, he⟩, by omega⟩
  · right
    have : k = w.size := by omega
    subst this
    rw [if_neg (by omega)]
    rw [List.drop_of_length_le (by rw [z8Q]; exact Nat.le_refl _)] at he
    rw [← he]
    all_goals rfl
theorem zdM (w : ByteArray) (m : Int) (h1 : 1 <= m) (h2 : m <= 6) : z5x w m = some (decide (w.size <= 2048) && zax m w) := by
  unfold z5x z3I
  rw [if_pos h1, Option.bind_some, if_pos (by simpa using h2)]
  by_cases hw : 2048 < w.size
  · rw [if_pos (by omega)]
    have : ¬ w.size <= 2048 := by omega
    simp [this]
  · rw [if_neg (by omega), zaM w m (by omega) h2]
    have : w.size <= 2048 := by omega
    simp [this]
theorem zc8 (w : ByteArray) (m : Int) (h1 : 1 <= m) (h2 : m <= 6) : z5n w m = some (decide (w.size <= 2048) && zax m w) := by
  unfold z5n
  rw [if_neg (by omega), if_neg (by omega)]
  by_cases hw : 2048 < w.size
  · rw [if_pos (by omega)]
    have : ¬ w.size <= 2048 := by omega
    simp [this]
  · rw [if_neg (by omega), show z6t w m = z3A w m from rfl, zaM w m (by omega) h2]
    have : w.size <= 2048 := by omega
    simp [this]
def zgJ (c : Casc) : List Int -> List Int -> List Int × Int
  | x, [] => (x, 0)
  | x, l :: ls => if (z6a c x l).2 = 0 then zgJ c (z6a c x l).1 ls else ([], (z6a c x l).2)
def zg9 (w : ByteArray) : List Int := w.data.toList.map fun b => (b.toNat : Int) - 97
theorem zcl (c : Casc) (x : List Int) (l : Int) : (z6a c x l).1.length <= x.length := by
  unfold z6a
  split
  · split
    · simp [stV]
    · simp
  · simp
theorem zeE (c : Casc) : ∀ (ls x : List Int), (zgJ c x ls).1.length <= x.length
  | [], x => Nat.le_refl _
  | l :: ls, x => by
    simp only [zgJ]
    split
    · exact Nat.le_trans (zeE c ls _) (zcl c x l)
    · simp
def zfO (c : Casc) (x : List Int) (l : Int) : List Int × Int := if z2M c = 0 then z6a c x l else ([], z2M c)
theorem zkp (c : Casc) (h : CB c) (x : List Int) (l : Int) (hx : x.length < 1000000) : z4Q c x l = some (zfO c x l) := by
  unfold z4Q z1L zfO
  rw [z5H c h]
  simp only [Option.bind_some]
  by_cases hv : z2M c = 0
  · rw [if_pos hv, if_pos hv]
    simp only [Option.bind_some, if_true]
    have hV := z4z c hv
    have := z7Q c hV x l (by omega)
    rw [this]
    all_goals rfl
  · rw [if_neg hv, if_neg hv]
    simp only [Option.bind_some]
    rw [if_neg hv]
theorem zfX (c : Casc) (h : CB c) (x : List Int) (l : Int) (hx : x.length < 1000000) : z6d c x l = some (zfO c x l) := by
  unfold z6d zfO
  rw [z3w c h]
  simp only [Option.bind_some]
  by_cases hv : z2M c = 0
  · rw [if_pos hv, if_pos hv, zbj _ _ (by omega)]
    simp only [Option.bind_some]
    have hV := z4z c hv
    by_cases ht : z7R c.sizes x = true
    · rw [if_pos ht]
      by_cases h1 : l < 0
      · rw [if_pos h1]
        unfold z6a
        rw [if_neg (by omega)]
      · rw [if_neg h1]
        by_cases h2 : c.letters <= l
        · rw [if_pos h2]
          unfold z6a
          rw [if_neg (by omega)]
        · rw [if_neg h2, zha c hV x l ht (by omega) (by omega)]
          all_goals rfl
    · rw [if_neg ht]
      unfold z6a
      rw [if_neg (fun e => ht e.1)]
  · rw [if_neg hv, if_neg hv]
theorem zbn {sz x : List Int} (h : z7R sz x = true) : x.length = sz.length := by
  have : x.length = sz.length /\ inB sz x = true := by simpa [z7R] using h
  exact this.1
theorem zcS {w : ByteArray} {k : Nat} (hk : k < w.size) : (zg9 w).drop k = ((w[k].toNat : Int) - 97) :: (zg9 w).drop (k + 1) := by
  unfold zg9
  rw [← List.map_drop, z7S w hk, List.map_cons, List.map_drop]
theorem zkX {w : ByteArray} {m : Int} (h : zax m w = true) {k : Nat} (hk : k < w.size) : 97 <= (w[k].toNat : Int) /\ (w[k].toNat : Int) - 97 < m := by
  unfold zax at h
  rw [List.all_eq_true] at h
  have := h w[k] (by
    have h2 := z7S w hk
    exact List.mem_of_mem_drop (i := k) (by rw [h2]; exact List.mem_cons_self))
  unfold okL at this
  simpa using this
theorem zeD (c : Casc) (hV : Valid c) (w : ByteArray) (x : List Int) (hx : z7R c.sizes x = true) (hw : zax c.letters w = true) (hs : w.size <= 2048) :
    z0E (z4L w (⟨c⟩, 0)) LFm (0, x) = some (zgJ c x (zg9 w)) /\ z0E (z5L c w) LFm (0, x) = some (zgJ c x (zg9 w)) := by
  have hs1 := hV.s1
  have hl2 := hV.l2
  have endL : (zg9 w).drop w.size = [] := by
    apply List.drop_of_length_le
    unfold zg9
    rw [List.length_map, z8Q]
    exact Nat.le_refl _
  constructor
  · refine z7t (fun st : Int × List Int => ∃ k : Nat, k <= w.size /\ st.1 = (k : Int) /\ z7R c.sizes st.2 = true /\ zgJ c st.2 ((zg9 w).drop k) = zgJ c x (zg9 w)) (fun st => w.size - st.1.toNat) (s := (0, x)) ⟨0, by omega, rfl, hx, rfl⟩ (by simp only [LFm]; omega) ?_
    rintro ⟨_, y⟩ ⟨k, hk, h1, h2, h3⟩
    simp only at h1 h2 h3
    subst h1
    simp only [z4L]
    by_cases hlt : k < w.size
    · obtain ⟨o1, o2⟩ := zkX hw hlt
      have hB := w[k].toNat_lt
      rw [zcS hlt] at h3
      simp only [zgJ] at h3
      have hyl := zbn h2
      rw [if_pos (by omega), zap hlt, Option.bind_some, zgP (by omega) (by omega), z5Q (by omega) (by omega), z7Q c hV y _ (by omega), Option.bind_some, z1E (by omega)]
      by_cases h0 : (z6a c y ((w[k].toNat : Int) - 97)).2 = 0
      · left
        rw [if_pos h0]
        rw [if_pos h0] at h3
        exact ⟨_, rfl, ⟨k + 1, by omega, rfl, zck hV h0, h3⟩, by simp only; omega⟩
      · right
        rw [if_neg h0]
        rw [if_neg h0] at h3
        rw [h3]
    · right
      have : k = w.size := by omega
      subst this
      rw [if_neg (by omega)]
      rw [endL] at h3
      rw [← h3]
      all_goals rfl
  · refine z7t (fun st : Int × List Int => ∃ k : Nat, k <= w.size /\ st.1 = (k : Int) /\ z7R c.sizes st.2 = true /\ zgJ c st.2 ((zg9 w).drop k) = zgJ c x (zg9 w)) (fun st => w.size - st.1.toNat) (s := (0, x)) ⟨0, by omega, rfl, hx, rfl⟩ (by simp only [LFm]; omega) ?_
    rintro ⟨_, y⟩ ⟨k, hk, h1, h2, h3⟩
    simp only at h1 h2 h3
    subst h1
    simp only [z5L]
    by_cases hlt : k < w.size
    · obtain ⟨o1, o2⟩ := zkX hw hlt
      have hB := w[k].toNat_lt
      rw [zcS hlt] at h3
      simp only [zgJ] at h3
      have hyl := zbn h2
      rw [if_pos (by omega), zap hlt, Option.bind_some, zgP (by omega) (by omega), z5Q (by omega) (by omega), zha c hV y _ h2 (by omega) o2, Option.bind_some, z1E (by omega)]
      by_cases h0 : (z6a c y ((w[k].toNat : Int) - 97)).2 = 0
      · left
        rw [if_pos h0]
        rw [if_pos h0] at h3
        exact ⟨_, rfl, ⟨k + 1, by omega, rfl, zck hV h0, h3⟩, by simp only; omega⟩
      · right
        rw [if_neg h0]
        rw [if_neg h0] at h3
        rw [h3]
    · right
      have : k = w.size := by omega
      subst this
      rw [if_neg (by omega)]
      rw [endL] at h3
      rw [← h3]
      all_goals rfl
def zkt (c : Casc) (x : List Int) (w : ByteArray) : List Int × Int := if z2M c = 0 then (if z7R c.sizes x = true then (if (decide (w.size <= 2048) && zax c.letters w) = true then zgJ c x (zg9 w) else ([], 1)) else ([], 1)) else ([], z2M c)
theorem zlp (c : Casc) (h : CB c) (x : List Int) (w : ByteArray) (hx : x.length < 1000000) : z5F c x w = some (zkt c x w) := by
  unfold z5F z1L zkt
  rw [z5H c h]
  simp only [Option.bind_some]
  by_cases hv : z2M c = 0
  · rw [if_pos hv, if_pos hv]
    simp only [Option.bind_some, if_true]
    have hV := z4z c hv
    rw [z8X _ _ (by omega), Option.bind_some]
    by_cases ht : z7R c.sizes x = true
    · rw [if_pos ht, if_pos ht, zc8 w _ hV.l1 hV.l2, Option.bind_some]
      by_cases hw : (decide (w.size <= 2048) && zax c.letters w) = true
      · rw [if_pos hw, if_pos hw]
        have hcl : zaO x = some x := by
          unfold zaO
          rw [if_pos (by omega)]
        rw [hcl, Option.bind_some]
        simp only [Bool.and_eq_true, decide_eq_true_eq] at hw
        exact (zeD c hV w x ht hw.2 hw.1).1
      · rw [if_neg hw, if_neg hw]
    · rw [if_neg ht, if_neg ht]
  · rw [if_neg hv, if_neg hv]
    simp only [Option.bind_some]
    rw [if_neg hv]
theorem zhs (c : Casc) (h : CB c) (x : List Int) (w : ByteArray) (hx : x.length < 1000000) : z6X c x w = some (zkt c x w) := by
  unfold z6X zkt
  rw [z3w c h]
  simp only [Option.bind_some]
  by_cases hv : z2M c = 0
  · rw [if_pos hv, if_pos hv, zbj _ _ (by omega)]
    simp only [Option.bind_some]
    have hV := z4z c hv
    by_cases ht : z7R c.sizes x = true
    · rw [if_pos ht, if_pos ht, zdM w _ hV.l1 hV.l2, Option.bind_some]
      by_cases hw : (decide (w.size <= 2048) && zax c.letters w) = true
      · rw [if_pos hw, if_pos hw, z0R _ (by unfold z1g; omega)]
        simp only [Bool.and_eq_true, decide_eq_true_eq] at hw
        exact (zeD c hV w x ht hw.2 hw.1).2
      · rw [if_neg hw, if_neg hw]
    · rw [if_neg ht, if_neg ht]
  · rw [if_neg hv, if_neg hv]
theorem zjj (c : Casc) (h : CB c) (x : List Int) (l : Int) (w : ByteArray) (hx : x.length < 1000000) : z2l c x l w = some true := by
  unfold z2l
  have k1 : (zb9 c).length < 4611686018427387904 := by
    unfold zb9
    have := h.sz
    split <;> simp <;> omega
  have s1 : (zfO c x l).1.length < 4611686018427387904 := by
    unfold zfO
    have := zcl c x l
    split
    · omega
    · simp
  have r1 : (zkt c x w).1.length < 4611686018427387904 := by
    unfold zkt
    have := zeE c (zg9 w) x
    split
    · split
      · split
        · omega
        · simp
      · simp
    · simp
  rw [z5H c h, z3w c h]
  simp only [Option.bind_some]
  rw [if_pos trivial, zjl c h, zdN c h]
  simp only [Option.bind_some]
  rw [zc5 _ _ k1]
  simp only [Option.bind_some]
  rw [if_pos (by simp), zkp c h x l hx, zfX c h x l hx, zlp c h x w hx, zhs c h x w hx, zit c h, zcz c h]
  simp only [Option.bind_some]
  rw [if_pos trivial, zc5 _ _ s1]
  simp only [Option.bind_some]
  rw [if_pos (by simp), if_pos trivial, zc5 _ _ r1]
  simp
end
section
theorem zdi : ∀ (p q : List Int) (s t : Int), p.length = q.length -> z6p p q < 0 -> z6p (p ++ [s]) (q ++ [t]) < 0
  | [], [], s, t, _, h => by simp [z6p] at h
  | [], _ :: _, s, t, hl, h => by simp at hl
  | _ :: _, [], s, t, hl, h => by simp at hl
  | a :: x, b :: y, s, t, hl, h => by
    simp only [List.cons_append, z6p] at h ⊢
    split at h
    · rename_i h1; rw [if_pos h1]; decide
    · rename_i h1
      rw [if_neg h1]
      split at h
      · omega
      · rename_i h2
        rw [if_neg h2]
        exact zdi x y s t (by simpa using hl) h
theorem zdj : ∀ (p : List Int) (s t : Int), s < t -> z6p (p ++ [s]) (p ++ [t]) < 0
  | [], s, t, h => by simp [z6p, h]
  | a :: x, s, t, h => by
    simp only [List.cons_append, z6p]
    rw [if_neg (by omega), if_neg (by omega)]
    exact zdj x s t h
theorem zgz {a b : List Int} (h : a.length < b.length) : z8e a b < 0 := by simp [z8e, h]
theorem zi6 {a b : List Int} (h : a.length = b.length) : z8e a b = z6p a b := by simp [z8e, h]
def z5O (size : Nat) (p : List Int) : List (List Int) := (List.range size).map fun s : Nat => p ++ [(s : Int)]
def z6z (size : Nat) (pfx : List (List Int)) : List (List Int) := pfx.flatMap (z5O size)
theorem z7s {size : Nat} {p q : List Int} (h : q ∈ z5O size p) : ∃ s : Nat, s < size /\ q = p ++ [(s : Int)] := by
  simp only [z5O, List.mem_map, List.mem_range] at h
  obtain ⟨s, hs, rfl⟩ := h
  exact ⟨s, hs, rfl⟩
structure PfxOk (sizes : List Int) (pfx : List (List Int)) : Prop where
  len : ∀ p ∈ pfx, p.length = sizes.length
  inn : ∀ p ∈ pfx, inB sizes p = true
  up : pfx.Pairwise fun a b => z6p a b < 0
  cnt : pfx.length <= 3 ^ sizes.length
theorem zdP : PfxOk [] [[]] := ⟨by simp, by simp [inB], by simp, by simp⟩
theorem ziX {sizes p : List Int} {n s : Int} (hl : p.length = sizes.length) (h : inB sizes p = true) (h0 : 0 <= s) (h1 : s < n) : inB (sizes ++ [n]) (p ++ [s]) = true := by
  unfold inB at h ⊢
  rw [List.zip_append hl, List.all_append, h]
  simp [h0, h1]
theorem zeZ {sizes p : List Int} {n : Int} (hl : p.length <= sizes.length) (h : inB sizes p = true) : inB (sizes ++ [n]) p = true := by
  rw [z4S _ _ (by simp; omega)]
  intro i hi
  have := (z4S _ _ hl).1 h i hi
  rw [show (sizes ++ [n]).getD i 0 = sizes.getD i 0 by rw [List.getD_eq_getElem?_getD, List.getD_eq_getElem?_getD, List.getElem?_append_left (by omega)]]
  exact this
theorem zcL (size : Nat) (pfx : List (List Int)) : (z6z size pfx).length = size * pfx.length := by
  induction pfx with
  | nil => simp [z6z]
  | cons p l ih =>
    simp only [z6z] at ih ⊢
    rw [List.flatMap_cons, List.length_append, ih]
    simp [z5O, Nat.mul_add, Nat.add_comm]
theorem zeN (size : Nat) : ∀ (pfx : List (List Int)) (n : Nat), (∀ p ∈ pfx, p.length = n) -> (pfx.Pairwise fun a b => z6p a b < 0) -> (z6z size pfx).Pairwise fun a b => z6p a b < 0
  | [], _, _, _ => by simp [z6z]
  | p :: l, n, hl, hu => by
    obtain ⟨h1, h2⟩ := List.pairwise_cons.1 hu
    have ih := zeN size l n (fun q hq => hl q (by simp [hq])) h2
    rw [z6z, List.flatMap_cons, List.pairwise_append]
    refine ⟨?_, ih, ?_⟩
    · rw [z5O, List.pairwise_map]
      exact List.Pairwise.imp (R := fun a b : Nat => a < b) (fun {a b} (h : a < b) => zdj p (a : Int) (b : Int) (by omega)) List.pairwise_lt_range
    · intro a ha b hb
      obtain ⟨s, hs, rfl⟩ := z7s ha
      obtain ⟨q, hq, hb⟩ := List.mem_flatMap.1 hb
      obtain ⟨t, ht, rfl⟩ := z7s hb
      exact zdi p q _ _ (by rw [hl p (by simp), hl q (by simp [hq])]) (h1 q hq)
theorem zg0 {sizes : List Int} {pfx : List (List Int)} (h : PfxOk sizes pfx) (size : Nat) (h3 : size <= 3) : PfxOk (sizes ++ [(size : Int)]) (z6z size pfx) := by
  refine ⟨?_, ?_, zeN size pfx _ h.len h.up, ?_⟩
  · intro q hq
    obtain ⟨p, hp, hq⟩ := List.mem_flatMap.1 hq
    obtain ⟨s, hs, rfl⟩ := z7s hq
    simp [h.len p hp]
  · intro q hq
    obtain ⟨p, hp, hq⟩ := List.mem_flatMap.1 hq
    obtain ⟨s, hs, rfl⟩ := z7s hq
    exact ziX (h.len p hp) (h.inn p hp) (by omega) (by omega)
  · rw [zcL]
    simp only [List.length_append, List.length_cons, List.length_nil, Nat.zero_add, Nat.pow_succ]
    have := Nat.mul_le_mul h3 h.cnt
    omega
structure RowsOk (letters : Int) (sizes : List Int) (rows : List CRow) : Prop where
  row : ∀ r ∈ rows, z9r ⟨letters, sizes, []⟩ r = true
  up : rows.Pairwise fun a b => z8e a.pre b.pre < 0
theorem zct (letters : Int) : RowsOk letters [] [] := ⟨by simp, by simp⟩
theorem zdG {letters : Int} {sizes : List Int} {rows : List CRow} (h : RowsOk letters sizes rows) (n : Int) : RowsOk letters (sizes ++ [n]) rows := by
  refine ⟨fun r hr => ?_, h.up⟩
  have hl : r.pre.length < sizes.length := by
    have := h.row r hr
    simp only [z9r, Bool.and_eq_true, decide_eq_true_eq] at this
    exact this.1.1.1
  have := h.row r hr
  simp only [z9r, Bool.and_eq_true, decide_eq_true_eq] at this ⊢
  refine ⟨⟨⟨by simp; omega, zeZ (by omega) this.1.1.2⟩, this.1.2⟩, ?_⟩
  rw [show (sizes ++ [n]).getD r.pre.length 0 = sizes.getD r.pre.length 0 by rw [List.getD_eq_getElem?_getD, List.getD_eq_getElem?_getD, List.getElem?_append_left hl]]
  exact this.2
theorem zcu {letters : Int} {sizes : List Int} {rows : List CRow} (h : RowsOk letters sizes rows) : ∀ r ∈ rows, r.pre.length < sizes.length := fun r hr => by
  have := h.row r hr
  simp only [z9r, Bool.and_eq_true, decide_eq_true_eq] at this
  exact this.1.1.1
theorem zdF {letters : Int} {sizes : List Int} {n : Int} {rows : List CRow} {p : List Int} {maps : List (List Int)} (h : RowsOk letters (sizes ++ [n]) rows) (hp : p.length = sizes.length) (hin : inB sizes p = true)
    (hm : (maps.length : Int) = letters) (hmm : ∀ m ∈ maps, z9C n m = true) (hlt : ∀ r ∈ rows, z8e r.pre p < 0) : RowsOk letters (sizes ++ [n]) (rows ++ [⟨p, maps⟩]) := by
  refine ⟨fun r hr => ?_, ?_⟩
  · rcases List.mem_append.1 hr with hr | hr
    · exact h.row r hr
    · obtain rfl : r = ⟨p, maps⟩ := by simpa using hr
      simp only [z9r, Bool.and_eq_true, decide_eq_true_eq, List.all_eq_true]
      refine ⟨⟨⟨by simp; omega, zeZ (by omega) hin⟩, hm⟩, ?_⟩
      rw [hp, show (sizes ++ [n]).getD sizes.length 0 = n by rw [List.getD_eq_getElem?_getD, List.getElem?_append_right (by omega)]; simp]
      exact hmm
  · rw [List.pairwise_append]
    exact ⟨h.up, by simp, fun a ha b hb => by
      have e : b = ⟨p, maps⟩ := by simpa using hb
      subst e
      exact hlt a ha⟩
theorem zdB {letters : Int} {sizes : List Int} {rows : List CRow} (h : RowsOk letters sizes rows) (hl : 1 <= letters /\ letters <= 6) (hs : sizes.length <= 24) (hs2 : ∀ n ∈ sizes, 1 <= n /\ n <= 32) (hr : rows.length <= 48000) : z2M ⟨letters, sizes, rows⟩ = 0 := by
  unfold z2M
  simp only []
  rw [if_neg (by omega), if_neg (by omega), if_pos]
  rw [Bool.and_eq_true]
  refine ⟨?_, ?_⟩
  · simp only [List.all_eq_true, Bool.and_eq_true, decide_eq_true_eq]; exact hs2
  · simp only [z6W, List.all_eq_true, List.mem_range, Bool.and_eq_true, Bool.or_eq_true, decide_eq_true_eq]
    intro i hi
    rw [z0r _ hi]
    refine ⟨h.row _ (List.getElem_mem _), ?_⟩
    by_cases h0 : i = 0
    · exact .inl h0
    · right
      rw [z0r _ (by omega)]
      exact List.pairwise_iff_getElem.1 h.up (i - 1) i (by omega) hi (by omega)
end
section
open Go
set_option maxHeartbeats 1000000
structure Built (c : Casc) : Prop where
  l1 : 1 <= c.letters
  l2 : c.letters <= 2
  s1 : c.sizes.length <= 3
  sz : ∀ z ∈ c.sizes, 1 <= z /\ z <= 3
  rl : c.rows.length <= 40 * c.sizes.length
  rok : RowsOk c.letters c.sizes c.rows
theorem zaq {c : Casc} (h : Built c) : z2M c = 0 := zdB h.rok ⟨h.l1, by have := h.l2; omega⟩ (by have := h.s1; omega) (fun n hn => by have := h.sz n hn; omega) (by have := h.rl; have := h.s1; omega)
def zgI (rs : List CRow) (ps : List (List Int)) (k : Nat) : Prop := ∀ r ∈ rs, ∀ j, (h : j < ps.length) -> k <= j -> z8e r.pre ps[j] < 0
theorem zgF {rs : List CRow} {ps : List (List Int)} {k : Nat} (h : zgI rs ps k) : zgI rs ps (k + 1) := fun r hr j hj hk => h r hr j hj (by omega)
theorem zgE {szs : List Int} {rs : List CRow} {ps : List (List Int)} {k : Nat} {ms : List (List Int)} (hp : PfxOk szs ps) (hk : k < ps.length) (h : zgI rs ps k) : zgI (rs ++ [⟨ps[k], ms⟩]) ps (k + 1) := fun r hr j hj hkj => by
  rcases List.mem_append.1 hr with hr | hr
  · exact h r hr j hj (by omega)
  · obtain rfl : r = ⟨ps[k], ms⟩ := by simpa using hr
    rw [zi6 (by rw [hp.len _ (List.getElem_mem _), hp.len _ (List.getElem_mem _)])]
    exact List.pairwise_iff_getElem.1 hp.up k j hk hj (by omega)
theorem zel {lt : Int} {szs : List Int} {rs : List CRow} {ps : List (List Int)} (hr : RowsOk lt szs rs) (hp : PfxOk szs ps) : zgI rs ps 0 := fun r h j hj _ => zgz (by rw [hp.len _ (List.getElem_mem _)]; exact zcu hr r h)
theorem zjR {n : Nat} (h : n <= 3) : 3 ^ n <= 27 := by
  match n, h with
  | 0, _ => decide
  | 1, _ => decide
  | 2, _ => decide
  | 3, _ => decide
theorem zeI {ρ : Type} {b : Int × List (List Int) -> Option ((Int × List (List Int)) ⊕ ρ)} {p : List Int} {sz : Nat} {X : List (List Int) -> Option ρ} (nx : List (List Int)) (hp : p.length <= 100) (hn : nx.length + sz <= 1000000)
    (hb : ∀ s n, b (s, n) = if s < (sz : Int) then (chk (z1g 8 p.length) <| chk (z1g 8 (p.length + 1)) <| chk (z1g 24 (n.length + 1)) <| z0y (IntKind.i64.wrap (s + 1), n ++ [p ++ [s]])) else z0t (X n)) : z0E b LFm (0, nx) = X (nx ++ z5O sz p) := by
  refine z2L sz (fun k => ((k : Int), nx ++ z5O k p)) (by simp [z5O]) (by simp only [LFm]; omega) (fun k hk => ?_) ?_
  · have : (z5O k p).length = k := by simp [z5O]
    rw [hb, if_pos (by omega), z0R _ (by unfold z1g; omega), z0R _ (by unfold z1g; omega), z0R _ (by unfold z1g; simp only [List.length_append]; omega), z1E (by omega)]
    congr 2
    rw [List.append_assoc]
    congr 1
    simp [z5O, List.range_succ]
  · rw [hb, if_neg (by omega)]
theorem zjc (v836 v943 : Int × Tape) (w929 : Int) (w932 : List (List Int)) (v942 : Int × Tape) (sz : Nat) (h1 : IntKind.i64.wrap (1 + v836.1) = sz) (hs : 1 <= sz /\ sz <= 3) (hv : 0 <= v943.1 /\ v943.1 < sz) (ht : TapeOk v943.2) (hl : w932.length <= 100) (hw : 0 <= w929 /\ w929 < 100) :
    ∃ m t', z0E (z3a v836 w929 w932 v942 v943) LFm (0, v943.2.l, v943.2.at_, []) = some (.inl (w929 + 1, t'.l, t'.at_, w932 ++ [m])) /\ TapeOk t' /\ z9C sz m = true := by
  refine Exists.elim (z4u (b := z3a v836 w929 w932 v942 v943) (fun s => ∃ (k : Nat) (t : Tape) (m : List Int), k <= sz /\ TapeOk t /\ m.length = k /\ (∀ x ∈ m, 0 <= x /\ x < sz) /\ s = ((k : Int), t.l, t.at_, m)) (fun s => sz - s.1.toNat)
    (fun o => ∃ m t', o = .inl (w929 + 1, t'.l, t'.at_, w932 ++ [m]) /\ TapeOk t' /\ z9C sz m = true) ?_ LFm _ ⟨0, v943.2, [], by omega, ht, rfl, by simp, rfl⟩ (by simp only [LFm]; omega)) fun r h => ?_
  · rintro _ ⟨k, t, m, hk, htk, hm, hin, rfl⟩
    simp only [z3a, h1]
    by_cases hlt : k < sz
    case neg =>
      right
      rw [if_neg (by omega), z0R _ (by unfold z1g; omega), z5Q (by omega) (by omega)]
      refine ⟨_, rfl, m, t, rfl, htk, ?_⟩
      unfold z9C
      rw [Bool.and_eq_true, decide_eq_true_eq]
      refine ⟨by omega, ?_⟩
      simp only [List.all_eq_true, Bool.and_eq_true, decide_eq_true_eq]
      exact hin
    left
    have more : ∀ (t' : Tape) (x : Int), TapeOk t' -> 0 <= x /\ x < sz -> (∃ s', z0y (IntKind.i64.wrap ((k : Int) + 1), t'.l, t'.at_, m ++ [x]) = some (Sum.inl (β := (Int × List Int × Int × List (List Int)) ⊕ ((Int × List Int × Int × List CRow × List (List Int)) ⊕ ((Int × List Int × Int × List Int × List CRow × List (List Int)) ⊕ (Casc × Tape)))) s') /\ (∃ (k : Nat) (t : Tape) (m : List Int), k <= sz /\ TapeOk t /\ m.length = k /\ (∀ x ∈ m, 0 <= x /\ x < sz) /\ s' = ((k : Int), t.l, t.at_, m)) /\ sz - s'.1.toNat < sz - ((k : Int)).toNat) := fun t' x ht' hx => by
      rw [z1E (by omega)]
      refine ⟨_, rfl, ⟨k + 1, t', m ++ [x], by omega, ht', by simp [hm], ?_, rfl⟩, by simp only [Int.toNat_natCast]; omega⟩
      intro y hy
      rcases List.mem_append.1 hy with h | h
      · exact hin y h
      · have : y = x := by simpa using h
        rw [this]; exact hx
    rw [if_pos (by omega)]
    by_cases h0 : v942.1 = 0
    · rw [if_pos h0, z0R _ (by omega), z0R _ (by unfold z1g; omega), z5Q (x := (k : Int) + v943.1) (by omega) (by omega)]
      have e1 : 0 <= Int.tmod ((k : Int) + v943.1) sz := Int.tmod_nonneg _ (by omega)
      have e2 : Int.tmod ((k : Int) + v943.1) sz < sz := Int.tmod_lt_of_pos _ (by omega)
      exact more t _ htk ⟨e1, e2⟩
    · rw [if_neg h0]
      by_cases h1 : v942.1 = 1
      · rw [if_pos h1, z0R _ (by unfold z1g; omega)]
        exact more t _ htk hv
      · rw [if_neg h1]
        obtain ⟨v, t2, e2, v0, v1, ht2⟩ := z7b htk sz (by omega) (by omega)
        rw [show (⟨t.l, t.at_⟩ : Tape) = t from rfl, e2]
        simp only [Option.bind_some]
        rw [z0R _ (by unfold z1g; omega)]
        exact more t2 v ht2 ⟨v0, v1⟩
  · obtain ⟨h2, m, t', rfl, h3, h4⟩ := h
    exact ⟨m, t', h2, h3, h4⟩
end
section
open Go
noncomputable section
set_option maxRecDepth 100000
set_option maxHeartbeats 4000000
attribute [local simp] zlm
theorem zqc : Tryd.f13.body = some (match Tryd.f13.body with | some c => c | none => .skip) := rfl
def z4H (a1 : Casc) : Int × List Int × Int × List Int -> Option ((Int × List Int × Int × List Int) ⊕ (List Int × Tape))
  | (w13, w14, w15, w16) =>
  if w13 < (a1.sizes.length : Int) then
    (atI a1.sizes w13).bind fun v19 =>
    (z0U (⟨w14, w15⟩ : Tape) v19).bind fun v20 =>
    chk (z1g 8 (w16.length + 1)) <|
    z0y (IntKind.i64.wrap (w13 + 1), v20.2.l, v20.2.at_, w16 ++ [v20.1])
  else
    z0t <|
    some (w16, (⟨w14, w15⟩ : Tape))
def z4G (a1 : Casc) : Int × List Int × Int × List Int -> Fr
  | (w13, w14, w15, w16) => ⟨24, [(0, .one (.a 0 [] (0))), (5, .one (.h 5 [])), (10, .one (.t none (.sl a1.sizes.length (a1.sizes.map fun x0 => .sc (.int .i64 x0))))), (11, .one (.t none (.sc (.int .i64 (a1.sizes.length : Int))))), (12, .one (.t none (.sc (.int .i64 w13)))), (1024, .one (.a 0 [] (0)))], [(0, .vr [.sl w14.length (w14.map fun x0 => .sc (.int .i64 x0)), .sc (.int .i64 w15)]), (5, .os 1 w16.length (w16.map fun x0 => .sc (.int .i64 x0)))]⟩
def z4v (a0 : Tape) (a1 : Casc) : Option (List Int × Tape) :=
  z0E (z4H a1) LFm (0, a0.l, a0.at_, [])
theorem zab {a0 : Tape} {a1 : Casc} {r : List Int × Tape} (h0 : z4v a0 a1 = some r) : zcr Tryd.prog L zlm LFm Tryd.f13 [.vr [.sl a0.l.length (a0.l.map fun x0 => .sc (.int .i64 x0)), .sc (.int .i64 a0.at_)], .agg [.sc (.int .i64 a1.letters), .sl a1.sizes.length (a1.sizes.map fun x0 => .sc (.int .i64 x0)), .sl a1.rows.length (a1.rows.flatMap fun x0 => [.sl x0.pre.length (x0.pre.map fun x1 => .sc (.int .i64 x1)), .sl x0.maps.length (x0.maps.map fun x1 => .sl x1.length (x1.map fun x2 => .sc (.int .i64 x2)))])]] = some (.os 1 r.1.length (r.1.map fun x0 => .sc (.int .i64 x0)), [.vr [.sl r.2.l.length (r.2.l.map fun x0 => .sc (.int .i64 x0)), .sc (.int .i64 r.2.at_)], .dead]) := by
  simp only [z4v] at h0
  refine z0F zqc ⟨of_decide_eq_true rfl, of_decide_eq_true rfl⟩ ?_
  simp only [z0K, z0H, z0G, z0L, z1S]
  refine zq rfl (zr rfl rfl rfl (by simp; rfl) ?_)
  refine z0a (zq rfl (zr rfl rfl rfl (by simp; rfl) ?_))
  refine z0a (zq rfl (zq rfl (zr rfl rfl rfl (by simp; rfl) ?_)))
  refine z0a (zb rfl (z0C h0 (z4G a1) rfl rfl (by simp [z4G]) fun s o1 h1 hr1 => ?_))
  obtain ⟨w13, w14, w15, w16⟩ := s
  simp only [z4H] at h1
  simp only [z4G]
  refine zq rfl (zr rfl rfl rfl (by simp; rfl) ?_)
  refine z0a (zq rfl ?_)
  by_cases c19 : w13 < (a1.sizes.length : Int)
  ·rw [if_pos c19] at h1
   refine z0p rfl (by simp [c19]) (z0n rfl (z0a (zq rfl (zb rfl (zq rfl ?_)))))
   obtain ⟨v19, f20, h2⟩ := z1x h1
   refine zr rfl rfl rfl (by simp [f20]; rfl) ?_
   refine z0a ?_
   obtain ⟨v20, f21, h3⟩ := z0b h2
   have f21k := z1d f21
   try simp at f21k
   obtain ⟨f22, h4⟩ := z5l h3
   refine zr rfl rfl rfl (by simp [f21k, f22]; rfl) ?_
   refine z0g (z0a (zr rfl rfl rfl (by simp; rfl) ?_))
   have ho := z0f h4
   refine z0j ho ?_
   simp [z4G]
  ·rw [if_neg c19] at h1
   refine z0s rfl (by simp [c19]) (z0I rfl (z0B ?_))
   obtain ⟨rr1, h2, ho1⟩ := z0d h1
   have hs1 := hr1 _ ho1
   subst hs1
   refine z0v ho1 (z0l rfl (z0a (zq rfl (zr rfl rfl rfl (by simp; rfl) ?_))))
   refine z0a (z0o rfl ?_)
   cases h2
   simp
theorem zaC {a0 : Tape} {a1 : Casc} {r : List Int × Tape} (h0 : z4v a0 a1 = some r) : L 13 [.vr [.sl a0.l.length (a0.l.map fun x0 => .sc (.int .i64 x0)), .sc (.int .i64 a0.at_)], .agg [.sc (.int .i64 a1.letters), .sl a1.sizes.length (a1.sizes.map fun x0 => .sc (.int .i64 x0)), .sl a1.rows.length (a1.rows.flatMap fun x0 => [.sl x0.pre.length (x0.pre.map fun x1 => .sc (.int .i64 x1)), .sl x0.maps.length (x0.maps.map fun x1 => .sl x1.length (x1.map fun x2 => .sc (.int .i64 x2)))])]] = some (.os 1 r.1.length (r.1.map fun x0 => .sc (.int .i64 x0)), [.vr [.dead, .sc (.int .i64 r.2.at_)], .dead]) := by
  obtain ⟨n, hn⟩ := zeF (zab h0)
  refine ziR rfl ⟨n, fun m hm => ?_⟩
  show xtF (z2j Tryd.prog xt z1A m) _ _ = _
  unfold xtF
  rw [if_pos rfl]
  unfold zkB
  rw [hn m hm]
  rfl
end
end
section
open Go
set_option maxHeartbeats 1000000
theorem zjZ (v477 v836 : Int × Tape) (w874 : Nat) (nx : List (List Int)) (rs : List CRow) (p : List Int) (t : Tape) (lt : Nat) (sz : Nat) (h0 : IntKind.i64.wrap (1 + v477.1) = lt) (hlt : 1 <= lt /\ lt <= 2) (h1 : IntKind.i64.wrap (1 + v836.1) = sz) (hs : 1 <= sz /\ sz <= 3) (ht : TapeOk t)
    (hr : rs.length <= 1000) (hp : p.length <= 100) (hn : nx.length <= 1000) (hw : w874 <= 1000) :
    ∃ (ms : List (List Int)) (t' : Tape), z0E (z3b v477 v836 (w874 : Int) nx rs p) LFm (0, t.l, t.at_, []) = some (.inl (((w874 + 1 : Nat) : Int), t'.l, t'.at_, rs ++ [⟨p, ms⟩], nx ++ z5O sz p)) /\ TapeOk t' /\ ms.length = lt /\ ∀ m ∈ ms, z9C sz m = true := by
  refine Exists.elim (z4u (b := z3b v477 v836 (w874 : Int) nx rs p) (fun s => ∃ (k : Nat) (t : Tape) (ms : List (List Int)), k <= lt /\ TapeOk t /\ ms.length = k /\ (∀ m ∈ ms, z9C sz m = true) /\ s = ((k : Int), t.l, t.at_, ms)) (fun s => lt - s.1.toNat)
    (fun o => ∃ (ms : List (List Int)) (t' : Tape), o = .inl (((w874 + 1 : Nat) : Int), t'.l, t'.at_, rs ++ [⟨p, ms⟩], nx ++ z5O sz p) /\ TapeOk t' /\ ms.length = lt /\ ∀ m ∈ ms, z9C sz m = true) ?_ LFm _ ⟨0, t, [], by omega, ht, rfl, by simp, rfl⟩ (by simp only [LFm]; omega)) fun r h => ?_
  · rintro _ ⟨k, t, ms, hk, htk, hm, hin, rfl⟩
    simp only [z3b, h0]
    by_cases hkl : k < lt
    case neg =>
      right
      rw [if_neg (by omega), z0R _ (by unfold z1g; omega)]
      rw [zeI (p := p) (sz := sz) (X := fun n => z0y (((w874 + 1 : Nat) : Int), t.l, t.at_, rs ++ [⟨p, ms⟩], n)) nx hp (by omega)]
      · exact ⟨_, rfl, ms, t, rfl, htk, by omega, hin⟩
      · intro s n
        simp only [z4R, h1]
        rw [z1E (k := w874) (by omega)]
    left
    rw [if_pos (by omega)]
    obtain ⟨v, t2, e2, v0, v1, ht2⟩ := z7b htk 3 (by omega) (by omega)
    rw [show (⟨t.l, t.at_⟩ : Tape) = t from rfl, e2]
    simp only [Option.bind_some]
    obtain ⟨u, t3, e3, u0, u1, ht3⟩ := z7b ht2 sz (by omega) (by omega)
    rw [h1, e3]
    simp only [Option.bind_some]
    obtain ⟨m, t4, e4, ht4, hmb⟩ := zjc v836 (u, t3) (k : Int) ms (v, t2) sz h1 hs ⟨u0, u1⟩ ht3 (by omega) (by omega)
    rw [e4]
    refine ⟨_, rfl, ⟨k + 1, t4, ms ++ [m], by omega, ht4, by simp [hm], ?_, by simp⟩, by simp only; omega⟩
    intro y hy
    rcases List.mem_append.1 hy with h | h
    · exact hin y h
    · have : y = m := by simpa using h
      rw [this]; exact hmb
  · obtain ⟨h2, m, t', rfl, h3, h4⟩ := h
    exact ⟨m, t', h2, h3, h4⟩
theorem zkh (v477 v836 : Int × Tape) (n : Int) (szs : List Int) (ps : List (List Int)) (rs : List CRow) (t : Tape) (lt : Nat) (sz : Nat) (h0 : IntKind.i64.wrap (1 + v477.1) = lt) (hlt : 1 <= lt /\ lt <= 2) (h1 : IntKind.i64.wrap (1 + v836.1) = sz) (hs : 1 <= sz /\ sz <= 3) (ht : TapeOk t)
    (hn : 0 < n /\ n <= 3) (hz : szs.length <= 2) (hr : RowsOk lt szs rs) (hp : PfxOk szs ps) (hrl : rs.length <= 40 * szs.length) :
    ∃ (rs' : List CRow) (t' : Tape), z0E (z3c v477 n szs ps v836) LFm (0, t.l, t.at_, rs, []) = some (.inl (n - 1, t'.l, t'.at_, szs ++ [(sz : Int)], rs', z6z sz ps)) /\ TapeOk t' /\ RowsOk lt (szs ++ [(sz : Int)]) rs' /\ rs'.length <= 40 * (szs.length + 1) := by
  have hpc : ps.length <= 27 := Nat.le_trans hp.cnt (zjR (by omega))
  refine Exists.elim (z4u (b := z3c v477 n szs ps v836) (fun s => ∃ (k : Nat) (t : Tape) (rs' : List CRow), k <= ps.length /\ TapeOk t /\ RowsOk lt (szs ++ [(sz : Int)]) rs' /\ rs'.length <= 40 * szs.length + k /\ zgI rs' ps k /\ s = ((k : Int), t.l, t.at_, rs', z6z sz (ps.take k))) (fun s => ps.length - s.1.toNat)
    (fun o => ∃ (rs' : List CRow) (t' : Tape), o = .inl (n - 1, t'.l, t'.at_, szs ++ [(sz : Int)], rs', z6z sz ps) /\ TapeOk t' /\ RowsOk lt (szs ++ [(sz : Int)]) rs' /\ rs'.length <= 40 * (szs.length + 1)) ?_ LFm (0, t.l, t.at_, rs, [])
    ⟨0, t, rs, by omega, ht, zdG hr _, by omega, zel hr hp, by simp [z6z]⟩ (by simp only [LFm]; omega)) fun r h => ?_
  · rintro _ ⟨k, t, rs', hk, htk, hrok, hrl', hah, rfl⟩
    simp only [z3c]
    by_cases hkl : k < ps.length
    case neg =>
      right
      rw [if_neg (by omega), h1, z5Q (by omega) (by omega), List.take_of_length_le (by omega)]
      exact ⟨_, rfl, rs', t, rfl, htk, hrok, by omega⟩
    left
    rw [if_pos (by omega), z0T hkl]
    simp only [Option.bind_some]
    obtain ⟨v, t2, e2, v0, v1, ht2⟩ := z7b htk 12 (by omega) (by omega)
    rw [show (⟨t.l, t.at_⟩ : Tape) = t from rfl, e2]
    simp only [Option.bind_some]
    have hpl := hp.len _ (List.getElem_mem hkl)
    have hpk : ps.take (k + 1) = ps.take k ++ [ps[k]] := by rw [List.take_add_one, List.getElem?_eq_getElem hkl]; rfl
    have hnx : z6z sz (ps.take (k + 1)) = z6z sz (ps.take k) ++ z5O sz ps[k] := by rw [hpk, z6z, z6z, List.flatMap_append]; simp
    have hnl : (z6z sz (ps.take k)).length <= 100 := by
      rw [zcL]
      have h1 : (ps.take k).length <= 27 := by simp; omega
      have := Nat.mul_le_mul hs.2 h1
      omega
    by_cases hm : v = 11
    · rw [if_pos hm]
      rw [zeI (p := ps[k]) (sz := sz) (X := fun n => z0y (((k + 1 : Nat) : Int), t2.l, t2.at_, rs', n)) (z6z sz (ps.take k)) (by omega) (by omega)]
      · exact ⟨_, rfl, ⟨k + 1, t2, rs', by omega, ht2, hrok, by omega, zgF hah, by rw [hnx]⟩, by simp only [Int.toNat_natCast]; omega⟩
      · intro s n
        simp only [z5A, h1]
        rw [z1E (k := k) (by omega)]
    · rw [if_neg hm]
      obtain ⟨ms, t3, e3, ht3, hml, hmm⟩ := zjZ v477 v836 k (z6z sz (ps.take k)) rs' ps[k] t2 lt sz h0 hlt h1 hs ht2 (by omega) (by omega) (by omega) (by omega)
      rw [e3]
      exact ⟨_, rfl, ⟨k + 1, t3, rs' ++ [⟨ps[k], ms⟩], by omega, ht3, zdF hrok hpl (hp.inn _ (List.getElem_mem hkl)) (by omega) hmm (fun r hr => hah r hr k hkl (Nat.le_refl k)), by simp; omega, zgE hp hkl hah, by rw [hnx]⟩, by simp only [Int.toNat_natCast]; omega⟩
  · obtain ⟨h2, m, t', rfl, h3, h4⟩ := h
    exact ⟨m, t', h2, h3, h4⟩
theorem zje {t : Tape} (ht : TapeOk t) : ∃ c t', z5B t = some (c, t') /\ Built c /\ TapeOk t' := by
  unfold z5B
  obtain ⟨v, t2, e2, v0, v1, ht2⟩ := z7b ht 2 (by omega) (by omega)
  rw [e2]
  simp only [Option.bind_some]
  obtain ⟨N, t3, e3, n0, n1, ht3⟩ := z7b ht2 4 (by omega) (by omega)
  rw [e3]
  simp only [Option.bind_some]
  obtain ⟨lt, hlt⟩ : ∃ lt : Nat, (lt : Int) = 1 + v := ⟨(1 + v).toNat, by omega⟩
  have hw : IntKind.i64.wrap (1 + v) = lt := by rw [z5Q (by omega) (by omega)]; omega
  refine Exists.elim (z4u (b := z4J (v, t2)) (fun s => ∃ (n : Int) (t : Tape) (szs : List Int) (rs : List CRow) (ps : List (List Int)), 0 <= n /\ n + szs.length = N /\ TapeOk t /\ (∀ z ∈ szs, 1 <= z /\ z <= 3) /\ RowsOk lt szs rs /\ PfxOk szs ps /\ rs.length <= 40 * szs.length /\ s = (n, t.l, t.at_, szs, rs, ps)) (fun s => s.1.toNat)
    (fun r => Built r.1 /\ TapeOk r.2) ?_ LFm _ ⟨N, t3, [], [], [[]], n0, by simp, ht3, by simp, zct _, zdP, by simp, rfl⟩ (by simp only [LFm]; omega)) fun r h => ⟨r.1, r.2, h.1, h.2.1, h.2.2⟩
  rintro _ ⟨n, t, szs, rs, ps, hn0, hn, htk, hz, hr, hp, hrl, rfl⟩
  simp only [z4J]
  by_cases hpos : 0 < n
  case neg =>
    right
    rw [if_neg hpos, hw]
    exact ⟨_, rfl, ⟨by simp only; omega, by simp only; omega, by simp only; omega, hz, hrl, hr⟩, htk⟩
  left
  rw [if_pos hpos]
  obtain ⟨z, t4, e4, z0, z1, ht4⟩ := z7b htk 3 (by omega) (by omega)
  rw [show (⟨t.l, t.at_⟩ : Tape) = t from rfl, e4]
  simp only [Option.bind_some]
  obtain ⟨sz, hsz⟩ : ∃ sz : Nat, (sz : Int) = 1 + z := ⟨(1 + z).toNat, by omega⟩
  have hwz : IntKind.i64.wrap (1 + z) = sz := by rw [z5Q (by omega) (by omega)]; omega
  rw [z0R _ (by unfold z1g; omega)]
  obtain ⟨rs', t5, e5, ht5, hr5, hrl5⟩ := zkh (v, t2) (z, t4) n szs ps rs t4 lt sz hw (by omega) hwz (by omega) ht4 (by omega) (by omega) hr hp hrl
  rw [e5]
  refine ⟨_, rfl, ⟨n - 1, t5, szs ++ [(sz : Int)], rs', z6z sz ps, by omega, by simp; omega, ht5, ?_, hr5, zg0 hp sz (by omega), by simp; omega, rfl⟩, by simp only; omega⟩
  intro y hy
  rcases List.mem_append.1 hy with h | h
  · exact hz y h
  · have : y = sz := by simpa using h
    omega
theorem ziB {t : Tape} (ht : TapeOk t) (c : Casc) (hz : ∀ z ∈ c.sizes, 1 <= z /\ z <= 32) (hs : c.sizes.length <= 24) : ∃ x t', z4v t c = some (x, t') /\ z7R c.sizes x = true /\ TapeOk t' := by
  unfold z4v
  refine Exists.elim (z4u (b := z4H c) (fun s => ∃ (k : Nat) (t : Tape) (x : List Int), k <= c.sizes.length /\ TapeOk t /\ x.length = k /\ (∀ i, i < k -> 0 <= x.getD i 0 /\ x.getD i 0 < c.sizes.getD i 0) /\ s = ((k : Int), t.l, t.at_, x)) (fun s => c.sizes.length - s.1.toNat)
    (fun r => z7R c.sizes r.1 = true /\ TapeOk r.2) ?_ LFm _ ⟨0, t, [], by omega, ht, rfl, fun i hi => by omega, rfl⟩ (by simp only [LFm]; omega)) fun r h => ⟨r.1, r.2, h.1, h.2.1, h.2.2⟩
  rintro _ ⟨k, t, x, hk, htk, hx, hin, rfl⟩
  simp only [z4H]
  by_cases hkl : k < c.sizes.length
  case neg =>
    right
    rw [if_neg (by omega)]
    refine ⟨_, rfl, ?_, htk⟩
    unfold z7R
    rw [Bool.and_eq_true, decide_eq_true_eq, z4S _ _ (by simp only; omega)]
    exact ⟨by simp only; omega, fun i hi => hin i (by simp only at hi; omega)⟩
  left
  have hzk := hz _ (List.getElem_mem hkl)
  rw [if_pos (by omega), z0T hkl]
  simp only [Option.bind_some]
  obtain ⟨v, t2, e2, v0, v1, ht2⟩ := z7b htk c.sizes[k] (by omega) (by omega)
  rw [show (⟨t.l, t.at_⟩ : Tape) = t from rfl, e2]
  simp only [Option.bind_some]
  rw [z0R _ (by unfold z1g; omega), z1E (by omega)]
  refine ⟨_, rfl, ⟨k + 1, t2, x ++ [v], by omega, ht2, by simp [hx], ?_, rfl⟩, by simp only [Int.toNat_natCast]; omega⟩
  intro i hi
  by_cases e : i = k
  · subst e
    rw [z0r 0 (show i < (x ++ [v]).length by simp; omega), List.getElem_append_right (by omega), z0r 0 hkl]
    simp only [List.getElem_singleton]
    exact ⟨v0, v1⟩
  · have hi2 : i < x.length := by omega
    have := hin i (by omega)
    rw [z0r 0 hi2] at this
    rw [z0r 0 (show i < (x ++ [v]).length by simp; omega), List.getElem_append_left hi2]
    exact this
end
end Go.Proofs.YthalofddjlhcjaaDoor
