/- Plain facts on borders, periods and roots. No program. -/
import Derived.Test.YtndgafhdeddbjaaWords
namespace Go.Proofs.Ytndgafhdeddbjaa

/-- c is the length of a border of the first n letters of f. -/
def IsB (f : Nat → UInt8) (n c : Nat) : Prop := c < n ∧ ∀ k, k < c → f k = f (n - c + k)

theorem isB_zero (f : Nat → UInt8) (n : Nat) (h : 0 < n) : IsB f n 0 := ⟨h, fun k hk => by omega⟩

theorem isB_succ (f : Nat → UInt8) (n c : Nat) (h : c < n) : IsB f (n + 1) (c + 1) ↔ IsB f n c ∧ f c = f n := by
  constructor
  · rintro ⟨h1, h2⟩
    refine ⟨⟨h, fun k hk => ?_⟩, ?_⟩
    · have := h2 k (by omega); rw [this]; congr 1; omega
    · have := h2 c (by omega); rw [this]; congr 1; omega
  · rintro ⟨⟨_, h2⟩, h3⟩
    refine ⟨by omega, fun k hk => ?_⟩
    by_cases e : k = c
    · subst e; rw [h3]; congr 1; omega
    · rw [h2 k (by omega)]; congr 1; omega

theorem isB_inner (f : Nat → UInt8) (n b c : Nat) (hb : IsB f n b) (hc : c < b) : IsB f n c ↔ IsB f b c := by
  obtain ⟨hbn, hb⟩ := hb
  constructor
  · rintro ⟨_, h⟩
    refine ⟨hc, fun k hk => ?_⟩
    rw [h k hk, hb (b - c + k) (by omega)]; congr 1; omega
  · rintro ⟨_, h⟩
    refine ⟨by omega, fun k hk => ?_⟩
    rw [h k hk, hb (b - c + k) (by omega)]; congr 1; omega

/-- b is the length of the longest border of the first n letters of f. -/
def IsLB (f : Nat → UInt8) (n b : Nat) : Prop := IsB f n b ∧ ∀ c, IsB f n c → c ≤ b

theorem isLB_unique {f : Nat → UInt8} {n a b : Nat} (ha : IsLB f n a) (hb : IsLB f n b) : a = b :=
  Nat.le_antisymm (hb.2 a ha.1) (ha.2 b hb.1)

theorem isLB_one (f : Nat → UInt8) : IsLB f 1 0 := ⟨isB_zero f 1 (by omega), fun c h => by have := h.1; omega⟩

/-- The step of the search: all longer borders of the first n letters go on with another letter. -/
def Tried (f : Nat → UInt8) (n b : Nat) : Prop := IsB f n b ∧ ∀ c, IsB f n c → b < c → f c ≠ f n

theorem tried_start {f : Nat → UInt8} {n b : Nat} (h : IsLB f n b) : Tried f n b := ⟨h.1, fun c hc hl => by have := h.2 c hc; omega⟩

theorem tried_next {f : Nat → UInt8} {n b b' : Nat} (h : Tried f n b) (hne : f b ≠ f n) (hb : IsLB f b b') : Tried f n b' := by
  have hlt := hb.1.1
  refine ⟨(isB_inner f n b b' h.1 hlt).2 hb.1, fun c hc hl => ?_⟩
  by_cases e : b < c
  · exact h.2 c hc e
  · by_cases e2 : c = b
    · subst e2; exact hne
    · have := hb.2 c ((isB_inner f n b c h.1 (by omega)).1 hc); omega

theorem tried_yes {f : Nat → UInt8} {n b : Nat} (h : Tried f n b) (he : f b = f n) : IsLB f (n + 1) (b + 1) := by
  refine ⟨(isB_succ f n b h.1.1).2 ⟨h.1, he⟩, fun c hc => ?_⟩
  cases c with
  | zero => omega
  | succ c =>
    have hcn : c < n := by have := hc.1; omega
    obtain ⟨h1, h2⟩ := (isB_succ f n c hcn).1 hc
    have : ¬ b < c := fun hl => h.2 c h1 hl h2
    omega

theorem tried_no {f : Nat → UInt8} {n : Nat} (h : Tried f n 0) (hne : f 0 ≠ f n) : IsLB f (n + 1) 0 := by
  refine ⟨isB_zero f _ (by omega), fun c hc => ?_⟩
  cases c with
  | zero => omega
  | succ c =>
    exfalso
    have hcn : c < n := by have := hc.1; omega
    obtain ⟨h1, h2⟩ := (isB_succ f n c hcn).1 hc
    by_cases e : c = 0
    · subst e; exact hne h2
    · exact h.2 c h1 (by omega) h2

/-- The letters of a list, as a function. -/
def fn (l : List UInt8) : Nat → UInt8 := fun i => l.getD i 0

theorem fn_get (l : List UInt8) (i : Nat) (h : i < l.length) : fn l i = l[i] := getD_get l i 0 h

theorem border_iff (l : List UInt8) (c : Nat) (h : c < l.length) : l.take c = l.drop (l.length - c) ↔ IsB (fn l) l.length c := by
  constructor
  · intro e
    refine ⟨h, fun k hk => ?_⟩
    rw [fn_get _ _ (by omega), fn_get _ _ (by omega)]
    have h1 : (l.take c)[k]? = (l.drop (l.length - c))[k]? := by rw [e]
    rw [List.getElem?_take_of_lt hk, List.getElem?_drop] at h1
    rw [List.getElem?_eq_getElem (by omega), List.getElem?_eq_getElem (by omega)] at h1
    exact Option.some.inj h1
  · rintro ⟨_, h2⟩
    apply List.ext_getElem
    · simp; omega
    · intro k h3 h4
      have hk : k < c := by simp at h3; omega
      have := h2 k hk
      rw [fn_get _ _ (by omega), fn_get _ _ (by omega)] at this
      simp only [List.getElem_take, List.getElem_drop]
      exact this

/-- The longest border of at most m letters. -/
def lb (l : List UInt8) : Nat → Nat
  | 0 => 0
  | c + 1 => if l.take (c + 1) = l.drop (l.length - (c + 1)) then c + 1 else lb l c

/-- The length of the longest border. -/
def borderOf (l : List UInt8) : Nat := lb l (l.length - 1)

theorem lb_le (l : List UInt8) : ∀ m, lb l m ≤ m
  | 0 => Nat.le_refl _
  | m + 1 => by simp only [lb]; split; omega; have := lb_le l m; omega

theorem lb_isB (l : List UInt8) : ∀ m, m < l.length → IsB (fn l) l.length (lb l m)
  | 0, h => isB_zero _ _ h
  | m + 1, h => by
    simp only [lb]
    split
    · rename_i e; exact (border_iff l (m + 1) h).1 e
    · exact lb_isB l m (by omega)

theorem lb_max (l : List UInt8) : ∀ m c, m < l.length → c ≤ m → IsB (fn l) l.length c → c ≤ lb l m
  | 0, c, _, hc, _ => by omega
  | m + 1, c, h, hc, hb => by
    simp only [lb]
    split
    · omega
    · rename_i e
      by_cases e2 : c = m + 1
      · subst e2; exact absurd ((border_iff l (m + 1) h).2 hb) e
      · exact lb_max l m c (by omega) (by omega) hb

theorem borderOf_isLB (l : List UInt8) (h : 0 < l.length) : IsLB (fn l) l.length (borderOf l) :=
  ⟨lb_isB l _ (by omega), fun c hc => lb_max l _ c (by omega) (by have := hc.1; omega) hc⟩

theorem borderOf_eq {l : List UInt8} {b : Nat} (h : IsLB (fn l) l.length b) : borderOf l = b :=
  isLB_unique (borderOf_isLB l (by have := h.1.1; omega)) h

theorem isB_congr {f g : Nat → UInt8} {n c : Nat} (h : ∀ i, i < n → f i = g i) (hb : IsB f n c) : IsB g n c :=
  ⟨hb.1, fun k hk => by rw [← h k (by have := hb.1; omega), ← h (n - c + k) (by have := hb.1; omega)]; exact hb.2 k hk⟩

theorem isLB_take (l : List UInt8) (n : Nat) (h0 : 0 < n) (h : n ≤ l.length) : IsLB (fn l) n (borderOf (l.take n)) := by
  have hl : (l.take n).length = n := by simp; omega
  have h1 := borderOf_isLB (l.take n) (by omega)
  rw [hl] at h1
  have he : ∀ i, i < n → fn (l.take n) i = fn l i := fun i hi => by
    rw [fn_get _ _ (by omega), fn_get _ _ (by omega), List.getElem_take]
  exact ⟨isB_congr he h1.1, fun c hc => h1.2 c (isB_congr (fun i hi => (he i hi).symm) hc)⟩

theorem borderOf_lt (l : List UInt8) (h : 0 < l.length) : borderOf l < l.length := (borderOf_isLB l h).1.1

end Go.Proofs.Ytndgafhdeddbjaa
