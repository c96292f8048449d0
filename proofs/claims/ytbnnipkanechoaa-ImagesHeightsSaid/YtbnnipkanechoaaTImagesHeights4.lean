/- Proved here: a part of the proof of the law at hand, in one text: no condition. -/
import Derived.Test.YtbnnipkanechoaaTImagesHeights3
set_option linter.unusedVariables false
set_option linter.unusedSimpArgs false
section
namespace Go.Proofs.Ytbnnipkanechoaa
open Go
set_option maxRecDepth 100000
theorem zcx {a : Nat} (h : a < 2 ^ 62) : IntKind.i64.wrap (a : Int) = (a : Int) := z2m (by omega) (by omega)
theorem zkY {a b : Nat} (ha : a < 2 ^ 62) (hb : b < 2 ^ 62) : z2n .i64 (a : Int) (b : Int) = ((a &&& b : Nat) : Int) := by
  unfold z2n
  have e : (BitVec.ofInt IntKind.i64.bits (a : Int) &&& BitVec.ofInt IntKind.i64.bits (b : Int)).toNat = a &&& b := by
    show (BitVec.ofInt 64 (a : Int) &&& BitVec.ofInt 64 (b : Int)).toNat = _
    rw [BitVec.toNat_and, BitVec.toNat_ofInt, BitVec.toNat_ofInt]
    have h1 : ((a : Int) % ((2 ^ 64 : Nat) : Int)).toNat = a := by omega
    have h2 : ((b : Int) % ((2 ^ 64 : Nat) : Int)).toNat = b := by omega
    rw [h1, h2]
  rw [e]
  exact zcx (Nat.lt_of_le_of_lt Nat.and_le_left ha)
theorem zrJ {a b k : Nat} (ha : a < 2 ^ k) (hb : b < 2 ^ k) : a ||| b < 2 ^ k := Nat.or_lt_two_pow ha hb
theorem znM {a b : Nat} (ha : a < 2 ^ 62) (hb : b < 2 ^ 62) : orI .i64 (a : Int) (b : Int) = ((a ||| b : Nat) : Int) := by
  unfold orI
  have e : (BitVec.ofInt IntKind.i64.bits (a : Int) ||| BitVec.ofInt IntKind.i64.bits (b : Int)).toNat = a ||| b := by
    show (BitVec.ofInt 64 (a : Int) ||| BitVec.ofInt 64 (b : Int)).toNat = _
    rw [BitVec.toNat_or, BitVec.toNat_ofInt, BitVec.toNat_ofInt]
    have h1 : ((a : Int) % ((2 ^ 64 : Nat) : Int)).toNat = a := by omega
    have h2 : ((b : Int) % ((2 ^ 64 : Nat) : Int)).toNat = b := by omega
    rw [h1, h2]
  rw [e]
  exact zcx (zrJ ha hb)
theorem zjE {a b : Nat} (ha : a < 2 ^ 62) (hb : b < 2 ^ 62) : zgs .i64 (a : Int) (b : Int) = 0 ↔ a &&& b = a := by
  unfold zgs
  have e : (BitVec.ofInt IntKind.i64.bits (a : Int) &&& ~~~ BitVec.ofInt IntKind.i64.bits (b : Int)).toNat = (BitVec.ofNat 64 a &&& ~~~ BitVec.ofNat 64 b).toNat := by
    show (BitVec.ofInt 64 (a : Int) &&& ~~~ BitVec.ofInt 64 (b : Int)).toNat = _
    congr 2
  rw [e]
  have hle : (BitVec.ofNat 64 a &&& ~~~ BitVec.ofNat 64 b).toNat ≤ a := by
    rw [BitVec.toNat_and]
    refine Nat.le_trans Nat.and_le_left ?_
    simp only [BitVec.toNat_ofNat]
    omega
  rw [zcx (by omega)]
  have ta : ∀ i, (BitVec.ofNat 64 a).toNat.testBit i = a.testBit i := fun i => by
    rw [BitVec.toNat_ofNat, Nat.mod_eq_of_lt (by omega)]
  have tb : ∀ i, (BitVec.ofNat 64 b).toNat.testBit i = b.testBit i := fun i => by
    rw [BitVec.toNat_ofNat, Nat.mod_eq_of_lt (by omega)]
  have hz : ∀ i, (BitVec.ofNat 64 a &&& ~~~ BitVec.ofNat 64 b).toNat.testBit i = (a.testBit i && !(b.testBit i)) := fun i => by
    rw [BitVec.testBit_toNat, BitVec.getLsbD_and, BitVec.getLsbD_not]
    by_cases hi : i < 64
    · simp only [hi, decide_true, Bool.true_and]
      rw [← BitVec.testBit_toNat, ← BitVec.testBit_toNat, ta, tb]
    · have : a.testBit i = false := Nat.testBit_lt_two_pow (Nat.lt_of_lt_of_le ha (Nat.pow_le_pow_right (by omega) (by omega)))
      rw [← BitVec.testBit_toNat, ta, this]; simp
  constructor
  · intro h
    have h0 : (BitVec.ofNat 64 a &&& ~~~ BitVec.ofNat 64 b).toNat = 0 := by omega
    apply Nat.eq_of_testBit_eq
    intro i
    have := hz i
    rw [h0, Nat.zero_testBit] at this
    rw [Nat.testBit_and]
    revert this
    cases a.testBit i <;> cases b.testBit i <;> simp
  · intro h
    have : (BitVec.ofNat 64 a &&& ~~~ BitVec.ofNat 64 b).toNat = 0 := by
      apply Nat.eq_of_testBit_eq
      intro i
      have e2 : (a &&& b).testBit i = a.testBit i := by rw [h]
      rw [Nat.testBit_and] at e2
      rw [hz, Nat.zero_testBit]
      revert e2
      cases a.testBit i <;> cases b.testBit i <;> simp
    omega
theorem zp4 {a q : Nat} (hq : q ≤ 64) : z0X .i64 (a : Int) (q : Int) = ((a >>> q : Nat) : Int) := by
  unfold z0X
  have e : min ((q : Int).toNat) IntKind.i64.bits = q := by
    show min ((q : Int).toNat) 64 = q
    omega
  rw [e, Nat.shiftRight_eq_div_pow, Int.fdiv_eq_ediv_of_nonneg _ (by exact Int.pow_nonneg (by omega))]
  simp
theorem z6L {q : Nat} (hq : q ≤ 61) : zht .i64 1 (q : Int) = ((2 ^ q : Nat) : Int) := by
  rw [znr]
  have e : min ((q : Int).toNat) IntKind.i64.bits = q := by
    show min ((q : Int).toNat) 64 = q
    omega
  rw [e, Int.one_mul]
  have : ((2 : Int) ^ q) = ((2 ^ q : Nat) : Int) := by simp
  rw [this]
  exact zcx (Nat.pow_lt_pow_right (by omega) (by omega))
theorem zgq {a q : Nat} (ha : a < 2 ^ 62) (hq : q ≤ 64) : (z2n .i64 (z0X .i64 (a : Int) (q : Int)) 1 = 1) ↔ a.testBit q = true := by
  rw [zp4 hq, show (1 : Int) = ((1 : Nat) : Int) from rfl, zkY (by rw [Nat.shiftRight_eq_div_pow]; exact Nat.lt_of_le_of_lt (Nat.div_le_self _ _) ha) (by decide), Nat.testBit]
  have : (1 &&& a >>> q) = (a >>> q) &&& 1 := Nat.and_comm ..
  rw [this]
  have h2 := Nat.and_one_is_mod (a >>> q)
  rw [h2]
  simp only [bne_iff_ne, ne_eq]
  omega
theorem zoU {q : Nat} (h : q < 2 ^ 62) : IntKind.u64.wrap (q : Int) = (q : Int) := by rw [IntKind.wrap_u64]; omega
def zhQ (rows : List (List Int)) (s a : Nat) : Nat → Nat
  | 0 => 0
  | q + 1 => if s.testBit q = true then zhQ rows s a q ||| 2 ^ ((rows.getD q []).getD a 0).toNat else zhQ rows s a q
def mvN (d : DFA) (s a : Nat) : Nat := zhQ d.next s a d.next.length
theorem zdK {d : DFA} {m n : Nat} (hd : DfaOk d m n) {q a : Nat} (hq : q < n) (ha : a < m) : ∃ h1 : q < d.next.length, ∃ h2 : a < d.next[q].length, (d.next.getD q []).getD a 0 = d.next[q][a] ∧ 0 ≤ d.next[q][a] ∧ d.next[q][a] < n := by
  have h1 : q < d.next.length := by rw [hd.nl]; exact hq
  have hr := hd.row _ (List.getElem_mem h1)
  have h2 : a < d.next[q].length := by rw [hr.1]; exact ha
  exact ⟨h1, h2, by simp [List.getD, h1, h2], hr.2 _ (List.getElem_mem h2)⟩
theorem zk9 {d : DFA} {m n : Nat} (hd : DfaOk d m n) {s a : Nat} (ha : a < m) (p : Nat) : ∀ q, q ≤ n → ((zhQ d.next s a q).testBit p = true ↔ ∃ i, i < q ∧ s.testBit i = true ∧ ((d.next.getD i []).getD a 0).toNat = p)
  | 0, _ => by simp [zhQ]
  | q + 1, hq => by
    have ih := zk9 hd (s := s) ha p q (by omega)
    unfold zhQ
    by_cases hb : s.testBit q = true
    · rw [if_pos hb, Nat.testBit_or, Bool.or_eq_true, ih, Nat.testBit_two_pow]
      constructor
      · rintro (⟨i, h1, h2, h3⟩ | h)
        · exact ⟨i, by omega, h2, h3⟩
        · exact ⟨q, by omega, hb, by simpa using h⟩
      · rintro ⟨i, h1, h2, h3⟩
        by_cases e : i = q
        · subst e; right; simpa using h3
        · left; exact ⟨i, by omega, h2, h3⟩
    · rw [if_neg hb, ih]
      constructor
      · rintro ⟨i, h1, h2, h3⟩; exact ⟨i, by omega, h2, h3⟩
      · rintro ⟨i, h1, h2, h3⟩
        by_cases e : i = q
        · subst e; exact absurd h2 hb
        · exact ⟨i, by omega, h2, h3⟩
theorem zdP {d : DFA} {m n : Nat} (hd : DfaOk d m n) {s a : Nat} (ha : a < m) : ∀ q, q ≤ n → zhQ d.next s a q < 2 ^ n
  | 0, _ => Nat.two_pow_pos n
  | q + 1, hq => by
    have ih := zdP hd (s := s) ha q (by omega)
    unfold zhQ
    split
    · obtain ⟨h1, h2, e, h3, h4⟩ := zdK hd (q := q) (by omega) ha
      refine zrJ ih (Nat.pow_lt_pow_right (by omega) ?_)
      rw [e]; omega
    · exact ih
theorem za7 {d : DFA} {m n : Nat} (hd : DfaOk d m n) {s a : Nat} (ha : a < m) (p : Nat) : (mvN d s a).testBit p = true ↔ ∃ i, i < n ∧ s.testBit i = true ∧ ((d.next.getD i []).getD a 0).toNat = p := by
  unfold mvN; rw [hd.nl]; exact zk9 hd ha p n (Nat.le_refl _)
theorem zfB {d : DFA} {m n : Nat} (hd : DfaOk d m n) {s a : Nat} (ha : a < m) : mvN d s a < 2 ^ n := by
  unfold mvN; rw [hd.nl]; exact zdP hd ha n (Nat.le_refl _)
theorem za4 {n : Nat} (h : n ≤ 12) : 2 ^ n ≤ 4096 := Nat.pow_le_pow_right (n := 2) (by omega) h
theorem zja {d : DFA} {m n : Nat} (hd : DfaOk d m n) (hn : n ≤ 12) {s a : Nat} (hs : s < 2 ^ n) (ha : a < m) : z4Q d (s : Int) (a : Int) = some ((mvN d s a : Nat) : Int) := by
  have h12 := za4 hn
  unfold z4Q mvN
  refine z2j (s := ((0 : Int), (0 : Int))) n (fun q => (((zhQ d.next s a q : Nat) : Int), (q : Int))) rfl (by simp only [LFm]; omega) (fun q hq => ?_) ?_
  · have hlt := zdP hd (s := s) ha q (by omega)
    obtain ⟨h1, h2, e, h3, h4⟩ := zdK hd (q := q) hq ha
    simp only [z5H]
    rw [if_pos (by omega), z2V h1]
    simp only [Option.bind_some]
    rw [z1i _ (by omega), z3f (by omega)]
    by_cases hb : s.testBit q = true
    · rw [if_pos ((zgq (by omega) (by omega)).2 hb), z2V h2]
      simp only [Option.bind_some]
      obtain ⟨v, hv⟩ := Int.eq_ofNat_of_zero_le h3
      rw [z1i _ (by omega), hv, z6L (by omega), znM (by omega) (Nat.pow_lt_pow_right (by omega) (by omega))]
      simp only [zhQ]
      rw [if_pos hb, e, hv, Int.toNat_natCast]
    · rw [if_neg (fun h => hb ((zgq (by omega) (by omega)).1 h))]
      simp only [zhQ]
      rw [if_neg hb]
  · simp only [z5H]
    rw [if_neg (by rw [hd.nl]; omega), hd.nl]
theorem zip {d : DFA} {m n : Nat} (hd : DfaOk d m n) (hn : n ≤ 12) {s a : Nat} (hs : s < 2 ^ n) (ha : a < m) : z4T d (s : Int) (a : Int) = some ((mvN d s a : Nat) : Int) := by
  have h12 := za4 hn
  unfold z4T mvN
  refine z2j (s := ((0 : Int), (0 : Int))) n (fun q => (((zhQ d.next s a q : Nat) : Int), (q : Int))) rfl (by simp only [LFm]; omega) (fun q hq => ?_) ?_
  · have hlt := zdP hd (s := s) ha q (by omega)
    obtain ⟨h1, h2, e, h3, h4⟩ := zdK hd (q := q) hq ha
    simp only [z5a]
    rw [if_pos (by rw [hd.fin]; omega), zoU (by omega), z1i _ (by omega), z3f (by omega)]
    by_cases hb : s.testBit q = true
    · rw [if_pos ((zgq (by omega) (by omega)).2 hb), z2V h1]
      simp only [Option.bind_some]
      rw [z2V h2]
      simp only [Option.bind_some]
      obtain ⟨v, hv⟩ := Int.eq_ofNat_of_zero_le h3
      rw [hv, zoU (by omega), z1i _ (by omega), z6L (by omega), znM (by omega) (Nat.pow_lt_pow_right (by omega) (by omega))]
      simp only [zhQ]
      rw [if_pos hb, e, hv, Int.toNat_natCast]
    · rw [if_neg (fun h => hb ((zgq (by omega) (by omega)).1 h))]
      simp only [zhQ]
      rw [if_neg hb]
  · simp only [z5a]
    rw [if_neg (by rw [hd.fin]; omega), hd.nl]
end Go.Proofs.Ytbnnipkanechoaa
end
section
namespace Go.Proofs.Ytbnnipkanechoaa
open Go
set_option maxRecDepth 100000
def zqB (d : DFA) (r : List Int) : Bool := decide ((r.length : Int) = d.letters) && r.all fun x => decide (0 ≤ x ∧ x < (d.final.length : Int))
def z7T (d : DFA) : Bool := decide (d.next.length = d.final.length) && decide (0 ≤ d.start ∧ d.start < (d.final.length : Int)) && d.next.all (zqB d)
def zoO (d : DFA) : Int := if d.letters < 1 ∨ 6 < d.letters then 1 else if 512 < d.final.length then 3 else if z7T d = true then 0 else 4
def zrn (d : DFA) : Prop := d.final.length < 2 ^ 61 ∧ d.next.length < 2 ^ 61 ∧ ∀ r ∈ d.next, r.length < 2 ^ 61
theorem zjI {d : DFA} (hc : zrn d) : z1j (z3P d) LFm 0 = some (if d.next.all (zqB d) = true then 0 else 4) := by
  rw [zhW (l := d.next) ([] : List Int) (zqB d) (A := some 4) (B := some 0) (by have := hc.2.1; omega) (fun k hk => ?_) ?_]
  · split <;> rfl
  · simp only [z3P]
    rw [if_neg (by omega)]
  · simp only [z3P]
    have hkl := hc.2.1
    have hrl := hc.2.2 _ (List.getElem_mem hk)
    rw [if_pos (by omega), z2V hk]
    simp only [Option.bind_some, List.getD, List.getElem?_eq_getElem hk, Option.getD_some]
    by_cases hl : (d.next[k].length : Int) = d.letters
    · rw [if_pos hl]
      rw [zhW (l := d.next[k]) (0 : Int) (fun x => decide (0 ≤ x ∧ x < (d.final.length : Int))) (A := z1n (some 4)) (B := z0Y ((k + 1 : Nat) : Int)) (by omega) (fun j hj => ?_) ?_]
      · simp only [zqB, hl, decide_true, Bool.true_and]
      · simp only [z4N]
        rw [if_neg (by omega), z3f (by omega)]
      · simp only [z4N]
        rw [if_pos (by omega), z2V hj]
        simp only [Option.bind_some, List.getD, List.getElem?_eq_getElem hj, Option.getD_some]
        by_cases h1 : d.next[k][j] < 0
        · rw [if_pos h1, if_neg (by simp; omega)]
        · rw [if_neg h1]
          by_cases h2 : (d.final.length : Int) ≤ d.next[k][j]
          · rw [if_pos h2, if_neg (by simp; omega)]
          · rw [if_neg h2, if_pos (by simp; omega), z3f (by omega)]
    · rw [if_neg hl]
      rw [if_neg (by simp [zqB, hl])]
theorem zot {d : DFA} (hc : zrn d) : z5N d = some (zoO d) := by
  unfold z5N zoO
  by_cases h1 : d.letters < 1
  · rw [if_pos h1, if_pos (.inl h1)]
  rw [if_neg h1]
  by_cases h2 : 6 < d.letters
  · rw [if_pos h2, if_pos (.inr h2)]
  have hno : ¬ (d.letters < 1 ∨ 6 < d.letters) := by omega
  rw [if_neg h2, if_neg hno]
  by_cases h3 : 512 < (d.final.length : Int)
  · have h3' : 512 < d.final.length := by omega
    rw [if_pos h3, if_pos h3']
  have h3' : ¬ 512 < d.final.length := by omega
  rw [if_neg h3, if_neg h3']
  by_cases h4 : (d.next.length : Int) = (d.final.length : Int)
  · rw [if_pos h4]
    by_cases h5 : d.start < 0
    · rw [if_pos h5, if_neg (by simp [z7T]; omega)]
    rw [if_neg h5]
    by_cases h6 : (d.final.length : Int) ≤ d.start
    · rw [if_pos h6, if_neg (by simp [z7T]; omega)]
    rw [if_neg h6, zjI hc]
    congr 1
    have e1 : decide (d.next.length = d.final.length) = true := by simp; omega
    have e2 : decide (0 ≤ d.start ∧ d.start < (d.final.length : Int)) = true := by simp; omega
    simp only [z7T, e1, e2, Bool.true_and]
  · rw [if_neg h4, if_neg (by simp [z7T]; omega)]
theorem zr8 (d : DFA) : z5u d = z3P d := rfl
theorem znG {d : DFA} (hc : zrn d) : z4C d = some (zoO d) := by
  unfold z4C z2U zoO
  by_cases h1 : 1 ≤ d.letters
  · rw [if_pos h1]
    simp only [Option.bind_some]
    by_cases h2 : 6 < d.letters
    · have hno : d.letters < 1 ∨ 6 < d.letters := .inr h2
      rw [if_neg (by simp; omega), if_pos hno]
    · have hno : ¬ (d.letters < 1 ∨ 6 < d.letters) := by omega
      rw [if_pos (by simp; omega), if_neg hno]
      by_cases h3 : 512 < (d.final.length : Int)
      · have h3' : 512 < d.final.length := by omega
        rw [if_pos h3, if_pos h3']
      have h3' : ¬ 512 < d.final.length := by omega
      rw [if_neg h3, if_neg h3']
      by_cases h0 : (d.final.length : Int) = 0
      · rw [if_pos h0, if_neg (by simp [z7T]; omega)]
      rw [if_neg h0]
      by_cases h4 : (d.next.length : Int) = (d.final.length : Int)
      · rw [if_pos h4]
        by_cases h5 : d.start < 0
        · rw [if_pos h5, if_neg (by simp [z7T]; omega)]
        rw [if_neg h5]
        by_cases h6 : (d.final.length : Int) ≤ d.start
        · rw [if_pos h6, if_neg (by simp [z7T]; omega)]
        rw [if_neg h6, zr8, zjI hc]
        congr 1
        have e1 : decide (d.next.length = d.final.length) = true := by simp; omega
        have e2 : decide (0 ≤ d.start ∧ d.start < (d.final.length : Int)) = true := by simp; omega
        simp only [z7T, e1, e2, Bool.true_and]
      · rw [if_neg h4, if_neg (by simp [z7T]; omega)]
  · rw [if_neg h1]
    simp only [Option.bind_some]
    have hno : d.letters < 1 ∨ 6 < d.letters := by omega
    rw [if_pos hno]
    rfl
def zq9 (d : DFA) : Int := if zoO d = 0 then (if 12 < d.final.length then 3 else 0) else zoO d
theorem z9K {d : DFA} (hc : zrn d) : z3g d = some (zq9 d) := by
  unfold z3g zq9
  rw [zot hc]
  simp only [Option.bind_some]
  split
  · split
    · rw [if_pos (by omega)]
    · rw [if_neg (by omega)]
  · rfl
theorem zqm {d : DFA} (hc : zrn d) : z7o d = some (zq9 d) := by
  unfold z7o zq9
  rw [znG hc]
  simp only [Option.bind_some]
  split
  · split
    · rw [if_pos (by omega)]
    · rw [if_neg (by omega)]
  · rfl
theorem zru {d : DFA} {m n : Nat} (hd : DfaOk d m n) (hn : n ≤ 512) : zoO d = 0 := by
  have h1 := hd.lt
  have h2 := hd.m1
  have h3 := hd.m6
  have hf := hd.fin
  have hl := hd.nl
  unfold zoO
  rw [if_neg (by omega), if_neg (by omega), if_pos]
  have e1 : decide (d.next.length = d.final.length) = true := by simp; omega
  have e2 : decide (0 ≤ d.start ∧ d.start < (d.final.length : Int)) = true := by have := hd.s0; have := hd.s1; simp; omega
  simp only [z7T, e1, e2, Bool.true_and, List.all_eq_true]
  intro r hr
  obtain ⟨a, b⟩ := hd.row r hr
  have e3 : decide ((r.length : Int) = d.letters) = true := by simp; omega
  simp only [zqB, e3, Bool.true_and, List.all_eq_true, decide_eq_true_eq]
  intro x hx
  have := b x hx
  omega
theorem zrL {d : DFA} (h : zoO d = 0) : DfaOk d d.letters.toNat d.final.length ∧ d.final.length ≤ 512 := by
  unfold zoO at h
  split at h
  · cases h
  split at h
  · cases h
  split at h
  case isFalse => cases h
  rename_i h1 h2 h3
  simp only [z7T, Bool.and_eq_true, decide_eq_true_eq, List.all_eq_true, zqB] at h3
  obtain ⟨⟨h4, h5⟩, h6⟩ := h3
  refine ⟨⟨by omega, by omega, by omega, by omega, rfl, h4, h5.1, h5.2, fun r hr => ?_⟩, by omega⟩
  obtain ⟨a, b⟩ := h6 r hr
  exact ⟨by omega, fun x hx => b x hx⟩
theorem zhT {d : DFA} {m n : Nat} (hd : DfaOk d m n) (hn : n ≤ 12) : zq9 d = 0 := by
  have hf := hd.fin
  unfold zq9
  rw [zru hd (by omega), if_pos rfl, if_neg (by omega)]
theorem ok_may {d : DFA} (h : zq9 d = 0) : DfaOk d d.letters.toNat d.final.length ∧ d.final.length ≤ 12 := by
  unfold zq9 at h
  split at h
  · rename_i hv
    split at h
    · cases h
    · exact ⟨(zrL hv).1, by omega⟩
  · rename_i hv
    exact absurd h hv
theorem zif {d : DFA} {m n : Nat} (hd : DfaOk d m n) (hn : n ≤ 12) : zrn d := ⟨by rw [hd.fin]; omega, by rw [hd.nl]; omega, fun r hr => by have := (hd.row r hr).1; have := hd.m6; omega⟩
theorem zeq (w : ByteArray) (m : Int) : z7e w m = z4c w m := by
  unfold z7e z4c z2U
  by_cases h1 : m < 1
  · rw [if_pos h1, if_neg (by omega)]; rfl
  rw [if_neg h1]
  have h1' : 1 ≤ m := by omega
  by_cases h2 : 6 < m
  · rw [if_pos h2, if_pos h1']
    simp only [Option.bind_some]
    rw [if_neg (by simp; omega)]
  rw [if_neg h2, if_pos h1']
  simp only [Option.bind_some]
  rw [if_pos (show decide (m ≤ 6) = true by simp; omega)]
  rfl
def z6Y (m : Int) (c : UInt8) : Bool := decide (97 ≤ c.toNat) && decide ((c.toNat : Int) < 97 + m)
theorem zb4 {k : Nat} (h : 97 ≤ k) (h2 : k < 256) : IntKind.i64.wrap (IntKind.u8.wrap ((k : Int) - 97)) = ((k - 97 : Nat) : Int) := by
  rw [zqo (by omega) (by omega), z2m (by omega) (by omega)]; omega
theorem zaY {w : ByteArray} {k : Nat} (h : k < w.size) : w[k] = w.data.toList.getD k 0 := by
  have h' : k < w.data.toList.length := by rw [Array.length_toList]; exact h
  rw [List.getD, List.getElem?_eq_getElem h', Option.getD_some, Array.getElem_toList]
  rfl
theorem zpT {w : ByteArray} {m : Int} (hm : 1 ≤ m ∧ m ≤ 6) : z4c w m = some (decide (w.size ≤ 2048) && w.data.toList.all (z6Y m)) := by
  unfold z4c z2U
  rw [if_pos hm.1]
  simp only [Option.bind_some]
  rw [if_pos (show decide (m ≤ 6) = true by simp; omega)]
  by_cases h : 2048 < (w.size : Int)
  · rw [if_pos h, show decide (w.size ≤ 2048) = false by simp; omega]; rfl
  rw [if_neg h, show decide (w.size ≤ 2048) = true by simp; omega, Bool.true_and]
  have hl : w.data.toList.length = w.size := by rw [Array.length_toList]; rfl
  rw [z6E (s := (0 : Int)) w.size (fun k => (k : Int)) (fun k => !z6Y m (w.data.toList.getD k 0)) (fun _ => some false) (x := some true) rfl (by simp only [LFm]; omega)]
  · rw [zgi]
    simp only [Bool.not_not]
    rw [← hl, zdM]
    cases w.data.toList.all (z6Y m) <;> rfl
  · intro k hk
    have hb : w[k].toNat < 256 := w[k].toNat_lt
    simp only [z5G]
    rw [if_pos (by omega), zeg hk]
    simp only [Option.bind_some]
    rw [← zaY hk]
    by_cases h1 : (w[k].toNat : Int) < 97
    · have : z6Y m w[k] = false := by simp only [z6Y, Bool.and_eq_false_iff, decide_eq_false_iff_not]; omega
      simp only [h1, this, Bool.not_false, if_true]
    · rw [if_neg h1, zb4 (by omega) hb]
      by_cases h2 : m ≤ ((w[k].toNat - 97 : Nat) : Int)
      · have : z6Y m w[k] = false := by simp only [z6Y, Bool.and_eq_false_iff, decide_eq_false_iff_not]; omega
        simp only [h2, this, Bool.not_false, if_true]
      · have : z6Y m w[k] = true := by simp only [z6Y, Bool.and_eq_true, decide_eq_true_eq]; omega
        rw [if_neg h2, this, if_neg (by simp), z3f (by omega)]
  · simp only [z5G]
    rw [if_neg (by omega)]
def zcL (m : Nat) (w : ByteArray) : Prop := w.size ≤ 2048 ∧ ∀ c ∈ w.data.toList, 97 ≤ c.toNat ∧ c.toNat < 97 + m
instance (m : Nat) (w : ByteArray) : Decidable (zcL m w) := by unfold zcL; exact inferInstance
theorem zfO {w : ByteArray} {m : Nat} (hm : 1 ≤ m ∧ m ≤ 6) : z4c w (m : Int) = some (decide (zcL m w)) := by
  rw [zpT (by omega)]
  congr 1
  rw [Bool.eq_iff_iff, decide_eq_true_iff]
  unfold zcL
  simp only [Bool.and_eq_true, decide_eq_true_eq, List.all_eq_true, z6Y]
  constructor
  · rintro ⟨a, b⟩; exact ⟨a, fun c hc => by have := b c hc; omega⟩
  · rintro ⟨a, b⟩; exact ⟨a, fun c hc => by have := b c hc; omega⟩
theorem zga {d : DFA} {m n : Nat} (hd : DfaOk d m n) (hn : n ≤ 12) (s : Int) : z4g d s = some (decide (0 ≤ s ∧ s < ((2 ^ n : Nat) : Int))) := by
  unfold z4g
  rw [hd.fin]
  by_cases h : 0 ≤ s
  · rw [if_pos h, z1i _ (by omega), z6L (by omega)]
    congr 1
    rw [Bool.eq_iff_iff]; simp only [decide_eq_true_eq]; omega
  · rw [if_neg h]
    congr 1
    symm
    simp only [decide_eq_false_iff_not]; omega
theorem zsj {d : DFA} {m n : Nat} (hd : DfaOk d m n) (hn : n ≤ 12) : z8q d = some (((2 ^ n - 1 : Nat) : Int)) := by
  have h12 := za4 hn
  have hp := Nat.two_pow_pos n
  unfold z8q
  rw [hd.fin, zoU (by omega), z1i _ (by omega), z6L (by omega), z2m (by omega) (by omega)]
  congr 1
  omega
theorem zgv {d : DFA} {m n : Nat} (hd : DfaOk d m n) (hn : n ≤ 12) (s : Int) : z4O d s = some (decide (0 ≤ s ∧ s < ((2 ^ n : Nat) : Int))) := by
  have hp := Nat.two_pow_pos n
  unfold z4O
  by_cases h : 0 ≤ s
  · rw [if_pos h, zsj hd hn]
    simp only [Option.bind_some]
    congr 1
    rw [Bool.eq_iff_iff]; simp only [decide_eq_true_eq]; omega
  · rw [if_neg h]
    congr 1
    symm
    simp only [decide_eq_false_iff_not]; omega
theorem z7Q {r p : Nat} (hr : r < 2 ^ 62) (hp : p < 2 ^ 62) : z2O (r : Int) (p : Int) = some (decide (p &&& r = p)) := by
  unfold z2O
  congr 1
  rw [Bool.eq_iff_iff]; simp only [decide_eq_true_eq]
  exact zjE hp hr
def za3 (d : DFA) : Nat → List UInt8 → Nat
  | s, [] => s
  | s, c :: w => za3 d (mvN d s (c.toNat - 97)) w
theorem z6z (d : DFA) : ∀ (s : Nat) (u v : List UInt8), za3 d s (u ++ v) = za3 d (za3 d s u) v
  | s, [], v => rfl
  | s, c :: u, v => by simp only [List.cons_append, za3, z6z]
theorem zj2 {d : DFA} {m n : Nat} (hd : DfaOk d m n) : ∀ {w : List UInt8} {s : Nat}, s < 2 ^ n → (∀ c ∈ w, 97 ≤ c.toNat ∧ c.toNat < 97 + m) → za3 d s w < 2 ^ n
  | [], s, hs, _ => hs
  | c :: w, s, hs, hw => by
    have hc := hw c (List.mem_cons_self ..)
    exact zj2 (w := w) (s := mvN d s (c.toNat - 97)) hd (zfB hd (by omega)) fun c' hc' => hw c' (List.mem_cons_of_mem _ hc')
theorem zho {α : Type} {l : List α} {k : Nat} (h : k < l.length) : l.take (k + 1) = l.take k ++ [l[k]] := by rw [List.take_succ_eq_append_getElem h]
theorem zra {d : DFA} {m n : Nat} (hd : DfaOk d m n) (hn : n ≤ 12) {s : Nat} (hs : s < 2 ^ n) {w : ByteArray} (hw : zcL m w) : z7n d (s : Int) w = some ((za3 d s w.data.toList : Nat) : Int) := by
  have hl : w.data.toList.length = w.size := by rw [Array.length_toList]; rfl
  have h48 := hw.1
  unfold z7n
  refine z2j (s := ((s : Int), (0 : Int))) w.size (fun k => (((za3 d s (w.data.toList.take k) : Nat) : Int), (k : Int))) rfl (by simp only [LFm]; omega) (fun k hk => ?_) ?_
  · have hk' : k < w.data.toList.length := by omega
    have hc := hw.2 _ (List.getElem_mem hk')
    have hb : w[k] = w.data.toList[k] := by rw [zaY hk, List.getD, List.getElem?_eq_getElem hk', Option.getD_some]
    have h256 : w[k].toNat < 256 := w[k].toNat_lt
    simp only [z5Y]
    rw [if_pos (by omega), zeg hk]
    simp only [Option.bind_some]
    rw [hb] at *
    rw [zb4 hc.1 h256, zip hd hn (zj2 hd hs fun c hc => hw.2 c (List.mem_of_mem_take hc)) (by omega)]
    simp only [Option.bind_some]
    rw [z3f (by omega), zho hk', z6z]
    rfl
  · simp only [z5Y]
    rw [if_neg (by omega), ← hl, List.take_length]
theorem zim {d : DFA} {m n : Nat} (hd : DfaOk d m n) (hn : n ≤ 12) {s : Nat} (hs : s < 2 ^ n) {w : ByteArray} (hw : zcL m w) : z1j (z4i d w) LFm ((s : Int), 0) = some (((za3 d s w.data.toList : Nat) : Int), 0) := by
  have hl : w.data.toList.length = w.size := by rw [Array.length_toList]; rfl
  have h48 := hw.1
  refine z2j (s := ((s : Int), (0 : Int))) w.size (fun k => (((za3 d s (w.data.toList.take k) : Nat) : Int), (k : Int))) rfl (by simp only [LFm]; omega) (fun k hk => ?_) ?_
  · have hk' : k < w.data.toList.length := by omega
    have hc := hw.2 _ (List.getElem_mem hk')
    have hb : w[k] = w.data.toList[k] := by rw [zaY hk, List.getD, List.getElem?_eq_getElem hk', Option.getD_some]
    have h256 : w[k].toNat < 256 := w[k].toNat_lt
    simp only [z4i]
    rw [if_pos (by omega), zeg hk]
    simp only [Option.bind_some]
    rw [hb] at *
    rw [zb4 hc.1 h256, zja hd hn (zj2 hd hs fun c hc => hw.2 c (List.mem_of_mem_take hc)) (by omega)]
    simp only [Option.bind_some]
    rw [z3f (by omega), zho hk', z6z]
    rfl
  · simp only [z4i]
    rw [if_neg (by omega), ← hl, List.take_length]
def zfM (d : DFA) (m n : Nat) (s : Int) (w : ByteArray) : Int × Int := if (0 ≤ s ∧ s < ((2 ^ n : Nat) : Int)) ∧ zcL m w then (((za3 d s.toNat w.data.toList : Nat) : Int), 0) else (0, 1)
theorem zpV {d : DFA} {m n : Nat} (hd : DfaOk d m n) (hn : n ≤ 12) (s : Int) (w : ByteArray) : z5L d s w = some (zfM d m n s w) := by
  unfold z5L zfM
  rw [z9K (zif hd hn), zhT hd hn]
  simp only [Option.bind_some, if_true]
  rw [zga hd hn]
  simp only [Option.bind_some, decide_eq_true_eq]
  by_cases h : 0 ≤ s ∧ s < ((2 ^ n : Nat) : Int)
  · rw [if_pos h, zeq, hd.lt, zfO ⟨hd.m1, hd.m6⟩]
    simp only [Option.bind_some, decide_eq_true_eq]
    by_cases hw : zcL m w
    · rw [if_pos hw, if_pos ⟨h, hw⟩]
      obtain ⟨k, rfl⟩ := Int.eq_ofNat_of_zero_le h.1
      rw [zim hd hn (by omega) hw, Int.toNat_natCast]
    · rw [if_neg hw, if_neg (fun hh => hw hh.2)]
  · rw [if_neg h, if_neg (fun hh => h hh.1)]
theorem refApply_eq {d : DFA} {m n : Nat} (hd : DfaOk d m n) (hn : n ≤ 12) (s : Int) (w : ByteArray) : z7J d s w = some (zfM d m n s w) := by
  unfold z7J zfM
  rw [zqm (zif hd hn), zhT hd hn]
  simp only [Option.bind_some, if_true]
  rw [zgv hd hn]
  simp only [Option.bind_some, decide_eq_true_eq]
  by_cases h : 0 ≤ s ∧ s < ((2 ^ n : Nat) : Int)
  · rw [if_pos h, hd.lt, zfO ⟨hd.m1, hd.m6⟩]
    simp only [Option.bind_some, decide_eq_true_eq]
    by_cases hw : zcL m w
    · rw [if_pos hw, if_pos ⟨h, hw⟩]
      obtain ⟨k, rfl⟩ := Int.eq_ofNat_of_zero_le h.1
      rw [zra hd hn (by omega) hw, Int.toNat_natCast]
      rfl
    · rw [if_neg hw, if_neg (fun hh => hw hh.2)]
  · rw [if_neg h, if_neg (fun hh => h hh.1)]
end Go.Proofs.Ytbnnipkanechoaa
end
section
namespace Go.Proofs.Ytbnnipkanechoaa
open Go
set_option maxRecDepth 100000
def zsn (a : Nat) : ByteArray := ⟨#[UInt8.ofNat (97 + a)]⟩
abbrev RS := List Nat × List ByteArray
def zfU (d : DFA) (i a : Nat) (st : RS) : RS := if mvN d (st.1.getD i 0) a ∈ st.1 then st else (st.1 ++ [mvN d (st.1.getD i 0) a], st.2 ++ [st.2.getD i ByteArray.empty ++ zsn a])
def z6g (d : DFA) (i : Nat) (st : RS) : Nat → RS
  | 0 => st
  | a + 1 => zfU d i a (z6g d i st a)
def z5P (d : DFA) (m s : Nat) : Nat → RS
  | 0 => ([s], [ByteArray.empty])
  | k + 1 => if k < (z5P d m s k).1.length then z6g d k (z5P d m s k) m else z5P d m s k
structure RInv (d : DFA) (m n s : Nat) (st : RS) : Prop where
  nd : st.1.Nodup
  lt : ∀ x ∈ st.1, x < 2 ^ n
  len : st.2.length = st.1.length
  f0 : st.1[0]? = some s
  w0 : st.2[0]? = some ByteArray.empty
  ok : ∀ i, i < st.1.length → (st.2.getD i ByteArray.empty).size ≤ i ∧ (∀ c ∈ (st.2.getD i ByteArray.empty).data.toList, 97 ≤ c.toNat ∧ c.toNat < 97 + m) ∧ za3 d s (st.2.getD i ByteArray.empty).data.toList = st.1.getD i 0
theorem z7P {α : Type} {l r : List α} {i : Nat} (d : α) (h : i < l.length) : (l ++ r).getD i d = l.getD i d := by
  rw [List.getD, List.getD, List.getElem?_append_left h]
theorem ze3 {α : Type} {l : List α} {x d : α} {i : Nat} (h : i = l.length) : (l ++ [x]).getD i d = x := by
  subst h; simp [List.getD]
theorem z1J {l : List Nat} {i : Nat} (h : i < l.length) : l.getD i 0 ∈ l := by
  rw [List.getD, List.getElem?_eq_getElem h]; exact List.getElem_mem h
theorem zo2 {α : Type} : ∀ {l r : List α}, l.Nodup → (∀ x ∈ l, x ∈ r) → l.length ≤ r.length
  | [], r, _, _ => by simp
  | x :: l, r, hn, hs => by
    obtain ⟨a, b, rfl⟩ := List.append_of_mem (hs x (List.mem_cons_self ..))
    have hn' := List.nodup_cons.1 hn
    have := zo2 (r := a ++ b) hn'.2 fun y hy => by
      have h1 := hs y (List.mem_cons_of_mem _ hy)
      have hne : y ≠ x := fun e => hn'.1 (e ▸ hy)
      rcases List.mem_append.1 h1 with h | h
      · exact List.mem_append.2 (.inl h)
      · rcases List.mem_cons.1 h with h | h
        · exact absurd h hne
        · exact List.mem_append.2 (.inr h)
    simp only [List.length_cons, List.length_append] at *
    omega
theorem z1O {l : List Nat} {N : Nat} (hn : l.Nodup) (hl : ∀ x ∈ l, x < N) : l.length ≤ N := by
  have := zo2 hn (r := List.range N) fun x hx => List.mem_range.2 (hl x hx)
  simpa using this
theorem zo1 (a : Nat) : (zsn a).data.toList = [UInt8.ofNat (97 + a)] := rfl
theorem zpG (u v : ByteArray) : (u ++ v).data.toList = u.data.toList ++ v.data.toList := by simp
theorem zpF (u v : ByteArray) : (u ++ v).size = u.size + v.size := by simp
theorem zaL (a : Nat) : (zsn a).size = 1 := rfl
theorem zkg {a : Nat} (h : a < 26) : (UInt8.ofNat (97 + a)).toNat = 97 + a := by simp [UInt8.toNat_ofNat']; omega
theorem zp2 {d : DFA} {m n s : Nat} (hd : DfaOk d m n) {st : RS} (h : RInv d m n s st) {i a : Nat} (hi : i < st.1.length) (ha : a < m) :
    RInv d m n s (zfU d i a st) ∧ mvN d (st.1.getD i 0) a ∈ (zfU d i a st).1 ∧ ∃ S W, (zfU d i a st).1 = st.1 ++ S ∧ (zfU d i a st).2 = st.2 ++ W := by
  have hm6 := hd.m6
  unfold zfU
  split
  · rename_i hm
    exact ⟨h, hm, [], [], by simp, by simp⟩
  · rename_i hm
    obtain ⟨o1, o2, o3⟩ := h.ok i hi
    refine ⟨⟨?_, ?_, by simp [h.len], ?_, ?_, ?_⟩, by simp, _, _, rfl, rfl⟩
    · refine List.nodup_append.2 ⟨h.nd, by simp, fun x hx y hy => ?_⟩
      obtain rfl : y = _ := by simpa using hy
      exact fun e => hm (e ▸ hx)
    · intro x hx
      rcases List.mem_append.1 hx with hx | hx
      · exact h.lt x hx
      · obtain rfl : x = _ := by simpa using hx
        exact zfB hd ha
    · rw [List.getElem?_append_left (by omega)]; exact h.f0
    · rw [List.getElem?_append_left (by rw [h.len]; omega)]; exact h.w0
    · intro j hj
      simp only [List.length_append, List.length_singleton] at hj
      by_cases e : j = st.1.length
      · rw [ze3 e, ze3 (by rw [h.len]; exact e), zpF, zpG, zo1, zaL, z6z, o3]
        refine ⟨by omega, fun c hc => ?_, ?_⟩
        · rcases List.mem_append.1 hc with hc | hc
          · exact o2 c hc
          · obtain rfl := List.mem_singleton.1 hc
            rw [zkg (by omega)]; omega
        · simp only [za3]
          rw [zkg (by omega), Nat.add_sub_cancel_left]
      · rw [z7P _ (show j < st.2.length by rw [h.len]; omega), z7P _ (show j < st.1.length by omega)]
        exact h.ok j (by omega)
theorem ze0 {d : DFA} {m n s : Nat} (hd : DfaOk d m n) {st : RS} (h : RInv d m n s st) {i : Nat} (hi : i < st.1.length) : ∀ a, a ≤ m →
    RInv d m n s (z6g d i st a) ∧ (∀ b, b < a → mvN d (st.1.getD i 0) b ∈ (z6g d i st a).1) ∧ (∃ S W, (z6g d i st a).1 = st.1 ++ S ∧ (z6g d i st a).2 = st.2 ++ W)
  | 0, _ => ⟨h, fun b hb => by omega, [], [], by simp [z6g], by simp [z6g]⟩
  | a + 1, ha => by
    obtain ⟨h1, h2, S, W, h3, h4⟩ := ze0 hd h hi a (by omega)
    have hi' : i < (z6g d i st a).1.length := by rw [h3, List.length_append]; omega
    obtain ⟨k1, k2, S', W', k3, k4⟩ := zp2 hd h1 hi' (show a < m by omega)
    have e : (z6g d i st a).1.getD i 0 = st.1.getD i 0 := by rw [h3, z7P _ hi]
    rw [e] at k2
    refine ⟨k1, fun b hb => ?_, S ++ S', W ++ W', by rw [z6g, k3, h3, List.append_assoc], by rw [z6g, k4, h4, List.append_assoc]⟩
    by_cases hb' : b = a
    · subst hb'; exact k2
    · rw [z6g, k3]; exact List.mem_append.2 (.inl (h2 b (by omega)))
theorem z8n {d : DFA} {m n s : Nat} (hd : DfaOk d m n) (hs : s < 2 ^ n) : ∀ k, RInv d m n s (z5P d m s k) ∧ ∀ j, j < k → j < (z5P d m s k).1.length → ∀ a, a < m → mvN d ((z5P d m s k).1.getD j 0) a ∈ (z5P d m s k).1
  | 0 => ⟨⟨by simp [z5P], by simpa [z5P] using hs, rfl, rfl, rfl, fun i hi => by
      obtain rfl : i = 0 := by simpa [z5P] using hi
      exact ⟨Nat.le_refl _, fun c hc => by simp [z5P, List.getD] at hc, rfl⟩⟩, fun j hj => by omega⟩
  | k + 1 => by
    obtain ⟨h1, h2⟩ := z8n hd hs k
    unfold z5P
    split
    · rename_i hk
      obtain ⟨k1, k2, S, W, k3, k4⟩ := ze0 hd h1 hk m (Nat.le_refl _)
      refine ⟨k1, fun j hj hjl a ha => ?_⟩
      by_cases e : j = k
      · subst e
        have := k2 a ha
        rwa [show (z6g d j (z5P d m s j) m).1.getD j 0 = (z5P d m s j).1.getD j 0 by rw [k3, z7P _ hk]]
      · have hj' : j < (z5P d m s k).1.length := by omega
        have := h2 j (by omega) hj' a ha
        rw [show (z6g d k (z5P d m s k) m).1.getD j 0 = (z5P d m s k).1.getD j 0 by rw [k3, z7P _ hj'], k3]
        exact List.mem_append.2 (.inl this)
    · rename_i hk
      exact ⟨h1, fun j hj hjl a ha => h2 j (by omega) hjl a ha⟩
theorem zfY {d : DFA} {m n s : Nat} (hd : DfaOk d m n) (hs : s < 2 ^ n) (k : Nat) : (z5P d m s k).1.length ≤ 2 ^ n := z1O (z8n hd hs k).1.nd (z8n hd hs k).1.lt
theorem zcy {d : DFA} {m s : Nat} {k : Nat} (h : ¬ k < (z5P d m s k).1.length) : ∀ j, k ≤ j → z5P d m s j = z5P d m s k
  | 0, hj => by
    obtain rfl : k = 0 := by omega
    rfl
  | j + 1, hj => by
    by_cases e : k = j + 1
    · rw [e]
    · have ih := zcy h j (by omega)
      rw [z5P, ih, if_neg (by omega)]
def z1q (d : DFA) (m n s : Nat) : RS := z5P d m s (2 ^ n)
theorem zcm {d : DFA} {m n s : Nat} (hd : DfaOk d m n) (hs : s < 2 ^ n) {x a : Nat} (hx : x ∈ (z1q d m n s).1) (ha : a < m) : mvN d x a ∈ (z1q d m n s).1 := by
  obtain ⟨i, hi, rfl⟩ := List.getElem_of_mem hx
  have hl := zfY hd hs (2 ^ n)
  have := (z8n hd hs (2 ^ n)).2 i (by unfold z1q at hi; omega) hi a ha
  have e : (z5P d m s (2 ^ n)).1.getD i 0 = (z1q d m n s).1[i] := by
    show (z1q d m n s).1.getD i 0 = _
    rw [List.getD, List.getElem?_eq_getElem hi, Option.getD_some]
  rw [e] at this
  exact this
theorem z4D {d : DFA} {m n s : Nat} (hd : DfaOk d m n) (hs : s < 2 ^ n) : RInv d m n s (z1q d m n s) := (z8n hd hs _).1
def toI (l : List Nat) : List Int := l.map fun x => ((x : Nat) : Int)
theorem z0W (l : List Nat) : (toI l).length = l.length := by simp [toI]
theorem z7H (l : List Nat) (x : Nat) : toI (l ++ [x]) = toI l ++ [((x : Nat) : Int)] := by simp [toI]
theorem z3V {l : List Nat} {i : Nat} (h : i < l.length) : atI (toI l) (i : Int) = some ((l.getD i 0 : Nat) : Int) := by
  rw [z2V (by rw [z0W]; exact h)]
  simp [toI, List.getD, h]
theorem zfT {l : List ByteArray} {i : Nat} (h : i < l.length) : atI l (i : Int) = some (l.getD i ByteArray.empty) := by
  rw [z2V h, List.getD, List.getElem?_eq_getElem h, Option.getD_some]
def zhR (n : Nat) (S : List Nat) : List Bool := (List.range (2 ^ n)).map fun x => decide (x ∈ S)
theorem zrU {n : Nat} {S : List Nat} {x : Nat} (h : x < 2 ^ n) : atI (zhR n S) (x : Int) = some (decide (x ∈ S)) := by
  rw [z2V (by simpa [zhR] using h)]; simp [zhR]
theorem znR {n : Nat} {S : List Nat} {x : Nat} : (zhR n S).set x true = zhR n (S ++ [x]) := by
  apply List.ext_getElem (by simp [zhR])
  intro i h1 h2
  simp only [zhR, List.getElem_set, List.getElem_map, List.getElem_range, List.mem_append, List.mem_singleton]
  by_cases e : x = i
  · subst e; simp
  · rw [if_neg e]
    have : ¬ i = x := fun h => e h.symm
    simp [this]
theorem znS {n s : Nat} : (List.replicate (2 ^ n) false).set s true = zhR n [s] := by
  have : List.replicate (2 ^ n) false = zhR n [] := by
    apply List.ext_getElem (by simp [zhR])
    intro i h1 h2
    simp [zhR]
  rw [this, znR]; rfl
def znV (S : List Nat) : List (Int × Bool) := S.map fun x => (((x : Nat) : Int), true)
theorem znU (x : Nat) : ∀ S : List Nat, ((zmv ((x : Nat) : Int) (znV S)).getD false) = decide (x ∈ S)
  | [] => rfl
  | y :: S => by
    have ih := znU x S
    simp only [znV, List.map_cons, zmv]
    by_cases e : y = x
    · subst e; simp
    · rw [if_neg (by omega)]
      have : ¬ x = y := fun h => e h.symm
      simp only [List.mem_cons, this, false_or]
      exact ih
theorem map_set {x : Nat} : ∀ {S : List Nat}, x ∉ S → zjZ ((x : Nat) : Int) true (znV S) = znV (S ++ [x])
  | [], _ => rfl
  | y :: S, h => by
    have ih := map_set (x := x) (S := S) (fun hh => h (List.mem_cons_of_mem _ hh))
    have hne : y ≠ x := fun e => h (by simp [e])
    simp only [znV, List.map_cons, zjZ, List.cons_append]
    rw [if_neg (by omega)]
    congr 1
theorem zjf {a : Nat} (h : a < 26) : (⟨#[UInt8.ofNat (IntKind.u8.wrap (IntKind.i64.wrap (97 + (a : Int)))).toNat]⟩ : ByteArray) = zsn a := by
  rw [z2m (by omega) (by omega), zqo (by omega) (by omega)]
  have : (97 + (a : Int)).toNat = 97 + a := by omega
  rw [this]; rfl
theorem zjj {d : DFA} {m n s : Nat} (hd : DfaOk d m n) (hn : n ≤ 12) {st : RS} (h : RInv d m n s st) {i : Nat} (hi : i < st.1.length) :
    z1j (z4f d i) LFm (0, zhR n st.1, toI st.1, st.2) = z0Y (((i + 1 : Nat) : Int), zhR n (z6g d i st m).1, toI (z6g d i st m).1, (z6g d i st m).2) := by
  have h12 := za4 hn
  have hm6 := hd.m6
  have hl := z1O h.nd h.lt
  refine z2j (s := ((0 : Int), zhR n st.1, toI st.1, st.2)) m (fun a => ((a : Int), zhR n (z6g d i st a).1, toI (z6g d i st a).1, (z6g d i st a).2)) rfl (by simp only [LFm]; omega) (fun a ha => ?_) ?_
  · obtain ⟨k1, _, S, W, k3, k4⟩ := ze0 hd h hi a (by omega)
    have hl2 := z1O k1.nd k1.lt
    have hi' : i < (z6g d i st a).1.length := by rw [k3, List.length_append]; omega
    have hx : (z6g d i st a).1.getD i 0 < 2 ^ n := k1.lt _ (z1J hi')
    obtain ⟨o1, _, _⟩ := k1.ok i hi'
    simp only [z4f]
    rw [if_pos (by rw [hd.lt]; omega), z3V hi']
    simp only [Option.bind_some]
    rw [zja hd hn hx ha]
    simp only [Option.bind_some]
    rw [zrU (zfB hd ha)]
    simp only [Option.bind_some, decide_eq_true_eq]
    rw [z3f (by omega), z6g]
    unfold zfU
    have hml := zfB hd (s := (z6g d i st a).1.getD i 0) ha
    have hlt := hd.lt
    clear hd h k3 k4
    revert hml
    generalize z6g d i st a = st' at *
    generalize mvN d (st'.1.getD i 0) a = x
    intro hml
    by_cases hm : x ∈ st'.1
    · rw [if_pos hm, if_pos hm]
    · rw [if_neg hm, if_neg hm, z1i _ (by unfold z3i; rw [z0W]; omega), zfT (by rw [k1.len]; exact hi'), Option.bind_some]
      rw [zjf (by omega), z1i _ (by unfold z9z; rw [zaL]; omega), z1i _ (by unfold z3i; rw [k1.len]; omega), Int.toNat_natCast, znR]
      rw [z7H]
  · simp only [z4f]
    rw [if_neg (by rw [hd.lt]; omega), z3f (by omega)]
theorem zk2 {d : DFA} {m n s : Nat} (hd : DfaOk d m n) (hn : n ≤ 12) (hs : s < 2 ^ n) : z4U d (s : Int) = some (toI (z1q d m n s).1, (z1q d m n s).2) := by
  have h12 := za4 hn
  have hp := Nat.two_pow_pos n
  unfold z4U
  rw [hd.fin, z1i _ (by omega), z6L (by omega), z1i _ (by unfold z3l; omega), z1i _ (by omega), Int.toNat_natCast, Int.toNat_natCast, znS]
  refine zcD (s := ((0 : Int), zhR n [s], [(s : Int)], [ByteArray.empty])) (fun z => ∃ k : Nat, k ≤ 2 ^ n ∧ z = ((k : Int), zhR n (z5P d m s k).1, toI (z5P d m s k).1, (z5P d m s k).2)) (fun z => 2 ^ n + 1 - z.1.toNat) ⟨0, by omega, rfl⟩ (by simp only [LFm]; omega) ?_
  rintro z ⟨k, hk, rfl⟩
  have hl := zfY hd hs k
  simp only [z6F]
  by_cases h : k < (z5P d m s k).1.length
  · left
    rw [if_pos (by rw [z0W]; omega), zjj hd hn (z8n hd hs k).1 h]
    refine ⟨_, rfl, ⟨k + 1, by omega, ?_⟩, by simp only; omega⟩
    rw [z5P, if_pos h]
  · right
    rw [if_neg (by rw [z0W]; omega)]
    unfold z1q
    rw [zcy h _ hk]
theorem zjk {d : DFA} {m n s : Nat} (hd : DfaOk d m n) (hn : n ≤ 12) {st : RS} (h : RInv d m n s st) {i : Nat} (hi : i < st.1.length) :
    z1j (z4A d i) LFm (0, toI st.1, st.2, znV st.1) = z0Y (((i + 1 : Nat) : Int), toI (z6g d i st m).1, (z6g d i st m).2, znV (z6g d i st m).1) := by
  have h12 := za4 hn
  have hm6 := hd.m6
  have hl := z1O h.nd h.lt
  refine z2j (s := ((0 : Int), toI st.1, st.2, znV st.1)) m (fun a => ((a : Int), toI (z6g d i st a).1, (z6g d i st a).2, znV (z6g d i st a).1)) rfl (by simp only [LFm]; omega) (fun a ha => ?_) ?_
  · obtain ⟨k1, _, S, W, k3, k4⟩ := ze0 hd h hi a (by omega)
    have hl2 := z1O k1.nd k1.lt
    have hi' : i < (z6g d i st a).1.length := by rw [k3, List.length_append]; omega
    have hx : (z6g d i st a).1.getD i 0 < 2 ^ n := k1.lt _ (z1J hi')
    obtain ⟨o1, _, _⟩ := k1.ok i hi'
    simp only [z4A]
    rw [if_pos (by rw [hd.lt]; omega), z3V hi']
    simp only [Option.bind_some]
    rw [zip hd hn hx ha]
    simp only [Option.bind_some]
    rw [znU]
    simp only [decide_eq_true_eq]
    rw [z3f (by omega), z6g]
    unfold zfU
    by_cases hm : mvN d ((z6g d i st a).1.getD i 0) a ∈ (z6g d i st a).1
    · rw [if_pos hm, if_pos hm]
    · rw [if_neg hm, if_neg hm, zfT (by rw [k1.len]; exact hi'), Option.bind_some]
      rw [z1i _ (by unfold z3i; rw [z0W]; omega), zjf (by omega), z1i _ (by unfold z9z; rw [zaL]; omega), z1i _ (by unfold z3i; rw [k1.len]; omega), map_set hm, z7H]
  · simp only [z4A]
    rw [if_neg (by rw [hd.lt]; omega), z3f (by omega)]
theorem zpU {d : DFA} {m n s : Nat} (hd : DfaOk d m n) (hn : n ≤ 12) (hs : s < 2 ^ n) : z6A d (s : Int) = some (toI (z1q d m n s).1, (z1q d m n s).2) := by
  have h12 := za4 hn
  have hp := Nat.two_pow_pos n
  unfold z6A
  refine zcD (s := ((0 : Int), [(s : Int)], [ByteArray.empty], znV [s])) (fun z => ∃ k : Nat, k ≤ 2 ^ n ∧ z = ((k : Int), toI (z5P d m s k).1, (z5P d m s k).2, znV (z5P d m s k).1)) (fun z => 2 ^ n + 1 - z.1.toNat) ⟨0, by omega, rfl⟩ (by simp only [LFm]; omega) ?_
  rintro z ⟨k, hk, rfl⟩
  have hl := zfY hd hs k
  simp only [z6S]
  by_cases h : k < (z5P d m s k).1.length
  · left
    rw [if_pos (by rw [z0W]; omega), zjk hd hn (z8n hd hs k).1 h]
    refine ⟨_, rfl, ⟨k + 1, by omega, ?_⟩, by simp only; omega⟩
    rw [z5P, if_pos h]
  · right
    rw [if_neg (by rw [z0W]; omega)]
    unfold z1q
    rw [zcy h _ hk]
end Go.Proofs.Ytbnnipkanechoaa
end
section
namespace Go.Proofs.Ytbnnipkanechoaa
open Go
set_option maxRecDepth 100000
abbrev isB (n : Nat) (s : Int) : Prop := 0 ≤ s ∧ s < ((2 ^ n : Nat) : Int)
def z9x (p : Nat) (st : RS) : ByteArray × Bool × Int := match (List.range st.1.length).find? fun k => decide (p &&& st.1.getD k 0 = p) with
  | some k => (st.2.getD k ByteArray.empty, true, 0)
  | none => (ByteArray.empty, false, 0)
def zsA (d : DFA) (m n : Nat) (p r : Int) : ByteArray × Bool × Int := if isB n p ∧ isB n r then z9x p.toNat (z1q d m n r.toNat) else (ByteArray.empty, false, 1)
theorem zkC {α : Type} {f : Nat → α} {o : Option Nat} {x : α} : (match o with | some k => some (f k) | none => some x) = some (match o with | some k => f k | none => x) := by cases o <;> rfl
theorem zmM {d : DFA} {m n s : Nat} (hd : DfaOk d m n) (hn : n ≤ 12) (hs : s < 2 ^ n) {p : Nat} (hp : p < 2 ^ n) : z1j (z4h (p : Int) (toI (z1q d m n s).1, (z1q d m n s).2)) LFm 0 = some (z9x p (z1q d m n s)) := by
  have h12 := za4 hn
  have hi := z4D hd hs
  have hl := z1O hi.nd hi.lt
  rw [z6E (s := (0 : Int)) (z1q d m n s).1.length (fun k => (k : Int)) (fun k => decide (p &&& (z1q d m n s).1.getD k 0 = p)) (fun k => some ((z1q d m n s).2.getD k ByteArray.empty, true, 0)) (x := some (ByteArray.empty, false, 0)) rfl (by simp only [LFm]; omega)]
  · unfold z9x; exact zkC
  · intro k hk
    have hx := hi.lt _ (z1J hk)
    simp only [z4h]
    rw [if_pos (by rw [z0W]; omega), z3V hk, Option.bind_some, z7Q (by omega) (by omega), Option.bind_some]
    simp only [decide_eq_true_eq]
    split
    · rw [zfT (by rw [hi.len]; exact hk), Option.bind_some]
    · rw [z3f (by omega)]
  · simp only [z4h]
    rw [if_neg (by rw [z0W]; omega)]
theorem zmO {d : DFA} {m n s : Nat} (hd : DfaOk d m n) (hn : n ≤ 12) (hs : s < 2 ^ n) {p : Nat} (hp : p < 2 ^ n) : z1j (z4B (p : Int) (toI (z1q d m n s).1, (z1q d m n s).2)) LFm 0 = some (z9x p (z1q d m n s)) := by
  have h12 := za4 hn
  have hi := z4D hd hs
  have hl := z1O hi.nd hi.lt
  rw [z6E (s := (0 : Int)) (z1q d m n s).1.length (fun k => (k : Int)) (fun k => decide (p &&& (z1q d m n s).1.getD k 0 = p)) (fun k => some ((z1q d m n s).2.getD k ByteArray.empty, true, 0)) (x := some (ByteArray.empty, false, 0)) rfl (by simp only [LFm]; omega)]
  · unfold z9x; exact zkC
  · intro k hk
    have hx := hi.lt _ (z1J hk)
    simp only [z4B]
    rw [if_pos (by rw [z0W]; omega), z3V hk, Option.bind_some, zkY (by omega) (by omega)]
    simp only [decide_eq_true_eq]
    by_cases h : p &&& (z1q d m n s).1.getD k 0 = p
    · rw [if_pos (by rw [h]), if_pos h, zfT (by rw [hi.len]; exact hk), Option.bind_some]
    · rw [if_neg (by omega), if_neg h, z3f (by omega)]
  · simp only [z4B]
    rw [if_neg (by rw [z0W]; omega)]
theorem below_eq {d : DFA} {m n : Nat} (hd : DfaOk d m n) (hn : n ≤ 12) (p r : Int) : z6P d p r = some (zsA d m n p r) := by
  unfold z6P zsA
  rw [z9K (zif hd hn), zhT hd hn, Option.bind_some, if_pos rfl, zga hd hn, Option.bind_some]
  simp only [decide_eq_true_eq]
  by_cases h : isB n p
  · rw [if_pos h, zga hd hn, Option.bind_some]
    simp only [decide_eq_true_eq]
    by_cases h2 : isB n r
    · rw [if_pos h2, if_pos ⟨h, h2⟩]
      obtain ⟨k, rfl⟩ := Int.eq_ofNat_of_zero_le h.1
      obtain ⟨j, rfl⟩ := Int.eq_ofNat_of_zero_le h2.1
      have hk := h.2
      have hj := h2.2
      rw [zk2 hd hn (by omega), Option.bind_some, zmM hd hn (by omega) (by omega)]
      rfl
    · rw [if_neg h2, if_neg (fun hh => h2 hh.2)]
  · rw [if_neg h, if_neg (fun hh => h hh.1)]
theorem Below_eq {d : DFA} {m n : Nat} (hd : DfaOk d m n) (hn : n ≤ 12) (p r : Int) : z7I d p r = some (zsA d m n p r) := by
  unfold z7I zsA
  rw [zqm (zif hd hn), zhT hd hn, Option.bind_some, if_pos rfl, zgv hd hn, Option.bind_some]
  simp only [decide_eq_true_eq]
  by_cases h : isB n p
  · rw [if_pos h, zgv hd hn, Option.bind_some]
    simp only [decide_eq_true_eq]
    by_cases h2 : isB n r
    · rw [if_pos h2, if_pos ⟨h, h2⟩]
      obtain ⟨k, rfl⟩ := Int.eq_ofNat_of_zero_le h.1
      obtain ⟨j, rfl⟩ := Int.eq_ofNat_of_zero_le h2.1
      have hk := h.2
      have hj := h2.2
      rw [zpU hd hn (by omega), Option.bind_some, zmO hd hn (by omega) (by omega)]
      rfl
    · rw [if_neg h2, if_neg (fun hh => h2 hh.2)]
  · rw [if_neg h, if_neg (fun hh => h hh.1)]
def zb1 (p r : Nat) : Prop := p &&& r = p
theorem z4J {p r : Nat} : zb1 p r ↔ ∀ q, p.testBit q = true → r.testBit q = true := by
  unfold zb1
  constructor
  · intro h q hq
    have : (p &&& r).testBit q = true := by rw [h]; exact hq
    rw [Nat.testBit_and, Bool.and_eq_true] at this
    exact this.2
  · intro h
    apply Nat.eq_of_testBit_eq
    intro q
    rw [Nat.testBit_and]
    cases hp : p.testBit q with
    | false => rfl
    | true => rw [h q hp]; rfl
theorem zfS (p : Nat) : zb1 p p := Nat.and_self p
theorem zhp {p q r : Nat} (h1 : zb1 p q) (h2 : zb1 q r) : zb1 p r := z4J.2 fun i hi => z4J.1 h2 i (z4J.1 h1 i hi)
theorem zhq {p q : Nat} (h1 : zb1 p q) (h2 : zb1 q p) : p = q := Nat.eq_of_testBit_eq fun i => by
  have a := z4J.1 h1 i
  have b := z4J.1 h2 i
  cases hp : p.testBit i <;> cases hq : q.testBit i <;> simp_all
theorem zqN {d : DFA} {m n : Nat} (hd : DfaOk d m n) {p r a : Nat} (ha : a < m) (h : zb1 p r) : zb1 (mvN d p a) (mvN d r a) := z4J.2 fun q hq => by
  obtain ⟨i, h1, h2, h3⟩ := (za7 hd ha q).1 hq
  exact (za7 hd ha q).2 ⟨i, h1, z4J.1 h i h2, h3⟩
theorem zk0 {d : DFA} {m n : Nat} (hd : DfaOk d m n) : ∀ {w : List UInt8} {p r : Nat}, (∀ c ∈ w, 97 ≤ c.toNat ∧ c.toNat < 97 + m) → zb1 p r → zb1 (za3 d p w) (za3 d r w)
  | [], p, r, _, h => h
  | c :: w, p, r, hw, h => zk0 (w := w) (p := mvN d p (c.toNat - 97)) (r := mvN d r (c.toNat - 97)) hd (fun c' hc' => hw c' (List.mem_cons_of_mem _ hc')) (zqN hd (by have := hw c (List.mem_cons_self ..); omega) h)
theorem zhF {d : DFA} {m n s : Nat} (hd : DfaOk d m n) (hs : s < 2 ^ n) : ∀ {w : List UInt8} {x : Nat}, (∀ c ∈ w, 97 ≤ c.toNat ∧ c.toNat < 97 + m) → x ∈ (z1q d m n s).1 → za3 d x w ∈ (z1q d m n s).1
  | [], x, _, h => h
  | c :: w, x, hw, h => zhF (w := w) (x := mvN d x (c.toNat - 97)) hd hs (fun c' hc' => hw c' (List.mem_cons_of_mem _ hc')) (zcm hd hs h (by have := hw c (List.mem_cons_self ..); omega))
theorem zfy {d : DFA} {m n s : Nat} (hd : DfaOk d m n) (hs : s < 2 ^ n) : s ∈ (z1q d m n s).1 := by
  have := (z4D hd hs).f0
  exact List.mem_of_getElem? this
def zr7 (d : DFA) (m : Nat) (p r : Nat) : Prop := ∃ w : List UInt8, (∀ c ∈ w, 97 ≤ c.toNat ∧ c.toNat < 97 + m) ∧ zb1 p (za3 d r w)
theorem zik {d : DFA} {m n p r : Nat} (hd : DfaOk d m n) (hr : r < 2 ^ n) : zr7 d m p r ↔ ∃ x ∈ (z1q d m n r).1, zb1 p x := by
  constructor
  · rintro ⟨w, h1, h2⟩
    exact ⟨_, zhF hd hr h1 (zfy hd hr), h2⟩
  · rintro ⟨x, hx, hs⟩
    obtain ⟨i, hi, rfl⟩ := List.getElem_of_mem hx
    obtain ⟨_, o2, o3⟩ := (z4D hd hr).ok i hi
    refine ⟨_, o2, ?_⟩
    rw [o3, List.getD, List.getElem?_eq_getElem hi, Option.getD_some]
    exact hs
theorem zkU (d : DFA) (m p : Nat) : zr7 d m p p := ⟨[], fun c hc => by simp at hc, zfS p⟩
theorem zei {d : DFA} {m n p q r : Nat} (hd : DfaOk d m n) (h1 : zr7 d m p q) (h2 : zr7 d m q r) : zr7 d m p r := by
  obtain ⟨u, u1, u2⟩ := h1
  obtain ⟨v, v1, v2⟩ := h2
  refine ⟨v ++ u, fun c hc => ?_, ?_⟩
  · rcases List.mem_append.1 hc with h | h
    · exact v1 c h
    · exact u1 c h
  · rw [z6z]
    exact zhp u2 (zk0 hd u1 v2)
theorem findB_yes {d : DFA} {m n p r : Nat} (hd : DfaOk d m n) (hr : r < 2 ^ n) (h : (z9x p (z1q d m n r)).2.1 = true) : zcL m (z9x p (z1q d m n r)).1 ∨ ¬ (2 ^ n ≤ 2048) := by
  have hi := z4D hd hr
  have hl := z1O hi.nd hi.lt
  by_cases h48 : 2 ^ n ≤ 2048
  · left
    unfold z9x at h ⊢
    split at h
    · rename_i k hk
      obtain ⟨k1, k2, _⟩ := zaR.1 hk
      obtain ⟨o1, o2, _⟩ := hi.ok k k1
      exact ⟨by show ((z1q d m n r).2.getD k ByteArray.empty).size ≤ 2048; omega, o2⟩
    · cases h
  · exact .inr h48
theorem findB_spec {d : DFA} {m n p r : Nat} (hd : DfaOk d m n) (hr : r < 2 ^ n) : ((z9x p (z1q d m n r)).2.1 = true → (∀ c ∈ (z9x p (z1q d m n r)).1.data.toList, 97 ≤ c.toNat ∧ c.toNat < 97 + m) ∧ (z9x p (z1q d m n r)).1.size ≤ 2 ^ n ∧ zb1 p (za3 d r (z9x p (z1q d m n r)).1.data.toList)) ∧ ((z9x p (z1q d m n r)).2.1 = false → (z9x p (z1q d m n r)).1 = ByteArray.empty ∧ ¬ zr7 d m p r) ∧ (z9x p (z1q d m n r)).2.2 = 0 := by
  have hi := z4D hd hr
  have hl := z1O hi.nd hi.lt
  unfold z9x
  split
  · rename_i k hk
    obtain ⟨k1, k2, _⟩ := zaR.1 hk
    obtain ⟨o1, o2, o3⟩ := hi.ok k k1
    refine ⟨fun _ => ⟨o2, by show ((z1q d m n r).2.getD k ByteArray.empty).size ≤ _; omega, ?_⟩, (fun h => by cases h), rfl⟩
    show zb1 p (za3 d r _)
    rw [o3]
    have k2 : p &&& (z1q d m n r).1.getD k 0 = p := by simpa using k2
    exact k2
  · rename_i hk
    refine ⟨(fun h => by cases h), fun _ => ⟨rfl, fun hb => ?_⟩, rfl⟩
    obtain ⟨x, hx, hs⟩ := (zik hd hr).1 hb
    obtain ⟨i, hxi, rfl⟩ := List.getElem_of_mem hx
    have := ze9.1 hk i hxi
    rw [List.getD, List.getElem?_eq_getElem hxi, Option.getD_some] at this
    exact absurd hs (by simpa [zb1] using this)
end Go.Proofs.Ytbnnipkanechoaa
end
section
namespace Go.Proofs.Ytbnnipkanechoaa
open Go
noncomputable section
set_option maxRecDepth 100000
set_option maxHeartbeats 1000000
structure Dgm where
  sets : List Int
  next : List (List Int)
  below : List (List Bool)
deriving Inhabited
def cmp_isNaN_int (a0 : Int) : Option (Bool) :=
  some (!decide (a0 = a0))
theorem z7W {a0 : Int} {r : Bool} (h0 : cmp_isNaN_int a0 = some r) : L 77 [.sc (.int .i64 a0)] = some (.sc (.bool r), [.dead]) := by
  simp only [cmp_isNaN_int] at h0
  refine z2l zuk zvK (z1l zxX ⟨of_decide_eq_true rfl, of_decide_eq_true rfl⟩ ?_)
  simp only [z1z, z1w, z1s, z1A, z2X]
  refine zq rfl (zr rfl rfl rfl (by simp; rfl) ?_)
  refine z0a (zq rfl (zr rfl rfl rfl (by simp; rfl) ?_))
  refine z0a (z0U rfl ?_)
  cases h0
  simp
def cmp_Compare_int (a0 : Int) (a1 : Int) : Option (Int) :=
  (cmp_isNaN_int a0).bind fun v3 =>
  (cmp_isNaN_int a1).bind fun v4 =>
  if v3 = true then
    if v4 = true then
      some 0
    else
      some (-1)
  else
    if v4 = true then
      some 1
    else
      if a0 < a1 then
        some (-1)
      else
        if a1 < a0 then
          some 1
        else
          some 0
theorem zaV {a0 : Int} {a1 : Int} {r : Int} (h0 : cmp_Compare_int a0 a1 = some r) : L 67 [.sc (.int .i64 a0), .sc (.int .i64 a1)] = some (.sc (.int .i64 r), [.dead, .dead]) := by
  simp only [cmp_Compare_int] at h0
  refine z2l zur zvR (z1l zy4 ⟨of_decide_eq_true rfl, of_decide_eq_true rfl⟩ ?_)
  simp only [z1z, z1w, z1s, z1A, z2X]
  refine zq rfl (zr rfl rfl rfl (by simp; rfl) ?_)
  refine z0a (zq rfl ?_)
  obtain ⟨v3, f8, h1⟩ := z0b h0
  have f8k := z7W f8
  try simp at f8k
  refine zr rfl rfl rfl (by simp [f8k]; rfl) ?_
  refine z0a (zq rfl ?_)
  obtain ⟨v4, f9, h2⟩ := z0b h1
  have f9k := z7W f9
  try simp at f9k
  refine zr rfl rfl rfl (by simp [f9k]; rfl) ?_
  refine z0a (zq rfl (zq rfl (zr rfl rfl rfl (by simp; rfl) ?_)))
  refine z0a ?_
  by_cases c10 : v3 = true
  ·rw [if_pos c10] at h2
   refine z0p rfl (by simp [c10]) (zq rfl (zq rfl (zr rfl rfl rfl (by simp; rfl) ?_)))
   refine z0a ?_
   by_cases c11 : v4 = true
   ·rw [if_pos c11] at h2
    refine z0p rfl (by simp [c11]) (zq rfl (zr rfl rfl rfl (by simp; rfl) ?_))
    refine z0a (z0U rfl (z0n (z0n ?_)))
    cases h2
    simp [c10, c11]
   ·rw [if_neg c11] at h2
    refine z0m rfl (by simp [c11]) (z0h rfl (z0a (zq rfl (zr rfl rfl rfl (by simp; rfl) ?_))))
    refine z0a (z0U rfl (z0n ?_))
    cases h2
    simp [c10, c11]
  ·rw [if_neg c10] at h2
   refine z0m rfl (by simp [c10]) (z0h rfl (z0a (zq rfl (zq rfl (zr rfl rfl rfl (by simp; rfl) ?_)))))
   refine z0a ?_
   by_cases c12 : v4 = true
   ·rw [if_pos c12] at h2
    refine z0p rfl (by simp [c12]) (zq rfl (zr rfl rfl rfl (by simp; rfl) ?_))
    refine z0a (z0U rfl (z0n ?_))
    cases h2
    simp [c10, c12]
   ·rw [if_neg c12] at h2
    refine z0m rfl (by simp [c12]) (z0h rfl (z0a (zq rfl (zq rfl (zr rfl rfl rfl (by simp; rfl) ?_)))))
    refine z0a ?_
    by_cases c13 : a0 < a1
    ·rw [if_pos c13] at h2
     refine z0p rfl (by simp [c13]) (zq rfl (zr rfl rfl rfl (by simp; rfl) ?_))
     refine z0a (z0U rfl (z0n ?_))
     cases h2
     simp [c10, c12]
    ·rw [if_neg c13] at h2
     refine z0m rfl (by simp [c13]) (z0h rfl (z0a (zq rfl (zq rfl (zr rfl rfl rfl (by simp; rfl) ?_)))))
     refine z0a ?_
     by_cases c14 : a1 < a0
     ·rw [if_pos c14] at h2
      refine z0p rfl (by simp [c14]) (zq rfl (zr rfl rfl rfl (by simp; rfl) ?_))
      refine z0a (z0U rfl (z0n ?_))
      cases h2
      simp [c10, c12]
     ·rw [if_neg c14] at h2
      refine z0m rfl (by simp [c14]) (z0h rfl (z0a (zq rfl (zr rfl rfl rfl (by simp; rfl) ?_))))
      refine z0a (z0U rfl ?_)
      cases h2
      simp [c10, c12]
def z1v (a0 : Int) (a1 : Int) (a2_0 : List Int) : Option (Int) :=
  (atI a2_0 a0).bind fun v4 =>
  (atI a2_0 a1).bind fun v5 =>
  (cmp_Compare_int v4 v5).bind fun v6 =>
  some v6
theorem z1Q {a0 : Int} {a1 : Int} {a2_0 : List Int} {r : Int} (h0 : z1v a0 a1 a2_0 = some r) : L 70 [.sc (.int .i64 a0), .sc (.int .i64 a1), .pr [.sl a2_0.length (a2_0.map fun x0 => .sc (.int .i64 x0))]] = some (.sc (.int .i64 r), [.dead, .dead, .dead]) := by
  simp only [z1v] at h0
  refine z2l zuo zvO (z1l zy1 ⟨of_decide_eq_true rfl, of_decide_eq_true rfl⟩ ?_)
  simp only [z1z, z1w, z1s, z1A, z2X]
  refine zq rfl (zr rfl rfl rfl (by simp; rfl) ?_)
  refine z0a (zq rfl ?_)
  obtain ⟨v4, f4, h1⟩ := z1r h0
  obtain ⟨v5, f5, h2⟩ := z1r h1
  obtain ⟨v6, f6, h3⟩ := z0b h2
  have f6k := zaV f6
  try simp at f6k
  refine z1D rfl rfl rfl rfl ?_; repeat' ((first | refine z0F rfl rfl fun Q' hQ => ?_ | refine z0w rfl fun Q' hQ => ?_); simp [f4, f5, f6k]; refine hQ.out _ ?_; clear hQ; clear Q')
  refine z0a (z0U rfl ?_)
  cases h3
  simp
def z0y (a1 : Int) (a3_0_0 : List Int) (w95 : Int) : Int × List Int → Option ((Int × List Int) ⊕ ((Int × List Int) ⊕ List Int))
  | (w127, w128) =>
  if a1 < w127 then
    (atI w128 w127).bind fun v136 =>
    (atI w128 (IntKind.i64.wrap (w127 - 1))).bind fun v137 =>
    (z1v v136 v137 a3_0_0).bind fun v138 =>
    if v138 < 0 then
      (atI (w128.set w127.toNat v137) (IntKind.i64.wrap (w127 - 1))).bind fun v142 =>
      z0Y (IntKind.i64.wrap (w127 - 1), ((w128.set w127.toNat v137).set (IntKind.i64.wrap (w127 - 1)).toNat v136))
    else
      z1n <|
      z0Y (IntKind.i64.wrap (w95 + 1), w128)
  else
    z1n <|
    z0Y (IntKind.i64.wrap (w95 + 1), w128)
def z0T (a1 : Int) (a2 : Int) (a3_0_0 : List Int) (w95 : Int) : Int × List Int → Fr
  | (w127, w128) => ⟨53, [(0, .one (.h 0 [])), (1, .one (.t none (.sc (.int .i64 a1)))), (2, .one (.t none (.sc (.int .i64 a2)))), (3, .one (.t none (.cl 70 [.pr [.sl a3_0_0.length (a3_0_0.map fun x0 => .sc (.int .i64 x0))]]))), (8, .one (.t none (.sc (.int .i64 w95)))), (9, .one (.t none (.sc (.int .i64 w127)))), (1053, .one (.h 0 []))], [(0, .os 1 w128.length (w128.map fun x0 => .sc (.int .i64 x0)))]⟩
def z0z (a1 : Int) (a2 : Int) (a3_0_0 : List Int) : Int × List Int → Option ((Int × List Int) ⊕ List Int)
  | (w95, w96) =>
  if w95 < a2 then
    z1j (z0y a1 a3_0_0 w95) LFm (w95, w96)
  else
    z1n <|
    some w96
def z0x (a1 : Int) (a2 : Int) (a3_0_0 : List Int) : Int × List Int → Fr
  | (w95, w96) => ⟨53, [(0, .one (.h 0 [])), (1, .one (.t none (.sc (.int .i64 a1)))), (2, .one (.t none (.sc (.int .i64 a2)))), (3, .one (.t none (.cl 70 [.pr [.sl a3_0_0.length (a3_0_0.map fun x0 => .sc (.int .i64 x0))]]))), (8, .one (.t none (.sc (.int .i64 w95)))), (1053, .one (.h 0 []))], [(0, .os 1 w96.length (w96.map fun x0 => .sc (.int .i64 x0)))]⟩
def z0u (a0 : List Int) (a1 : Int) (a2 : Int) (a3_0_0 : List Int) : Option (List Int) :=
  z1j (z0z a1 a2 a3_0_0) LFm (IntKind.i64.wrap (a1 + 1), a0)
theorem z1G {a0 : List Int} {a1 : Int} {a2 : Int} {a3_0_0 : List Int} {r : List Int} (h0 : z0u a0 a1 a2 a3_0_0 = some r) : L 80 [.os 1 a0.length (a0.map fun x0 => .sc (.int .i64 x0)), .sc (.int .i64 a1), .sc (.int .i64 a2), .cl 70 [.pr [.sl a3_0_0.length (a3_0_0.map fun x0 => .sc (.int .i64 x0))]]] = some (.tup [], [.os 1 r.length (r.map fun x0 => .sc (.int .i64 x0)), .dead, .dead, .dead]) := by
  simp only [z0u] at h0
  refine z2l zuh zvH (z1l zxU ⟨of_decide_eq_true rfl, of_decide_eq_true rfl⟩ ?_)
  simp only [z1z, z1w, z1s, z1A, z2X]
  refine zq rfl (zr rfl rfl rfl (by simp; rfl) ?_)
  refine z0a (zb rfl (z0S h0 (z0x a1 a2 a3_0_0) rfl rfl (by simp [z0x]) fun s o1 h1 hr1 => ?_))
  obtain ⟨w95, w96⟩ := s
  simp only [z0z] at h1
  simp only [z0x]
  refine zq rfl (zq rfl (zr rfl rfl rfl (by simp; rfl) ?_))
  refine z0a ?_
  by_cases c96 : w95 < a2
  ·rw [if_pos c96] at h1
   refine z0p rfl (by simp [c96]) (z0h rfl (z0a (zq rfl (zb rfl (zq rfl (zr rfl rfl rfl (by simp; rfl) ?_))))))
   refine z0a (zb rfl (z0S h1 (z0T a1 a2 a3_0_0 w95) rfl rfl (by simp [z0T]) fun s o2 h2 hr2 => ?_))
   obtain ⟨w127, w128⟩ := s
   simp only [z0y] at h2
   simp only [z0T]
   refine zq rfl (zq rfl ?_)
   by_cases c109 : a1 < w127
   ·rw [if_pos c109] at h2
    obtain ⟨v136, f110, h3⟩ := z1r h2
    obtain ⟨v137, f111, h4⟩ := z1r h3
    obtain ⟨v138, f112, h5⟩ := z0b h4
    have f112k := z1Q f112
    try simp at f112k
    refine z1D rfl rfl rfl rfl ?_; repeat' (first | (refine z0F rfl rfl fun Q' hQ => ?_; simp [c109, f110, f111, f112k]; refine hQ.out _ ?_; clear hQ; clear Q') | (refine z2Z rfl rfl fun Q1 Q2 h1 h2 => ?_; simp [c109, f110, f111, f112k, z4Y]; (first | refine h1.out ?_ | refine h2.out ?_); clear h1 h2; clear Q1 Q2; intro Q' hQ; simp [c109, f110, f111, f112k]; refine hQ.out _ ?_; clear hQ; clear Q') | (refine z0w rfl fun Q' hQ => ?_; simp [c109, f110, f111, f112k]; refine hQ.out _ ?_; clear hQ; clear Q'))
    refine z0a ?_
    by_cases c113 : v138 < 0
    ·rw [if_pos c113] at h5
     refine z0p rfl (by simp [c113]) (z0h rfl (z0a (zq rfl (zb rfl ?_))))
     obtain ⟨v142, f114, h6⟩ := z0b h5
     obtain ⟨f114a, f114b, f114c, f114d, f114e⟩ := z9r f114
     try simp only [List.length_set] at f114b f114c
     have f114s : ∀ hh, ((w128.set w127.toNat v137).map (fun x0 : Int => (.sc (.int .i64 x0) : T)))[(IntKind.i64.wrap (w127 - 1)).toNat]'hh = (fun x0 : Int => (.sc (.int .i64 x0) : T)) v142 := fun hh => by rw [List.getElem_map]; exact congrArg (fun x0 : Int => (.sc (.int .i64 x0) : T)) (f114e _)
     try simp only [List.map_set] at f114s
     refine z1D rfl rfl rfl rfl ?_; repeat' ((first | refine z0F rfl rfl fun Q' hQ => ?_ | refine z0w rfl fun Q' hQ => ?_); simp [f111, f110, f114a, f114b, f114c, f114d, f114e, f114s]; refine hQ.out _ ?_; clear hQ; clear Q')
     refine z0k (z0a (zr rfl rfl rfl (by simp; rfl) ?_))
     have ho := z0f h6
     refine z0j ho ?_
     simp [z0T]
    ·rw [if_neg c113] at h5
     refine z0m rfl (by simp [c113]) (z1m rfl (z0E ?_))
     obtain ⟨rr2, h6, ho2⟩ := z0g h5
     have hs2 := hr2 _ ho2
     subst hs2
     refine z0r ho2 (z0c rfl (z0k (z0a (zr rfl rfl rfl (by simp; rfl) ?_))))
     have ho := z0f h6
     refine z0j ho ?_
     simp [z0x]
   ·rw [if_neg c109] at h2
    refine z1D rfl rfl rfl rfl ?_; repeat' (first | (refine z0F rfl rfl fun Q' hQ => ?_; simp [c109]; refine hQ.out _ ?_; clear hQ; clear Q') | (refine z2Z rfl rfl fun Q1 Q2 h1 h2 => ?_; simp [c109, z4Y]; (first | refine h1.out ?_ | refine h2.out ?_); clear h1 h2; clear Q1 Q2; intro Q' hQ; simp [c109]; refine hQ.out _ ?_; clear hQ; clear Q') | (refine z0w rfl fun Q' hQ => ?_; simp [c109]; refine hQ.out _ ?_; clear hQ; clear Q'))
    refine z0a (z0m rfl (by simp) (z1m rfl (z0E ?_)))
    obtain ⟨rr2, h3, ho2⟩ := z0g h2
    have hs2 := hr2 _ ho2
    subst hs2
    refine z0r ho2 (z0c rfl (z0k (z0a (zr rfl rfl rfl (by simp; rfl) ?_))))
    have ho := z0f h3
    refine z0j ho ?_
    simp [z0x]
  ·rw [if_neg c96] at h1
   refine z0m rfl (by simp [c96]) (z1m rfl (z0E ?_))
   obtain ⟨rr1, h2, ho1⟩ := z0g h1
   have hs1 := hr1 _ ho1
   subst hs1
   refine z0r ho1 (z0c rfl ?_)
   cases h2
   simp
def z1b (a1 : Int) (a2 : Int) (a3 : Int) : Int × List Int → Option ((Int × List Int) ⊕ List Int)
  | (w19, w20) =>
  if w19 < a3 then
    (atI w20 (IntKind.i64.wrap (a2 + w19))).bind fun v25 =>
    (atI w20 (IntKind.i64.wrap (a1 + w19))).bind fun v26 =>
    (atI (w20.set (IntKind.i64.wrap (a1 + w19)).toNat v25) (IntKind.i64.wrap (a2 + w19))).bind fun v28 =>
    z0Y (IntKind.i64.wrap (w19 + 1), ((w20.set (IntKind.i64.wrap (a1 + w19)).toNat v25).set (IntKind.i64.wrap (a2 + w19)).toNat v26))
  else
    z1n <|
    some w20
def z1a (a1 : Int) (a2 : Int) (a3 : Int) : Int × List Int → Fr
  | (w19, w20) => ⟨38, [(0, .one (.h 0 [])), (1, .one (.t none (.sc (.int .i64 a1)))), (2, .one (.t none (.sc (.int .i64 a2)))), (3, .one (.t none (.sc (.int .i64 a3)))), (10, .one (.t none (.sc (.int .i64 w19)))), (1038, .one (.h 0 []))], [(0, .os 1 w20.length (w20.map fun x0 => .sc (.int .i64 x0)))]⟩
def z0q (a0 : List Int) (a1 : Int) (a2 : Int) (a3 : Int) (a4_0_0 : List Int) : Option (List Int) :=
  z1j (z1b a1 a2 a3) LFm (0, a0)
theorem z1y {a0 : List Int} {a1 : Int} {a2 : Int} {a3 : Int} {a4_0_0 : List Int} {r : List Int} (h0 : z0q a0 a1 a2 a3 a4_0_0 = some r) : L 100 [.os 1 a0.length (a0.map fun x0 => .sc (.int .i64 x0)), .sc (.int .i64 a1), .sc (.int .i64 a2), .sc (.int .i64 a3), .cl 70 [.pr [.sl a4_0_0.length (a4_0_0.map fun x0 => .sc (.int .i64 x0))]]] = some (.tup [], [.os 1 r.length (r.map fun x0 => .sc (.int .i64 x0)), .dead, .dead, .dead, .dead]) := by
  simp only [z0q] at h0
  refine z2l zse zsQ (z1l zva ⟨of_decide_eq_true rfl, of_decide_eq_true rfl⟩ ?_)
  simp only [z1z, z1w, z1s, z1A, z2X]
  refine zq rfl (zr rfl rfl rfl (by simp; rfl) ?_)
  refine z0a (zb rfl (z0S h0 (z1a a1 a2 a3) rfl rfl (by simp [z1a]) fun s o1 h1 hr1 => ?_))
  obtain ⟨w19, w20⟩ := s
  simp only [z1b] at h1
  simp only [z1a]
  refine zq rfl (zq rfl (zr rfl rfl rfl (by simp; rfl) ?_))
  refine z0a ?_
  by_cases c21 : w19 < a3
  ·rw [if_pos c21] at h1
   refine z0p rfl (by simp [c21]) (z0h rfl (z0a (zq rfl (zb rfl ?_))))
   obtain ⟨v25, f22, h2⟩ := z1r h1
   obtain ⟨v26, f23, h3⟩ := z1r h2
   obtain ⟨v28, f24, h4⟩ := z0b h3
   obtain ⟨f24a, f24b, f24c, f24d, f24e⟩ := z9r f24
   try simp only [List.length_set] at f24b f24c
   have f24s : ∀ hh, ((w20.set (IntKind.i64.wrap (a1 + w19)).toNat v25).map (fun x0 : Int => (.sc (.int .i64 x0) : T)))[(IntKind.i64.wrap (a2 + w19)).toNat]'hh = (fun x0 : Int => (.sc (.int .i64 x0) : T)) v28 := fun hh => by rw [List.getElem_map]; exact congrArg (fun x0 : Int => (.sc (.int .i64 x0) : T)) (f24e _)
   try simp only [List.map_set] at f24s
   refine z1D rfl rfl rfl rfl ?_; repeat' ((first | refine z0F rfl rfl fun Q' hQ => ?_ | refine z0w rfl fun Q' hQ => ?_); simp [f22, f23, f24a, f24b, f24c, f24d, f24e, f24s]; refine hQ.out _ ?_; clear hQ; clear Q')
   refine z0k (z0a (zr rfl rfl rfl (by simp; rfl) ?_))
   have ho := z0f h4
   refine z0j ho ?_
   simp [z1a]
  ·rw [if_neg c21] at h1
   refine z0m rfl (by simp [c21]) (z1m rfl (z0E ?_))
   obtain ⟨rr1, h2, ho1⟩ := z0g h1
   have hs1 := hr1 _ ho1
   subst hs1
   refine z0r ho1 (z0c rfl ?_)
   cases h2
   simp
def z1B (a2 : Int) (a4_0_0 : List Int) : Int × Int × List Int → Option ((Int × Int × List Int) ⊕ List Int)
  | (w13, w15, w14) =>
  if w13 = w15 then
    z1n <|
    (z0q w14 (IntKind.i64.wrap (a2 - w13)) a2 w13 a4_0_0).bind fun v18 =>
    some v18
  else
    if w15 < w13 then
      (z0q w14 (IntKind.i64.wrap (a2 - w13)) a2 w15 a4_0_0).bind fun v19 =>
      z0Y (IntKind.i64.wrap (w13 - w15), w15, v19)
    else
      (z0q w14 (IntKind.i64.wrap (a2 - w13)) (IntKind.i64.wrap ((IntKind.i64.wrap (a2 + w15)) - w13)) w13 a4_0_0).bind fun v20 =>
      z0Y (w13, IntKind.i64.wrap (w15 - w13), v20)
def z0R (a2 : Int) (a4_0_0 : List Int) : Int × Int × List Int → Fr
  | (w13, w15, w14) => ⟨58, [(0, .one (.h 0 [])), (2, .one (.t none (.sc (.int .i64 a2)))), (4, .one (.t none (.cl 70 [.pr [.sl a4_0_0.length (a4_0_0.map fun x0 => .sc (.int .i64 x0))]]))), (10, .one (.t none (.sc (.int .i64 w13)))), (11, .one (.t none (.sc (.int .i64 w15)))), (1058, .one (.h 0 []))], [(0, .os 1 w14.length (w14.map fun x0 => .sc (.int .i64 x0)))]⟩
def z0v (a0 : List Int) (a1 : Int) (a2 : Int) (a3 : Int) (a4_0_0 : List Int) : Option (List Int) :=
  z1j (z1B a2 a4_0_0) LFm (IntKind.i64.wrap (a2 - a1), IntKind.i64.wrap (a3 - a2), a0)
theorem z1N {a0 : List Int} {a1 : Int} {a2 : Int} {a3 : Int} {a4_0_0 : List Int} {r : List Int} (h0 : z0v a0 a1 a2 a3 a4_0_0 = some r) : L 98 [.os 1 a0.length (a0.map fun x0 => .sc (.int .i64 x0)), .sc (.int .i64 a1), .sc (.int .i64 a2), .sc (.int .i64 a3), .cl 70 [.pr [.sl a4_0_0.length (a4_0_0.map fun x0 => .sc (.int .i64 x0))]]] = some (.tup [], [.os 1 r.length (r.map fun x0 => .sc (.int .i64 x0)), .dead, .dead, .dead, .dead]) := by
  simp only [z0v] at h0
  refine z2l zue zvE (z1l zxR ⟨of_decide_eq_true rfl, of_decide_eq_true rfl⟩ ?_)
  simp only [z1z, z1w, z1s, z1A, z2X]
  refine zq rfl (zr rfl rfl rfl (by simp; rfl) ?_)
  refine z0a (zq rfl (zr rfl rfl rfl (by simp; rfl) ?_))
  refine z0a (zq rfl (zb rfl (z0S h0 (z0R a2 a4_0_0) rfl rfl (by simp [z0R]) fun s o1 h1 hr1 => ?_)))
  obtain ⟨w13, w15, w14⟩ := s
  simp only [z1B] at h1
  simp only [z0R]
  refine zq rfl (zq rfl (zr rfl rfl rfl (by simp; rfl) ?_))
  refine z0a ?_
  by_cases c22 : w13 = w15
  ·rw [if_pos c22] at h1
   have c22e := eq_true c22
   refine z0m rfl (by simp [c22e]) (z1m rfl (z0E ?_))
   obtain ⟨rr1, h2, ho1⟩ := z0g h1
   have hs1 := hr1 _ ho1
   subst hs1
   refine z0r ho1 (z0c rfl (z0a ?_))
   obtain ⟨v18, f23, h3⟩ := z0b h2
   have f23k := z1y f23
   try simp at f23k
   refine zr rfl rfl rfl (by simp [f23k]; rfl) ?_
   cases h3
   simp
  ·rw [if_neg c22] at h1
   have c22e := eq_false c22
   refine z0p rfl (by simp [c22e]) (z0h rfl (z0a (zb rfl (zq rfl (zr rfl rfl rfl (by simp; rfl) ?_)))))
   refine z0a ?_
   by_cases c24 : w15 < w13
   ·rw [if_pos c24] at h1
    refine z0p rfl (by simp [c24]) (zq rfl ?_)
    obtain ⟨v19, f25, h2⟩ := z0b h1
    have f25k := z1y f25
    try simp at f25k
    refine zr rfl rfl rfl (by simp [f25k]; rfl) ?_
    refine z0a (zr rfl rfl rfl (by simp; rfl) ?_)
    refine z0k ?_
    have ho := z0f h2
    refine z0j ho ?_
    simp [z0R]
   ·rw [if_neg c24] at h1
    refine z0m rfl (by simp [c24]) (zq rfl ?_)
    obtain ⟨v20, f26, h2⟩ := z0b h1
    have f26k := z1y f26
    try simp at f26k
    refine zr rfl rfl rfl (by simp [f26k]; rfl) ?_
    refine z0a (zr rfl rfl rfl (by simp; rfl) ?_)
    refine z0k ?_
    have ho := z0f h2
    refine z0j ho ?_
    simp [z0R]
def z0M (w102 : Int) : Int × List Int → Option ((Int × List Int) ⊕ List Int)
  | (w114, w115) =>
  if w114 < (IntKind.i64.wrap (w102 - 1)) then
    (atI w115 (IntKind.i64.wrap (w114 + 1))).bind fun v120 =>
    (atI w115 w114).bind fun v121 =>
    (atI (w115.set w114.toNat v120) (IntKind.i64.wrap (w114 + 1))).bind fun v123 =>
    z0Y (IntKind.i64.wrap (w114 + 1), ((w115.set w114.toNat v120).set (IntKind.i64.wrap (w114 + 1)).toNat v121))
  else
    z1n <|
    some w115
def z1d (w102 : Int) : Int × List Int → Fr
  | (w114, w115) => ⟨220, [(0, .one (.h 0 [])), (10, .one (.t none (.sc (.int .i64 w102)))), (13, .one (.t none (.sc (.int .i64 w114)))), (1220, .one (.h 0 []))], [(0, .os 1 w115.length (w115.map fun x0 => .sc (.int .i64 x0)))]⟩
def z0N (a0 : List Int) (a1 : Int) (a4_0_0 : List Int) : Int × Int → Option ((Int × Int) ⊕ List Int)
  | (w102, w103) =>
  if w102 < w103 then
    chk (¬ 1 < 0) <|
    (atI a0 (IntKind.i64.wrap (z0X .u64 (IntKind.u64.wrap (IntKind.i64.wrap (w102 + w103))) 1))).bind fun v107 =>
    (atI a0 a1).bind fun v108 =>
    (z1v v107 v108 a4_0_0).bind fun v109 =>
    if v109 < 0 then
      z0Y (IntKind.i64.wrap ((IntKind.i64.wrap (z0X .u64 (IntKind.u64.wrap (IntKind.i64.wrap (w102 + w103))) 1)) + 1), w103)
    else
      z0Y (w102, IntKind.i64.wrap (z0X .u64 (IntKind.u64.wrap (IntKind.i64.wrap (w102 + w103))) 1))
  else
    z1n <|
    z1j (z0M w102) LFm (a1, a0)
def z0L (a0 : List Int) (a1 : Int) (a4_0_0 : List Int) : Int × Int → Fr
  | (w102, w103) => ⟨220, [(0, .one (.h 0 [])), (1, .one (.t none (.sc (.int .i64 a1)))), (4, .one (.t none (.cl 70 [.pr [.sl a4_0_0.length (a4_0_0.map fun x0 => .sc (.int .i64 x0))]]))), (10, .one (.t none (.sc (.int .i64 w102)))), (11, .one (.t none (.sc (.int .i64 w103)))), (1220, .one (.h 0 []))], [(0, .os 1 a0.length (a0.map fun x0 => .sc (.int .i64 x0)))]⟩
def z0I (w128 : Int) : Int × List Int → Option ((Int × List Int) ⊕ List Int)
  | (w139, w140) =>
  if w128 < w139 then
    (atI w140 (IntKind.i64.wrap (w139 - 1))).bind fun v145 =>
    (atI w140 w139).bind fun v146 =>
    (atI (w140.set w139.toNat v145) (IntKind.i64.wrap (w139 - 1))).bind fun v148 =>
    z0Y (IntKind.i64.wrap (w139 - 1), ((w140.set w139.toNat v145).set (IntKind.i64.wrap (w139 - 1)).toNat v146))
  else
    z1n <|
    some w140
def z0Z (w128 : Int) : Int × List Int → Fr
  | (w139, w140) => ⟨220, [(0, .one (.h 0 [])), (14, .one (.t none (.sc (.int .i64 w128)))), (17, .one (.t none (.sc (.int .i64 w139)))), (1220, .one (.h 0 []))], [(0, .os 1 w140.length (w140.map fun x0 => .sc (.int .i64 x0)))]⟩
def z0J (a0 : List Int) (a2 : Int) (a4_0_0 : List Int) : Int × Int → Option ((Int × Int) ⊕ List Int)
  | (w128, w127) =>
  if w128 < w127 then
    chk (¬ 1 < 0) <|
    (atI a0 a2).bind fun v132 =>
    (atI a0 (IntKind.i64.wrap (z0X .u64 (IntKind.u64.wrap (IntKind.i64.wrap (w128 + w127))) 1))).bind fun v133 =>
    (z1v v132 v133 a4_0_0).bind fun v134 =>
    if v134 < 0 then
      z0Y (w128, IntKind.i64.wrap (z0X .u64 (IntKind.u64.wrap (IntKind.i64.wrap (w128 + w127))) 1))
    else
      z0Y (IntKind.i64.wrap ((IntKind.i64.wrap (z0X .u64 (IntKind.u64.wrap (IntKind.i64.wrap (w128 + w127))) 1)) + 1), w127)
  else
    z1n <|
    z1j (z0I w128) LFm (a2, a0)
def z0H (a0 : List Int) (a2 : Int) (a4_0_0 : List Int) : Int × Int → Fr
  | (w128, w127) => ⟨220, [(0, .one (.h 0 [])), (2, .one (.t none (.sc (.int .i64 a2)))), (4, .one (.t none (.cl 70 [.pr [.sl a4_0_0.length (a4_0_0.map fun x0 => .sc (.int .i64 x0))]]))), (14, .one (.t none (.sc (.int .i64 w128)))), (15, .one (.t none (.sc (.int .i64 w127)))), (1220, .one (.h 0 []))], [(0, .os 1 a0.length (a0.map fun x0 => .sc (.int .i64 x0)))]⟩
def z0o (a0 : List Int) (a1 : Int) (a2 : Int) (a3 : Int) (a4_0_0 : List Int) (rf : List Int → Int → Int → Int → List Int → Option (List Int)) : Int × Int → Option ((Int × Int) ⊕ List Int)
  | (w153, w152) =>
  if w153 < w152 then
    chk (¬ 1 < 0) <|
    (atI a0 (IntKind.i64.wrap ((IntKind.i64.wrap ((IntKind.i64.wrap ((IntKind.i64.wrap (z0X .u64 (IntKind.u64.wrap (IntKind.i64.wrap (a1 + a3))) 1)) + a2)) - 1)) - (IntKind.i64.wrap (z0X .u64 (IntKind.u64.wrap (IntKind.i64.wrap (w153 + w152))) 1))))).bind fun v157 =>
    (atI a0 (IntKind.i64.wrap (z0X .u64 (IntKind.u64.wrap (IntKind.i64.wrap (w153 + w152))) 1))).bind fun v158 =>
    (z1v v157 v158 a4_0_0).bind fun v159 =>
    if v159 < 0 then
      z0Y (w153, IntKind.i64.wrap (z0X .u64 (IntKind.u64.wrap (IntKind.i64.wrap (w153 + w152))) 1))
    else
      z0Y (IntKind.i64.wrap ((IntKind.i64.wrap (z0X .u64 (IntKind.u64.wrap (IntKind.i64.wrap (w153 + w152))) 1)) + 1), w152)
  else
    z1n <|
    if w153 < a2 then
      if a2 < (IntKind.i64.wrap ((IntKind.i64.wrap ((IntKind.i64.wrap (z0X .u64 (IntKind.u64.wrap (IntKind.i64.wrap (a1 + a3))) 1)) + a2)) - w153)) then
        (z0v a0 w153 a2 (IntKind.i64.wrap ((IntKind.i64.wrap ((IntKind.i64.wrap (z0X .u64 (IntKind.u64.wrap (IntKind.i64.wrap (a1 + a3))) 1)) + a2)) - w153)) a4_0_0).bind fun v160 =>
        if a1 < w153 then
          if w153 < (IntKind.i64.wrap (z0X .u64 (IntKind.u64.wrap (IntKind.i64.wrap (a1 + a3))) 1)) then
            (rf v160 a1 w153 (IntKind.i64.wrap (z0X .u64 (IntKind.u64.wrap (IntKind.i64.wrap (a1 + a3))) 1)) a4_0_0).bind fun v161 =>
            if (IntKind.i64.wrap (z0X .u64 (IntKind.u64.wrap (IntKind.i64.wrap (a1 + a3))) 1)) < (IntKind.i64.wrap ((IntKind.i64.wrap ((IntKind.i64.wrap (z0X .u64 (IntKind.u64.wrap (IntKind.i64.wrap (a1 + a3))) 1)) + a2)) - w153)) then
              if (IntKind.i64.wrap ((IntKind.i64.wrap ((IntKind.i64.wrap (z0X .u64 (IntKind.u64.wrap (IntKind.i64.wrap (a1 + a3))) 1)) + a2)) - w153)) < a3 then
                (rf v161 (IntKind.i64.wrap (z0X .u64 (IntKind.u64.wrap (IntKind.i64.wrap (a1 + a3))) 1)) (IntKind.i64.wrap ((IntKind.i64.wrap ((IntKind.i64.wrap (z0X .u64 (IntKind.u64.wrap (IntKind.i64.wrap (a1 + a3))) 1)) + a2)) - w153)) a3 a4_0_0).bind fun v162 =>
                some v162
              else
                some v161
            else
              some v161
          else
            if (IntKind.i64.wrap (z0X .u64 (IntKind.u64.wrap (IntKind.i64.wrap (a1 + a3))) 1)) < (IntKind.i64.wrap ((IntKind.i64.wrap ((IntKind.i64.wrap (z0X .u64 (IntKind.u64.wrap (IntKind.i64.wrap (a1 + a3))) 1)) + a2)) - w153)) then
              if (IntKind.i64.wrap ((IntKind.i64.wrap ((IntKind.i64.wrap (z0X .u64 (IntKind.u64.wrap (IntKind.i64.wrap (a1 + a3))) 1)) + a2)) - w153)) < a3 then
                (rf v160 (IntKind.i64.wrap (z0X .u64 (IntKind.u64.wrap (IntKind.i64.wrap (a1 + a3))) 1)) (IntKind.i64.wrap ((IntKind.i64.wrap ((IntKind.i64.wrap (z0X .u64 (IntKind.u64.wrap (IntKind.i64.wrap (a1 + a3))) 1)) + a2)) - w153)) a3 a4_0_0).bind fun v163 =>
                some v163
              else
                some v160
            else
              some v160
        else
          if (IntKind.i64.wrap (z0X .u64 (IntKind.u64.wrap (IntKind.i64.wrap (a1 + a3))) 1)) < (IntKind.i64.wrap ((IntKind.i64.wrap ((IntKind.i64.wrap (z0X .u64 (IntKind.u64.wrap (IntKind.i64.wrap (a1 + a3))) 1)) + a2)) - w153)) then
            if (IntKind.i64.wrap ((IntKind.i64.wrap ((IntKind.i64.wrap (z0X .u64 (IntKind.u64.wrap (IntKind.i64.wrap (a1 + a3))) 1)) + a2)) - w153)) < a3 then
              (rf v160 (IntKind.i64.wrap (z0X .u64 (IntKind.u64.wrap (IntKind.i64.wrap (a1 + a3))) 1)) (IntKind.i64.wrap ((IntKind.i64.wrap ((IntKind.i64.wrap (z0X .u64 (IntKind.u64.wrap (IntKind.i64.wrap (a1 + a3))) 1)) + a2)) - w153)) a3 a4_0_0).bind fun v164 =>
              some v164
            else
              some v160
          else
            some v160
      else
        if a1 < w153 then
          if w153 < (IntKind.i64.wrap (z0X .u64 (IntKind.u64.wrap (IntKind.i64.wrap (a1 + a3))) 1)) then
            (rf a0 a1 w153 (IntKind.i64.wrap (z0X .u64 (IntKind.u64.wrap (IntKind.i64.wrap (a1 + a3))) 1)) a4_0_0).bind fun v165 =>
            if (IntKind.i64.wrap (z0X .u64 (IntKind.u64.wrap (IntKind.i64.wrap (a1 + a3))) 1)) < (IntKind.i64.wrap ((IntKind.i64.wrap ((IntKind.i64.wrap (z0X .u64 (IntKind.u64.wrap (IntKind.i64.wrap (a1 + a3))) 1)) + a2)) - w153)) then
              if (IntKind.i64.wrap ((IntKind.i64.wrap ((IntKind.i64.wrap (z0X .u64 (IntKind.u64.wrap (IntKind.i64.wrap (a1 + a3))) 1)) + a2)) - w153)) < a3 then
                (rf v165 (IntKind.i64.wrap (z0X .u64 (IntKind.u64.wrap (IntKind.i64.wrap (a1 + a3))) 1)) (IntKind.i64.wrap ((IntKind.i64.wrap ((IntKind.i64.wrap (z0X .u64 (IntKind.u64.wrap (IntKind.i64.wrap (a1 + a3))) 1)) + a2)) - w153)) a3 a4_0_0).bind fun v166 =>
                some v166
              else
                some v165
            else
              some v165
          else
            if (IntKind.i64.wrap (z0X .u64 (IntKind.u64.wrap (IntKind.i64.wrap (a1 + a3))) 1)) < (IntKind.i64.wrap ((IntKind.i64.wrap ((IntKind.i64.wrap (z0X .u64 (IntKind.u64.wrap (IntKind.i64.wrap (a1 + a3))) 1)) + a2)) - w153)) then
              if (IntKind.i64.wrap ((IntKind.i64.wrap ((IntKind.i64.wrap (z0X .u64 (IntKind.u64.wrap (IntKind.i64.wrap (a1 + a3))) 1)) + a2)) - w153)) < a3 then
                (rf a0 (IntKind.i64.wrap (z0X .u64 (IntKind.u64.wrap (IntKind.i64.wrap (a1 + a3))) 1)) (IntKind.i64.wrap ((IntKind.i64.wrap ((IntKind.i64.wrap (z0X .u64 (IntKind.u64.wrap (IntKind.i64.wrap (a1 + a3))) 1)) + a2)) - w153)) a3 a4_0_0).bind fun v167 =>
                some v167
              else
                some a0
            else
              some a0
        else
          if (IntKind.i64.wrap (z0X .u64 (IntKind.u64.wrap (IntKind.i64.wrap (a1 + a3))) 1)) < (IntKind.i64.wrap ((IntKind.i64.wrap ((IntKind.i64.wrap (z0X .u64 (IntKind.u64.wrap (IntKind.i64.wrap (a1 + a3))) 1)) + a2)) - w153)) then
            if (IntKind.i64.wrap ((IntKind.i64.wrap ((IntKind.i64.wrap (z0X .u64 (IntKind.u64.wrap (IntKind.i64.wrap (a1 + a3))) 1)) + a2)) - w153)) < a3 then
              (rf a0 (IntKind.i64.wrap (z0X .u64 (IntKind.u64.wrap (IntKind.i64.wrap (a1 + a3))) 1)) (IntKind.i64.wrap ((IntKind.i64.wrap ((IntKind.i64.wrap (z0X .u64 (IntKind.u64.wrap (IntKind.i64.wrap (a1 + a3))) 1)) + a2)) - w153)) a3 a4_0_0).bind fun v168 =>
              some v168
            else
              some a0
          else
            some a0
    else
      if a1 < w153 then
        if w153 < (IntKind.i64.wrap (z0X .u64 (IntKind.u64.wrap (IntKind.i64.wrap (a1 + a3))) 1)) then
          (rf a0 a1 w153 (IntKind.i64.wrap (z0X .u64 (IntKind.u64.wrap (IntKind.i64.wrap (a1 + a3))) 1)) a4_0_0).bind fun v169 =>
          if (IntKind.i64.wrap (z0X .u64 (IntKind.u64.wrap (IntKind.i64.wrap (a1 + a3))) 1)) < (IntKind.i64.wrap ((IntKind.i64.wrap ((IntKind.i64.wrap (z0X .u64 (IntKind.u64.wrap (IntKind.i64.wrap (a1 + a3))) 1)) + a2)) - w153)) then
            if (IntKind.i64.wrap ((IntKind.i64.wrap ((IntKind.i64.wrap (z0X .u64 (IntKind.u64.wrap (IntKind.i64.wrap (a1 + a3))) 1)) + a2)) - w153)) < a3 then
              (rf v169 (IntKind.i64.wrap (z0X .u64 (IntKind.u64.wrap (IntKind.i64.wrap (a1 + a3))) 1)) (IntKind.i64.wrap ((IntKind.i64.wrap ((IntKind.i64.wrap (z0X .u64 (IntKind.u64.wrap (IntKind.i64.wrap (a1 + a3))) 1)) + a2)) - w153)) a3 a4_0_0).bind fun v170 =>
              some v170
            else
              some v169
          else
            some v169
        else
          if (IntKind.i64.wrap (z0X .u64 (IntKind.u64.wrap (IntKind.i64.wrap (a1 + a3))) 1)) < (IntKind.i64.wrap ((IntKind.i64.wrap ((IntKind.i64.wrap (z0X .u64 (IntKind.u64.wrap (IntKind.i64.wrap (a1 + a3))) 1)) + a2)) - w153)) then
            if (IntKind.i64.wrap ((IntKind.i64.wrap ((IntKind.i64.wrap (z0X .u64 (IntKind.u64.wrap (IntKind.i64.wrap (a1 + a3))) 1)) + a2)) - w153)) < a3 then
              (rf a0 (IntKind.i64.wrap (z0X .u64 (IntKind.u64.wrap (IntKind.i64.wrap (a1 + a3))) 1)) (IntKind.i64.wrap ((IntKind.i64.wrap ((IntKind.i64.wrap (z0X .u64 (IntKind.u64.wrap (IntKind.i64.wrap (a1 + a3))) 1)) + a2)) - w153)) a3 a4_0_0).bind fun v171 =>
              some v171
            else
              some a0
          else
            some a0
      else
        if (IntKind.i64.wrap (z0X .u64 (IntKind.u64.wrap (IntKind.i64.wrap (a1 + a3))) 1)) < (IntKind.i64.wrap ((IntKind.i64.wrap ((IntKind.i64.wrap (z0X .u64 (IntKind.u64.wrap (IntKind.i64.wrap (a1 + a3))) 1)) + a2)) - w153)) then
          if (IntKind.i64.wrap ((IntKind.i64.wrap ((IntKind.i64.wrap (z0X .u64 (IntKind.u64.wrap (IntKind.i64.wrap (a1 + a3))) 1)) + a2)) - w153)) < a3 then
            (rf a0 (IntKind.i64.wrap (z0X .u64 (IntKind.u64.wrap (IntKind.i64.wrap (a1 + a3))) 1)) (IntKind.i64.wrap ((IntKind.i64.wrap ((IntKind.i64.wrap (z0X .u64 (IntKind.u64.wrap (IntKind.i64.wrap (a1 + a3))) 1)) + a2)) - w153)) a3 a4_0_0).bind fun v172 =>
            some v172
          else
            some a0
        else
          some a0
def z0G (a0 : List Int) (a1 : Int) (a2 : Int) (a3 : Int) (a4_0_0 : List Int) : Int × Int → Fr
  | (w153, w152) => ⟨220, [(0, .one (.h 0 [])), (1, .one (.t none (.sc (.int .i64 a1)))), (2, .one (.t none (.sc (.int .i64 a2)))), (3, .one (.t none (.sc (.int .i64 a3)))), (4, .one (.t none (.cl 70 [.pr [.sl a4_0_0.length (a4_0_0.map fun x0 => .sc (.int .i64 x0))]]))), (18, .one (.t none (.sc (.int .i64 (IntKind.i64.wrap (z0X .u64 (IntKind.u64.wrap (IntKind.i64.wrap (a1 + a3))) 1)))))), (19, .one (.t none (.sc (.int .i64 (IntKind.i64.wrap ((IntKind.i64.wrap (z0X .u64 (IntKind.u64.wrap (IntKind.i64.wrap (a1 + a3))) 1)) + a2)))))), (20, .one (.t none (.sc (.int .i64 w153)))), (21, .one (.t none (.sc (.int .i64 w152)))), (22, .one (.t none (.sc (.int .i64 (IntKind.i64.wrap ((IntKind.i64.wrap ((IntKind.i64.wrap (z0X .u64 (IntKind.u64.wrap (IntKind.i64.wrap (a1 + a3))) 1)) + a2)) - 1)))))), (1220, .one (.h 0 []))], [(0, .os 1 a0.length (a0.map fun x0 => .sc (.int .i64 x0)))]⟩
def z1t (a0 : List Int) (a1 : Int) (a2 : Int) (a3 : Int) (a4_0_0 : List Int) (rf : List Int → Int → Int → Int → List Int → Option (List Int)) : Int × Int → Option ((Int × Int) ⊕ List Int)
  | (w177, w176) =>
  if w177 < w176 then
    chk (¬ 1 < 0) <|
    (atI a0 (IntKind.i64.wrap ((IntKind.i64.wrap ((IntKind.i64.wrap ((IntKind.i64.wrap (z0X .u64 (IntKind.u64.wrap (IntKind.i64.wrap (a1 + a3))) 1)) + a2)) - 1)) - (IntKind.i64.wrap (z0X .u64 (IntKind.u64.wrap (IntKind.i64.wrap (w177 + w176))) 1))))).bind fun v181 =>
    (atI a0 (IntKind.i64.wrap (z0X .u64 (IntKind.u64.wrap (IntKind.i64.wrap (w177 + w176))) 1))).bind fun v182 =>
    (z1v v181 v182 a4_0_0).bind fun v183 =>
    if v183 < 0 then
      z0Y (w177, IntKind.i64.wrap (z0X .u64 (IntKind.u64.wrap (IntKind.i64.wrap (w177 + w176))) 1))
    else
      z0Y (IntKind.i64.wrap ((IntKind.i64.wrap (z0X .u64 (IntKind.u64.wrap (IntKind.i64.wrap (w177 + w176))) 1)) + 1), w176)
  else
    z1n <|
    if w177 < a2 then
      if a2 < (IntKind.i64.wrap ((IntKind.i64.wrap ((IntKind.i64.wrap (z0X .u64 (IntKind.u64.wrap (IntKind.i64.wrap (a1 + a3))) 1)) + a2)) - w177)) then
        (z0v a0 w177 a2 (IntKind.i64.wrap ((IntKind.i64.wrap ((IntKind.i64.wrap (z0X .u64 (IntKind.u64.wrap (IntKind.i64.wrap (a1 + a3))) 1)) + a2)) - w177)) a4_0_0).bind fun v184 =>
        if a1 < w177 then
          if w177 < (IntKind.i64.wrap (z0X .u64 (IntKind.u64.wrap (IntKind.i64.wrap (a1 + a3))) 1)) then
            (rf v184 a1 w177 (IntKind.i64.wrap (z0X .u64 (IntKind.u64.wrap (IntKind.i64.wrap (a1 + a3))) 1)) a4_0_0).bind fun v185 =>
            if (IntKind.i64.wrap (z0X .u64 (IntKind.u64.wrap (IntKind.i64.wrap (a1 + a3))) 1)) < (IntKind.i64.wrap ((IntKind.i64.wrap ((IntKind.i64.wrap (z0X .u64 (IntKind.u64.wrap (IntKind.i64.wrap (a1 + a3))) 1)) + a2)) - w177)) then
              if (IntKind.i64.wrap ((IntKind.i64.wrap ((IntKind.i64.wrap (z0X .u64 (IntKind.u64.wrap (IntKind.i64.wrap (a1 + a3))) 1)) + a2)) - w177)) < a3 then
                (rf v185 (IntKind.i64.wrap (z0X .u64 (IntKind.u64.wrap (IntKind.i64.wrap (a1 + a3))) 1)) (IntKind.i64.wrap ((IntKind.i64.wrap ((IntKind.i64.wrap (z0X .u64 (IntKind.u64.wrap (IntKind.i64.wrap (a1 + a3))) 1)) + a2)) - w177)) a3 a4_0_0).bind fun v186 =>
                some v186
              else
                some v185
            else
              some v185
          else
            if (IntKind.i64.wrap (z0X .u64 (IntKind.u64.wrap (IntKind.i64.wrap (a1 + a3))) 1)) < (IntKind.i64.wrap ((IntKind.i64.wrap ((IntKind.i64.wrap (z0X .u64 (IntKind.u64.wrap (IntKind.i64.wrap (a1 + a3))) 1)) + a2)) - w177)) then
              if (IntKind.i64.wrap ((IntKind.i64.wrap ((IntKind.i64.wrap (z0X .u64 (IntKind.u64.wrap (IntKind.i64.wrap (a1 + a3))) 1)) + a2)) - w177)) < a3 then
                (rf v184 (IntKind.i64.wrap (z0X .u64 (IntKind.u64.wrap (IntKind.i64.wrap (a1 + a3))) 1)) (IntKind.i64.wrap ((IntKind.i64.wrap ((IntKind.i64.wrap (z0X .u64 (IntKind.u64.wrap (IntKind.i64.wrap (a1 + a3))) 1)) + a2)) - w177)) a3 a4_0_0).bind fun v187 =>
                some v187
              else
                some v184
            else
              some v184
        else
          if (IntKind.i64.wrap (z0X .u64 (IntKind.u64.wrap (IntKind.i64.wrap (a1 + a3))) 1)) < (IntKind.i64.wrap ((IntKind.i64.wrap ((IntKind.i64.wrap (z0X .u64 (IntKind.u64.wrap (IntKind.i64.wrap (a1 + a3))) 1)) + a2)) - w177)) then
            if (IntKind.i64.wrap ((IntKind.i64.wrap ((IntKind.i64.wrap (z0X .u64 (IntKind.u64.wrap (IntKind.i64.wrap (a1 + a3))) 1)) + a2)) - w177)) < a3 then
              (rf v184 (IntKind.i64.wrap (z0X .u64 (IntKind.u64.wrap (IntKind.i64.wrap (a1 + a3))) 1)) (IntKind.i64.wrap ((IntKind.i64.wrap ((IntKind.i64.wrap (z0X .u64 (IntKind.u64.wrap (IntKind.i64.wrap (a1 + a3))) 1)) + a2)) - w177)) a3 a4_0_0).bind fun v188 =>
              some v188
            else
              some v184
          else
            some v184
      else
        if a1 < w177 then
          if w177 < (IntKind.i64.wrap (z0X .u64 (IntKind.u64.wrap (IntKind.i64.wrap (a1 + a3))) 1)) then
            (rf a0 a1 w177 (IntKind.i64.wrap (z0X .u64 (IntKind.u64.wrap (IntKind.i64.wrap (a1 + a3))) 1)) a4_0_0).bind fun v189 =>
            if (IntKind.i64.wrap (z0X .u64 (IntKind.u64.wrap (IntKind.i64.wrap (a1 + a3))) 1)) < (IntKind.i64.wrap ((IntKind.i64.wrap ((IntKind.i64.wrap (z0X .u64 (IntKind.u64.wrap (IntKind.i64.wrap (a1 + a3))) 1)) + a2)) - w177)) then
              if (IntKind.i64.wrap ((IntKind.i64.wrap ((IntKind.i64.wrap (z0X .u64 (IntKind.u64.wrap (IntKind.i64.wrap (a1 + a3))) 1)) + a2)) - w177)) < a3 then
                (rf v189 (IntKind.i64.wrap (z0X .u64 (IntKind.u64.wrap (IntKind.i64.wrap (a1 + a3))) 1)) (IntKind.i64.wrap ((IntKind.i64.wrap ((IntKind.i64.wrap (z0X .u64 (IntKind.u64.wrap (IntKind.i64.wrap (a1 + a3))) 1)) + a2)) - w177)) a3 a4_0_0).bind fun v190 =>
                some v190
              else
                some v189
            else
              some v189
          else
            if (IntKind.i64.wrap (z0X .u64 (IntKind.u64.wrap (IntKind.i64.wrap (a1 + a3))) 1)) < (IntKind.i64.wrap ((IntKind.i64.wrap ((IntKind.i64.wrap (z0X .u64 (IntKind.u64.wrap (IntKind.i64.wrap (a1 + a3))) 1)) + a2)) - w177)) then
              if (IntKind.i64.wrap ((IntKind.i64.wrap ((IntKind.i64.wrap (z0X .u64 (IntKind.u64.wrap (IntKind.i64.wrap (a1 + a3))) 1)) + a2)) - w177)) < a3 then
                (rf a0 (IntKind.i64.wrap (z0X .u64 (IntKind.u64.wrap (IntKind.i64.wrap (a1 + a3))) 1)) (IntKind.i64.wrap ((IntKind.i64.wrap ((IntKind.i64.wrap (z0X .u64 (IntKind.u64.wrap (IntKind.i64.wrap (a1 + a3))) 1)) + a2)) - w177)) a3 a4_0_0).bind fun v191 =>
                some v191
              else
                some a0
            else
              some a0
        else
          if (IntKind.i64.wrap (z0X .u64 (IntKind.u64.wrap (IntKind.i64.wrap (a1 + a3))) 1)) < (IntKind.i64.wrap ((IntKind.i64.wrap ((IntKind.i64.wrap (z0X .u64 (IntKind.u64.wrap (IntKind.i64.wrap (a1 + a3))) 1)) + a2)) - w177)) then
            if (IntKind.i64.wrap ((IntKind.i64.wrap ((IntKind.i64.wrap (z0X .u64 (IntKind.u64.wrap (IntKind.i64.wrap (a1 + a3))) 1)) + a2)) - w177)) < a3 then
              (rf a0 (IntKind.i64.wrap (z0X .u64 (IntKind.u64.wrap (IntKind.i64.wrap (a1 + a3))) 1)) (IntKind.i64.wrap ((IntKind.i64.wrap ((IntKind.i64.wrap (z0X .u64 (IntKind.u64.wrap (IntKind.i64.wrap (a1 + a3))) 1)) + a2)) - w177)) a3 a4_0_0).bind fun v192 =>
              some v192
            else
              some a0
          else
            some a0
    else
      if a1 < w177 then
        if w177 < (IntKind.i64.wrap (z0X .u64 (IntKind.u64.wrap (IntKind.i64.wrap (a1 + a3))) 1)) then
          (rf a0 a1 w177 (IntKind.i64.wrap (z0X .u64 (IntKind.u64.wrap (IntKind.i64.wrap (a1 + a3))) 1)) a4_0_0).bind fun v193 =>
          if (IntKind.i64.wrap (z0X .u64 (IntKind.u64.wrap (IntKind.i64.wrap (a1 + a3))) 1)) < (IntKind.i64.wrap ((IntKind.i64.wrap ((IntKind.i64.wrap (z0X .u64 (IntKind.u64.wrap (IntKind.i64.wrap (a1 + a3))) 1)) + a2)) - w177)) then
            if (IntKind.i64.wrap ((IntKind.i64.wrap ((IntKind.i64.wrap (z0X .u64 (IntKind.u64.wrap (IntKind.i64.wrap (a1 + a3))) 1)) + a2)) - w177)) < a3 then
              (rf v193 (IntKind.i64.wrap (z0X .u64 (IntKind.u64.wrap (IntKind.i64.wrap (a1 + a3))) 1)) (IntKind.i64.wrap ((IntKind.i64.wrap ((IntKind.i64.wrap (z0X .u64 (IntKind.u64.wrap (IntKind.i64.wrap (a1 + a3))) 1)) + a2)) - w177)) a3 a4_0_0).bind fun v194 =>
              some v194
            else
              some v193
          else
            some v193
        else
          if (IntKind.i64.wrap (z0X .u64 (IntKind.u64.wrap (IntKind.i64.wrap (a1 + a3))) 1)) < (IntKind.i64.wrap ((IntKind.i64.wrap ((IntKind.i64.wrap (z0X .u64 (IntKind.u64.wrap (IntKind.i64.wrap (a1 + a3))) 1)) + a2)) - w177)) then
            if (IntKind.i64.wrap ((IntKind.i64.wrap ((IntKind.i64.wrap (z0X .u64 (IntKind.u64.wrap (IntKind.i64.wrap (a1 + a3))) 1)) + a2)) - w177)) < a3 then
              (rf a0 (IntKind.i64.wrap (z0X .u64 (IntKind.u64.wrap (IntKind.i64.wrap (a1 + a3))) 1)) (IntKind.i64.wrap ((IntKind.i64.wrap ((IntKind.i64.wrap (z0X .u64 (IntKind.u64.wrap (IntKind.i64.wrap (a1 + a3))) 1)) + a2)) - w177)) a3 a4_0_0).bind fun v195 =>
              some v195
            else
              some a0
          else
            some a0
      else
        if (IntKind.i64.wrap (z0X .u64 (IntKind.u64.wrap (IntKind.i64.wrap (a1 + a3))) 1)) < (IntKind.i64.wrap ((IntKind.i64.wrap ((IntKind.i64.wrap (z0X .u64 (IntKind.u64.wrap (IntKind.i64.wrap (a1 + a3))) 1)) + a2)) - w177)) then
          if (IntKind.i64.wrap ((IntKind.i64.wrap ((IntKind.i64.wrap (z0X .u64 (IntKind.u64.wrap (IntKind.i64.wrap (a1 + a3))) 1)) + a2)) - w177)) < a3 then
            (rf a0 (IntKind.i64.wrap (z0X .u64 (IntKind.u64.wrap (IntKind.i64.wrap (a1 + a3))) 1)) (IntKind.i64.wrap ((IntKind.i64.wrap ((IntKind.i64.wrap (z0X .u64 (IntKind.u64.wrap (IntKind.i64.wrap (a1 + a3))) 1)) + a2)) - w177)) a3 a4_0_0).bind fun v196 =>
            some v196
          else
            some a0
        else
          some a0
def z0B (a0 : List Int) (a1 : Int) (a2 : Int) (a3 : Int) (a4_0_0 : List Int) : Int × Int → Fr
  | (w177, w176) => ⟨220, [(0, .one (.h 0 [])), (1, .one (.t none (.sc (.int .i64 a1)))), (2, .one (.t none (.sc (.int .i64 a2)))), (3, .one (.t none (.sc (.int .i64 a3)))), (4, .one (.t none (.cl 70 [.pr [.sl a4_0_0.length (a4_0_0.map fun x0 => .sc (.int .i64 x0))]]))), (18, .one (.t none (.sc (.int .i64 (IntKind.i64.wrap (z0X .u64 (IntKind.u64.wrap (IntKind.i64.wrap (a1 + a3))) 1)))))), (19, .one (.t none (.sc (.int .i64 (IntKind.i64.wrap ((IntKind.i64.wrap (z0X .u64 (IntKind.u64.wrap (IntKind.i64.wrap (a1 + a3))) 1)) + a2)))))), (20, .one (.t none (.sc (.int .i64 w177)))), (21, .one (.t none (.sc (.int .i64 w176)))), (22, .one (.t none (.sc (.int .i64 (IntKind.i64.wrap ((IntKind.i64.wrap ((IntKind.i64.wrap (z0X .u64 (IntKind.u64.wrap (IntKind.i64.wrap (a1 + a3))) 1)) + a2)) - 1)))))), (1220, .one (.h 0 []))], [(0, .os 1 a0.length (a0.map fun x0 => .sc (.int .i64 x0)))]⟩
def z0O (rf : List Int → Int → Int → Int → List Int → Option (List Int)) (a0 : List Int) (a1 : Int) (a2 : Int) (a3 : Int) (a4_0_0 : List Int) : Option (List Int) :=
  if (IntKind.i64.wrap (a2 - a1)) = 1 then
    z1j (z0N a0 a1 a4_0_0) LFm (a2, a3)
  else
    if (IntKind.i64.wrap (a3 - a2)) = 1 then
      z1j (z0J a0 a2 a4_0_0) LFm (a1, a2)
    else
      chk (¬ 1 < 0) <|
      if (IntKind.i64.wrap (z0X .u64 (IntKind.u64.wrap (IntKind.i64.wrap (a1 + a3))) 1)) < a2 then
        z1j (z0o a0 a1 a2 a3 a4_0_0 rf) LFm (IntKind.i64.wrap ((IntKind.i64.wrap ((IntKind.i64.wrap (z0X .u64 (IntKind.u64.wrap (IntKind.i64.wrap (a1 + a3))) 1)) + a2)) - a3), IntKind.i64.wrap (z0X .u64 (IntKind.u64.wrap (IntKind.i64.wrap (a1 + a3))) 1))
      else
        z1j (z1t a0 a1 a2 a3 a4_0_0 rf) LFm (a1, a2)
theorem z2T {rf : List Int → Int → Int → Int → List Int → Option (List Int)} (ih : ∀ {a0 : List Int} {a1 : Int} {a2 : Int} {a3 : Int} {a4_0_0 : List Int} {r : List Int}, rf a0 a1 a2 a3 a4_0_0 = some r → L 92 [.os 1 a0.length (a0.map fun x0 => .sc (.int .i64 x0)), .sc (.int .i64 a1), .sc (.int .i64 a2), .sc (.int .i64 a3), .cl 70 [.pr [.sl a4_0_0.length (a4_0_0.map fun x0 => .sc (.int .i64 x0))]]] = some (.tup [], [.os 1 r.length (r.map fun x0 => .sc (.int .i64 x0)), .dead, .dead, .dead, .dead])) {a0 : List Int} {a1 : Int} {a2 : Int} {a3 : Int} {a4_0_0 : List Int} {r : List Int} (h0 : z0O rf a0 a1 a2 a3 a4_0_0 = some r) : L 92 [.os 1 a0.length (a0.map fun x0 => .sc (.int .i64 x0)), .sc (.int .i64 a1), .sc (.int .i64 a2), .sc (.int .i64 a3), .cl 70 [.pr [.sl a4_0_0.length (a4_0_0.map fun x0 => .sc (.int .i64 x0))]]] = some (.tup [], [.os 1 r.length (r.map fun x0 => .sc (.int .i64 x0)), .dead, .dead, .dead, .dead]) := by
  simp only [z0O] at h0
  refine z2l zuf zvF (z1l zxS ⟨of_decide_eq_true rfl, of_decide_eq_true rfl⟩ ?_)
  simp only [z1z, z1w, z1s, z1A, z2X]
  refine zq rfl (zq rfl (zr rfl rfl rfl (by simp; rfl) ?_))
  refine z0a ?_
  by_cases c177 : (IntKind.i64.wrap (a2 - a1)) = 1
  ·rw [if_pos c177] at h0
   have c177e := eq_true c177
   refine z0p rfl (by simp [c177e]) (zq rfl (zr rfl rfl rfl (by simp; rfl) ?_))
   refine z0a (zq rfl (zr rfl rfl rfl (by simp; rfl) ?_))
   refine z0a (zq rfl (zb rfl (z0S h0 (z0L a0 a1 a4_0_0) rfl rfl (by simp [z0L]) fun s o1 h1 hr1 => ?_)))
   obtain ⟨w102, w103⟩ := s
   simp only [z0N] at h1
   simp only [z0L]
   refine zq rfl (zq rfl (zr rfl rfl rfl (by simp; rfl) ?_))
   refine z0a ?_
   by_cases c190 : w102 < w103
   ·rw [if_pos c190] at h1
    refine z0p rfl (by simp [c190]) (z0h rfl (z0a (zb rfl (zq rfl ?_))))
    obtain ⟨f191, h2⟩ := z1E h1
    refine zr rfl rfl rfl (by simp [f191]; rfl) ?_
    refine z0a (zq rfl ?_)
    obtain ⟨v107, f192, h3⟩ := z1r h2
    obtain ⟨v108, f193, h4⟩ := z1r h3
    obtain ⟨v109, f194, h5⟩ := z0b h4
    have f194k := z1Q f194
    try simp at f194k
    refine z1D rfl rfl rfl rfl ?_; repeat' ((first | refine z0F rfl rfl fun Q' hQ => ?_ | refine z0w rfl fun Q' hQ => ?_); simp [f192, f193, f194k]; refine hQ.out _ ?_; clear hQ; clear Q')
    refine z0a ?_
    by_cases c195 : v109 < 0
    ·rw [if_pos c195] at h5
     refine z0p rfl (by simp [c195]) (zr rfl rfl rfl (by simp; rfl) ?_)
     refine z0k ?_
     have ho := z0f h5
     refine z0j ho ?_
     simp [z0L]
    ·rw [if_neg c195] at h5
     refine z0m rfl (by simp [c195]) (zr rfl rfl rfl (by simp; rfl) ?_)
     refine z0k ?_
     have ho := z0f h5
     refine z0j ho ?_
     simp [z0L]
   ·rw [if_neg c190] at h1
    refine z0m rfl (by simp [c190]) (z1m rfl (z0E ?_))
    obtain ⟨rr1, h2, ho1⟩ := z0g h1
    have hs1 := hr1 _ ho1
    subst hs1
    refine z0r ho1 (z0c rfl (z0a (zq rfl (zq rfl (zr rfl rfl rfl (by simp; rfl) ?_)))))
    refine z0a (zb rfl (z0S h2 (z1d w102) rfl rfl (by simp [z1d]) fun s o2 h3 hr2 => ?_))
    obtain ⟨w114, w115⟩ := s
    simp only [z0M] at h3
    simp only [z1d]
    refine zq rfl (zq rfl (zr rfl rfl rfl (by simp; rfl) ?_))
    refine z0a ?_
    by_cases c204 : w114 < (IntKind.i64.wrap (w102 - 1))
    ·rw [if_pos c204] at h3
     refine z0p rfl (by simp [c204]) (z0h rfl (z0a (zq rfl (zb rfl ?_))))
     obtain ⟨v120, f205, h4⟩ := z1r h3
     obtain ⟨v121, f206, h5⟩ := z1r h4
     obtain ⟨v123, f207, h6⟩ := z0b h5
     obtain ⟨f207a, f207b, f207c, f207d, f207e⟩ := z9r f207
     try simp only [List.length_set] at f207b f207c
     have f207s : ∀ hh, ((w115.set w114.toNat v120).map (fun x0 : Int => (.sc (.int .i64 x0) : T)))[(IntKind.i64.wrap (w114 + 1)).toNat]'hh = (fun x0 : Int => (.sc (.int .i64 x0) : T)) v123 := fun hh => by rw [List.getElem_map]; exact congrArg (fun x0 : Int => (.sc (.int .i64 x0) : T)) (f207e _)
     try simp only [List.map_set] at f207s
     refine z1D rfl rfl rfl rfl ?_; repeat' ((first | refine z0F rfl rfl fun Q' hQ => ?_ | refine z0w rfl fun Q' hQ => ?_); simp [f205, f206, f207a, f207b, f207c, f207d, f207e, f207s]; refine hQ.out _ ?_; clear hQ; clear Q')
     refine z0k (z0a (zr rfl rfl rfl (by simp; rfl) ?_))
     have ho := z0f h6
     refine z0j ho ?_
     simp [z1d]
    ·rw [if_neg c204] at h3
     refine z0m rfl (by simp [c204]) (z1m rfl (z0E ?_))
     obtain ⟨rr2, h4, ho2⟩ := z0g h3
     have hs2 := hr2 _ ho2
     subst hs2
     refine z0r ho2 (z0c rfl (z0a (z0U rfl (z0n ?_))))
     cases h4
     simp
  ·rw [if_neg c177] at h0
   have c177e := eq_false c177
   refine z0m rfl (by simp [c177e]) (z0h rfl (z0a (zq rfl (zq rfl (zr rfl rfl rfl (by simp; rfl) ?_)))))
   refine z0a ?_
   by_cases c208 : (IntKind.i64.wrap (a3 - a2)) = 1
   ·rw [if_pos c208] at h0
    have c208e := eq_true c208
    refine z0p rfl (by simp [c208e]) (zq rfl (zr rfl rfl rfl (by simp; rfl) ?_))
    refine z0a (zq rfl (zr rfl rfl rfl (by simp; rfl) ?_))
    refine z0a (zq rfl (zb rfl (z0S h0 (z0H a0 a2 a4_0_0) rfl rfl (by simp [z0H]) fun s o3 h1 hr3 => ?_)))
    obtain ⟨w128, w127⟩ := s
    simp only [z0J] at h1
    simp only [z0H]
    refine zq rfl (zq rfl (zr rfl rfl rfl (by simp; rfl) ?_))
    refine z0a ?_
    by_cases c221 : w128 < w127
    ·rw [if_pos c221] at h1
     refine z0p rfl (by simp [c221]) (z0h rfl (z0a (zb rfl (zq rfl ?_))))
     obtain ⟨f222, h2⟩ := z1E h1
     refine zr rfl rfl rfl (by simp [f222]; rfl) ?_
     refine z0a (zq rfl ?_)
     obtain ⟨v132, f223, h3⟩ := z1r h2
     obtain ⟨v133, f224, h4⟩ := z1r h3
     obtain ⟨v134, f225, h5⟩ := z0b h4
     have f225k := z1Q f225
     try simp at f225k
     refine z1D rfl rfl rfl rfl ?_; repeat' ((first | refine z0F rfl rfl fun Q' hQ => ?_ | refine z0w rfl fun Q' hQ => ?_); simp [f223, f224, f225k]; refine hQ.out _ ?_; clear hQ; clear Q')
     refine z0a ?_
     by_cases c226 : v134 < 0
     ·rw [if_pos c226] at h5
      refine z0m rfl (by simp [c226]) (zr rfl rfl rfl (by simp; rfl) ?_)
      refine z0k ?_
      have ho := z0f h5
      refine z0j ho ?_
      simp [z0H]
     ·rw [if_neg c226] at h5
      refine z0p rfl (by simp [c226]) (zr rfl rfl rfl (by simp; rfl) ?_)
      refine z0k ?_
      have ho := z0f h5
      refine z0j ho ?_
      simp [z0H]
    ·rw [if_neg c221] at h1
     refine z0m rfl (by simp [c221]) (z1m rfl (z0E ?_))
     obtain ⟨rr3, h2, ho3⟩ := z0g h1
     have hs3 := hr3 _ ho3
     subst hs3
     refine z0r ho3 (z0c rfl (z0a (zq rfl (zq rfl (zr rfl rfl rfl (by simp; rfl) ?_)))))
     refine z0a (zb rfl (z0S h2 (z0Z w128) rfl rfl (by simp [z0Z]) fun s o4 h3 hr4 => ?_))
     obtain ⟨w139, w140⟩ := s
     simp only [z0I] at h3
     simp only [z0Z]
     refine zq rfl (zq rfl (zr rfl rfl rfl (by simp; rfl) ?_))
     refine z0a ?_
     by_cases c235 : w128 < w139
     ·rw [if_pos c235] at h3
      refine z0p rfl (by simp [c235]) (z0h rfl (z0a (zq rfl (zb rfl ?_))))
      obtain ⟨v145, f236, h4⟩ := z1r h3
      obtain ⟨v146, f237, h5⟩ := z1r h4
      obtain ⟨v148, f238, h6⟩ := z0b h5
      obtain ⟨f238a, f238b, f238c, f238d, f238e⟩ := z9r f238
      try simp only [List.length_set] at f238b f238c
      have f238s : ∀ hh, ((w140.set w139.toNat v145).map (fun x0 : Int => (.sc (.int .i64 x0) : T)))[(IntKind.i64.wrap (w139 - 1)).toNat]'hh = (fun x0 : Int => (.sc (.int .i64 x0) : T)) v148 := fun hh => by rw [List.getElem_map]; exact congrArg (fun x0 : Int => (.sc (.int .i64 x0) : T)) (f238e _)
      try simp only [List.map_set] at f238s
      refine z1D rfl rfl rfl rfl ?_; repeat' ((first | refine z0F rfl rfl fun Q' hQ => ?_ | refine z0w rfl fun Q' hQ => ?_); simp [f236, f237, f238a, f238b, f238c, f238d, f238e, f238s]; refine hQ.out _ ?_; clear hQ; clear Q')
      refine z0k (z0a (zr rfl rfl rfl (by simp; rfl) ?_))
      have ho := z0f h6
      refine z0j ho ?_
      simp [z0Z]
     ·rw [if_neg c235] at h3
      refine z0m rfl (by simp [c235]) (z1m rfl (z0E ?_))
      obtain ⟨rr4, h4, ho4⟩ := z0g h3
      have hs4 := hr4 _ ho4
      subst hs4
      refine z0r ho4 (z0c rfl (z0a (z0U rfl (z0n ?_))))
      cases h4
      simp
   ·rw [if_neg c208] at h0
    have c208e := eq_false c208
    refine z0m rfl (by simp [c208e]) (z0h rfl (z0a (zq rfl ?_)))
    obtain ⟨f239, h1⟩ := z1E h0
    refine zr rfl rfl rfl (by simp [f239]; rfl) ?_
    refine z0a (zq rfl (zr rfl rfl rfl (by simp; rfl) ?_))
    refine z0a (zq rfl (zr rfl rfl rfl (by simp; rfl) ?_))
    refine z0a (zq rfl (zq rfl (zr rfl rfl rfl (by simp; rfl) ?_)))
    refine z0a ?_
    by_cases c240 : (IntKind.i64.wrap (z0X .u64 (IntKind.u64.wrap (IntKind.i64.wrap (a1 + a3))) 1)) < a2
    ·rw [if_pos c240] at h1
     refine z0p rfl (by simp [c240]) (zq rfl (zr rfl rfl rfl (by simp; rfl) ?_))
     refine z0a (zr rfl rfl rfl (by simp; rfl) ?_)
     refine z0a (zq rfl (zr rfl rfl rfl (by simp; rfl) ?_))
     refine z0a (zq rfl (zb rfl (z0S h1 (z0G a0 a1 a2 a3 a4_0_0) rfl rfl (by simp [z0G]) fun s o5 h2 hr5 => ?_)))
     obtain ⟨w153, w152⟩ := s
     simp only [z0o] at h2
     simp only [z0G]
     refine zq rfl (zq rfl (zr rfl rfl rfl (by simp; rfl) ?_))
     refine z0a ?_
     by_cases c253 : w153 < w152
     ·rw [if_pos c253] at h2
      refine z0p rfl (by simp [c253]) (z0h rfl (z0a (zb rfl (zq rfl ?_))))
      obtain ⟨f254, h3⟩ := z1E h2
      refine zr rfl rfl rfl (by simp [f254]; rfl) ?_
      refine z0a (zq rfl ?_)
      obtain ⟨v157, f255, h4⟩ := z1r h3
      obtain ⟨v158, f256, h5⟩ := z1r h4
      obtain ⟨v159, f257, h6⟩ := z0b h5
      have f257k := z1Q f257
      try simp at f257k
      refine z1D rfl rfl rfl rfl ?_; repeat' ((first | refine z0F rfl rfl fun Q' hQ => ?_ | refine z0w rfl fun Q' hQ => ?_); simp [f255, f256, f257k]; refine hQ.out _ ?_; clear hQ; clear Q')
      refine z0a ?_
      by_cases c258 : v159 < 0
      ·rw [if_pos c258] at h6
       refine z0m rfl (by simp [c258]) (zr rfl rfl rfl (by simp; rfl) ?_)
       refine z0k ?_
       have ho := z0f h6
       refine z0j ho ?_
       simp [z0G]
      ·rw [if_neg c258] at h6
       refine z0p rfl (by simp [c258]) (zr rfl rfl rfl (by simp; rfl) ?_)
       refine z0k ?_
       have ho := z0f h6
       refine z0j ho ?_
       simp [z0G]
     ·rw [if_neg c253] at h2
      refine z0m rfl (by simp [c253]) (z1m rfl (z0E ?_))
      obtain ⟨rr5, h3, ho5⟩ := z0g h2
      have hs5 := hr5 _ ho5
      subst hs5
      refine z0r ho5 (z0c rfl (z0a (zq rfl (zr rfl rfl rfl (by simp; rfl) ?_))))
      refine z0a (zq rfl (zq rfl ?_))
      by_cases c259 : w153 < a2
      ·rw [if_pos c259] at h3
       refine zr rfl rfl rfl (by simp [c259]; rfl) ?_
       refine z0a ?_
       by_cases c260 : a2 < (IntKind.i64.wrap ((IntKind.i64.wrap ((IntKind.i64.wrap (z0X .u64 (IntKind.u64.wrap (IntKind.i64.wrap (a1 + a3))) 1)) + a2)) - w153))
       ·rw [if_pos c260] at h3
        refine z0p rfl (by simp [c260]) ?_
        obtain ⟨v160, f261, h4⟩ := z0b h3
        have f261k := z1N f261
        try simp at f261k
        refine zr rfl rfl rfl (by simp [f261k]; rfl) ?_
        refine z0a (zq rfl (zq rfl ?_))
        by_cases c262 : a1 < w153
        ·rw [if_pos c262] at h4
         refine zr rfl rfl rfl (by simp [c262]; rfl) ?_
         refine z0a ?_
         by_cases c263 : w153 < (IntKind.i64.wrap (z0X .u64 (IntKind.u64.wrap (IntKind.i64.wrap (a1 + a3))) 1))
         ·rw [if_pos c263] at h4
          refine z0p rfl (by simp [c263]) ?_
          obtain ⟨v161, f264, h5⟩ := z0b h4
          have f264k := ih f264
          try simp at f264k
          refine zr rfl rfl rfl (by simp [f264k]; rfl) ?_
          refine z0a (zq rfl ?_)
          by_cases c265 : (IntKind.i64.wrap (z0X .u64 (IntKind.u64.wrap (IntKind.i64.wrap (a1 + a3))) 1)) < (IntKind.i64.wrap ((IntKind.i64.wrap ((IntKind.i64.wrap (z0X .u64 (IntKind.u64.wrap (IntKind.i64.wrap (a1 + a3))) 1)) + a2)) - w153))
          ·rw [if_pos c265] at h5
           refine zr rfl rfl rfl (by simp [c265]; rfl) ?_
           refine z0a ?_
           by_cases c266 : (IntKind.i64.wrap ((IntKind.i64.wrap ((IntKind.i64.wrap (z0X .u64 (IntKind.u64.wrap (IntKind.i64.wrap (a1 + a3))) 1)) + a2)) - w153)) < a3
           ·rw [if_pos c266] at h5
            refine z0p rfl (by simp [c266]) ?_
            obtain ⟨v162, f267, h6⟩ := z0b h5
            have f267k := ih f267
            try simp at f267k
            refine zr rfl rfl rfl (by simp [f267k]; rfl) ?_
            cases h6
            simp
           ·rw [if_neg c266] at h5
            refine z0m rfl (by simp [c266]) (z0h rfl ?_)
            cases h5
            simp
          ·rw [if_neg c265] at h5
           refine zr rfl rfl rfl (by simp [c265]; rfl) ?_
           refine z0a (z0m rfl (by simp) (z0h rfl ?_))
           cases h5
           simp
         ·rw [if_neg c263] at h4
          refine z0m rfl (by simp [c263]) (z0h rfl (z0a (zq rfl ?_)))
          by_cases c268 : (IntKind.i64.wrap (z0X .u64 (IntKind.u64.wrap (IntKind.i64.wrap (a1 + a3))) 1)) < (IntKind.i64.wrap ((IntKind.i64.wrap ((IntKind.i64.wrap (z0X .u64 (IntKind.u64.wrap (IntKind.i64.wrap (a1 + a3))) 1)) + a2)) - w153))
          ·rw [if_pos c268] at h4
           refine zr rfl rfl rfl (by simp [c268]; rfl) ?_
           refine z0a ?_
           by_cases c269 : (IntKind.i64.wrap ((IntKind.i64.wrap ((IntKind.i64.wrap (z0X .u64 (IntKind.u64.wrap (IntKind.i64.wrap (a1 + a3))) 1)) + a2)) - w153)) < a3
           ·rw [if_pos c269] at h4
            refine z0p rfl (by simp [c269]) ?_
            obtain ⟨v163, f270, h5⟩ := z0b h4
            have f270k := ih f270
            try simp at f270k
            refine zr rfl rfl rfl (by simp [f270k]; rfl) ?_
            cases h5
            simp
           ·rw [if_neg c269] at h4
            refine z0m rfl (by simp [c269]) (z0h rfl ?_)
            cases h4
            simp
          ·rw [if_neg c268] at h4
           refine zr rfl rfl rfl (by simp [c268]; rfl) ?_
           refine z0a (z0m rfl (by simp) (z0h rfl ?_))
           cases h4
           simp
        ·rw [if_neg c262] at h4
         refine zr rfl rfl rfl (by simp [c262]; rfl) ?_
         refine z0a (z0m rfl (by simp) (z0h rfl (z0a (zq rfl ?_))))
         by_cases c271 : (IntKind.i64.wrap (z0X .u64 (IntKind.u64.wrap (IntKind.i64.wrap (a1 + a3))) 1)) < (IntKind.i64.wrap ((IntKind.i64.wrap ((IntKind.i64.wrap (z0X .u64 (IntKind.u64.wrap (IntKind.i64.wrap (a1 + a3))) 1)) + a2)) - w153))
         ·rw [if_pos c271] at h4
          refine zr rfl rfl rfl (by simp [c271]; rfl) ?_
          refine z0a ?_
          by_cases c272 : (IntKind.i64.wrap ((IntKind.i64.wrap ((IntKind.i64.wrap (z0X .u64 (IntKind.u64.wrap (IntKind.i64.wrap (a1 + a3))) 1)) + a2)) - w153)) < a3
          ·rw [if_pos c272] at h4
           refine z0p rfl (by simp [c272]) ?_
           obtain ⟨v164, f273, h5⟩ := z0b h4
           have f273k := ih f273
           try simp at f273k
           refine zr rfl rfl rfl (by simp [f273k]; rfl) ?_
           cases h5
           simp
          ·rw [if_neg c272] at h4
           refine z0m rfl (by simp [c272]) (z0h rfl ?_)
           cases h4
           simp
         ·rw [if_neg c271] at h4
          refine zr rfl rfl rfl (by simp [c271]; rfl) ?_
          refine z0a (z0m rfl (by simp) (z0h rfl ?_))
          cases h4
          simp
       ·rw [if_neg c260] at h3
        refine z0m rfl (by simp [c260]) (z0h rfl (z0a (zq rfl (zq rfl ?_))))
        by_cases c274 : a1 < w153
        ·rw [if_pos c274] at h3
         refine zr rfl rfl rfl (by simp [c274]; rfl) ?_
         refine z0a ?_
         by_cases c275 : w153 < (IntKind.i64.wrap (z0X .u64 (IntKind.u64.wrap (IntKind.i64.wrap (a1 + a3))) 1))
         ·rw [if_pos c275] at h3
          refine z0p rfl (by simp [c275]) ?_
          obtain ⟨v165, f276, h4⟩ := z0b h3
          have f276k := ih f276
          try simp at f276k
          refine zr rfl rfl rfl (by simp [f276k]; rfl) ?_
          refine z0a (zq rfl ?_)
          by_cases c277 : (IntKind.i64.wrap (z0X .u64 (IntKind.u64.wrap (IntKind.i64.wrap (a1 + a3))) 1)) < (IntKind.i64.wrap ((IntKind.i64.wrap ((IntKind.i64.wrap (z0X .u64 (IntKind.u64.wrap (IntKind.i64.wrap (a1 + a3))) 1)) + a2)) - w153))
          ·rw [if_pos c277] at h4
           refine zr rfl rfl rfl (by simp [c277]; rfl) ?_
           refine z0a ?_
           by_cases c278 : (IntKind.i64.wrap ((IntKind.i64.wrap ((IntKind.i64.wrap (z0X .u64 (IntKind.u64.wrap (IntKind.i64.wrap (a1 + a3))) 1)) + a2)) - w153)) < a3
           ·rw [if_pos c278] at h4
            refine z0p rfl (by simp [c278]) ?_
            obtain ⟨v166, f279, h5⟩ := z0b h4
            have f279k := ih f279
            try simp at f279k
            refine zr rfl rfl rfl (by simp [f279k]; rfl) ?_
            cases h5
            simp
           ·rw [if_neg c278] at h4
            refine z0m rfl (by simp [c278]) (z0h rfl ?_)
            cases h4
            simp
          ·rw [if_neg c277] at h4
           refine zr rfl rfl rfl (by simp [c277]; rfl) ?_
           refine z0a (z0m rfl (by simp) (z0h rfl ?_))
           cases h4
           simp
         ·rw [if_neg c275] at h3
          refine z0m rfl (by simp [c275]) (z0h rfl (z0a (zq rfl ?_)))
          by_cases c280 : (IntKind.i64.wrap (z0X .u64 (IntKind.u64.wrap (IntKind.i64.wrap (a1 + a3))) 1)) < (IntKind.i64.wrap ((IntKind.i64.wrap ((IntKind.i64.wrap (z0X .u64 (IntKind.u64.wrap (IntKind.i64.wrap (a1 + a3))) 1)) + a2)) - w153))
          ·rw [if_pos c280] at h3
           refine zr rfl rfl rfl (by simp [c280]; rfl) ?_
           refine z0a ?_
           by_cases c281 : (IntKind.i64.wrap ((IntKind.i64.wrap ((IntKind.i64.wrap (z0X .u64 (IntKind.u64.wrap (IntKind.i64.wrap (a1 + a3))) 1)) + a2)) - w153)) < a3
           ·rw [if_pos c281] at h3
            refine z0p rfl (by simp [c281]) ?_
            obtain ⟨v167, f282, h4⟩ := z0b h3
            have f282k := ih f282
            try simp at f282k
            refine zr rfl rfl rfl (by simp [f282k]; rfl) ?_
            cases h4
            simp
           ·rw [if_neg c281] at h3
            refine z0m rfl (by simp [c281]) (z0h rfl ?_)
            cases h3
            simp
          ·rw [if_neg c280] at h3
           refine zr rfl rfl rfl (by simp [c280]; rfl) ?_
           refine z0a (z0m rfl (by simp) (z0h rfl ?_))
           cases h3
           simp
        ·rw [if_neg c274] at h3
         refine zr rfl rfl rfl (by simp [c274]; rfl) ?_
         refine z0a (z0m rfl (by simp) (z0h rfl (z0a (zq rfl ?_))))
         by_cases c283 : (IntKind.i64.wrap (z0X .u64 (IntKind.u64.wrap (IntKind.i64.wrap (a1 + a3))) 1)) < (IntKind.i64.wrap ((IntKind.i64.wrap ((IntKind.i64.wrap (z0X .u64 (IntKind.u64.wrap (IntKind.i64.wrap (a1 + a3))) 1)) + a2)) - w153))
         ·rw [if_pos c283] at h3
          refine zr rfl rfl rfl (by simp [c283]; rfl) ?_
          refine z0a ?_
          by_cases c284 : (IntKind.i64.wrap ((IntKind.i64.wrap ((IntKind.i64.wrap (z0X .u64 (IntKind.u64.wrap (IntKind.i64.wrap (a1 + a3))) 1)) + a2)) - w153)) < a3
          ·rw [if_pos c284] at h3
           refine z0p rfl (by simp [c284]) ?_
           obtain ⟨v168, f285, h4⟩ := z0b h3
           have f285k := ih f285
           try simp at f285k
           refine zr rfl rfl rfl (by simp [f285k]; rfl) ?_
           cases h4
           simp
          ·rw [if_neg c284] at h3
           refine z0m rfl (by simp [c284]) (z0h rfl ?_)
           cases h3
           simp
         ·rw [if_neg c283] at h3
          refine zr rfl rfl rfl (by simp [c283]; rfl) ?_
          refine z0a (z0m rfl (by simp) (z0h rfl ?_))
          cases h3
          simp
      ·rw [if_neg c259] at h3
       refine zr rfl rfl rfl (by simp [c259]; rfl) ?_
       refine z0a (z0m rfl (by simp) (z0h rfl (z0a (zq rfl (zq rfl ?_)))))
       by_cases c286 : a1 < w153
       ·rw [if_pos c286] at h3
        refine zr rfl rfl rfl (by simp [c286]; rfl) ?_
        refine z0a ?_
        by_cases c287 : w153 < (IntKind.i64.wrap (z0X .u64 (IntKind.u64.wrap (IntKind.i64.wrap (a1 + a3))) 1))
        ·rw [if_pos c287] at h3
         refine z0p rfl (by simp [c287]) ?_
         obtain ⟨v169, f288, h4⟩ := z0b h3
         have f288k := ih f288
         try simp at f288k
         refine zr rfl rfl rfl (by simp [f288k]; rfl) ?_
         refine z0a (zq rfl ?_)
         by_cases c289 : (IntKind.i64.wrap (z0X .u64 (IntKind.u64.wrap (IntKind.i64.wrap (a1 + a3))) 1)) < (IntKind.i64.wrap ((IntKind.i64.wrap ((IntKind.i64.wrap (z0X .u64 (IntKind.u64.wrap (IntKind.i64.wrap (a1 + a3))) 1)) + a2)) - w153))
         ·rw [if_pos c289] at h4
          refine zr rfl rfl rfl (by simp [c289]; rfl) ?_
          refine z0a ?_
          by_cases c290 : (IntKind.i64.wrap ((IntKind.i64.wrap ((IntKind.i64.wrap (z0X .u64 (IntKind.u64.wrap (IntKind.i64.wrap (a1 + a3))) 1)) + a2)) - w153)) < a3
          ·rw [if_pos c290] at h4
           refine z0p rfl (by simp [c290]) ?_
           obtain ⟨v170, f291, h5⟩ := z0b h4
           have f291k := ih f291
           try simp at f291k
           refine zr rfl rfl rfl (by simp [f291k]; rfl) ?_
           cases h5
           simp
          ·rw [if_neg c290] at h4
           refine z0m rfl (by simp [c290]) (z0h rfl ?_)
           cases h4
           simp
         ·rw [if_neg c289] at h4
          refine zr rfl rfl rfl (by simp [c289]; rfl) ?_
          refine z0a (z0m rfl (by simp) (z0h rfl ?_))
          cases h4
          simp
        ·rw [if_neg c287] at h3
         refine z0m rfl (by simp [c287]) (z0h rfl (z0a (zq rfl ?_)))
         by_cases c292 : (IntKind.i64.wrap (z0X .u64 (IntKind.u64.wrap (IntKind.i64.wrap (a1 + a3))) 1)) < (IntKind.i64.wrap ((IntKind.i64.wrap ((IntKind.i64.wrap (z0X .u64 (IntKind.u64.wrap (IntKind.i64.wrap (a1 + a3))) 1)) + a2)) - w153))
         ·rw [if_pos c292] at h3
          refine zr rfl rfl rfl (by simp [c292]; rfl) ?_
          refine z0a ?_
          by_cases c293 : (IntKind.i64.wrap ((IntKind.i64.wrap ((IntKind.i64.wrap (z0X .u64 (IntKind.u64.wrap (IntKind.i64.wrap (a1 + a3))) 1)) + a2)) - w153)) < a3
          ·rw [if_pos c293] at h3
           refine z0p rfl (by simp [c293]) ?_
           obtain ⟨v171, f294, h4⟩ := z0b h3
           have f294k := ih f294
           try simp at f294k
           refine zr rfl rfl rfl (by simp [f294k]; rfl) ?_
           cases h4
           simp
          ·rw [if_neg c293] at h3
           refine z0m rfl (by simp [c293]) (z0h rfl ?_)
           cases h3
           simp
         ·rw [if_neg c292] at h3
          refine zr rfl rfl rfl (by simp [c292]; rfl) ?_
          refine z0a (z0m rfl (by simp) (z0h rfl ?_))
          cases h3
          simp
       ·rw [if_neg c286] at h3
        refine zr rfl rfl rfl (by simp [c286]; rfl) ?_
        refine z0a (z0m rfl (by simp) (z0h rfl (z0a (zq rfl ?_))))
        by_cases c295 : (IntKind.i64.wrap (z0X .u64 (IntKind.u64.wrap (IntKind.i64.wrap (a1 + a3))) 1)) < (IntKind.i64.wrap ((IntKind.i64.wrap ((IntKind.i64.wrap (z0X .u64 (IntKind.u64.wrap (IntKind.i64.wrap (a1 + a3))) 1)) + a2)) - w153))
        ·rw [if_pos c295] at h3
         refine zr rfl rfl rfl (by simp [c295]; rfl) ?_
         refine z0a ?_
         by_cases c296 : (IntKind.i64.wrap ((IntKind.i64.wrap ((IntKind.i64.wrap (z0X .u64 (IntKind.u64.wrap (IntKind.i64.wrap (a1 + a3))) 1)) + a2)) - w153)) < a3
         ·rw [if_pos c296] at h3
          refine z0p rfl (by simp [c296]) ?_
          obtain ⟨v172, f297, h4⟩ := z0b h3
          have f297k := ih f297
          try simp at f297k
          refine zr rfl rfl rfl (by simp [f297k]; rfl) ?_
          cases h4
          simp
         ·rw [if_neg c296] at h3
          refine z0m rfl (by simp [c296]) (z0h rfl ?_)
          cases h3
          simp
        ·rw [if_neg c295] at h3
         refine zr rfl rfl rfl (by simp [c295]; rfl) ?_
         refine z0a (z0m rfl (by simp) (z0h rfl ?_))
         cases h3
         simp
    ·rw [if_neg c240] at h1
     refine z0m rfl (by simp [c240]) (zq rfl (zr rfl rfl rfl (by simp; rfl) ?_))
     refine z0a (zr rfl rfl rfl (by simp; rfl) ?_)
     refine z0a (zq rfl (zr rfl rfl rfl (by simp; rfl) ?_))
     refine z0a (zq rfl (zb rfl (z0S h1 (z0B a0 a1 a2 a3 a4_0_0) rfl rfl (by simp [z0B]) fun s o6 h2 hr6 => ?_)))
     obtain ⟨w177, w176⟩ := s
     simp only [z1t] at h2
     simp only [z0B]
     refine zq rfl (zq rfl (zr rfl rfl rfl (by simp; rfl) ?_))
     refine z0a ?_
     by_cases c310 : w177 < w176
     ·rw [if_pos c310] at h2
      refine z0p rfl (by simp [c310]) (z0h rfl (z0a (zb rfl (zq rfl ?_))))
      obtain ⟨f311, h3⟩ := z1E h2
      refine zr rfl rfl rfl (by simp [f311]; rfl) ?_
      refine z0a (zq rfl ?_)
      obtain ⟨v181, f312, h4⟩ := z1r h3
      obtain ⟨v182, f313, h5⟩ := z1r h4
      obtain ⟨v183, f314, h6⟩ := z0b h5
      have f314k := z1Q f314
      try simp at f314k
      refine z1D rfl rfl rfl rfl ?_; repeat' ((first | refine z0F rfl rfl fun Q' hQ => ?_ | refine z0w rfl fun Q' hQ => ?_); simp [f312, f313, f314k]; refine hQ.out _ ?_; clear hQ; clear Q')
      refine z0a ?_
      by_cases c315 : v183 < 0
      ·rw [if_pos c315] at h6
       refine z0m rfl (by simp [c315]) (zr rfl rfl rfl (by simp; rfl) ?_)
       refine z0k ?_
       have ho := z0f h6
       refine z0j ho ?_
       simp [z0B]
      ·rw [if_neg c315] at h6
       refine z0p rfl (by simp [c315]) (zr rfl rfl rfl (by simp; rfl) ?_)
       refine z0k ?_
       have ho := z0f h6
       refine z0j ho ?_
       simp [z0B]
     ·rw [if_neg c310] at h2
      refine z0m rfl (by simp [c310]) (z1m rfl (z0E ?_))
      obtain ⟨rr6, h3, ho6⟩ := z0g h2
      have hs6 := hr6 _ ho6
      subst hs6
      refine z0r ho6 (z0c rfl (z0a (zq rfl (zr rfl rfl rfl (by simp; rfl) ?_))))
      refine z0a (zq rfl (zq rfl ?_))
      by_cases c316 : w177 < a2
      ·rw [if_pos c316] at h3
       refine zr rfl rfl rfl (by simp [c316]; rfl) ?_
       refine z0a ?_
       by_cases c317 : a2 < (IntKind.i64.wrap ((IntKind.i64.wrap ((IntKind.i64.wrap (z0X .u64 (IntKind.u64.wrap (IntKind.i64.wrap (a1 + a3))) 1)) + a2)) - w177))
       ·rw [if_pos c317] at h3
        refine z0p rfl (by simp [c317]) ?_
        obtain ⟨v184, f318, h4⟩ := z0b h3
        have f318k := z1N f318
        try simp at f318k
        refine zr rfl rfl rfl (by simp [f318k]; rfl) ?_
        refine z0a (zq rfl (zq rfl ?_))
        by_cases c319 : a1 < w177
        ·rw [if_pos c319] at h4
         refine zr rfl rfl rfl (by simp [c319]; rfl) ?_
         refine z0a ?_
         by_cases c320 : w177 < (IntKind.i64.wrap (z0X .u64 (IntKind.u64.wrap (IntKind.i64.wrap (a1 + a3))) 1))
         ·rw [if_pos c320] at h4
          refine z0p rfl (by simp [c320]) ?_
          obtain ⟨v185, f321, h5⟩ := z0b h4
          have f321k := ih f321
          try simp at f321k
          refine zr rfl rfl rfl (by simp [f321k]; rfl) ?_
          refine z0a (zq rfl ?_)
          by_cases c322 : (IntKind.i64.wrap (z0X .u64 (IntKind.u64.wrap (IntKind.i64.wrap (a1 + a3))) 1)) < (IntKind.i64.wrap ((IntKind.i64.wrap ((IntKind.i64.wrap (z0X .u64 (IntKind.u64.wrap (IntKind.i64.wrap (a1 + a3))) 1)) + a2)) - w177))
          ·rw [if_pos c322] at h5
           refine zr rfl rfl rfl (by simp [c322]; rfl) ?_
           refine z0a ?_
           by_cases c323 : (IntKind.i64.wrap ((IntKind.i64.wrap ((IntKind.i64.wrap (z0X .u64 (IntKind.u64.wrap (IntKind.i64.wrap (a1 + a3))) 1)) + a2)) - w177)) < a3
           ·rw [if_pos c323] at h5
            refine z0p rfl (by simp [c323]) ?_
            obtain ⟨v186, f324, h6⟩ := z0b h5
            have f324k := ih f324
            try simp at f324k
            refine zr rfl rfl rfl (by simp [f324k]; rfl) ?_
            cases h6
            simp
           ·rw [if_neg c323] at h5
            refine z0m rfl (by simp [c323]) (z0h rfl ?_)
            cases h5
            simp
          ·rw [if_neg c322] at h5
           refine zr rfl rfl rfl (by simp [c322]; rfl) ?_
           refine z0a (z0m rfl (by simp) (z0h rfl ?_))
           cases h5
           simp
         ·rw [if_neg c320] at h4
          refine z0m rfl (by simp [c320]) (z0h rfl (z0a (zq rfl ?_)))
          by_cases c325 : (IntKind.i64.wrap (z0X .u64 (IntKind.u64.wrap (IntKind.i64.wrap (a1 + a3))) 1)) < (IntKind.i64.wrap ((IntKind.i64.wrap ((IntKind.i64.wrap (z0X .u64 (IntKind.u64.wrap (IntKind.i64.wrap (a1 + a3))) 1)) + a2)) - w177))
          ·rw [if_pos c325] at h4
           refine zr rfl rfl rfl (by simp [c325]; rfl) ?_
           refine z0a ?_
           by_cases c326 : (IntKind.i64.wrap ((IntKind.i64.wrap ((IntKind.i64.wrap (z0X .u64 (IntKind.u64.wrap (IntKind.i64.wrap (a1 + a3))) 1)) + a2)) - w177)) < a3
           ·rw [if_pos c326] at h4
            refine z0p rfl (by simp [c326]) ?_
            obtain ⟨v187, f327, h5⟩ := z0b h4
            have f327k := ih f327
            try simp at f327k
            refine zr rfl rfl rfl (by simp [f327k]; rfl) ?_
            cases h5
            simp
           ·rw [if_neg c326] at h4
            refine z0m rfl (by simp [c326]) (z0h rfl ?_)
            cases h4
            simp
          ·rw [if_neg c325] at h4
           refine zr rfl rfl rfl (by simp [c325]; rfl) ?_
           refine z0a (z0m rfl (by simp) (z0h rfl ?_))
           cases h4
           simp
        ·rw [if_neg c319] at h4
         refine zr rfl rfl rfl (by simp [c319]; rfl) ?_
         refine z0a (z0m rfl (by simp) (z0h rfl (z0a (zq rfl ?_))))
         by_cases c328 : (IntKind.i64.wrap (z0X .u64 (IntKind.u64.wrap (IntKind.i64.wrap (a1 + a3))) 1)) < (IntKind.i64.wrap ((IntKind.i64.wrap ((IntKind.i64.wrap (z0X .u64 (IntKind.u64.wrap (IntKind.i64.wrap (a1 + a3))) 1)) + a2)) - w177))
         ·rw [if_pos c328] at h4
          refine zr rfl rfl rfl (by simp [c328]; rfl) ?_
          refine z0a ?_
          by_cases c329 : (IntKind.i64.wrap ((IntKind.i64.wrap ((IntKind.i64.wrap (z0X .u64 (IntKind.u64.wrap (IntKind.i64.wrap (a1 + a3))) 1)) + a2)) - w177)) < a3
          ·rw [if_pos c329] at h4
           refine z0p rfl (by simp [c329]) ?_
           obtain ⟨v188, f330, h5⟩ := z0b h4
           have f330k := ih f330
           try simp at f330k
           refine zr rfl rfl rfl (by simp [f330k]; rfl) ?_
           cases h5
           simp
          ·rw [if_neg c329] at h4
           refine z0m rfl (by simp [c329]) (z0h rfl ?_)
           cases h4
           simp
         ·rw [if_neg c328] at h4
          refine zr rfl rfl rfl (by simp [c328]; rfl) ?_
          refine z0a (z0m rfl (by simp) (z0h rfl ?_))
          cases h4
          simp
       ·rw [if_neg c317] at h3
        refine z0m rfl (by simp [c317]) (z0h rfl (z0a (zq rfl (zq rfl ?_))))
        by_cases c331 : a1 < w177
        ·rw [if_pos c331] at h3
         refine zr rfl rfl rfl (by simp [c331]; rfl) ?_
         refine z0a ?_
         by_cases c332 : w177 < (IntKind.i64.wrap (z0X .u64 (IntKind.u64.wrap (IntKind.i64.wrap (a1 + a3))) 1))
         ·rw [if_pos c332] at h3
          refine z0p rfl (by simp [c332]) ?_
          obtain ⟨v189, f333, h4⟩ := z0b h3
          have f333k := ih f333
          try simp at f333k
          refine zr rfl rfl rfl (by simp [f333k]; rfl) ?_
          refine z0a (zq rfl ?_)
          by_cases c334 : (IntKind.i64.wrap (z0X .u64 (IntKind.u64.wrap (IntKind.i64.wrap (a1 + a3))) 1)) < (IntKind.i64.wrap ((IntKind.i64.wrap ((IntKind.i64.wrap (z0X .u64 (IntKind.u64.wrap (IntKind.i64.wrap (a1 + a3))) 1)) + a2)) - w177))
          ·rw [if_pos c334] at h4
           refine zr rfl rfl rfl (by simp [c334]; rfl) ?_
           refine z0a ?_
           by_cases c335 : (IntKind.i64.wrap ((IntKind.i64.wrap ((IntKind.i64.wrap (z0X .u64 (IntKind.u64.wrap (IntKind.i64.wrap (a1 + a3))) 1)) + a2)) - w177)) < a3
           ·rw [if_pos c335] at h4
            refine z0p rfl (by simp [c335]) ?_
            obtain ⟨v190, f336, h5⟩ := z0b h4
            have f336k := ih f336
            try simp at f336k
            refine zr rfl rfl rfl (by simp [f336k]; rfl) ?_
            cases h5
            simp
           ·rw [if_neg c335] at h4
            refine z0m rfl (by simp [c335]) (z0h rfl ?_)
            cases h4
            simp
          ·rw [if_neg c334] at h4
           refine zr rfl rfl rfl (by simp [c334]; rfl) ?_
           refine z0a (z0m rfl (by simp) (z0h rfl ?_))
           cases h4
           simp
         ·rw [if_neg c332] at h3
          refine z0m rfl (by simp [c332]) (z0h rfl (z0a (zq rfl ?_)))
          by_cases c337 : (IntKind.i64.wrap (z0X .u64 (IntKind.u64.wrap (IntKind.i64.wrap (a1 + a3))) 1)) < (IntKind.i64.wrap ((IntKind.i64.wrap ((IntKind.i64.wrap (z0X .u64 (IntKind.u64.wrap (IntKind.i64.wrap (a1 + a3))) 1)) + a2)) - w177))
          ·rw [if_pos c337] at h3
           refine zr rfl rfl rfl (by simp [c337]; rfl) ?_
           refine z0a ?_
           by_cases c338 : (IntKind.i64.wrap ((IntKind.i64.wrap ((IntKind.i64.wrap (z0X .u64 (IntKind.u64.wrap (IntKind.i64.wrap (a1 + a3))) 1)) + a2)) - w177)) < a3
           ·rw [if_pos c338] at h3
            refine z0p rfl (by simp [c338]) ?_
            obtain ⟨v191, f339, h4⟩ := z0b h3
            have f339k := ih f339
            try simp at f339k
            refine zr rfl rfl rfl (by simp [f339k]; rfl) ?_
            cases h4
            simp
           ·rw [if_neg c338] at h3
            refine z0m rfl (by simp [c338]) (z0h rfl ?_)
            cases h3
            simp
          ·rw [if_neg c337] at h3
           refine zr rfl rfl rfl (by simp [c337]; rfl) ?_
           refine z0a (z0m rfl (by simp) (z0h rfl ?_))
           cases h3
           simp
        ·rw [if_neg c331] at h3
         refine zr rfl rfl rfl (by simp [c331]; rfl) ?_
         refine z0a (z0m rfl (by simp) (z0h rfl (z0a (zq rfl ?_))))
         by_cases c340 : (IntKind.i64.wrap (z0X .u64 (IntKind.u64.wrap (IntKind.i64.wrap (a1 + a3))) 1)) < (IntKind.i64.wrap ((IntKind.i64.wrap ((IntKind.i64.wrap (z0X .u64 (IntKind.u64.wrap (IntKind.i64.wrap (a1 + a3))) 1)) + a2)) - w177))
         ·rw [if_pos c340] at h3
          refine zr rfl rfl rfl (by simp [c340]; rfl) ?_
          refine z0a ?_
          by_cases c341 : (IntKind.i64.wrap ((IntKind.i64.wrap ((IntKind.i64.wrap (z0X .u64 (IntKind.u64.wrap (IntKind.i64.wrap (a1 + a3))) 1)) + a2)) - w177)) < a3
          ·rw [if_pos c341] at h3
           refine z0p rfl (by simp [c341]) ?_
           obtain ⟨v192, f342, h4⟩ := z0b h3
           have f342k := ih f342
           try simp at f342k
           refine zr rfl rfl rfl (by simp [f342k]; rfl) ?_
           cases h4
           simp
          ·rw [if_neg c341] at h3
           refine z0m rfl (by simp [c341]) (z0h rfl ?_)
           cases h3
           simp
         ·rw [if_neg c340] at h3
          refine zr rfl rfl rfl (by simp [c340]; rfl) ?_
          refine z0a (z0m rfl (by simp) (z0h rfl ?_))
          cases h3
          simp
      ·rw [if_neg c316] at h3
       refine zr rfl rfl rfl (by simp [c316]; rfl) ?_
       refine z0a (z0m rfl (by simp) (z0h rfl (z0a (zq rfl (zq rfl ?_)))))
       by_cases c343 : a1 < w177
       ·rw [if_pos c343] at h3
        refine zr rfl rfl rfl (by simp [c343]; rfl) ?_
        refine z0a ?_
        by_cases c344 : w177 < (IntKind.i64.wrap (z0X .u64 (IntKind.u64.wrap (IntKind.i64.wrap (a1 + a3))) 1))
        ·rw [if_pos c344] at h3
         refine z0p rfl (by simp [c344]) ?_
         obtain ⟨v193, f345, h4⟩ := z0b h3
         have f345k := ih f345
         try simp at f345k
         refine zr rfl rfl rfl (by simp [f345k]; rfl) ?_
         refine z0a (zq rfl ?_)
         by_cases c346 : (IntKind.i64.wrap (z0X .u64 (IntKind.u64.wrap (IntKind.i64.wrap (a1 + a3))) 1)) < (IntKind.i64.wrap ((IntKind.i64.wrap ((IntKind.i64.wrap (z0X .u64 (IntKind.u64.wrap (IntKind.i64.wrap (a1 + a3))) 1)) + a2)) - w177))
         ·rw [if_pos c346] at h4
          refine zr rfl rfl rfl (by simp [c346]; rfl) ?_
          refine z0a ?_
          by_cases c347 : (IntKind.i64.wrap ((IntKind.i64.wrap ((IntKind.i64.wrap (z0X .u64 (IntKind.u64.wrap (IntKind.i64.wrap (a1 + a3))) 1)) + a2)) - w177)) < a3
          ·rw [if_pos c347] at h4
           refine z0p rfl (by simp [c347]) ?_
           obtain ⟨v194, f348, h5⟩ := z0b h4
           have f348k := ih f348
           try simp at f348k
           refine zr rfl rfl rfl (by simp [f348k]; rfl) ?_
           cases h5
           simp
          ·rw [if_neg c347] at h4
           refine z0m rfl (by simp [c347]) (z0h rfl ?_)
           cases h4
           simp
         ·rw [if_neg c346] at h4
          refine zr rfl rfl rfl (by simp [c346]; rfl) ?_
          refine z0a (z0m rfl (by simp) (z0h rfl ?_))
          cases h4
          simp
        ·rw [if_neg c344] at h3
         refine z0m rfl (by simp [c344]) (z0h rfl (z0a (zq rfl ?_)))
         by_cases c349 : (IntKind.i64.wrap (z0X .u64 (IntKind.u64.wrap (IntKind.i64.wrap (a1 + a3))) 1)) < (IntKind.i64.wrap ((IntKind.i64.wrap ((IntKind.i64.wrap (z0X .u64 (IntKind.u64.wrap (IntKind.i64.wrap (a1 + a3))) 1)) + a2)) - w177))
         ·rw [if_pos c349] at h3
          refine zr rfl rfl rfl (by simp [c349]; rfl) ?_
          refine z0a ?_
          by_cases c350 : (IntKind.i64.wrap ((IntKind.i64.wrap ((IntKind.i64.wrap (z0X .u64 (IntKind.u64.wrap (IntKind.i64.wrap (a1 + a3))) 1)) + a2)) - w177)) < a3
          ·rw [if_pos c350] at h3
           refine z0p rfl (by simp [c350]) ?_
           obtain ⟨v195, f351, h4⟩ := z0b h3
           have f351k := ih f351
           try simp at f351k
           refine zr rfl rfl rfl (by simp [f351k]; rfl) ?_
           cases h4
           simp
          ·rw [if_neg c350] at h3
           refine z0m rfl (by simp [c350]) (z0h rfl ?_)
           cases h3
           simp
         ·rw [if_neg c349] at h3
          refine zr rfl rfl rfl (by simp [c349]; rfl) ?_
          refine z0a (z0m rfl (by simp) (z0h rfl ?_))
          cases h3
          simp
       ·rw [if_neg c343] at h3
        refine zr rfl rfl rfl (by simp [c343]; rfl) ?_
        refine z0a (z0m rfl (by simp) (z0h rfl (z0a (zq rfl ?_))))
        by_cases c352 : (IntKind.i64.wrap (z0X .u64 (IntKind.u64.wrap (IntKind.i64.wrap (a1 + a3))) 1)) < (IntKind.i64.wrap ((IntKind.i64.wrap ((IntKind.i64.wrap (z0X .u64 (IntKind.u64.wrap (IntKind.i64.wrap (a1 + a3))) 1)) + a2)) - w177))
        ·rw [if_pos c352] at h3
         refine zr rfl rfl rfl (by simp [c352]; rfl) ?_
         refine z0a ?_
         by_cases c353 : (IntKind.i64.wrap ((IntKind.i64.wrap ((IntKind.i64.wrap (z0X .u64 (IntKind.u64.wrap (IntKind.i64.wrap (a1 + a3))) 1)) + a2)) - w177)) < a3
         ·rw [if_pos c353] at h3
          refine z0p rfl (by simp [c353]) ?_
          obtain ⟨v196, f354, h4⟩ := z0b h3
          have f354k := ih f354
          try simp at f354k
          refine zr rfl rfl rfl (by simp [f354k]; rfl) ?_
          cases h4
          simp
         ·rw [if_neg c353] at h3
          refine z0m rfl (by simp [c353]) (z0h rfl ?_)
          cases h3
          simp
        ·rw [if_neg c352] at h3
         refine zr rfl rfl rfl (by simp [c352]; rfl) ?_
         refine z0a (z0m rfl (by simp) (z0h rfl ?_))
         cases h3
         simp
def z0s : Nat → List Int → Int → Int → Int → List Int → Option (List Int)
  | 0 => fun _ _ _ _ _ => none
  | k + 1 => z0O (z0s k)
theorem z1L : ∀ {k : Nat} {a0 : List Int} {a1 : Int} {a2 : Int} {a3 : Int} {a4_0_0 : List Int} {r : List Int}, z0s k a0 a1 a2 a3 a4_0_0 = some r → L 92 [.os 1 a0.length (a0.map fun x0 => .sc (.int .i64 x0)), .sc (.int .i64 a1), .sc (.int .i64 a2), .sc (.int .i64 a3), .cl 70 [.pr [.sl a4_0_0.length (a4_0_0.map fun x0 => .sc (.int .i64 x0))]]] = some (.tup [], [.os 1 r.length (r.map fun x0 => .sc (.int .i64 x0)), .dead, .dead, .dead, .dead]) := by
  intro k
  induction k with
  | zero => intro a0 a1 a2 a3 a4_0_0 r h; cases h
  | succ k ih => intro a0 a1 a2 a3 a4_0_0 r h; exact z2T ih h
def z0Q (a1 : Int) (a2_0_0 : List Int) (w45 : Int) : Int × Int × List Int → Option ((Int × Int × List Int) ⊕ ((Int × List Int) ⊕ List Int))
  | (w55, w56, w57) =>
  if w56 ≤ a1 then
    (z0s 5000 w57 w55 (IntKind.i64.wrap (w55 + w45)) w56 a2_0_0).bind fun v59 =>
    z0Y (w56, IntKind.i64.wrap (w56 + (IntKind.i64.wrap (2 * w45))), v59)
  else
    z1n <|
    if (IntKind.i64.wrap (w55 + w45)) < a1 then
      (z0s 5000 w57 w55 (IntKind.i64.wrap (w55 + w45)) a1 a2_0_0).bind fun v60 =>
      z0Y (IntKind.i64.wrap (w45 * 2), v60)
    else
      z0Y (IntKind.i64.wrap (w45 * 2), w57)
def z1e (a1 : Int) (a2_0_0 : List Int) (w45 : Int) : Int × Int × List Int → Fr
  | (w55, w56, w57) => ⟨63, [(0, .one (.h 0 [])), (1, .one (.t none (.sc (.int .i64 a1)))), (2, .one (.t none (.cl 70 [.pr [.sl a2_0_0.length (a2_0_0.map fun x0 => .sc (.int .i64 x0))]]))), (6, .one (.t none (.sc (.int .i64 w45)))), (7, .one (.t none (.sc (.int .i64 w55)))), (8, .one (.t none (.sc (.int .i64 w56)))), (1063, .one (.h 0 []))], [(0, .os 1 w57.length (w57.map fun x0 => .sc (.int .i64 x0)))]⟩
def z1g (a1 : Int) (a2_0_0 : List Int) : Int × List Int → Option ((Int × List Int) ⊕ List Int)
  | (w45, w46) =>
  if w45 < a1 then
    z1j (z0Q a1 a2_0_0 w45) LFm (0, IntKind.i64.wrap (2 * w45), w46)
  else
    z1n <|
    some w46
def z0P (a1 : Int) (a2_0_0 : List Int) : Int × List Int → Fr
  | (w45, w46) => ⟨63, [(0, .one (.h 0 [])), (1, .one (.t none (.sc (.int .i64 a1)))), (2, .one (.t none (.cl 70 [.pr [.sl a2_0_0.length (a2_0_0.map fun x0 => .sc (.int .i64 x0))]]))), (6, .one (.t none (.sc (.int .i64 w45)))), (1063, .one (.h 0 []))], [(0, .os 1 w46.length (w46.map fun x0 => .sc (.int .i64 x0)))]⟩
def z1h (a1 : Int) (a2_0_0 : List Int) : Int × Int × List Int → Option ((Int × Int × List Int) ⊕ List Int)
  | (w32, w33, w34) =>
  if w33 ≤ a1 then
    (z0u w34 w32 w33 a2_0_0).bind fun v36 =>
    z0Y (w33, IntKind.i64.wrap (w33 + 20), v36)
  else
    z1n <|
    (z0u w34 w32 a1 a2_0_0).bind fun v37 =>
    z1j (z1g a1 a2_0_0) LFm (20, v37)
def z1f (a1 : Int) (a2_0_0 : List Int) : Int × Int × List Int → Fr
  | (w32, w33, w34) => ⟨63, [(0, .one (.h 0 [])), (1, .one (.t none (.sc (.int .i64 a1)))), (2, .one (.t none (.cl 70 [.pr [.sl a2_0_0.length (a2_0_0.map fun x0 => .sc (.int .i64 x0))]]))), (6, .one (.t none (.sc (.int .i64 20)))), (7, .one (.t none (.sc (.int .i64 w32)))), (8, .one (.t none (.sc (.int .i64 w33)))), (1063, .one (.h 0 []))], [(0, .os 1 w34.length (w34.map fun x0 => .sc (.int .i64 x0)))]⟩
def z1o (a0 : List Int) (a1 : Int) (a2_0_0 : List Int) : Option (List Int) :=
  z1j (z1h a1 a2_0_0) LFm (0, 20, a0)
theorem z3e {a0 : List Int} {a1 : Int} {a2_0_0 : List Int} {r : List Int} (h0 : z1o a0 a1 a2_0_0 = some r) : L 79 [.os 1 a0.length (a0.map fun x0 => .sc (.int .i64 x0)), .sc (.int .i64 a1), .cl 70 [.pr [.sl a2_0_0.length (a2_0_0.map fun x0 => .sc (.int .i64 x0))]]] = some (.tup [], [.os 1 r.length (r.map fun x0 => .sc (.int .i64 x0)), .dead, .dead]) := by
  simp only [z1o] at h0
  refine z2l zui zvI (z1l zxV ⟨of_decide_eq_true rfl, of_decide_eq_true rfl⟩ ?_)
  simp only [z1z, z1w, z1s, z1A, z2X]
  refine zq rfl (zr rfl rfl rfl (by simp; rfl) ?_)
  refine z0a (zq rfl (zr rfl rfl rfl (by simp; rfl) ?_))
  refine z0a (zq rfl (zb rfl (z0S h0 (z1f a1 a2_0_0) rfl rfl (by simp [z1f]) fun s o1 h1 hr1 => ?_)))
  obtain ⟨w32, w33, w34⟩ := s
  simp only [z1h] at h1
  simp only [z1f]
  refine zq rfl (zq rfl (zr rfl rfl rfl (by simp; rfl) ?_))
  refine z0a ?_
  by_cases c39 : w33 ≤ a1
  ·rw [if_pos c39] at h1
   refine z0p rfl (by simp [c39]) (z0h rfl (z0a (zb rfl (zq rfl ?_))))
   obtain ⟨v36, f40, h2⟩ := z0b h1
   have f40k := z1G f40
   try simp at f40k
   refine zr rfl rfl rfl (by simp [f40k]; rfl) ?_
   refine z0a (zq rfl (zr rfl rfl rfl (by simp; rfl) ?_))
   refine z0a (zr rfl rfl rfl (by simp; rfl) ?_)
   refine z0k ?_
   have ho := z0f h2
   refine z0j ho ?_
   simp [z1f]
  ·rw [if_neg c39] at h1
   refine z0m rfl (by simp [c39]) (z1m rfl (z0E ?_))
   obtain ⟨rr1, h2, ho1⟩ := z0g h1
   have hs1 := hr1 _ ho1
   subst hs1
   refine z0r ho1 (z0c rfl (z0a (zq rfl ?_)))
   obtain ⟨v37, f41, h3⟩ := z0b h2
   have f41k := z1G f41
   try simp at f41k
   refine zr rfl rfl rfl (by simp [f41k]; rfl) ?_
   refine z0a (zb rfl (z0S h3 (z0P a1 a2_0_0) rfl rfl (by simp [z0P]) fun s o2 h4 hr2 => ?_))
   obtain ⟨w45, w46⟩ := s
   simp only [z1g] at h4
   simp only [z0P]
   refine zq rfl (zq rfl (zr rfl rfl rfl (by simp; rfl) ?_))
   refine z0a ?_
   by_cases c60 : w45 < a1
   ·rw [if_pos c60] at h4
    refine z0p rfl (by simp [c60]) (z0h rfl (z0a (zb rfl (zq rfl (zr rfl rfl rfl (by simp; rfl) ?_)))))
    refine z0a (zq rfl (zb rfl (z0S h4 (z1e a1 a2_0_0 w45) rfl rfl (by simp [z1e]) fun s o3 h5 hr3 => ?_)))
    obtain ⟨w55, w56, w57⟩ := s
    simp only [z0Q] at h5
    simp only [z1e]
    refine zq rfl (zq rfl (zr rfl rfl rfl (by simp; rfl) ?_))
    refine z0a ?_
    by_cases c65 : w56 ≤ a1
    ·rw [if_pos c65] at h5
     refine z0p rfl (by simp [c65]) (z0h rfl (z0a (zb rfl (zq rfl ?_))))
     obtain ⟨v59, f66, h6⟩ := z0b h5
     have f66k := z1L f66
     try simp at f66k
     refine zr rfl rfl rfl (by simp [f66k]; rfl) ?_
     refine z0a (zq rfl (zr rfl rfl rfl (by simp; rfl) ?_))
     refine z0a (zr rfl rfl rfl (by simp; rfl) ?_)
     refine z0k ?_
     have ho := z0f h6
     refine z0j ho ?_
     simp [z1e]
    ·rw [if_neg c65] at h5
     refine z0m rfl (by simp [c65]) (z1m rfl (z0E ?_))
     obtain ⟨rr3, h6, ho3⟩ := z0g h5
     have hs3 := hr3 _ ho3
     subst hs3
     refine z0r ho3 (z0c rfl (z0a (zq rfl (zq rfl (zr rfl rfl rfl (by simp; rfl) ?_)))))
     refine z0a (zq rfl (zr rfl rfl rfl (by simp; rfl) ?_))
     refine z0a ?_
     by_cases c67 : (IntKind.i64.wrap (w55 + w45)) < a1
     ·rw [if_pos c67] at h6
      refine z0p rfl (by simp [c67]) ?_
      obtain ⟨v60, f68, h7⟩ := z0b h6
      have f68k := z1L f68
      try simp at f68k
      refine zr rfl rfl rfl (by simp [f68k]; rfl) ?_
      refine z0a (zr rfl rfl rfl (by simp; rfl) ?_)
      refine z0k ?_
      have ho := z0f h7
      refine z0j ho ?_
      simp [z0P]
     ·rw [if_neg c67] at h6
      refine z0m rfl (by simp [c67]) (z0h rfl (z0a (zr rfl rfl rfl (by simp; rfl) ?_)))
      refine z0k ?_
      have ho := z0f h6
      refine z0j ho ?_
      simp [z0P]
   ·rw [if_neg c60] at h4
    refine z0m rfl (by simp [c60]) (z1m rfl (z0E ?_))
    obtain ⟨rr2, h5, ho2⟩ := z0g h4
    have hs2 := hr2 _ ho2
    subst hs2
    refine z0r ho2 (z0c rfl ?_)
    cases h5
    simp
def z0K (a0 : List Int) (a1_0_0 : List Int) : Option (List Int) :=
  (z1o a0 (a0.length : Int) a1_0_0).bind fun v2 =>
  some v2
theorem z2z {a0 : List Int} {a1_0_0 : List Int} {r : List Int} (h0 : z0K a0 a1_0_0 = some r) : L 69 [.os 1 a0.length (a0.map fun x0 => .sc (.int .i64 x0)), .cl 70 [.pr [.sl a1_0_0.length (a1_0_0.map fun x0 => .sc (.int .i64 x0))]]] = some (.tup [], [.os 1 r.length (r.map fun x0 => .sc (.int .i64 x0)), .dead]) := by
  simp only [z0K] at h0
  refine z2l zup zvP (z1l zy2 ⟨of_decide_eq_true rfl, of_decide_eq_true rfl⟩ ?_)
  simp only [z1z, z1w, z1s, z1A, z2X]
  obtain ⟨v2, f2, h1⟩ := z0b h0
  have f2k := z3e f2
  try simp at f2k
  refine zr rfl rfl rfl (by simp [f2k]; rfl) ?_
  cases h1
  simp
def z1Y (a0 : Dgm) (w136 : Int) (w138 : List Int) : Int × List Int → Option ((Int × List Int) ⊕ ((Int × List Int × List Int) ⊕ List Int))
  | (w159, w160) =>
  if w159 < (a0.sets.length : Int) then
    (atI a0.below w159).bind fun v165 =>
    (atI v165 w136).bind fun v166 =>
    if v166 = true then
      (atI w160 w136).bind fun v167 =>
      z0Y (IntKind.i64.wrap (w159 + 1), (w160.set w136.toNat (IntKind.i64.wrap (v167 + 1))))
    else
      z0Y (IntKind.i64.wrap (w159 + 1), w160)
  else
    z1n <|
    z0Y (IntKind.i64.wrap (w136 + 1), w160, (w138.set w136.toNat w136))
def z1X (a0 : Dgm) (a1 : List Int) (w136 : Int) (w138 : List Int) : Int × List Int → Fr
  | (w159, w160) => ⟨114, [(1, .one (.t none (.sl a1.length (a1.map fun x0 => .sc (.int .i64 x0))))), (2, .one (.a 2 [] (0))), (5, .one (.a 5 [] (0))), (6, .one (.h 6 [])), (7, .one (.t none (.sc (.int .i64 w136)))), (23, .one (.t none (.sc (.int .i64 (a0.sets.length : Int))))), (24, .one (.t none (.sc (.int .i64 w136)))), (33, .one (.t none (.sc (.int .i64 (a0.sets.length : Int))))), (34, .one (.t none (.sc (.int .i64 w159))))], [(2, .vr [.sl a0.sets.length (a0.sets.map fun x0 => .sc (.int .i64 x0)), .sl a0.next.length (a0.next.map fun x0 => .sl x0.length (x0.map fun x1 => .sc (.int .i64 x1))), .sl a0.below.length (a0.below.map fun x0 => .sl x0.length (x0.map fun x1 => .sc (.bool x1)))]), (5, .vr [.os 1 w160.length (w160.map fun x0 => .sc (.int .i64 x0))]), (6, .os 1 (w138.set w136.toNat w136).length ((w138.set w136.toNat w136).map fun x0 => .sc (.int .i64 x0)))]⟩
def z1U (a0 : Dgm) (a1 : List Int) (w193 : Int) (v221 : Int) : Int × List Int → Option ((Int × List Int) ⊕ ((Int × List Int) ⊕ List Int))
  | (w231, w232) =>
  if w231 < (a0.sets.length : Int) then
    (atI a0.below w231).bind fun v240 =>
    (atI v240 v221).bind fun v241 =>
    if v241 = true then
      (atI a1 w231).bind fun v242 =>
      (atI a1 v221).bind fun v243 =>
      if v242 = v243 then
        z0Y (IntKind.i64.wrap (w231 + 1), w232)
      else
        (atI w232 v221).bind fun v244 =>
        (atI w232 w231).bind fun v245 =>
        z0Y (IntKind.i64.wrap (w231 + 1), (w232.set v221.toNat (if v244 < (IntKind.i64.wrap (v245 + 1)) then (IntKind.i64.wrap (v245 + 1)) else v244)))
    else
      z0Y (IntKind.i64.wrap (w231 + 1), w232)
  else
    z1n <|
    z0Y (IntKind.i64.wrap (w193 + 1), w232)
def z1I (a0 : Dgm) (a1 : List Int) (v169 : List Int) (w193 : Int) (v221 : Int) : Int × List Int → Fr
  | (w231, w232) => ⟨114, [(1, .one (.t none (.sl a1.length (a1.map fun x0 => .sc (.int .i64 x0))))), (2, .one (.a 2 [] (0))), (9, .one (.h 9 [])), (11, .one (.t none (.sc (.int .i64 v221)))), (60, .one (.h 6 [])), (61, .one (.t none (.sc (.int .i64 (v169.length : Int))))), (62, .one (.t none (.sc (.int .i64 w193)))), (75, .one (.t none (.sc (.int .i64 (a0.sets.length : Int))))), (76, .one (.t none (.sc (.int .i64 w231))))], [(2, .vr [.sl a0.sets.length (a0.sets.map fun x0 => .sc (.int .i64 x0)), .sl a0.next.length (a0.next.map fun x0 => .sl x0.length (x0.map fun x1 => .sc (.int .i64 x1))), .sl a0.below.length (a0.below.map fun x0 => .sl x0.length (x0.map fun x1 => .sc (.bool x1)))]), (9, .os 1 w232.length (w232.map fun x0 => .sc (.int .i64 x0))), (6, .os 1 v169.length (v169.map fun x0 => .sc (.int .i64 x0)))]⟩
def z2s (a0 : Dgm) (a1 : List Int) (v169 : List Int) : Int × List Int → Option ((Int × List Int) ⊕ List Int)
  | (w193, w194) =>
  if w193 < (v169.length : Int) then
    (atI v169 w193).bind fun v221 =>
    (atI a0.sets v221).bind fun v222 =>
    (z5w v222).bind fun v223 =>
    if v223 = 1 then
      z0Y (IntKind.i64.wrap (w193 + 1), w194)
    else
      z1j (z1U a0 a1 w193 v221) LFm (0, w194)
  else
    z1n <|
    some w194
def z1T (a0 : Dgm) (a1 : List Int) (v169 : List Int) : Int × List Int → Fr
  | (w193, w194) => ⟨114, [(1, .one (.t none (.sl a1.length (a1.map fun x0 => .sc (.int .i64 x0))))), (2, .one (.a 2 [] (0))), (9, .one (.h 9 [])), (60, .one (.h 6 [])), (61, .one (.t none (.sc (.int .i64 (v169.length : Int))))), (62, .one (.t none (.sc (.int .i64 w193))))], [(2, .vr [.sl a0.sets.length (a0.sets.map fun x0 => .sc (.int .i64 x0)), .sl a0.next.length (a0.next.map fun x0 => .sl x0.length (x0.map fun x1 => .sc (.int .i64 x1))), .sl a0.below.length (a0.below.map fun x0 => .sl x0.length (x0.map fun x1 => .sc (.bool x1)))]), (9, .os 1 w194.length (w194.map fun x0 => .sc (.int .i64 x0))), (6, .os 1 v169.length (v169.map fun x0 => .sc (.int .i64 x0)))]⟩
def z2F (a0 : Dgm) (a1 : List Int) : Int × List Int × List Int → Option ((Int × List Int × List Int) ⊕ List Int)
  | (w136, w137, w138) =>
  if w136 < (a0.sets.length : Int) then
    (atI w138 w136).bind fun v154 =>
    z1j (z1Y a0 w136 w138) LFm (0, w137)
  else
    z1n <|
    (z0K w138 w137).bind fun v169 =>
    chk (z3l 8 (a0.sets.length : Int)) <|
    z1j (z2s a0 a1 v169) LFm (0, List.replicate (a0.sets.length : Int).toNat (0 : Int))
def z2E (a0 : Dgm) (a1 : List Int) : Int × List Int × List Int → Fr
  | (w136, w137, w138) => ⟨114, [(1, .one (.t none (.sl a1.length (a1.map fun x0 => .sc (.int .i64 x0))))), (2, .one (.a 2 [] (0))), (5, .one (.a 5 [] (0))), (6, .one (.h 6 [])), (23, .one (.t none (.sc (.int .i64 (a0.sets.length : Int))))), (24, .one (.t none (.sc (.int .i64 w136))))], [(2, .vr [.sl a0.sets.length (a0.sets.map fun x0 => .sc (.int .i64 x0)), .sl a0.next.length (a0.next.map fun x0 => .sl x0.length (x0.map fun x1 => .sc (.int .i64 x1))), .sl a0.below.length (a0.below.map fun x0 => .sl x0.length (x0.map fun x1 => .sc (.bool x1)))]), (5, .vr [.os 1 w137.length (w137.map fun x0 => .sc (.int .i64 x0))]), (6, .os 1 w138.length (w138.map fun x0 => .sc (.int .i64 x0)))]⟩
def z2v (a0 : Dgm) (a1 : List Int) : Option (List Int) :=
  chk (z3l 8 (a0.sets.length : Int)) <|
  z1j (z2F a0 a1) LFm (0, List.replicate (a0.sets.length : Int).toNat (0 : Int), List.replicate (a0.sets.length : Int).toNat (0 : Int))
theorem z7a {a0 : Dgm} {a1 : List Int} {r : List Int} (h0 : z2v a0 a1 = some r) : L 39 [.agg [.sl a0.sets.length (a0.sets.map fun x0 => .sc (.int .i64 x0)), .sl a0.next.length (a0.next.map fun x0 => .sl x0.length (x0.map fun x1 => .sc (.int .i64 x1))), .sl a0.below.length (a0.below.map fun x0 => .sl x0.length (x0.map fun x1 => .sc (.bool x1)))], .sl a1.length (a1.map fun x0 => .sc (.int .i64 x0))] = some (.os 1 r.length (r.map fun x0 => .sc (.int .i64 x0)), [.dead, .dead]) := by
  simp only [z2v] at h0
  refine z2l zuK zwa (z1l zyn ⟨of_decide_eq_true rfl, of_decide_eq_true rfl⟩ ?_)
  simp only [z1z, z1w, z1s, z1A, z2X]
  refine zq rfl (zr rfl rfl rfl (by simp; rfl) ?_)
  refine z0a (zq rfl ?_)
  obtain ⟨f150, h1⟩ := zoQ h0
  refine zr rfl rfl rfl (by simp [f150]; rfl) ?_
  refine z0a (zq rfl (zr rfl rfl rfl (by simp [f150]; rfl) ?_))
  refine z0a (zq rfl (zq rfl (zr rfl rfl rfl (by simp; rfl) ?_)))
  refine z0a (zb rfl (z0S h1 (z2E a0 a1) rfl rfl (by simp [z2E]) fun s o1 h2 hr1 => ?_))
  obtain ⟨w136, w137, w138⟩ := s
  simp only [z2F] at h2
  simp only [z2E]
  refine zq rfl (zr rfl rfl rfl (by simp; rfl) ?_)
  refine z0a (zq rfl ?_)
  by_cases c185 : w136 < (a0.sets.length : Int)
  ·rw [if_pos c185] at h2
   refine z0p rfl (by simp [c185]) (z0h rfl (z0a (zq rfl (zb rfl (zq rfl (zr rfl rfl rfl (by simp; rfl) ?_))))))
   refine z0a (zq rfl ?_)
   obtain ⟨v154, f186, h3⟩ := z1r h2
   refine zr rfl rfl rfl (by simp [f186]; rfl) ?_
   refine z0a (zq rfl (zr rfl rfl rfl (by simp; rfl) ?_))
   refine z0a (zb rfl (z0S h3 (z1X a0 a1 w136 w138) rfl rfl (by simp [z1X]) fun s o2 h4 hr2 => ?_))
   obtain ⟨w159, w160⟩ := s
   simp only [z1Y] at h4
   simp only [z1X]
   refine zq rfl (zr rfl rfl rfl (by simp; rfl) ?_)
   refine z0a (zq rfl ?_)
   by_cases c197 : w159 < (a0.sets.length : Int)
   ·rw [if_pos c197] at h4
    refine z0p rfl (by simp [c197]) (z0h rfl (z0a (zq rfl (zb rfl (zq rfl (zr rfl rfl rfl (by simp; rfl) ?_))))))
    refine z0a (zq rfl ?_)
    obtain ⟨v165, f198, h5⟩ := z1r h4
    obtain ⟨v166, f199, h6⟩ := z1r h5
    refine zr rfl rfl rfl (by simp [f198, f199]; rfl) ?_
    refine z0a ?_
    by_cases c200 : v166 = true
    ·rw [if_pos c200] at h6
     refine z0p rfl (by simp [c200]) ?_
     obtain ⟨v167, f201, h7⟩ := z1r h6
     refine zr rfl rfl rfl (by simp [f201]; rfl) ?_
     refine z0k (z0a (zr rfl rfl rfl (by simp; rfl) ?_))
     have ho := z0f h7
     refine z0j ho ?_
     simp [z1X, c200]
    ·rw [if_neg c200] at h6
     refine z0m rfl (by simp [c200]) (z0h rfl (z0k (z0a (zr rfl rfl rfl (by simp; rfl) ?_))))
     have ho := z0f h6
     refine z0j ho ?_
     simp [z1X, c200]
   ·rw [if_neg c197] at h4
    refine z0m rfl (by simp [c197]) (z1m rfl (z0E ?_))
    obtain ⟨rr2, h5, ho2⟩ := z0g h4
    have hs2 := hr2 _ ho2
    subst hs2
    refine z0r ho2 (z0c rfl (z0k (z0a (zr rfl rfl rfl (by simp; rfl) ?_))))
    have ho := z0f h5
    refine z0j ho ?_
    simp [z2E]
  ·rw [if_neg c185] at h2
   refine z0m rfl (by simp [c185]) (z1m rfl (z0E ?_))
   obtain ⟨rr1, h3, ho1⟩ := z0g h2
   have hs1 := hr1 _ ho1
   subst hs1
   refine z0r ho1 (z0c rfl (z0a (zq rfl (zpf rfl rfl (by simp; rfl) ?_))))
   obtain ⟨v169, f202, h4⟩ := z0b h3
   have f202k := z2z f202
   try simp at f202k
   refine zr rfl rfl rfl (by simp [f202k]; rfl) ?_
   refine z0a (zq rfl ?_)
   obtain ⟨f203, h5⟩ := zoQ h4
   refine zr rfl rfl rfl (by simp [f203]; rfl) ?_
   refine z0a (zq rfl (zq rfl (zr rfl rfl rfl (by simp; rfl) ?_)))
   refine z0a (zb rfl (z0S h5 (z1T a0 a1 v169) rfl rfl (by simp [z1T]) fun s o3 h6 hr3 => ?_))
   obtain ⟨w193, w194⟩ := s
   simp only [z2s] at h6
   simp only [z1T]
   refine zq rfl (zr rfl rfl rfl (by simp; rfl) ?_)
   refine z0a (zq rfl ?_)
   by_cases c268 : w193 < (v169.length : Int)
   ·rw [if_pos c268] at h6
    refine z0p rfl (by simp [c268]) (z0h rfl (z0a (zq rfl (zb rfl (zq rfl ?_)))))
    obtain ⟨v221, f269, h7⟩ := z1r h6
    refine zr rfl rfl rfl (by simp [f269]; rfl) ?_
    refine z0a (zq rfl (zq rfl ?_))
    obtain ⟨v222, f270, h8⟩ := z1r h7
    obtain ⟨v223, f271, h9⟩ := z0b h8
    have f271k := z9H f271
    try simp at f271k
    refine zr rfl rfl rfl (by simp [f270, f271k]; rfl) ?_
    refine z0a ?_
    by_cases c272 : v223 = 1
    ·rw [if_pos c272] at h9
     have c272e := eq_true c272
     refine z0p rfl (by simp [c272e]) (z1m rfl (z0E (z0c rfl (z0a (zr rfl rfl rfl (by simp; rfl) ?_)))))
     have ho := z0f h9
     refine z0j ho ?_
     simp [z1T]
    ·rw [if_neg c272] at h9
     have c272e := eq_false c272
     refine z0m rfl (by simp [c272e]) (z0h rfl (z0a (zq rfl (zr rfl rfl rfl (by simp; rfl) ?_))))
     refine z0a (zb rfl (z0S h9 (z1I a0 a1 v169 w193 v221) rfl rfl (by simp [z1I]) fun s o4 h10 hr4 => ?_))
     obtain ⟨w231, w232⟩ := s
     simp only [z1U] at h10
     simp only [z1I]
     refine zq rfl (zr rfl rfl rfl (by simp; rfl) ?_)
     refine z0a (zq rfl ?_)
     by_cases c291 : w231 < (a0.sets.length : Int)
     ·rw [if_pos c291] at h10
      refine z0p rfl (by simp [c291]) (z0h rfl (z0a (zq rfl (zb rfl (zq rfl (zr rfl rfl rfl (by simp; rfl) ?_))))))
      refine z0a (zq rfl ?_)
      obtain ⟨v240, f292, h11⟩ := z1r h10
      obtain ⟨v241, f293, h12⟩ := z1r h11
      by_cases c294 : v241 = true
      ·rw [if_pos c294] at h12
       obtain ⟨v242, f295, h13⟩ := z1r h12
       obtain ⟨v243, f296, h14⟩ := z1r h13
       refine z1D rfl rfl rfl rfl ?_; repeat' (first | (refine z0F rfl rfl fun Q' hQ => ?_; simp [f292, f293, c294, f295, f296]; refine hQ.out _ ?_; clear hQ; clear Q') | (refine z2Z rfl rfl fun Q1 Q2 h1 h2 => ?_; simp [f292, f293, c294, f295, f296, z4Y]; (first | refine h1.out ?_ | refine h2.out ?_); clear h1 h2; clear Q1 Q2; intro Q' hQ; simp [f292, f293, c294, f295, f296]; refine hQ.out _ ?_; clear hQ; clear Q') | (refine z0w rfl fun Q' hQ => ?_; simp [f292, f293, c294, f295, f296]; refine hQ.out _ ?_; clear hQ; clear Q'))
       refine z0a ?_
       by_cases c297 : v242 = v243
       ·rw [if_pos c297] at h14
        have c297e := eq_true c297
        refine z0m rfl (by simp [c297e]) (z0h rfl (z0k (z0a (zr rfl rfl rfl (by simp; rfl) ?_))))
        have ho := z0f h14
        refine z0j ho ?_
        simp [z1I, c294]
       ·rw [if_neg c297] at h14
        have c297e := eq_false c297
        refine z0p rfl (by simp [c297e]) ?_
        obtain ⟨v244, f298, h15⟩ := z1r h14
        obtain ⟨v245, f299, h16⟩ := z1r h15
        refine z1D rfl rfl rfl rfl ?_; repeat' ((first | refine z0F rfl rfl fun Q' hQ => ?_ | refine z0w rfl fun Q' hQ => ?_); simp [f298, f299]; refine hQ.out _ ?_; clear hQ; clear Q')
        refine z0k (z0a (zr rfl rfl rfl (by simp; rfl) ?_))
        have ho := z0f h16
        refine z0j ho ?_
        simp [z1I, c294]
      ·rw [if_neg c294] at h12
       refine z1D rfl rfl rfl rfl ?_; repeat' (first | (refine z0F rfl rfl fun Q' hQ => ?_; simp [f292, f293, c294]; refine hQ.out _ ?_; clear hQ; clear Q') | (refine z2Z rfl rfl fun Q1 Q2 h1 h2 => ?_; simp [f292, f293, c294, z4Y]; (first | refine h1.out ?_ | refine h2.out ?_); clear h1 h2; clear Q1 Q2; intro Q' hQ; simp [f292, f293, c294]; refine hQ.out _ ?_; clear hQ; clear Q') | (refine z0w rfl fun Q' hQ => ?_; simp [f292, f293, c294]; refine hQ.out _ ?_; clear hQ; clear Q'))
       refine z0a (z0m rfl (by simp) (z0h rfl (z0k (z0a (zr rfl rfl rfl (by simp; rfl) ?_)))))
       have ho := z0f h12
       refine z0j ho ?_
       simp [z1I, c294]
     ·rw [if_neg c291] at h10
      refine z0m rfl (by simp [c291]) (z1m rfl (z0E ?_))
      obtain ⟨rr4, h11, ho4⟩ := z0g h10
      have hs4 := hr4 _ ho4
      subst hs4
      refine z0r ho4 (z0c rfl (z0k (z0a (zr rfl rfl rfl (by simp; rfl) ?_))))
      have ho := z0f h11
      refine z0j ho ?_
      simp [z1T]
   ·rw [if_neg c268] at h6
    refine z0m rfl (by simp [c268]) (z1m rfl (z0E ?_))
    obtain ⟨rr3, h7, ho3⟩ := z0g h6
    have hs3 := hr3 _ ho3
    subst hs3
    refine z0r ho3 (z0c rfl (z0a (zq rfl (zr rfl rfl rfl (by simp; rfl) ?_))))
    refine z0a (z0U rfl ?_)
    cases h7
    simp
end
end Go.Proofs.Ytbnnipkanechoaa
end
section
namespace Go.Proofs.Ytbnnipkanechoaa
open Go
noncomputable section
set_option maxRecDepth 100000
set_option maxHeartbeats 1000000
structure Imgs where
  sets : List Int
  class_ : List Int
  height : List Int
  tiles : List (List Int)
  words : List ByteArray
  back : List ByteArray
deriving Inhabited
def zaz (a0 : List Int) (a1 : List Int) : Int → Option (Int ⊕ Bool)
  | w10 =>
  if w10 < (a0.length : Int) then
    (atI a0 w10).bind fun v13 =>
    (atI a1 w10).bind fun v14 =>
    if v13 = v14 then
      z0Y (IntKind.i64.wrap (w10 + 1))
    else
      z1n <|
      some false
  else
    z1n <|
    some true
def z6b (a0 : List Int) (a1 : List Int) : Int → Fr
  | w10 => ⟨26, [(0, .one (.t none (.sl a0.length (a0.map fun x0 => .sc (.int .i64 x0))))), (1, .one (.t none (.sl a1.length (a1.map fun x0 => .sc (.int .i64 x0))))), (12, .one (.t none (.sc (.int .i64 (a0.length : Int))))), (13, .one (.t none (.sc (.int .i64 w10))))], []⟩
def z6q (a0 : List Int) (a1 : List Int) : Option (Bool) :=
  if (a0.length : Int) = (a1.length : Int) then
    z1j (zaz a0 a1) LFm 0
  else
    some false
theorem z6a {a0 : List Int} {a1 : List Int} {r : Bool} (h0 : z6q a0 a1 = some r) : L 45 [.sl a0.length (a0.map fun x0 => .sc (.int .i64 x0)), .sl a1.length (a1.map fun x0 => .sc (.int .i64 x0))] = some (.sc (.bool r), [.dead, .dead]) := by
  simp only [z6q] at h0
  refine z2l zuG zw6 (z1l zyj ⟨of_decide_eq_true rfl, of_decide_eq_true rfl⟩ ?_)
  simp only [z1z, z1w, z1s, z1A, z2X]
  refine zq rfl (zr rfl rfl rfl (by simp; rfl) ?_)
  refine z0a (zq rfl (zq rfl (zr rfl rfl rfl (by simp; rfl) ?_)))
  refine z0a ?_
  by_cases c14 : (a0.length : Int) = (a1.length : Int)
  ·rw [if_pos c14] at h0
   have c14e := eq_true c14
   refine z0m rfl (by simp [c14e]) (z0h rfl (z0a (zq rfl (zq rfl (zr rfl rfl rfl (by simp; rfl) ?_)))))
   refine z0a (zb rfl (z0S h0 (z6b a0 a1) rfl rfl (by simp [z6b]) fun s o1 h1 hr1 => ?_))
   obtain ⟨w10, hs1⟩ : ∃ y, y = s := ⟨_, rfl⟩
   subst hs1
   simp only [zaz] at h1
   simp only [z6b]
   refine zq rfl (zr rfl rfl rfl (by simp; rfl) ?_)
   refine z0a (zq rfl ?_)
   by_cases c23 : w10 < (a0.length : Int)
   ·rw [if_pos c23] at h1
    refine z0p rfl (by simp [c23]) (z0h rfl (z0a (zq rfl (zb rfl (zq rfl (zr rfl rfl rfl (by simp; rfl) ?_))))))
    refine z0a (zq rfl ?_)
    obtain ⟨v13, f24, h2⟩ := z1r h1
    obtain ⟨v14, f25, h3⟩ := z1r h2
    refine z1D rfl rfl rfl rfl ?_; repeat' ((first | refine z0F rfl rfl fun Q' hQ => ?_ | refine z0w rfl fun Q' hQ => ?_); simp [f24, f25]; refine hQ.out _ ?_; clear hQ; clear Q')
    refine z0a ?_
    by_cases c26 : v13 = v14
    ·rw [if_pos c26] at h3
     have c26e := eq_true c26
     refine z0m rfl (by simp [c26e]) (z0h rfl (z0k (z0a (zr rfl rfl rfl (by simp; rfl) ?_))))
     have ho := z0f h3
     refine z0j ho ?_
     simp [z6b]
    ·rw [if_neg c26] at h3
     have c26e := eq_false c26
     refine z0p rfl (by simp [c26e]) (zq rfl (zr rfl rfl rfl (by simp; rfl) ?_))
     refine z0a (z0U rfl (z1c (z0n ?_)))
     obtain ⟨rr1, h4, ho1⟩ := z0g h3
     have hs1 := hr1 _ ho1
     subst hs1
     refine z2i ho1 (z1c (z0n ?_))
     cases h4
     simp
   ·rw [if_neg c23] at h1
    refine z0m rfl (by simp [c23]) (z1m rfl (z0E ?_))
    obtain ⟨rr1, h2, ho1⟩ := z0g h1
    have hs1 := hr1 _ ho1
    subst hs1
    refine z0r ho1 (z0c rfl (z0a (zq rfl (zr rfl rfl rfl (by simp; rfl) ?_))))
    refine z0a (z0U rfl ?_)
    cases h2
    simp
  ·rw [if_neg c14] at h0
   have c14e := eq_false c14
   refine z0p rfl (by simp [c14e]) (zq rfl (zr rfl rfl rfl (by simp; rfl) ?_))
   refine z0a (z0U rfl (z0n ?_))
   cases h0
   simp
def z7p (a0 : List (List Int)) (a1 : List (List Int)) : Int → Option (Int ⊕ Bool)
  | w14 =>
  if w14 < (a0.length : Int) then
    (atI a0 w14).bind fun v18 =>
    (atI a1 w14).bind fun v19 =>
    (z6q v18 v19).bind fun v20 =>
    if v20 = true then
      z0Y (IntKind.i64.wrap (w14 + 1))
    else
      z1n <|
      some false
  else
    z1n <|
    some true
def z4m (a0 : List (List Int)) (a1 : List (List Int)) : Int → Fr
  | w14 => ⟨27, [(0, .one (.t none (.sl a0.length (a0.map fun x0 => .sl x0.length (x0.map fun x1 => .sc (.int .i64 x1)))))), (1, .one (.t none (.sl a1.length (a1.map fun x0 => .sl x0.length (x0.map fun x1 => .sc (.int .i64 x1)))))), (12, .one (.t none (.sc (.int .i64 (a0.length : Int))))), (13, .one (.t none (.sc (.int .i64 w14))))], []⟩
def z6U (a0 : List (List Int)) (a1 : List (List Int)) : Option (Bool) :=
  if (a0.length : Int) = (a1.length : Int) then
    z1j (z7p a0 a1) LFm 0
  else
    some false
theorem zbY {a0 : List (List Int)} {a1 : List (List Int)} {r : Bool} (h0 : z6U a0 a1 = some r) : L 46 [.sl a0.length (a0.map fun x0 => .sl x0.length (x0.map fun x1 => .sc (.int .i64 x1))), .sl a1.length (a1.map fun x0 => .sl x0.length (x0.map fun x1 => .sc (.int .i64 x1)))] = some (.sc (.bool r), [.dead, .dead]) := by
  simp only [z6U] at h0
  refine z2l zuF zw5 (z1l zyi ⟨of_decide_eq_true rfl, of_decide_eq_true rfl⟩ ?_)
  simp only [z1z, z1w, z1s, z1A, z2X]
  refine zq rfl (zr rfl rfl rfl (by simp; rfl) ?_)
  refine z0a (zq rfl (zq rfl (zr rfl rfl rfl (by simp; rfl) ?_)))
  refine z0a ?_
  by_cases c17 : (a0.length : Int) = (a1.length : Int)
  ·rw [if_pos c17] at h0
   have c17e := eq_true c17
   refine z0m rfl (by simp [c17e]) (z0h rfl (z0a (zq rfl (zq rfl (zr rfl rfl rfl (by simp; rfl) ?_)))))
   refine z0a (zb rfl (z0S h0 (z4m a0 a1) rfl rfl (by simp [z4m]) fun s o1 h1 hr1 => ?_))
   obtain ⟨w14, hs1⟩ : ∃ y, y = s := ⟨_, rfl⟩
   subst hs1
   simp only [z7p] at h1
   simp only [z4m]
   refine zq rfl (zr rfl rfl rfl (by simp; rfl) ?_)
   refine z0a (zq rfl ?_)
   by_cases c28 : w14 < (a0.length : Int)
   ·rw [if_pos c28] at h1
    refine z0p rfl (by simp [c28]) (z0h rfl (z0a (zq rfl (zb rfl (zq rfl (zr rfl rfl rfl (by simp; rfl) ?_))))))
    refine z0a (zq rfl ?_)
    obtain ⟨v18, f29, h2⟩ := z1r h1
    obtain ⟨v19, f30, h3⟩ := z1r h2
    obtain ⟨v20, f31, h4⟩ := z0b h3
    have f31k := z6a f31
    try simp at f31k
    refine z1D rfl rfl rfl rfl ?_; repeat' ((first | refine z0F rfl rfl fun Q' hQ => ?_ | refine z0w rfl fun Q' hQ => ?_); simp [f29, f30, f31k]; refine hQ.out _ ?_; clear hQ; clear Q')
    refine z0a ?_
    by_cases c32 : v20 = true
    ·rw [if_pos c32] at h4
     refine z0m rfl (by simp [c32]) (z0h rfl (z0k (z0a (zr rfl rfl rfl (by simp; rfl) ?_))))
     have ho := z0f h4
     refine z0j ho ?_
     simp [z4m, c32]
    ·rw [if_neg c32] at h4
     refine z0p rfl (by simp [c32]) (zq rfl (zr rfl rfl rfl (by simp; rfl) ?_))
     refine z0a (z0U rfl (z1c (z0n ?_)))
     obtain ⟨rr1, h5, ho1⟩ := z0g h4
     have hs1 := hr1 _ ho1
     subst hs1
     refine z2i ho1 (z1c (z0n ?_))
     cases h5
     simp [c32]
   ·rw [if_neg c28] at h1
    refine z0m rfl (by simp [c28]) (z1m rfl (z0E ?_))
    obtain ⟨rr1, h2, ho1⟩ := z0g h1
    have hs1 := hr1 _ ho1
    subst hs1
    refine z0r ho1 (z0c rfl (z0a (zq rfl (zr rfl rfl rfl (by simp; rfl) ?_))))
    refine z0a (z0U rfl ?_)
    cases h2
    simp
  ·rw [if_neg c17] at h0
   have c17e := eq_false c17
   refine z0p rfl (by simp [c17e]) (zq rfl (zr rfl rfl rfl (by simp; rfl) ?_))
   refine z0a (z0U rfl (z0n ?_))
   cases h0
   simp
def zaB (a0 : List ByteArray) (a1 : List ByteArray) : Int → Option (Int ⊕ Bool)
  | w10 =>
  if w10 < (a0.length : Int) then
    (atI a0 w10).bind fun v13 =>
    (atI a1 w10).bind fun v14 =>
    if v13 = v14 then
      z0Y (IntKind.i64.wrap (w10 + 1))
    else
      z1n <|
      some false
  else
    z1n <|
    some true
def z6c (a0 : List ByteArray) (a1 : List ByteArray) : Int → Fr
  | w10 => ⟨26, [(0, .one (.t none (.sl a0.length (a0.map fun x0 => .sc (.string x0))))), (1, .one (.t none (.sl a1.length (a1.map fun x0 => .sc (.string x0))))), (12, .one (.t none (.sc (.int .i64 (a0.length : Int))))), (13, .one (.t none (.sc (.int .i64 w10))))], []⟩
def z9g (a0 : List ByteArray) (a1 : List ByteArray) : Option (Bool) :=
  if (a0.length : Int) = (a1.length : Int) then
    z1j (zaB a0 a1) LFm 0
  else
    some false
theorem zaA {a0 : List ByteArray} {a1 : List ByteArray} {r : Bool} (h0 : z9g a0 a1 = some r) : L 47 [.sl a0.length (a0.map fun x0 => .sc (.string x0)), .sl a1.length (a1.map fun x0 => .sc (.string x0))] = some (.sc (.bool r), [.dead, .dead]) := by
  simp only [z9g] at h0
  refine z2l zuE zw4 (z1l zyh ⟨of_decide_eq_true rfl, of_decide_eq_true rfl⟩ ?_)
  simp only [z1z, z1w, z1s, z1A, z2X]
  refine zq rfl (zr rfl rfl rfl (by simp; rfl) ?_)
  refine z0a (zq rfl (zq rfl (zr rfl rfl rfl (by simp; rfl) ?_)))
  refine z0a ?_
  by_cases c14 : (a0.length : Int) = (a1.length : Int)
  ·rw [if_pos c14] at h0
   have c14e := eq_true c14
   refine z0m rfl (by simp [c14e]) (z0h rfl (z0a (zq rfl (zq rfl (zr rfl rfl rfl (by simp; rfl) ?_)))))
   refine z0a (zb rfl (z0S h0 (z6c a0 a1) rfl rfl (by simp [z6c]) fun s o1 h1 hr1 => ?_))
   obtain ⟨w10, hs1⟩ : ∃ y, y = s := ⟨_, rfl⟩
   subst hs1
   simp only [zaB] at h1
   simp only [z6c]
   refine zq rfl (zr rfl rfl rfl (by simp; rfl) ?_)
   refine z0a (zq rfl ?_)
   by_cases c23 : w10 < (a0.length : Int)
   ·rw [if_pos c23] at h1
    refine z0p rfl (by simp [c23]) (z0h rfl (z0a (zq rfl (zb rfl (zq rfl (zr rfl rfl rfl (by simp; rfl) ?_))))))
    refine z0a (zq rfl ?_)
    obtain ⟨v13, f24, h2⟩ := z1r h1
    obtain ⟨v14, f25, h3⟩ := z1r h2
    refine z1D rfl rfl rfl rfl ?_; repeat' ((first | refine z0F rfl rfl fun Q' hQ => ?_ | refine z0w rfl fun Q' hQ => ?_); simp [f24, f25]; refine hQ.out _ ?_; clear hQ; clear Q')
    refine z0a ?_
    by_cases c26 : v13 = v14
    ·rw [if_pos c26] at h3
     have c26e := eq_true c26
     refine z0m rfl (by simp [c26e]) (z0h rfl (z0k (z0a (zr rfl rfl rfl (by simp; rfl) ?_))))
     have ho := z0f h3
     refine z0j ho ?_
     simp [z6c]
    ·rw [if_neg c26] at h3
     have c26e := eq_false c26
     refine z0p rfl (by simp [c26e]) (zq rfl (zr rfl rfl rfl (by simp; rfl) ?_))
     refine z0a (z0U rfl (z1c (z0n ?_)))
     obtain ⟨rr1, h4, ho1⟩ := z0g h3
     have hs1 := hr1 _ ho1
     subst hs1
     refine z2i ho1 (z1c (z0n ?_))
     cases h4
     simp
   ·rw [if_neg c23] at h1
    refine z0m rfl (by simp [c23]) (z1m rfl (z0E ?_))
    obtain ⟨rr1, h2, ho1⟩ := z0g h1
    have hs1 := hr1 _ ho1
    subst hs1
    refine z0r ho1 (z0c rfl (z0a (zq rfl (zr rfl rfl rfl (by simp; rfl) ?_))))
    refine z0a (z0U rfl ?_)
    cases h2
    simp
  ·rw [if_neg c14] at h0
   have c14e := eq_false c14
   refine z0p rfl (by simp [c14e]) (zq rfl (zr rfl rfl rfl (by simp; rfl) ?_))
   refine z0a (z0U rfl (z0n ?_))
   cases h0
   simp
def zfx (a0 : Imgs) (a1 : Imgs) : Option (Bool) :=
  (z6q a0.sets a1.sets).bind fun v7 =>
  if v7 = true then
    (z6q a0.class_ a1.class_).bind fun v8 =>
    if v8 = true then
      (z6q a0.height a1.height).bind fun v9 =>
      if v9 = true then
        (z6U a0.tiles a1.tiles).bind fun v10 =>
        if v10 = true then
          (z9g a0.words a1.words).bind fun v11 =>
          if v11 = true then
            (z9g a0.back a1.back).bind fun v12 =>
            some v12
          else
            some false
        else
          some false
      else
        some false
    else
      some false
  else
    some false
theorem ref24_Same_ok {a0 : Imgs} {a1 : Imgs} {r : Bool} (h0 : zfx a0 a1 = some r) : L 16 [.agg [.sl a0.sets.length (a0.sets.map fun x0 => .sc (.int .i64 x0)), .sl a0.class_.length (a0.class_.map fun x0 => .sc (.int .i64 x0)), .sl a0.height.length (a0.height.map fun x0 => .sc (.int .i64 x0)), .sl a0.tiles.length (a0.tiles.map fun x0 => .sl x0.length (x0.map fun x1 => .sc (.int .i64 x1))), .sl a0.words.length (a0.words.map fun x0 => .sc (.string x0)), .sl a0.back.length (a0.back.map fun x0 => .sc (.string x0))], .agg [.sl a1.sets.length (a1.sets.map fun x0 => .sc (.int .i64 x0)), .sl a1.class_.length (a1.class_.map fun x0 => .sc (.int .i64 x0)), .sl a1.height.length (a1.height.map fun x0 => .sc (.int .i64 x0)), .sl a1.tiles.length (a1.tiles.map fun x0 => .sl x0.length (x0.map fun x1 => .sc (.int .i64 x1))), .sl a1.words.length (a1.words.map fun x0 => .sc (.string x0)), .sl a1.back.length (a1.back.map fun x0 => .sc (.string x0))]] = some (.sc (.bool r), [.dead, .dead]) := by
  simp only [zfx] at h0
  refine z2l zv4 zwt (z1l zyG ⟨of_decide_eq_true rfl, of_decide_eq_true rfl⟩ ?_)
  simp only [z1z, z1w, z1s, z1A, z2X]
  refine zq rfl (zr rfl rfl rfl (by simp; rfl) ?_)
  refine z0a (zq rfl ?_)
  obtain ⟨v7, f12, h1⟩ := z0b h0
  have f12k := z6a f12
  try simp at f12k
  by_cases c13 : v7 = true
  ·rw [if_pos c13] at h1
   obtain ⟨v8, f14, h2⟩ := z0b h1
   have f14k := z6a f14
   try simp at f14k
   by_cases c15 : v8 = true
   ·rw [if_pos c15] at h2
    obtain ⟨v9, f16, h3⟩ := z0b h2
    have f16k := z6a f16
    try simp at f16k
    by_cases c17 : v9 = true
    ·rw [if_pos c17] at h3
     obtain ⟨v10, f18, h4⟩ := z0b h3
     have f18k := zbY f18
     try simp at f18k
     by_cases c19 : v10 = true
     ·rw [if_pos c19] at h4
      obtain ⟨v11, f20, h5⟩ := z0b h4
      have f20k := zaA f20
      try simp at f20k
      by_cases c21 : v11 = true
      ·rw [if_pos c21] at h5
       obtain ⟨v12, f22, h6⟩ := z0b h5
       have f22k := zaA f22
       try simp at f22k
       refine zr rfl rfl rfl (by simp [f12k, c13, f14k, c15, f16k, c17, f18k, c19, f20k, c21, f22k]; rfl) ?_
       refine z0a (z0U rfl ?_)
       cases h6
       simp [c13, c15, c17, c19, c21]
      ·rw [if_neg c21] at h5
       refine zr rfl rfl rfl (by simp [f12k, c13, f14k, c15, f16k, c17, f18k, c19, f20k, c21]; rfl) ?_
       refine z0a (z0U rfl ?_)
       cases h5
       simp [c13, c15, c17, c19, c21]
     ·rw [if_neg c19] at h4
      refine zr rfl rfl rfl (by simp [f12k, c13, f14k, c15, f16k, c17, f18k, c19]; rfl) ?_
      refine z0a (z0U rfl ?_)
      cases h4
      simp [c13, c15, c17, c19]
    ·rw [if_neg c17] at h3
     refine zr rfl rfl rfl (by simp [f12k, c13, f14k, c15, f16k, c17]; rfl) ?_
     refine z0a (z0U rfl ?_)
     cases h3
     simp [c13, c15, c17]
   ·rw [if_neg c15] at h2
    refine zr rfl rfl rfl (by simp [f12k, c13, f14k, c15]; rfl) ?_
    refine z0a (z0U rfl ?_)
    cases h2
    simp [c13, c15]
  ·rw [if_neg c13] at h1
   refine zr rfl rfl rfl (by simp [f12k, c13]; rfl) ?_
   refine z0a (z0U rfl ?_)
   cases h1
   simp [c13]
end
end Go.Proofs.Ytbnnipkanechoaa
end
section
namespace Go.Proofs.Ytbnnipkanechoaa
open Go
theorem zoY {a0 : List Int} {r : List Int} (h : zl4 a0 = some r) : L 64 [.os 1 a0.length (a0.map fun x0 => .sc (.int .i64 x0)), .sc (.func (.func 65) #[] #[])] = some (.tup [], [.os 1 r.length (r.map fun x0 => .sc (.int .i64 x0)), .dead]) := by
  refine znZ rfl ?_
  have e : (List.map (fun x0 => T.sc (Value.int IntKind.i64 x0)) a0) = a0.map fun x => .sc (.int .i64 x) := rfl
  simp only [xt, xtC, if_true, zqn, Array.isEmpty_empty, and_self, zi5, h, Option.map_some]
end Go.Proofs.Ytbnnipkanechoaa
end
section
namespace Go.Proofs.Ytbnnipkanechoaa
open Go
noncomputable section
set_option maxRecDepth 100000
set_option maxHeartbeats 1000000
def z2h (w93 : Int) (v122 : List Int) : Int × List Bool × List ByteArray × List Int → Option ((Int × List Bool × List ByteArray × List Int) ⊕ ((Int × List Bool × List ByteArray × List Int) ⊕ (List Int × List ByteArray)))
  | (w129, w130, w131, w132) =>
  if w129 < (v122.length : Int) then
    (atI v122 w129).bind fun v139 =>
    (atI w130 v139).bind fun v140 =>
    if v140 = true then
      z0Y (IntKind.i64.wrap (w129 + 1), w130, w131, w132)
    else
      (atI w132 w93).bind fun v142 =>
      (atI w131 v142).bind fun v143 =>
      chk (z9z v143 ⟨#[UInt8.ofNat (IntKind.u8.wrap (IntKind.i64.wrap (97 + w129))).toNat]⟩) <|
      (atI w131 v139).bind fun v144 =>
      chk (z3i 8 (w132.length + 1)) <|
      z0Y (IntKind.i64.wrap (w129 + 1), (w130.set v139.toNat true), (w131.set v139.toNat (v143 ++ ⟨#[UInt8.ofNat (IntKind.u8.wrap (IntKind.i64.wrap (97 + w129))).toNat]⟩)), w132 ++ [v139])
  else
    z1n <|
    z0Y (IntKind.i64.wrap (w93 + 1), w130, w131, w132)
def z2g (a0 : Dgm) (w93 : Int) (v122 : List Int) : Int × List Bool × List ByteArray × List Int → Fr
  | (w129, w130, w131, w132) => ⟨76, [(2, .one (.a 2 [] (0))), (6, .one (.h 6 [])), (7, .one (.h 7 [])), (8, .one (.h 8 [])), (9, .one (.t none (.sc (.int .i64 w93)))), (38, .one (.t none (.sl v122.length (v122.map fun x0 => .sc (.int .i64 x0))))), (39, .one (.t none (.sc (.int .i64 (v122.length : Int))))), (40, .one (.t none (.sc (.int .i64 w129))))], [(2, .vr [.sl a0.sets.length (a0.sets.map fun x0 => .sc (.int .i64 x0)), .sl a0.next.length (a0.next.map fun x0 => .sl x0.length (x0.map fun x1 => .sc (.int .i64 x1))), .sl a0.below.length (a0.below.map fun x0 => .sl x0.length (x0.map fun x1 => .sc (.bool x1)))]), (6, .os 1 w130.length (w130.map fun x0 => .sc (.bool x0))), (7, .os 1 w131.length (w131.map fun x0 => .sc (.string x0))), (8, .os 1 w132.length (w132.map fun x0 => .sc (.int .i64 x0)))]⟩
def z3O (a0 : Dgm) : Int × List Bool × List ByteArray × List Int → Option ((Int × List Bool × List ByteArray × List Int) ⊕ (List Int × List ByteArray))
  | (w93, w94, w95, w96) =>
  if w93 < (w96.length : Int) then
    (atI w96 w93).bind fun v121 =>
    (atI a0.next v121).bind fun v122 =>
    z1j (z2h w93 v122) LFm (0, w94, w95, w96)
  else
    z1n <|
    some (w96, w95)
def z2S (a0 : Dgm) : Int × List Bool × List ByteArray × List Int → Fr
  | (w93, w94, w95, w96) => ⟨76, [(2, .one (.a 2 [] (0))), (6, .one (.h 6 [])), (7, .one (.h 7 [])), (8, .one (.h 8 [])), (9, .one (.t none (.sc (.int .i64 w93))))], [(2, .vr [.sl a0.sets.length (a0.sets.map fun x0 => .sc (.int .i64 x0)), .sl a0.next.length (a0.next.map fun x0 => .sl x0.length (x0.map fun x1 => .sc (.int .i64 x1))), .sl a0.below.length (a0.below.map fun x0 => .sl x0.length (x0.map fun x1 => .sc (.bool x1)))]), (6, .os 1 w94.length (w94.map fun x0 => .sc (.bool x0))), (7, .os 1 w95.length (w95.map fun x0 => .sc (.string x0))), (8, .os 1 w96.length (w96.map fun x0 => .sc (.int .i64 x0)))]⟩
def z1P (a0 : Dgm) (a1 : Int) : Option (List Int × List ByteArray) :=
  chk (z3l 1 (a0.sets.length : Int)) <|
  chk (z3l 16 (a0.sets.length : Int)) <|
  chk (0 ≤ a1 ∧ a1 < (a0.sets.length : Int)) <|
  z1j (z3O a0) LFm (0, ((List.replicate (a0.sets.length : Int).toNat (false : Bool)).set a1.toNat true), List.replicate (a0.sets.length : Int).toNat (ByteArray.empty : ByteArray), [a1])
theorem z3N {a0 : Dgm} {a1 : Int} {r : List Int × List ByteArray} (h0 : z1P a0 a1 = some r) : L 41 [.agg [.sl a0.sets.length (a0.sets.map fun x0 => .sc (.int .i64 x0)), .sl a0.next.length (a0.next.map fun x0 => .sl x0.length (x0.map fun x1 => .sc (.int .i64 x1))), .sl a0.below.length (a0.below.map fun x0 => .sl x0.length (x0.map fun x1 => .sc (.bool x1)))], .sc (.int .i64 a1)] = some (.tup [.os 1 r.1.length (r.1.map fun x0 => .sc (.int .i64 x0)), .os 1 r.2.length (r.2.map fun x0 => .sc (.string x0))], [.dead, .dead]) := by
  simp only [z1P] at h0
  refine z2l zuI zw8 (z1l zyl ⟨of_decide_eq_true rfl, of_decide_eq_true rfl⟩ ?_)
  simp only [z1z, z1w, z1s, z1A, z2X]
  refine zq rfl (zr rfl rfl rfl (by simp; rfl) ?_)
  refine z0a (zq rfl ?_)
  obtain ⟨f91, h1⟩ := zsM h0
  refine zr rfl rfl rfl (by simp [f91]; rfl) ?_
  refine z0a (zq rfl ?_)
  obtain ⟨f92, h2⟩ := zoQ h1
  refine zr rfl rfl rfl (by simp [f92]; rfl) ?_
  refine z0a (zq rfl ?_)
  obtain ⟨f93, h3⟩ := z1E h2
  obtain ⟨f93a, f93b⟩ := f93
  have f93c : a1.toNat < a0.sets.length := by omega
  have f93d : a1.toNat + 1 ≤ a0.sets.length := by omega
  refine zr rfl rfl rfl (by simp [f91, f92, f93a, f93b, f93c, f93d]; rfl) ?_
  refine z0a (zq rfl (zr rfl rfl rfl (by simp; rfl) ?_))
  refine z0a (zq rfl (zq rfl (zr rfl rfl rfl (by simp; rfl) ?_)))
  refine z0a (zb rfl (z0S h3 (z2S a0) rfl rfl (by simp [z2S]) fun s o1 h4 hr1 => ?_))
  obtain ⟨w93, w94, w95, w96⟩ := s
  simp only [z3O] at h4
  simp only [z2S]
  refine zq rfl (zq rfl (zr rfl rfl rfl (by simp; rfl) ?_))
  refine z0a ?_
  by_cases c151 : w93 < (w96.length : Int)
  ·rw [if_pos c151] at h4
   refine z0p rfl (by simp [c151]) (z0h rfl (z0a (zq rfl (zb rfl (zq rfl ?_)))))
   obtain ⟨v121, f152, h5⟩ := z1r h4
   obtain ⟨v122, f153, h6⟩ := z1r h5
   refine z1D rfl rfl rfl rfl ?_; repeat' ((first | refine z0F rfl rfl fun Q' hQ => ?_ | refine z0w rfl fun Q' hQ => ?_); simp [f152, f153]; refine hQ.out _ ?_; clear hQ; clear Q')
   refine z0a (zb rfl (z0S h6 (z2g a0 w93 v122) rfl rfl (by simp [z2g]) fun s o2 h7 hr2 => ?_))
   obtain ⟨w129, w130, w131, w132⟩ := s
   simp only [z2h] at h7
   simp only [z2g]
   refine zq rfl (zr rfl rfl rfl (by simp; rfl) ?_)
   refine z0a (zq rfl ?_)
   by_cases c172 : w129 < (v122.length : Int)
   ·rw [if_pos c172] at h7
    refine z0p rfl (by simp [c172]) (z0h rfl (z0a (zq rfl (zb rfl (zq rfl ?_)))))
    obtain ⟨v139, f173, h8⟩ := z1r h7
    refine zr rfl rfl rfl (by simp [f173]; rfl) ?_
    refine z0a (zq rfl ?_)
    obtain ⟨v140, f174, h9⟩ := z1r h8
    refine zr rfl rfl rfl (by simp [f174]; rfl) ?_
    refine z0a ?_
    by_cases c175 : v140 = true
    ·rw [if_pos c175] at h9
     refine z0m rfl (by simp [c175]) (z0h rfl (z0k (z0a (zr rfl rfl rfl (by simp; rfl) ?_))))
     have ho := z0f h9
     refine z0j ho ?_
     simp [z2g, c175]
    ·rw [if_neg c175] at h9
     refine z0p rfl (by simp [c175]) (zq rfl (zr rfl rfl rfl (by simp [f174]; rfl) ?_))
     refine z0a (zq rfl ?_)
     obtain ⟨v142, f176, h10⟩ := z1r h9
     obtain ⟨v143, f177, h11⟩ := z1r h10
     obtain ⟨f178, h12⟩ := z1E h11
     obtain ⟨v144, f179, h13⟩ := z1r h12
     refine z1D rfl rfl rfl rfl ?_; repeat' ((first | refine z0F rfl rfl fun Q' hQ => ?_ | refine z0w rfl fun Q' hQ => ?_); simp [f176, f177, f178, f179]; refine hQ.out _ ?_; clear hQ; clear Q')
     refine z0a ?_
     obtain ⟨f180, h14⟩ := z8f h13
     refine zr rfl rfl rfl (by simp [f180]; rfl) ?_
     refine z0k (z0a (zr rfl rfl rfl (by simp; rfl) ?_))
     have ho := z0f h14
     refine z0j ho ?_
     simp [z2g, c175]
   ·rw [if_neg c172] at h7
    refine z0m rfl (by simp [c172]) (z1m rfl (z0E ?_))
    obtain ⟨rr2, h8, ho2⟩ := z0g h7
    have hs2 := hr2 _ ho2
    subst hs2
    refine z0r ho2 (z0c rfl (z0k (z0a (zr rfl rfl rfl (by simp; rfl) ?_))))
    have ho := z0f h8
    refine z0j ho ?_
    simp [z2S]
  ·rw [if_neg c151] at h4
   refine z0m rfl (by simp [c151]) (z1m rfl (z0E ?_))
   obtain ⟨rr1, h5, ho1⟩ := z0g h4
   have hs1 := hr1 _ ho1
   subst hs1
   refine z0r ho1 (z0c rfl (z0a (zq rfl (zr rfl rfl rfl (by simp; rfl) ?_))))
   refine z0a (z0U rfl ?_)
   cases h5
   simp
def z2N (a0 : DFA) (a1 : List Int) (w226 : List Int) (w246 : Int) (w248 : List (List Bool)) (v266 : Int) : Int × List (List Int) → Option ((Int × List (List Int)) ⊕ ((Int × List (List Int) × List (List Bool)) ⊕ Dgm))
  | (w272, w273) =>
  if w272 < a0.letters then
    (atI w273 w246).bind fun v278 =>
    (z4Q a0 v266 w272).bind fun v279 =>
    (atI w226 v279).bind fun v280 =>
    (atI v278 w272).bind fun v281 =>
    z0Y (IntKind.i64.wrap (w272 + 1), (w273.set w246.toNat (v278.set w272.toNat v280)))
  else
    z1n <|
    chk (z3l 1 (a1.length : Int)) <|
    (atI w248 w246).bind fun v282 =>
    z0Y (IntKind.i64.wrap (w246 + 1), w273, (w248.set w246.toNat (List.replicate (a1.length : Int).toNat (false : Bool))))
def z3w (a0 : DFA) (a1 : List Int) (w226 : List Int) (w246 : Int) (w248 : List (List Bool)) (v266 : Int) : Int × List (List Int) → Fr
  | (w272, w273) => ⟨127, [(1, .one (.t none (.sl a1.length (a1.map fun x0 => .sc (.int .i64 x0))))), (2, .one (.a 2 [] (0))), (4, .one (.a 4 [] (0))), (5, .one (.h 5 [])), (8, .one (.a 8 [] (0))), (9, .one (.t none (.sc (.int .i64 w246)))), (10, .one (.t none (.sc (.int .i64 v266)))), (44, .one (.t none (.sl a1.length (a1.map fun x0 => .sc (.int .i64 x0))))), (45, .one (.t none (.sc (.int .i64 (a1.length : Int))))), (46, .one (.t none (.sc (.int .i64 w246)))), (59, .one (.t none (.sc (.int .i64 a0.letters)))), (60, .one (.t none (.sc (.int .i64 w272))))], [(2, .vr [.sc (.int .i64 a0.letters), .sc (.int .i64 a0.start), .sl a0.final.length (a0.final.map fun x0 => .sc (.bool x0)), .sl a0.next.length (a0.next.map fun x0 => .sl x0.length (x0.map fun x1 => .sc (.int .i64 x1)))]), (4, .vr [.os 1 0 [], .os 1 0 [], .os 1 0 []]), (5, .os 1 w226.length (w226.map fun x0 => .sc (.int .i64 x0))), (8, .vr [.sl a1.length (a1.map fun x0 => .sc (.int .i64 x0)), .os 1 w273.length (w273.map fun x0 => .os 1 x0.length (x0.map fun x1 => .sc (.int .i64 x1))), .os 1 w248.length (w248.map fun x0 => .os 1 x0.length (x0.map fun x1 => .sc (.bool x1)))])]⟩
def z2M (a1 : List Int) (w337 : Int) (v393 : List Int × List ByteArray) (w411 : Int) (w412 : List (List Bool)) (v430 : Int) : Int → Option (Int ⊕ ((Int × List (List Bool)) ⊕ ((Int × List (List Bool)) ⊕ Dgm)))
  | w436 =>
  if w436 < (v393.1.length : Int) then
    (atI v393.1 w436).bind fun v442 =>
    (atI a1 v442).bind fun v443 =>
    (z2O v443 v430).bind fun v444 =>
    if v444 = true then
      (atI w412 w411).bind fun v445 =>
      (atI v445 w337).bind fun v446 =>
      z1n <|
      z0Y (IntKind.i64.wrap (w411 + 1), (w412.set w411.toNat (v445.set w337.toNat true)))
    else
      z0Y (IntKind.i64.wrap (w436 + 1))
  else
    z1n <|
    z0Y (IntKind.i64.wrap (w411 + 1), w412)
def z3u (a1 : List Int) (w247 : List (List Int)) (w337 : Int) (v393 : List Int × List ByteArray) (w411 : Int) (w412 : List (List Bool)) (v430 : Int) : Int → Fr
  | w436 => ⟨127, [(1, .one (.t none (.sl a1.length (a1.map fun x0 => .sc (.int .i64 x0))))), (4, .one (.a 4 [] (0))), (8, .one (.a 8 [] (0))), (12, .one (.t none (.sc (.int .i64 w337)))), (13, .one (.h 13 [])), (15, .one (.t none (.sc (.int .i64 w411)))), (16, .one (.t none (.sc (.int .i64 v430)))), (87, .one (.t none (.sc (.int .i64 (a1.length : Int))))), (88, .one (.t none (.sc (.int .i64 w337)))), (97, .one (.t none (.sl a1.length (a1.map fun x0 => .sc (.int .i64 x0))))), (98, .one (.t none (.sc (.int .i64 (a1.length : Int))))), (99, .one (.t none (.sc (.int .i64 w411)))), (104, .one (.h 13 [])), (105, .one (.t none (.sc (.int .i64 (v393.1.length : Int))))), (106, .one (.t none (.sc (.int .i64 w436))))], [(4, .vr [.os 1 0 [], .os 1 0 [], .os 1 0 []]), (8, .vr [.sl a1.length (a1.map fun x0 => .sc (.int .i64 x0)), .os 1 w247.length (w247.map fun x0 => .os 1 x0.length (x0.map fun x1 => .sc (.int .i64 x1))), .os 1 w412.length (w412.map fun x0 => .os 1 x0.length (x0.map fun x1 => .sc (.bool x1)))]), (13, .os 1 v393.1.length (v393.1.map fun x0 => .sc (.int .i64 x0)))]⟩
def z3x (a1 : List Int) (w337 : Int) (v393 : List Int × List ByteArray) : Int × List (List Bool) → Option ((Int × List (List Bool)) ⊕ ((Int × List (List Bool)) ⊕ Dgm))
  | (w411, w412) =>
  if w411 < (a1.length : Int) then
    (atI a1 w411).bind fun v430 =>
    z1j (z2M a1 w337 v393 w411 w412 v430) LFm 0
  else
    z1n <|
    z0Y (IntKind.i64.wrap (w337 + 1), w412)
def z2L (a1 : List Int) (w247 : List (List Int)) (w337 : Int) (v393 : List Int × List ByteArray) : Int × List (List Bool) → Fr
  | (w411, w412) => ⟨127, [(1, .one (.t none (.sl a1.length (a1.map fun x0 => .sc (.int .i64 x0))))), (4, .one (.a 4 [] (0))), (8, .one (.a 8 [] (0))), (12, .one (.t none (.sc (.int .i64 w337)))), (13, .one (.h 13 [])), (87, .one (.t none (.sc (.int .i64 (a1.length : Int))))), (88, .one (.t none (.sc (.int .i64 w337)))), (97, .one (.t none (.sl a1.length (a1.map fun x0 => .sc (.int .i64 x0))))), (98, .one (.t none (.sc (.int .i64 (a1.length : Int))))), (99, .one (.t none (.sc (.int .i64 w411))))], [(4, .vr [.os 1 0 [], .os 1 0 [], .os 1 0 []]), (8, .vr [.sl a1.length (a1.map fun x0 => .sc (.int .i64 x0)), .os 1 w247.length (w247.map fun x0 => .os 1 x0.length (x0.map fun x1 => .sc (.int .i64 x1))), .os 1 w412.length (w412.map fun x0 => .os 1 x0.length (x0.map fun x1 => .sc (.bool x1)))]), (13, .os 1 v393.1.length (v393.1.map fun x0 => .sc (.int .i64 x0)))]⟩
def z3y (a1 : List Int) (w247 : List (List Int)) : Int × List (List Bool) → Option ((Int × List (List Bool)) ⊕ Dgm)
  | (w337, w338) =>
  if w337 < (a1.length : Int) then
    (z1P (⟨a1, w247, w338⟩ : Dgm) w337).bind fun v393 =>
    z1j (z3x a1 w337 v393) LFm (0, w338)
  else
    z1n <|
    some (⟨a1, w247, w338⟩ : Dgm)
def z3v (a1 : List Int) (w247 : List (List Int)) : Int × List (List Bool) → Fr
  | (w337, w338) => ⟨127, [(1, .one (.t none (.sl a1.length (a1.map fun x0 => .sc (.int .i64 x0))))), (4, .one (.a 4 [] (0))), (8, .one (.a 8 [] (0))), (87, .one (.t none (.sc (.int .i64 (a1.length : Int))))), (88, .one (.t none (.sc (.int .i64 w337))))], [(4, .vr [.os 1 0 [], .os 1 0 [], .os 1 0 []]), (8, .vr [.sl a1.length (a1.map fun x0 => .sc (.int .i64 x0)), .os 1 w247.length (w247.map fun x0 => .os 1 x0.length (x0.map fun x1 => .sc (.int .i64 x1))), .os 1 w338.length (w338.map fun x0 => .os 1 x0.length (x0.map fun x1 => .sc (.bool x1)))])]⟩
def z3H (a0 : DFA) (a1 : List Int) (w226 : List Int) : Int × List (List Int) × List (List Bool) → Option ((Int × List (List Int) × List (List Bool)) ⊕ Dgm)
  | (w246, w247, w248) =>
  if w246 < (a1.length : Int) then
    (atI a1 w246).bind fun v266 =>
    chk (z3l 8 a0.letters) <|
    (atI w247 w246).bind fun v267 =>
    z1j (z2N a0 a1 w226 w246 w248 v266) LFm (0, (w247.set w246.toNat (List.replicate a0.letters.toNat (0 : Int))))
  else
    z1n <|
    z1j (z3y a1 w247) LFm (0, w248)
def z3F (a0 : DFA) (a1 : List Int) (w226 : List Int) : Int × List (List Int) × List (List Bool) → Fr
  | (w246, w247, w248) => ⟨127, [(1, .one (.t none (.sl a1.length (a1.map fun x0 => .sc (.int .i64 x0))))), (2, .one (.a 2 [] (0))), (4, .one (.a 4 [] (0))), (5, .one (.h 5 [])), (8, .one (.a 8 [] (0))), (44, .one (.t none (.sl a1.length (a1.map fun x0 => .sc (.int .i64 x0))))), (45, .one (.t none (.sc (.int .i64 (a1.length : Int))))), (46, .one (.t none (.sc (.int .i64 w246))))], [(2, .vr [.sc (.int .i64 a0.letters), .sc (.int .i64 a0.start), .sl a0.final.length (a0.final.map fun x0 => .sc (.bool x0)), .sl a0.next.length (a0.next.map fun x0 => .sl x0.length (x0.map fun x1 => .sc (.int .i64 x1)))]), (4, .vr [.os 1 0 [], .os 1 0 [], .os 1 0 []]), (5, .os 1 w226.length (w226.map fun x0 => .sc (.int .i64 x0))), (8, .vr [.sl a1.length (a1.map fun x0 => .sc (.int .i64 x0)), .os 1 w247.length (w247.map fun x0 => .os 1 x0.length (x0.map fun x1 => .sc (.int .i64 x1))), .os 1 w248.length (w248.map fun x0 => .os 1 x0.length (x0.map fun x1 => .sc (.bool x1)))])]⟩
def z3I (a0 : DFA) (a1 : List Int) : Int × List Int → Option ((Int × List Int) ⊕ Dgm)
  | (w225, w226) =>
  if w225 < (a1.length : Int) then
    (atI a1 w225).bind fun v229 =>
    (atI w226 v229).bind fun v230 =>
    z0Y (IntKind.i64.wrap (w225 + 1), (w226.set v229.toNat w225))
  else
    z1n <|
    chk (z3l 24 (a1.length : Int)) <|
    z1j (z3H a0 a1 w226) LFm (0, List.replicate (a1.length : Int).toNat ([] : List Int), List.replicate (a1.length : Int).toNat ([] : List Bool))
def z3G (a0 : DFA) (a1 : List Int) : Int × List Int → Fr
  | (w225, w226) => ⟨127, [(1, .one (.t none (.sl a1.length (a1.map fun x0 => .sc (.int .i64 x0))))), (2, .one (.a 2 [] (0))), (4, .one (.a 4 [] (0))), (5, .one (.h 5 [])), (24, .one (.t none (.sl a1.length (a1.map fun x0 => .sc (.int .i64 x0))))), (25, .one (.t none (.sc (.int .i64 (a1.length : Int))))), (26, .one (.t none (.sc (.int .i64 w225))))], [(2, .vr [.sc (.int .i64 a0.letters), .sc (.int .i64 a0.start), .sl a0.final.length (a0.final.map fun x0 => .sc (.bool x0)), .sl a0.next.length (a0.next.map fun x0 => .sl x0.length (x0.map fun x1 => .sc (.int .i64 x1)))]), (4, .vr [.os 1 0 [], .os 1 0 [], .os 1 0 []]), (5, .os 1 w226.length (w226.map fun x0 => .sc (.int .i64 x0)))]⟩
def z3M (a0 : DFA) (a1 : List Int) : Option (Dgm) :=
  chk (¬ (a0.final.length : Int) < 0) <|
  chk (z3l 8 (zht .i64 1 (a0.final.length : Int))) <|
  z1j (z3I a0 a1) LFm (0, List.replicate (zht .i64 1 (a0.final.length : Int)).toNat (0 : Int))
theorem z9v {a0 : DFA} {a1 : List Int} {r : Dgm} (h0 : z3M a0 a1 = some r) : L 37 [.agg [.sc (.int .i64 a0.letters), .sc (.int .i64 a0.start), .sl a0.final.length (a0.final.map fun x0 => .sc (.bool x0)), .sl a0.next.length (a0.next.map fun x0 => .sl x0.length (x0.map fun x1 => .sc (.int .i64 x1)))], .sl a1.length (a1.map fun x0 => .sc (.int .i64 x0))] = some (.agg [.sl r.sets.length (r.sets.map fun x0 => .sc (.int .i64 x0)), .os 1 r.next.length (r.next.map fun x0 => .os 1 x0.length (x0.map fun x1 => .sc (.int .i64 x1))), .os 1 r.below.length (r.below.map fun x0 => .os 1 x0.length (x0.map fun x1 => .sc (.bool x1)))], [.dead, .dead]) := by
  simp only [z3M] at h0
  refine z2l zuM zwc (z1l zyp ⟨of_decide_eq_true rfl, of_decide_eq_true rfl⟩ ?_)
  simp only [z1z, z1w, z1s, z1A, z2X]
  refine zq rfl (zr rfl rfl rfl (by simp; rfl) ?_)
  refine z0a (zq rfl ?_)
  obtain ⟨f288, h1⟩ := z1E h0
  obtain ⟨f289, h2⟩ := zoQ h1
  refine zr rfl rfl rfl (by simp [f288, f289]; rfl) ?_
  refine z0a (zq rfl (zq rfl (zr rfl rfl rfl (by simp; rfl) ?_)))
  refine z0a (zb rfl (z0S h2 (z3G a0 a1) rfl rfl (by simp [z3G]) fun s o1 h3 hr1 => ?_))
  obtain ⟨w225, w226⟩ := s
  simp only [z3I] at h3
  simp only [z3G]
  refine zq rfl (zr rfl rfl rfl (by simp; rfl) ?_)
  refine z0a (zq rfl ?_)
  by_cases c296 : w225 < (a1.length : Int)
  ·rw [if_pos c296] at h3
   refine z0p rfl (by simp [c296]) (z0h rfl (z0a (zq rfl (zb rfl (zq rfl ?_)))))
   obtain ⟨v229, f297, h4⟩ := z1r h3
   refine zr rfl rfl rfl (by simp [f297]; rfl) ?_
   refine z0a ?_
   obtain ⟨v230, f298, h5⟩ := z1r h4
   refine zr rfl rfl rfl (by simp [f298]; rfl) ?_
   refine z0k (z0a (zr rfl rfl rfl (by simp; rfl) ?_))
   have ho := z0f h5
   refine z0j ho ?_
   simp [z3G]
  ·rw [if_neg c296] at h3
   refine z0m rfl (by simp [c296]) (z1m rfl (z0E ?_))
   obtain ⟨rr1, h4, ho1⟩ := z0g h3
   have hs1 := hr1 _ ho1
   subst hs1
   refine z0r ho1 (z0c rfl (z0a (zq rfl ?_)))
   obtain ⟨f299, h5⟩ := zoQ h4
   refine zk3 rfl rfl rfl rfl ?_
   refine z1F rfl rfl (by simp [z0d, z0e, f299]; rfl) ?_
   refine z1F rfl rfl (by simp [z0d, z0e, f299]; rfl) ?_
   refine z1F rfl rfl (by simp [z0d, z0e, f299]; rfl) ?_
   refine z1F rfl rfl (by simp [z0d, z0e, f299]; rfl) ?_
   refine z1F rfl rfl (by simp [z0d, z0e, f299]; rfl) ?_
   refine z6R ?_
   refine z1F rfl rfl (by simp [z0d, z0e, f299]; rfl) ?_
   refine z6R ?_
   refine z1F rfl rfl (by simp [z0d, z0e, f299]; rfl) ?_
   refine z1F rfl rfl (by simp [z0d, z0e, f299]; rfl) ?_
   refine z1F rfl rfl (by simp [z0d, z0e, f299]; rfl) ?_
   refine z1F rfl rfl (by simp [z0d, z0e, f299]; rfl) ?_
   refine z7S ?_
   refine ⟨?_, ?_⟩
   ·refine z1F rfl rfl (by simp [z0d, z0e, f299]; rfl) ?_
    refine z1F rfl rfl (by simp [z0d, z0e, f299]; rfl) ?_
    refine z1F rfl rfl (by simp [z0d, z0e, f299]; rfl) ?_
    refine z1F rfl rfl (by simp [z0d, z0e, f299]; rfl) ?_
    refine z7S ?_
    simp [z7Z, f299]
   refine ⟨?_, ?_⟩
   ·refine z6R ?_
    refine z1F rfl rfl (by simp [z0d, z0e, f299]; rfl) ?_
    refine z6R ?_
    refine z1F rfl rfl (by simp [z0d, z0e, f299]; rfl) ?_
    refine z1F rfl rfl (by simp [z0d, z0e, f299]; rfl) ?_
    refine z1F rfl rfl (by simp [z0d, z0e, f299]; rfl) ?_
    refine z1F rfl rfl (by simp [z0d, z0e, f299]; rfl) ?_
    refine z7S ?_
    refine ⟨?_, ?_⟩
    ·refine z1F rfl rfl (by simp [z0d, z0e, f299]; rfl) ?_
     refine z1F rfl rfl (by simp [z0d, z0e, f299]; rfl) ?_
     refine z1F rfl rfl (by simp [z0d, z0e, f299]; rfl) ?_
     refine z1F rfl rfl (by simp [z0d, z0e, f299]; rfl) ?_
     refine z7S ?_
     simp [z7Z, f299]
    refine ⟨?_, ?_⟩
    ·refine z1F rfl rfl (by simp [z0d, z0e, f299]; rfl) ?_
     refine z6R ?_
     refine z1F rfl rfl (by simp [z0d, z0e, f299]; rfl) ?_
     refine z1F rfl rfl (by simp [z0d, z0e, f299]; rfl) ?_
     refine z1F rfl rfl (by simp [z0d, z0e, f299]; rfl) ?_
     refine z1F rfl rfl (by simp [z0d, z0e, f299]; rfl) ?_
     refine z7S ?_
     refine ⟨?_, ?_⟩
     ·refine z1F rfl rfl (by simp [z0d, z0e, f299]; rfl) ?_
      refine z1F rfl rfl (by simp [z0d, z0e, f299]; rfl) ?_
      refine z1F rfl rfl (by simp [z0d, z0e, f299]; rfl) ?_
      refine z1F rfl rfl (by simp [z0d, z0e, f299]; rfl) ?_
      refine z7S ?_
      simp [z7Z, f299]
     simp [z7Z, f299]
    simp [z7Z, f299]
   refine zjT rfl (by simp [f299]; rfl) ?_
   refine z0a (zq rfl (zq rfl (zr rfl rfl rfl (by simp; rfl) ?_)))
   refine z0a (zb rfl (z0S h5 (z3F a0 a1 w226) rfl rfl (by simp [z3F]) fun s o2 h6 hr2 => ?_))
   obtain ⟨w246, w247, w248⟩ := s
   simp only [z3H] at h6
   simp only [z3F]
   refine zq rfl (zr rfl rfl rfl (by simp; rfl) ?_)
   refine z0a (zq rfl ?_)
   by_cases c341 : w246 < (a1.length : Int)
   ·rw [if_pos c341] at h6
    refine z0p rfl (by simp [c341]) (z0h rfl (z0a (zq rfl (zb rfl (zq rfl ?_)))))
    obtain ⟨v266, f342, h7⟩ := z1r h6
    refine zr rfl rfl rfl (by simp [f342]; rfl) ?_
    refine z0a (zq rfl ?_)
    obtain ⟨f343, h8⟩ := zoQ h7
    obtain ⟨v267, f344, h9⟩ := z1r h8
    refine z1D rfl rfl rfl rfl ?_; repeat' ((first | refine z0F rfl rfl fun Q' hQ => ?_ | refine z0w rfl fun Q' hQ => ?_); simp [f343, f344]; refine hQ.out _ ?_; clear hQ; clear Q')
    refine z0a (zq rfl (zq rfl (zr rfl rfl rfl (by simp; rfl) ?_)))
    refine z0a (zb rfl (z0S h9 (z3w a0 a1 w226 w246 w248 v266) rfl rfl (by simp [z3w]) fun s o3 h10 hr3 => ?_))
    obtain ⟨w272, w273⟩ := s
    simp only [z2N] at h10
    simp only [z3w]
    refine zq rfl (zr rfl rfl rfl (by simp; rfl) ?_)
    refine z0a (zq rfl ?_)
    by_cases c355 : w272 < a0.letters
    ·rw [if_pos c355] at h10
     refine z0p rfl (by simp [c355]) (z0h rfl (z0a (zq rfl (zb rfl (zq rfl (zr rfl rfl rfl (by simp; rfl) ?_))))))
     refine z0a ?_
     obtain ⟨v278, f356, h11⟩ := z1r h10
     obtain ⟨v279, f357, h12⟩ := z0b h11
     have f357k := z6Z f357
     try simp at f357k
     obtain ⟨v280, f358, h13⟩ := z1r h12
     obtain ⟨v281, f359, h14⟩ := z1r h13
     refine z1D rfl rfl rfl rfl ?_; repeat' ((first | refine z0F rfl rfl fun Q' hQ => ?_ | refine z0w rfl fun Q' hQ => ?_); simp [f356, f357k, f358, f359]; refine hQ.out _ ?_; clear hQ; clear Q')
     refine z0k (z0a (zr rfl rfl rfl (by simp [f356]; rfl) ?_))
     have ho := z0f h14
     refine z0j ho ?_
     simp [z3w]
    ·rw [if_neg c355] at h10
     refine z0m rfl (by simp [c355]) (z1m rfl (z0E ?_))
     obtain ⟨rr3, h11, ho3⟩ := z0g h10
     have hs3 := hr3 _ ho3
     subst hs3
     refine z0r ho3 (z0c rfl (z0a ?_))
     obtain ⟨f360, h12⟩ := zsM h11
     obtain ⟨v282, f361, h13⟩ := z1r h12
     refine z1D rfl rfl rfl rfl ?_; repeat' ((first | refine z0F rfl rfl fun Q' hQ => ?_ | refine z0w rfl fun Q' hQ => ?_); simp [f360, f361]; refine hQ.out _ ?_; clear hQ; clear Q')
     refine z0k (z0a (zr rfl rfl rfl (by simp; rfl) ?_))
     have ho := z0f h13
     refine z0j ho ?_
     simp [z3F]
   ·rw [if_neg c341] at h6
    refine z0m rfl (by simp [c341]) (z1m rfl (z0E ?_))
    obtain ⟨rr2, h7, ho2⟩ := z0g h6
    have hs2 := hr2 _ ho2
    subst hs2
    refine z0r ho2 (z0c rfl (z0a (zq rfl (zq rfl (zr rfl rfl rfl (by simp; rfl) ?_)))))
    refine z0a (zb rfl (z0S h7 (z3v a1 w247) rfl rfl (by simp [z3v]) fun s o4 h8 hr4 => ?_))
    obtain ⟨w337, w338⟩ := s
    simp only [z3y] at h8
    simp only [z3v]
    refine zq rfl (zr rfl rfl rfl (by simp; rfl) ?_)
    refine z0a (zq rfl ?_)
    by_cases c504 : w337 < (a1.length : Int)
    ·rw [if_pos c504] at h8
     refine z0p rfl (by simp [c504]) (z0h rfl (z0a (zq rfl (zb rfl (zq rfl (zr rfl rfl rfl (by simp; rfl) ?_))))))
     refine z0a (zq rfl ?_)
     obtain ⟨v393, f505, h9⟩ := z0b h8
     have f505k := z3N f505
     try simp at f505k
     refine zr rfl rfl rfl (by simp [f505k]; rfl) ?_
     refine z0a (zq rfl (zr rfl rfl rfl (by simp; rfl) ?_))
     refine z0a (zb rfl (z0S h9 (z2L a1 w247 w337 v393) rfl rfl (by simp [z2L]) fun s o5 h10 hr5 => ?_))
     obtain ⟨w411, w412⟩ := s
     simp only [z3x] at h10
     simp only [z2L]
     refine zq rfl (zr rfl rfl rfl (by simp; rfl) ?_)
     refine z0a (zq rfl ?_)
     by_cases c552 : w411 < (a1.length : Int)
     ·rw [if_pos c552] at h10
      refine z0p rfl (by simp [c552]) (z0h rfl (z0a (zq rfl (zb rfl (zq rfl ?_)))))
      obtain ⟨v430, f553, h11⟩ := z1r h10
      refine zr rfl rfl rfl (by simp [f553]; rfl) ?_
      refine z0a (zq rfl (zr rfl rfl rfl (by simp; rfl) ?_))
      refine z0a (zb rfl (z0S h11 (z3u a1 w247 w337 v393 w411 w412 v430) rfl rfl (by simp [z3u]) fun s o6 h12 hr6 => ?_))
      obtain ⟨w436, hs6⟩ : ∃ y, y = s := ⟨_, rfl⟩
      subst hs6
      simp only [z2M] at h12
      simp only [z3u]
      refine zq rfl (zr rfl rfl rfl (by simp; rfl) ?_)
      refine z0a (zq rfl ?_)
      by_cases c568 : w436 < (v393.1.length : Int)
      ·rw [if_pos c568] at h12
       refine z0p rfl (by simp [c568]) (z0h rfl (z0a (zq rfl (zb rfl (zq rfl ?_)))))
       obtain ⟨v442, f569, h13⟩ := z1r h12
       refine zr rfl rfl rfl (by simp [f569]; rfl) ?_
       refine z0a (zq rfl ?_)
       obtain ⟨v443, f570, h14⟩ := z1r h13
       obtain ⟨v444, f571, h15⟩ := z0b h14
       have f571k := z3Y f571
       try simp at f571k
       refine zr rfl rfl rfl (by simp [f570, f571k]; rfl) ?_
       refine z0a ?_
       by_cases c572 : v444 = true
       ·rw [if_pos c572] at h15
        refine z0p rfl (by simp [c572]) (zq rfl ?_)
        obtain ⟨v445, f573, h16⟩ := z1r h15
        obtain ⟨v446, f574, h17⟩ := z1r h16
        refine zr rfl rfl rfl (by simp [f573, f574]; rfl) ?_
        refine z0a (z1m rfl (zae rfl (z0E ?_)))
        obtain ⟨rr6, h18, ho6⟩ := z0g h17
        have hs6 := hr6 _ ho6
        subst hs6
        refine z0r ho6 (z0c rfl (z0k (z0a (zr rfl rfl rfl (by simp [f573]; rfl) ?_))))
        have ho := z0f h18
        refine z0j ho ?_
        simp [z2L, c572]
       ·rw [if_neg c572] at h15
        refine z0m rfl (by simp [c572]) (z0h rfl (z0k (z0a (zr rfl rfl rfl (by simp; rfl) ?_))))
        have ho := z0f h15
        refine z0j ho ?_
        simp [z3u, c572]
      ·rw [if_neg c568] at h12
       refine z0m rfl (by simp [c568]) (z1m rfl (z0E ?_))
       obtain ⟨rr6, h13, ho6⟩ := z0g h12
       have hs6 := hr6 _ ho6
       subst hs6
       refine z0r ho6 (z0c rfl (z0k (z0a (zr rfl rfl rfl (by simp; rfl) ?_))))
       have ho := z0f h13
       refine z0j ho ?_
       simp [z2L]
     ·rw [if_neg c552] at h10
      refine z0m rfl (by simp [c552]) (z1m rfl (z0E ?_))
      obtain ⟨rr5, h11, ho5⟩ := z0g h10
      have hs5 := hr5 _ ho5
      subst hs5
      refine z0r ho5 (z0c rfl (z0k (z0a (zr rfl rfl rfl (by simp; rfl) ?_))))
      have ho := z0f h11
      refine z0j ho ?_
      simp [z3v]
    ·rw [if_neg c504] at h8
     refine z0m rfl (by simp [c504]) (z1m rfl (z0E ?_))
     obtain ⟨rr4, h9, ho4⟩ := z0g h8
     have hs4 := hr4 _ ho4
     subst hs4
     refine z0r ho4 (z0c rfl (z0a (zq rfl (zr rfl rfl rfl (by simp; rfl) ?_))))
     refine z0a (z0U rfl ?_)
     cases h9
     simp
def z2G (a0 : Dgm) (w50 : Int) (w52 : List Int) : Int × List Int → Option ((Int × List Int) ⊕ ((Int × List Int × List Int) ⊕ (List Int × List Int)))
  | (w82, w83) =>
  if w82 < (w52.length : Int) then
    (atI w52 w82).bind fun v90 =>
    (atI a0.below w50).bind fun v91 =>
    (atI v91 v90).bind fun v92 =>
    if v92 = true then
      (atI a0.below v90).bind fun v93 =>
      (atI v93 w50).bind fun v94 =>
      if v94 = true then
        (atI w83 w50).bind fun v95 =>
        z0Y (IntKind.i64.wrap (w82 + 1), (w83.set w50.toNat w82))
      else
        z0Y (IntKind.i64.wrap (w82 + 1), w83)
    else
      z0Y (IntKind.i64.wrap (w82 + 1), w83)
  else
    z1n <|
    (atI w83 w50).bind fun v96 =>
    if v96 = (w52.length : Int) then
      chk (z3i 8 (w52.length + 1)) <|
      z0Y (IntKind.i64.wrap (w50 + 1), w83, w52 ++ [w50])
    else
      z0Y (IntKind.i64.wrap (w50 + 1), w83, w52)
def z1K (a0 : Dgm) (w50 : Int) (w52 : List Int) : Int × List Int → Fr
  | (w82, w83) => ⟨68, [(1, .one (.a 1 [] (0))), (4, .one (.h 4 [])), (5, .one (.h 5 [])), (6, .one (.t none (.sc (.int .i64 w50)))), (15, .one (.t none (.sc (.int .i64 (a0.sets.length : Int))))), (16, .one (.t none (.sc (.int .i64 w50)))), (24, .one (.h 5 [])), (25, .one (.t none (.sc (.int .i64 (w52.length : Int))))), (26, .one (.t none (.sc (.int .i64 w82))))], [(1, .vr [.sl a0.sets.length (a0.sets.map fun x0 => .sc (.int .i64 x0)), .sl a0.next.length (a0.next.map fun x0 => .sl x0.length (x0.map fun x1 => .sc (.int .i64 x1))), .sl a0.below.length (a0.below.map fun x0 => .sl x0.length (x0.map fun x1 => .sc (.bool x1)))]), (4, .os 1 w83.length (w83.map fun x0 => .sc (.int .i64 x0))), (5, .os 1 w52.length (w52.map fun x0 => .sc (.int .i64 x0)))]⟩
def z2H (a0 : Dgm) : Int × List Int × List Int → Option ((Int × List Int × List Int) ⊕ (List Int × List Int))
  | (w50, w51, w52) =>
  if w50 < (a0.sets.length : Int) then
    (atI w51 w50).bind fun v75 =>
    z1j (z2G a0 w50 w52) LFm (0, (w51.set w50.toNat (w52.length : Int)))
  else
    z1n <|
    some (w51, w52)
def z1Z (a0 : Dgm) : Int × List Int × List Int → Fr
  | (w50, w51, w52) => ⟨68, [(1, .one (.a 1 [] (0))), (4, .one (.h 4 [])), (5, .one (.h 5 [])), (15, .one (.t none (.sc (.int .i64 (a0.sets.length : Int))))), (16, .one (.t none (.sc (.int .i64 w50))))], [(1, .vr [.sl a0.sets.length (a0.sets.map fun x0 => .sc (.int .i64 x0)), .sl a0.next.length (a0.next.map fun x0 => .sl x0.length (x0.map fun x1 => .sc (.int .i64 x1))), .sl a0.below.length (a0.below.map fun x0 => .sl x0.length (x0.map fun x1 => .sc (.bool x1)))]), (4, .os 1 w51.length (w51.map fun x0 => .sc (.int .i64 x0))), (5, .os 1 w52.length (w52.map fun x0 => .sc (.int .i64 x0)))]⟩
def z2w (a0 : Dgm) : Option (List Int × List Int) :=
  chk (z3l 8 (a0.sets.length : Int)) <|
  z1j (z2H a0) LFm (0, List.replicate (a0.sets.length : Int).toNat (0 : Int), [])
theorem z7b {a0 : Dgm} {r : List Int × List Int} (h0 : z2w a0 = some r) : L 38 [.agg [.sl a0.sets.length (a0.sets.map fun x0 => .sc (.int .i64 x0)), .sl a0.next.length (a0.next.map fun x0 => .sl x0.length (x0.map fun x1 => .sc (.int .i64 x1))), .sl a0.below.length (a0.below.map fun x0 => .sl x0.length (x0.map fun x1 => .sc (.bool x1)))]] = some (.tup [.os 1 r.1.length (r.1.map fun x0 => .sc (.int .i64 x0)), .os 1 r.2.length (r.2.map fun x0 => .sc (.int .i64 x0))], [.dead]) := by
  simp only [z2w] at h0
  refine z2l zuL zwb (z1l zyo ⟨of_decide_eq_true rfl, of_decide_eq_true rfl⟩ ?_)
  simp only [z1z, z1w, z1s, z1A, z2X]
  refine zq rfl (zr rfl rfl rfl (by simp; rfl) ?_)
  refine z0a (zq rfl ?_)
  obtain ⟨f72, h1⟩ := zoQ h0
  refine zr rfl rfl rfl (by simp [f72]; rfl) ?_
  refine z0a (zq rfl (zr rfl rfl rfl (by simp; rfl) ?_))
  refine z0a (zq rfl (zq rfl (zr rfl rfl rfl (by simp; rfl) ?_)))
  refine z0a (zb rfl (z0S h1 (z1Z a0) rfl rfl (by simp [z1Z]) fun s o1 h2 hr1 => ?_))
  obtain ⟨w50, w51, w52⟩ := s
  simp only [z2H] at h2
  simp only [z1Z]
  refine zq rfl (zr rfl rfl rfl (by simp; rfl) ?_)
  refine z0a (zq rfl ?_)
  by_cases c111 : w50 < (a0.sets.length : Int)
  ·rw [if_pos c111] at h2
   refine z0p rfl (by simp [c111]) (z0h rfl (z0a (zq rfl (zb rfl (zq rfl (zr rfl rfl rfl (by simp; rfl) ?_))))))
   refine z0a (zq rfl ?_)
   obtain ⟨v75, f112, h3⟩ := z1r h2
   refine zr rfl rfl rfl (by simp [f112]; rfl) ?_
   refine z0a (zq rfl (zq rfl (zr rfl rfl rfl (by simp; rfl) ?_)))
   refine z0a (zb rfl (z0S h3 (z1K a0 w50 w52) rfl rfl (by simp [z1K]) fun s o2 h4 hr2 => ?_))
   obtain ⟨w82, w83⟩ := s
   simp only [z2G] at h4
   simp only [z1K]
   refine zq rfl (zr rfl rfl rfl (by simp; rfl) ?_)
   refine z0a (zq rfl ?_)
   by_cases c131 : w82 < (w52.length : Int)
   ·rw [if_pos c131] at h4
    refine z0p rfl (by simp [c131]) (z0h rfl (z0a (zq rfl (zb rfl (zq rfl ?_)))))
    obtain ⟨v90, f132, h5⟩ := z1r h4
    refine zr rfl rfl rfl (by simp [f132]; rfl) ?_
    refine z0a (zq rfl ?_)
    obtain ⟨v91, f133, h6⟩ := z1r h5
    obtain ⟨v92, f134, h7⟩ := z1r h6
    by_cases c135 : v92 = true
    ·rw [if_pos c135] at h7
     obtain ⟨v93, f136, h8⟩ := z1r h7
     obtain ⟨v94, f137, h9⟩ := z1r h8
     refine zr rfl rfl rfl (by simp [f133, f134, c135, f136, f137]; rfl) ?_
     refine z0a ?_
     by_cases c138 : v94 = true
     ·rw [if_pos c138] at h9
      refine z0p rfl (by simp [c138]) ?_
      obtain ⟨v95, f139, h10⟩ := z1r h9
      refine zr rfl rfl rfl (by simp [f139]; rfl) ?_
      refine z0k (z0a (zr rfl rfl rfl (by simp; rfl) ?_))
      have ho := z0f h10
      refine z0j ho ?_
      simp [z1K, c135, c138]
     ·rw [if_neg c138] at h9
      refine z0m rfl (by simp [c138]) (z0h rfl (z0k (z0a (zr rfl rfl rfl (by simp; rfl) ?_))))
      have ho := z0f h9
      refine z0j ho ?_
      simp [z1K, c135, c138]
    ·rw [if_neg c135] at h7
     refine zr rfl rfl rfl (by simp [f133, f134, c135]; rfl) ?_
     refine z0a (z0m rfl (by simp) (z0h rfl (z0k (z0a (zr rfl rfl rfl (by simp; rfl) ?_)))))
     have ho := z0f h7
     refine z0j ho ?_
     simp [z1K, c135]
   ·rw [if_neg c131] at h4
    refine z0m rfl (by simp [c131]) (z1m rfl (z0E ?_))
    obtain ⟨rr2, h5, ho2⟩ := z0g h4
    have hs2 := hr2 _ ho2
    subst hs2
    refine z0r ho2 (z0c rfl (z0a (zq rfl ?_)))
    obtain ⟨v96, f140, h6⟩ := z1r h5
    refine zr rfl rfl rfl (by simp [f140]; rfl) ?_
    refine z0a ?_
    by_cases c141 : v96 = (w52.length : Int)
    ·rw [if_pos c141] at h6
     have c141e := eq_true c141
     refine z0p rfl (by simp [c141e]) ?_
     obtain ⟨f142, h7⟩ := z8f h6
     refine zr rfl rfl rfl (by simp [f142]; rfl) ?_
     refine z0k (z0a (zr rfl rfl rfl (by simp; rfl) ?_))
     have ho := z0f h7
     refine z0j ho ?_
     simp [z1Z]
    ·rw [if_neg c141] at h6
     have c141e := eq_false c141
     refine z0m rfl (by simp [c141e]) (z0h rfl (z0k (z0a (zr rfl rfl rfl (by simp; rfl) ?_))))
     have ho := z0f h6
     refine z0j ho ?_
     simp [z1Z]
  ·rw [if_neg c111] at h2
   refine z0m rfl (by simp [c111]) (z1m rfl (z0E ?_))
   obtain ⟨rr1, h3, ho1⟩ := z0g h2
   have hs1 := hr1 _ ho1
   subst hs1
   refine z0r ho1 (z0c rfl (z0a (zq rfl (zr rfl rfl rfl (by simp; rfl) ?_))))
   refine z0a (z0U rfl ?_)
   cases h3
   simp
def z2R (a0 : Dgm) (w64 : List Int) (w85 : Int) (w86 : List Int) (v101 : Int) : Int → Option (Int ⊕ ((Int × List Int) ⊕ List Int))
  | w106 =>
  if w106 < (w64.length : Int) then
    (atI w64 w106).bind fun v111 =>
    if v111 = v101 then
      z0Y (IntKind.i64.wrap (w106 + 1))
    else
      (atI a0.sets v111).bind fun v112 =>
      (atI a0.sets v101).bind fun v113 =>
      (z2O v112 v113).bind fun v114 =>
      if v114 = true then
        z1n <|
        z0Y (IntKind.i64.wrap (w85 + 1), w86)
      else
        z0Y (IntKind.i64.wrap (w106 + 1))
  else
    z1n <|
    chk (z3i 8 (w86.length + 1)) <|
    z0Y (IntKind.i64.wrap (w85 + 1), w86 ++ [v101])
def z2d (a0 : Dgm) (w64 : List Int) (w85 : Int) (w86 : List Int) (v101 : Int) : Int → Fr
  | w106 => ⟨80, [(2, .one (.a 2 [] (0))), (5, .one (.h 5 [])), (8, .one (.h 8 [])), (10, .one (.t none (.sc (.int .i64 v101)))), (45, .one (.h 5 [])), (46, .one (.t none (.sc (.int .i64 (w64.length : Int))))), (47, .one (.t none (.sc (.int .i64 w85)))), (51, .one (.h 5 [])), (52, .one (.t none (.sc (.int .i64 (w64.length : Int))))), (53, .one (.t none (.sc (.int .i64 w106))))], [(2, .vr [.sl a0.sets.length (a0.sets.map fun x0 => .sc (.int .i64 x0)), .sl a0.next.length (a0.next.map fun x0 => .sl x0.length (x0.map fun x1 => .sc (.int .i64 x1))), .sl a0.below.length (a0.below.map fun x0 => .sl x0.length (x0.map fun x1 => .sc (.bool x1)))]), (5, .os 1 w64.length (w64.map fun x0 => .sc (.int .i64 x0))), (8, .os 1 w86.length (w86.map fun x0 => .sc (.int .i64 x0)))]⟩
def z2f (a0 : Dgm) (w64 : List Int) : Int × List Int → Option ((Int × List Int) ⊕ List Int)
  | (w85, w86) =>
  if w85 < (w64.length : Int) then
    (atI w64 w85).bind fun v101 =>
    z1j (z2R a0 w64 w85 w86 v101) LFm 0
  else
    z1n <|
    some w86
def z2e (a0 : Dgm) (w64 : List Int) : Int × List Int → Fr
  | (w85, w86) => ⟨80, [(2, .one (.a 2 [] (0))), (5, .one (.h 5 [])), (8, .one (.h 8 [])), (45, .one (.h 5 [])), (46, .one (.t none (.sc (.int .i64 (w64.length : Int))))), (47, .one (.t none (.sc (.int .i64 w85))))], [(2, .vr [.sl a0.sets.length (a0.sets.map fun x0 => .sc (.int .i64 x0)), .sl a0.next.length (a0.next.map fun x0 => .sl x0.length (x0.map fun x1 => .sc (.int .i64 x1))), .sl a0.below.length (a0.below.map fun x0 => .sl x0.length (x0.map fun x1 => .sc (.bool x1)))]), (5, .os 1 w64.length (w64.map fun x0 => .sc (.int .i64 x0))), (8, .os 1 w86.length (w86.map fun x0 => .sc (.int .i64 x0)))]⟩
def z3c (a0 : Dgm) (a1 : Int) : Int × List Int → Option ((Int × List Int) ⊕ List Int)
  | (w63, w64) =>
  if w63 < (a0.sets.length : Int) then
    (atI a0.sets w63).bind fun v68 =>
    if w63 = a1 then
      z0Y (IntKind.i64.wrap (w63 + 1), w64)
    else
      (atI a0.sets a1).bind fun v69 =>
      (z2O v69 v68).bind fun v70 =>
      if v70 = true then
        chk (z3i 8 (w64.length + 1)) <|
        z0Y (IntKind.i64.wrap (w63 + 1), w64 ++ [w63])
      else
        z0Y (IntKind.i64.wrap (w63 + 1), w64)
  else
    z1n <|
    z1j (z2f a0 w64) LFm (0, [])
def z1S (a0 : Dgm) (a1 : Int) : Int × List Int → Fr
  | (w63, w64) => ⟨80, [(1, .one (.t none (.sc (.int .i64 a1)))), (2, .one (.a 2 [] (0))), (5, .one (.h 5 [])), (21, .one (.t none (.sl a0.sets.length (a0.sets.map fun x0 => .sc (.int .i64 x0))))), (22, .one (.t none (.sc (.int .i64 (a0.sets.length : Int))))), (23, .one (.t none (.sc (.int .i64 w63))))], [(2, .vr [.sl a0.sets.length (a0.sets.map fun x0 => .sc (.int .i64 x0)), .sl a0.next.length (a0.next.map fun x0 => .sl x0.length (x0.map fun x1 => .sc (.int .i64 x1))), .sl a0.below.length (a0.below.map fun x0 => .sl x0.length (x0.map fun x1 => .sc (.bool x1)))]), (5, .os 1 w64.length (w64.map fun x0 => .sc (.int .i64 x0)))]⟩
def z2W (a0 : Dgm) (a1 : Int) : Option (List Int) :=
  (atI a0.sets a1).bind fun v58 =>
  (z5w v58).bind fun v59 =>
  if v59 = 1 then
    some []
  else
    z1j (z3c a0 a1) LFm (0, [])
theorem z7M {a0 : Dgm} {a1 : Int} {r : List Int} (h0 : z2W a0 a1 = some r) : L 40 [.agg [.sl a0.sets.length (a0.sets.map fun x0 => .sc (.int .i64 x0)), .sl a0.next.length (a0.next.map fun x0 => .sl x0.length (x0.map fun x1 => .sc (.int .i64 x1))), .sl a0.below.length (a0.below.map fun x0 => .sl x0.length (x0.map fun x1 => .sc (.bool x1)))], .sc (.int .i64 a1)] = some (.os 1 r.length (r.map fun x0 => .sc (.int .i64 x0)), [.dead, .dead]) := by
  simp only [z2W] at h0
  refine z2l zuJ zw9 (z1l zym ⟨of_decide_eq_true rfl, of_decide_eq_true rfl⟩ ?_)
  simp only [z1z, z1w, z1s, z1A, z2X]
  refine zq rfl (zr rfl rfl rfl (by simp; rfl) ?_)
  refine z0a (zqE rfl (zq rfl (zq rfl ?_)))
  obtain ⟨v58, f94, h1⟩ := z1r h0
  obtain ⟨v59, f95, h2⟩ := z0b h1
  have f95k := z9H f95
  try simp at f95k
  refine zr rfl rfl rfl (by simp [f94, f95k]; rfl) ?_
  refine z0a ?_
  by_cases c96 : v59 = 1
  ·rw [if_pos c96] at h2
   have c96e := eq_true c96
   refine z0p rfl (by simp [c96e]) (zq rfl (zr rfl rfl rfl (by simp; rfl) ?_))
   refine z0a (z0U rfl (z0n ?_))
   cases h2
   simp
  ·rw [if_neg c96] at h2
   have c96e := eq_false c96
   refine z0m rfl (by simp [c96e]) (z0h rfl (z0a (zq rfl (zr rfl rfl rfl (by simp; rfl) ?_))))
   refine z0a (zq rfl (zq rfl (zr rfl rfl rfl (by simp; rfl) ?_)))
   refine z0a (zb rfl (z0S h2 (z1S a0 a1) rfl rfl (by simp [z1S]) fun s o1 h3 hr1 => ?_))
   obtain ⟨w63, w64⟩ := s
   simp only [z3c] at h3
   simp only [z1S]
   refine zq rfl (zr rfl rfl rfl (by simp; rfl) ?_)
   refine z0a (zq rfl ?_)
   by_cases c110 : w63 < (a0.sets.length : Int)
   ·rw [if_pos c110] at h3
    refine z0p rfl (by simp [c110]) (z0h rfl (z0a (zq rfl (zb rfl (zq rfl ?_)))))
    obtain ⟨v68, f111, h4⟩ := z1r h3
    refine zr rfl rfl rfl (by simp [f111]; rfl) ?_
    refine z0a (zq rfl ?_)
    by_cases c112 : w63 = a1
    ·rw [if_pos c112] at h4
     have c112e := eq_true c112
     refine zr rfl rfl rfl (by simp [c112e]; rfl) ?_
     refine z0a (z0m rfl (by simp) (z0h rfl (z0k (z0a (zr rfl rfl rfl (by simp; rfl) ?_)))))
     have ho := z0f h4
     refine z0j ho ?_
     simp [z1S]
    ·rw [if_neg c112] at h4
     have c112e := eq_false c112
     obtain ⟨v69, f113, h5⟩ := z1r h4
     obtain ⟨v70, f114, h6⟩ := z0b h5
     have f114k := z3Y f114
     try simp at f114k
     refine zr rfl rfl rfl (by simp [c112e, f113, f114k]; rfl) ?_
     refine z0a ?_
     by_cases c115 : v70 = true
     ·rw [if_pos c115] at h6
      refine z0p rfl (by simp [c115]) ?_
      obtain ⟨f116, h7⟩ := z8f h6
      refine zr rfl rfl rfl (by simp [f116]; rfl) ?_
      refine z0k (z0a (zr rfl rfl rfl (by simp; rfl) ?_))
      have ho := z0f h7
      refine z0j ho ?_
      simp [z1S, c115]
     ·rw [if_neg c115] at h6
      refine z0m rfl (by simp [c115]) (z0h rfl (z0k (z0a (zr rfl rfl rfl (by simp; rfl) ?_))))
      have ho := z0f h6
      refine z0j ho ?_
      simp [z1S, c115]
   ·rw [if_neg c110] at h3
    refine z0m rfl (by simp [c110]) (z1m rfl (z0E ?_))
    obtain ⟨rr1, h4, ho1⟩ := z0g h3
    have hs1 := hr1 _ ho1
    subst hs1
    refine z0r ho1 (z0c rfl (z0a (zq rfl (zr rfl rfl rfl (by simp; rfl) ?_))))
    refine z0a (zq rfl (zqF rfl (z0a (zq rfl (zq rfl (zr rfl rfl rfl (by simp; rfl) ?_))))))
    refine z0a (zb rfl (z0S h4 (z2e a0 w64) rfl rfl (by simp [z2e]) fun s o2 h5 hr2 => ?_))
    obtain ⟨w85, w86⟩ := s
    simp only [z2f] at h5
    simp only [z2e]
    refine zq rfl (zr rfl rfl rfl (by simp; rfl) ?_)
    refine z0a (zq rfl ?_)
    by_cases c164 : w85 < (w64.length : Int)
    ·rw [if_pos c164] at h5
     refine z0p rfl (by simp [c164]) (z0h rfl (z0a (zq rfl (zb rfl (zq rfl ?_)))))
     obtain ⟨v101, f165, h6⟩ := z1r h5
     refine zr rfl rfl rfl (by simp [f165]; rfl) ?_
     refine z0a (zq rfl (zq rfl (zr rfl rfl rfl (by simp; rfl) ?_)))
     refine z0a (zb rfl (z0S h6 (z2d a0 w64 w85 w86 v101) rfl rfl (by simp [z2d]) fun s o3 h7 hr3 => ?_))
     obtain ⟨w106, hs3⟩ : ∃ y, y = s := ⟨_, rfl⟩
     subst hs3
     simp only [z2R] at h7
     simp only [z2d]
     refine zq rfl (zr rfl rfl rfl (by simp; rfl) ?_)
     refine z0a (zq rfl ?_)
     by_cases c180 : w106 < (w64.length : Int)
     ·rw [if_pos c180] at h7
      refine z0p rfl (by simp [c180]) (z0h rfl (z0a (zq rfl (zb rfl (zq rfl ?_)))))
      obtain ⟨v111, f181, h8⟩ := z1r h7
      refine zr rfl rfl rfl (by simp [f181]; rfl) ?_
      refine z0a (zq rfl ?_)
      by_cases c182 : v111 = v101
      ·rw [if_pos c182] at h8
       have c182e := eq_true c182
       refine z1D rfl rfl rfl rfl ?_; repeat' (first | (refine z0F rfl rfl fun Q' hQ => ?_; simp [c182e]; refine hQ.out _ ?_; clear hQ; clear Q') | (refine z2Z rfl rfl fun Q1 Q2 h1 h2 => ?_; simp [c182e, z4Y]; (first | refine h1.out ?_ | refine h2.out ?_); clear h1 h2; clear Q1 Q2; intro Q' hQ; simp [c182e]; refine hQ.out _ ?_; clear hQ; clear Q') | (refine z0w rfl fun Q' hQ => ?_; simp [c182e]; refine hQ.out _ ?_; clear hQ; clear Q'))
       refine z0a (z0m rfl (by simp) (z0h rfl (z0k (z0a (zr rfl rfl rfl (by simp; rfl) ?_)))))
       have ho := z0f h8
       refine z0j ho ?_
       simp [z2d]
      ·rw [if_neg c182] at h8
       have c182e := eq_false c182
       obtain ⟨v112, f183, h9⟩ := z1r h8
       obtain ⟨v113, f184, h10⟩ := z1r h9
       obtain ⟨v114, f185, h11⟩ := z0b h10
       have f185k := z3Y f185
       try simp at f185k
       refine z1D rfl rfl rfl rfl ?_; repeat' (first | (refine z0F rfl rfl fun Q' hQ => ?_; simp [c182e, f183, f184, f185k]; refine hQ.out _ ?_; clear hQ; clear Q') | (refine z2Z rfl rfl fun Q1 Q2 h1 h2 => ?_; simp [c182e, f183, f184, f185k, z4Y]; (first | refine h1.out ?_ | refine h2.out ?_); clear h1 h2; clear Q1 Q2; intro Q' hQ; simp [c182e, f183, f184, f185k]; refine hQ.out _ ?_; clear hQ; clear Q') | (refine z0w rfl fun Q' hQ => ?_; simp [c182e, f183, f184, f185k]; refine hQ.out _ ?_; clear hQ; clear Q'))
       refine z0a ?_
       by_cases c186 : v114 = true
       ·rw [if_pos c186] at h11
        refine z0p rfl (by simp [c186]) (z1m rfl (zae rfl (z0E ?_)))
        obtain ⟨rr3, h12, ho3⟩ := z0g h11
        have hs3 := hr3 _ ho3
        subst hs3
        refine z0r ho3 (zae rfl (z0E (z0c rfl (z0a (zr rfl rfl rfl (by simp; rfl) ?_)))))
        have ho := z0f h12
        refine z0j ho ?_
        simp [z2e, c186]
       ·rw [if_neg c186] at h11
        refine z0m rfl (by simp [c186]) (z0h rfl (z0k (z0a (zr rfl rfl rfl (by simp; rfl) ?_))))
        have ho := z0f h11
        refine z0j ho ?_
        simp [z2d, c186]
     ·rw [if_neg c180] at h7
      refine z0m rfl (by simp [c180]) (z1m rfl (z0E ?_))
      obtain ⟨rr3, h8, ho3⟩ := z0g h7
      have hs3 := hr3 _ ho3
      subst hs3
      refine z0r ho3 (z0c rfl (z0a ?_))
      obtain ⟨f187, h9⟩ := z8f h8
      refine zr rfl rfl rfl (by simp [f187]; rfl) ?_
      refine z0k (z0a (zr rfl rfl rfl (by simp; rfl) ?_))
      have ho := z0f h9
      refine z0j ho ?_
      simp [z2e]
    ·rw [if_neg c164] at h5
     refine z0m rfl (by simp [c164]) (z1m rfl (z0E ?_))
     obtain ⟨rr2, h6, ho2⟩ := z0g h5
     have hs2 := hr2 _ ho2
     subst hs2
     refine z0r ho2 (z0c rfl (z0a (zq rfl (zr rfl rfl rfl (by simp; rfl) ?_))))
     refine z0a (z0U rfl ?_)
     cases h6
     simp
def z2Q (a0 : List Int) (a1 : Int) : Int → Option (Int ⊕ Int)
  | w6 =>
  if w6 < (a0.length : Int) then
    (atI a0 w6).bind fun v8 =>
    if a1 = v8 then
      z1n <|
      some w6
    else
      z0Y (IntKind.i64.wrap (w6 + 1))
  else
    z1n <|
    some (-1)
def z2P (a0 : List Int) (a1 : Int) : Int → Fr
  | w6 => ⟨19, [(0, .one (.t none (.sl a0.length (a0.map fun x0 => .sc (.int .i64 x0))))), (1, .one (.t none (.sc (.int .i64 a1)))), (7, .one (.t none (.sc (.int .i64 (a0.length : Int))))), (8, .one (.t none (.sc (.int .i64 w6))))], []⟩
def z3p (a0 : List Int) (a1 : Int) : Option (Int) :=
  z1j (z2Q a0 a1) LFm 0
theorem z7m {a0 : List Int} {a1 : Int} {r : Int} (h0 : z3p a0 a1 = some r) : L 74 [.sl a0.length (a0.map fun x0 => .sc (.int .i64 x0)), .sc (.int .i64 a1)] = some (.sc (.int .i64 r), [.dead, .dead]) := by
  simp only [z3p] at h0
  refine z2l zul zvL (z1l zxY ⟨of_decide_eq_true rfl, of_decide_eq_true rfl⟩ ?_)
  simp only [z1z, z1w, z1s, z1A, z2X]
  refine zq rfl (zr rfl rfl rfl (by simp; rfl) ?_)
  refine z0a (zq rfl (zq rfl (zr rfl rfl rfl (by simp; rfl) ?_)))
  refine z0a (zb rfl (z0S h0 (z2P a0 a1) rfl rfl (by simp [z2P]) fun s o1 h1 hr1 => ?_))
  obtain ⟨w6, hs1⟩ : ∃ y, y = s := ⟨_, rfl⟩
  subst hs1
  simp only [z2Q] at h1
  simp only [z2P]
  refine zq rfl (zr rfl rfl rfl (by simp; rfl) ?_)
  refine z0a (zq rfl ?_)
  by_cases c16 : w6 < (a0.length : Int)
  ·rw [if_pos c16] at h1
   refine z0p rfl (by simp [c16]) (z0h rfl (z0a (zq rfl (zb rfl (zq rfl (zr rfl rfl rfl (by simp; rfl) ?_))))))
   refine z0a (zq rfl ?_)
   obtain ⟨v8, f17, h2⟩ := z1r h1
   refine zr rfl rfl rfl (by simp [f17]; rfl) ?_
   refine z0a ?_
   by_cases c18 : a1 = v8
   ·rw [if_pos c18] at h2
    have c18e := eq_true c18
    refine z0p rfl (by simp [c18e]) (zq rfl (zr rfl rfl rfl (by simp; rfl) ?_))
    refine z0a (z0U rfl (z1c (z0n ?_)))
    obtain ⟨rr1, h3, ho1⟩ := z0g h2
    have hs1 := hr1 _ ho1
    subst hs1
    refine z2i ho1 (z1c (z0n ?_))
    cases h3
    simp
   ·rw [if_neg c18] at h2
    have c18e := eq_false c18
    refine z0m rfl (by simp [c18e]) (z0h rfl (z0k (z0a (zr rfl rfl rfl (by simp; rfl) ?_))))
    have ho := z0f h2
    refine z0j ho ?_
    simp [z2P]
  ·rw [if_neg c16] at h1
   refine z0m rfl (by simp [c16]) (z1m rfl (z0E ?_))
   obtain ⟨rr1, h2, ho1⟩ := z0g h1
   have hs1 := hr1 _ ho1
   subst hs1
   refine z0r ho1 (z0c rfl (z0a (zq rfl (zr rfl rfl rfl (by simp; rfl) ?_))))
   refine z0a (z0U rfl ?_)
   cases h2
   simp
def z2c (a0 : List Int) (a1 : Int) : Option (Bool) :=
  (z3p a0 a1).bind fun v2 =>
  some (decide (0 ≤ v2))
theorem z6y {a0 : List Int} {a1 : Int} {r : Bool} (h0 : z2c a0 a1 = some r) : L 63 [.sl a0.length (a0.map fun x0 => .sc (.int .i64 x0)), .sc (.int .i64 a1)] = some (.sc (.bool r), [.dead, .dead]) := by
  simp only [z2c] at h0
  refine z2l zus zvS (z1l zy5 ⟨of_decide_eq_true rfl, of_decide_eq_true rfl⟩ ?_)
  simp only [z1z, z1w, z1s, z1A, z2X]
  refine zq rfl (zr rfl rfl rfl (by simp; rfl) ?_)
  refine z0a (zq rfl ?_)
  obtain ⟨v2, f2, h1⟩ := z0b h0
  have f2k := z7m f2
  try simp at f2k
  refine zr rfl rfl rfl (by simp [f2k]; rfl) ?_
  refine z0a (z0U rfl ?_)
  cases h1
  simp
def z5I (a0 : DFA) : Int × List Int → Option ((Int × List Int) ⊕ List Int)
  | (w10, w11) =>
  if w10 < (a0.final.length : Int) then
    chk (¬ w10 < 0) <|
    (z2c w11 (zht .i64 1 w10)).bind fun v13 =>
    if v13 = true then
      z0Y (IntKind.i64.wrap (w10 + 1), w11)
    else
      chk (z3i 8 (w11.length + 1)) <|
      z0Y (IntKind.i64.wrap (w10 + 1), w11 ++ [zht .i64 1 w10])
  else
    z1n <|
    (zl4 w11).bind fun v14 =>
    some v14
def z4H (a0 : DFA) : Int × List Int → Fr
  | (w10, w11) => ⟨36, [(3, .one (.h 3 [])), (18, .one (.t none (.sc (.int .i64 (a0.final.length : Int))))), (19, .one (.t none (.sc (.int .i64 w10))))], [(3, .os 1 w11.length (w11.map fun x0 => .sc (.int .i64 x0)))]⟩
def z6G (a0 : DFA) : Option (List Int) :=
  chk (¬ (a0.final.length : Int) < 0) <|
  (z4U a0 (IntKind.i64.wrap ((zht .i64 1 (a0.final.length : Int)) - 1))).bind fun v8 =>
  z1j (z5I a0) LFm (0, v8.1)
theorem zeA {a0 : DFA} {r : List Int} (h0 : z6G a0 = some r) : L 36 [.agg [.sc (.int .i64 a0.letters), .sc (.int .i64 a0.start), .sl a0.final.length (a0.final.map fun x0 => .sc (.bool x0)), .sl a0.next.length (a0.next.map fun x0 => .sl x0.length (x0.map fun x1 => .sc (.int .i64 x1)))]] = some (.os 1 r.length (r.map fun x0 => .sc (.int .i64 x0)), [.dead]) := by
  simp only [z6G] at h0
  refine z2l zuN zwd (z1l zyq ⟨of_decide_eq_true rfl, of_decide_eq_true rfl⟩ ?_)
  simp only [z1z, z1w, z1s, z1A, z2X]
  refine zq rfl (zr rfl rfl rfl (by simp; rfl) ?_)
  refine z0a (zq rfl ?_)
  obtain ⟨f18, h1⟩ := z1E h0
  obtain ⟨v8, f19, h2⟩ := z0b h1
  have f19k := z8x f19
  try simp at f19k
  refine z1D rfl rfl rfl rfl ?_; repeat' ((first | refine z0F rfl rfl fun Q' hQ => ?_ | refine z0w rfl fun Q' hQ => ?_); simp [f18, f19k]; refine hQ.out _ ?_; clear hQ; clear Q')
  refine z0a (zq rfl (zq rfl (zr rfl rfl rfl (by simp; rfl) ?_)))
  refine z0a (zb rfl (z0S h2 (z4H a0) rfl rfl (by simp [z4H]) fun s o1 h3 hr1 => ?_))
  obtain ⟨w10, w11⟩ := s
  simp only [z5I] at h3
  simp only [z4H]
  refine zq rfl (zr rfl rfl rfl (by simp; rfl) ?_)
  refine z0a (zq rfl ?_)
  by_cases c29 : w10 < (a0.final.length : Int)
  ·rw [if_pos c29] at h3
   refine z0p rfl (by simp [c29]) (z0h rfl (z0a (zq rfl (zb rfl (zq rfl (zr rfl rfl rfl (by simp; rfl) ?_))))))
   refine z0a (zq rfl ?_)
   obtain ⟨f30, h4⟩ := z1E h3
   obtain ⟨v13, f31, h5⟩ := z0b h4
   have f31k := z6y f31
   try simp at f31k
   refine zr rfl rfl rfl (by simp [f30, f31k]; rfl) ?_
   refine z0a ?_
   by_cases c32 : v13 = true
   ·rw [if_pos c32] at h5
    refine z0m rfl (by simp [c32]) (z0h rfl (z0k (z0a (zr rfl rfl rfl (by simp; rfl) ?_))))
    have ho := z0f h5
    refine z0j ho ?_
    simp [z4H, c32]
   ·rw [if_neg c32] at h5
    refine z0p rfl (by simp [c32]) ?_
    obtain ⟨f33, h6⟩ := z8f h5
    refine zr rfl rfl rfl (by simp [f30, f33]; rfl) ?_
    refine z0k (z0a (zr rfl rfl rfl (by simp; rfl) ?_))
    have ho := z0f h6
    refine z0j ho ?_
    simp [z4H, c32]
  ·rw [if_neg c29] at h3
   refine z0m rfl (by simp [c29]) (z1m rfl (z0E ?_))
   obtain ⟨rr1, h4, ho1⟩ := z0g h3
   have hs1 := hr1 _ ho1
   subst hs1
   refine z0r ho1 (z0c rfl (z0a (zq rfl ?_)))
   obtain ⟨v14, f34, h5⟩ := z0b h4
   have f34k := zoY f34
   try simp at f34k
   refine zr rfl rfl rfl (by simp [f34k]; rfl) ?_
   refine z0a (zq rfl (zr rfl rfl rfl (by simp; rfl) ?_))
   refine z0a (z0U rfl ?_)
   cases h5
   simp
def z5g (v69 : List Int) (v71 : List Int × List Int) (w107 : Int) (v123 : List Int × List ByteArray) : Int × List ByteArray → Option ((Int × List ByteArray) ⊕ ((Int × List ByteArray) ⊕ (Imgs × Int)))
  | (w127, w128) =>
  if w127 < (v69.length : Int) then
    (atI v71.1 w127).bind fun v132 =>
    if v132 = w107 then
      (atI v123.2 w127).bind fun v133 =>
      (atI w128 w127).bind fun v134 =>
      z0Y (IntKind.i64.wrap (w127 + 1), (w128.set w127.toNat v133))
    else
      z0Y (IntKind.i64.wrap (w127 + 1), w128)
  else
    z1n <|
    z0Y (IntKind.i64.wrap (w107 + 1), w128)
def z5f (v69 : List Int) (v70 : Dgm) (v71 : List Int × List Int) (v72 : List Int) (w79 : List (List Int)) (w80 : List ByteArray) (w107 : Int) (v123 : List Int × List ByteArray) : Int × List ByteArray → Fr
  | (w127, w128) => ⟨120, [(2, .one (.a 2 [] (0))), (5, .one (.t none (.sl v69.length (v69.map fun x0 => .sc (.int .i64 x0))))), (7, .one (.a 7 [] (0))), (8, .one (.t none (.sl v71.1.length (v71.1.map fun x0 => .sc (.int .i64 x0))))), (10, .one (.a 10 [] (0))), (14, .one (.t none (.sc (.int .i64 w107)))), (17, .one (.h 17 [])), (85, .one (.h 9 [])), (86, .one (.t none (.sc (.int .i64 (v71.2.length : Int))))), (87, .one (.t none (.sc (.int .i64 w107)))), (99, .one (.t none (.sc (.int .i64 (v69.length : Int))))), (100, .one (.t none (.sc (.int .i64 w127))))], [(2, .vr [.os 1 0 [], .os 1 0 [], .os 1 0 [], .os 1 0 [], .os 1 0 [], .os 1 0 []]), (7, .vr [.sl v70.sets.length (v70.sets.map fun x0 => .sc (.int .i64 x0)), .os 1 v70.next.length (v70.next.map fun x0 => .os 1 x0.length (x0.map fun x1 => .sc (.int .i64 x1))), .os 1 v70.below.length (v70.below.map fun x0 => .os 1 x0.length (x0.map fun x1 => .sc (.bool x1)))]), (10, .vr [.sl v69.length (v69.map fun x0 => .sc (.int .i64 x0)), .sl v71.1.length (v71.1.map fun x0 => .sc (.int .i64 x0)), .os 1 v72.length (v72.map fun x0 => .sc (.int .i64 x0)), .os 1 w79.length (w79.map fun x0 => .os 1 x0.length (x0.map fun x1 => .sc (.int .i64 x1))), .os 1 w128.length (w128.map fun x0 => .sc (.string x0)), .os 1 w80.length (w80.map fun x0 => .sc (.string x0))]), (17, .os 1 v123.2.length (v123.2.map fun x0 => .sc (.string x0))), (9, .os 1 v71.2.length (v71.2.map fun x0 => .sc (.int .i64 x0)))]⟩
def z6j (v69 : List Int) (v70 : Dgm) (v71 : List Int × List Int) (v72 : List Int) (w79 : List (List Int)) (w80 : List ByteArray) : Int × List ByteArray → Option ((Int × List ByteArray) ⊕ (Imgs × Int))
  | (w107, w108) =>
  if w107 < (v71.2.length : Int) then
    (atI v71.2 w107).bind fun v122 =>
    (z1P v70 v122).bind fun v123 =>
    z1j (z5g v69 v71 w107 v123) LFm (0, w108)
  else
    z1n <|
    some ((⟨v69, v71.1, v72, w79, w108, w80⟩ : Imgs), 0)
def z6h (v69 : List Int) (v70 : Dgm) (v71 : List Int × List Int) (v72 : List Int) (w79 : List (List Int)) (w80 : List ByteArray) : Int × List ByteArray → Fr
  | (w107, w108) => ⟨120, [(2, .one (.a 2 [] (0))), (5, .one (.t none (.sl v69.length (v69.map fun x0 => .sc (.int .i64 x0))))), (7, .one (.a 7 [] (0))), (8, .one (.t none (.sl v71.1.length (v71.1.map fun x0 => .sc (.int .i64 x0))))), (10, .one (.a 10 [] (0))), (85, .one (.h 9 [])), (86, .one (.t none (.sc (.int .i64 (v71.2.length : Int))))), (87, .one (.t none (.sc (.int .i64 w107))))], [(2, .vr [.os 1 0 [], .os 1 0 [], .os 1 0 [], .os 1 0 [], .os 1 0 [], .os 1 0 []]), (7, .vr [.sl v70.sets.length (v70.sets.map fun x0 => .sc (.int .i64 x0)), .os 1 v70.next.length (v70.next.map fun x0 => .os 1 x0.length (x0.map fun x1 => .sc (.int .i64 x1))), .os 1 v70.below.length (v70.below.map fun x0 => .os 1 x0.length (x0.map fun x1 => .sc (.bool x1)))]), (10, .vr [.sl v69.length (v69.map fun x0 => .sc (.int .i64 x0)), .sl v71.1.length (v71.1.map fun x0 => .sc (.int .i64 x0)), .os 1 v72.length (v72.map fun x0 => .sc (.int .i64 x0)), .os 1 w79.length (w79.map fun x0 => .os 1 x0.length (x0.map fun x1 => .sc (.int .i64 x1))), .os 1 w108.length (w108.map fun x0 => .sc (.string x0)), .os 1 w80.length (w80.map fun x0 => .sc (.string x0))]), (9, .os 1 v71.2.length (v71.2.map fun x0 => .sc (.int .i64 x0)))]⟩
def z6k (v69 : List Int) (v70 : Dgm) (v71 : List Int × List Int) (v72 : List Int) : Int × List (List Int) × List ByteArray → Option ((Int × List (List Int) × List ByteArray) ⊕ (Imgs × Int))
  | (w78, w79, w80) =>
  if w78 < (v69.length : Int) then
    (z2W v70 w78).bind fun v88 =>
    (atI w79 w78).bind fun v89 =>
    (z1P v70 w78).bind fun v90 =>
    (atI v71.1 w78).bind fun v91 =>
    (atI v71.2 v91).bind fun v92 =>
    (atI v90.2 v92).bind fun v93 =>
    (atI w80 w78).bind fun v94 =>
    z0Y (IntKind.i64.wrap (w78 + 1), (w79.set w78.toNat v88), (w80.set w78.toNat v93))
  else
    z1n <|
    z1j (z6j v69 v70 v71 v72 w79 w80) LFm (0, List.replicate (v69.length : Int).toNat (ByteArray.empty : ByteArray))
def z6i (v69 : List Int) (v70 : Dgm) (v71 : List Int × List Int) (v72 : List Int) : Int × List (List Int) × List ByteArray → Fr
  | (w78, w79, w80) => ⟨120, [(2, .one (.a 2 [] (0))), (5, .one (.t none (.sl v69.length (v69.map fun x0 => .sc (.int .i64 x0))))), (7, .one (.a 7 [] (0))), (8, .one (.t none (.sl v71.1.length (v71.1.map fun x0 => .sc (.int .i64 x0))))), (9, .one (.h 9 [])), (10, .one (.a 10 [] (0))), (53, .one (.t none (.sc (.int .i64 (v69.length : Int))))), (54, .one (.t none (.sc (.int .i64 w78))))], [(2, .vr [.os 1 0 [], .os 1 0 [], .os 1 0 [], .os 1 0 [], .os 1 0 [], .os 1 0 []]), (7, .vr [.sl v70.sets.length (v70.sets.map fun x0 => .sc (.int .i64 x0)), .os 1 v70.next.length (v70.next.map fun x0 => .os 1 x0.length (x0.map fun x1 => .sc (.int .i64 x1))), .os 1 v70.below.length (v70.below.map fun x0 => .os 1 x0.length (x0.map fun x1 => .sc (.bool x1)))]), (9, .os 1 v71.2.length (v71.2.map fun x0 => .sc (.int .i64 x0))), (10, .vr [.sl v69.length (v69.map fun x0 => .sc (.int .i64 x0)), .sl v71.1.length (v71.1.map fun x0 => .sc (.int .i64 x0)), .os 1 v72.length (v72.map fun x0 => .sc (.int .i64 x0)), .os 1 w79.length (w79.map fun x0 => .os 1 x0.length (x0.map fun x1 => .sc (.int .i64 x1))), .os 1 (List.replicate (v69.length : Int).toNat (ByteArray.empty : ByteArray)).length ((List.replicate (v69.length : Int).toNat (ByteArray.empty : ByteArray)).map fun x0 => .sc (.string x0)), .os 1 w80.length (w80.map fun x0 => .sc (.string x0))])]⟩
def z8y (a0 : DFA) : Option (Imgs × Int) :=
  (z3g a0).bind fun v68 =>
  if v68 = 0 then
    (z6G a0).bind fun v69 =>
    if 400 < (v69.length : Int) then
      some ((⟨[], [], [], [], [], []⟩ : Imgs), 3)
    else
      (z3M a0 v69).bind fun v70 =>
      (z2w v70).bind fun v71 =>
      (z2v v70 v71.1).bind fun v72 =>
      chk (z3l 24 (v69.length : Int)) <|
      chk (z3l 16 (v69.length : Int)) <|
      z1j (z6k v69 v70 v71 v72) LFm (0, List.replicate (v69.length : Int).toNat ([] : List Int), List.replicate (v69.length : Int).toNat (ByteArray.empty : ByteArray))
  else
    some ((⟨[], [], [], [], [], []⟩ : Imgs), v68)
theorem zi7 {a0 : DFA} {r : Imgs × Int} (h0 : z8y a0 = some r) : L 14 [.agg [.sc (.int .i64 a0.letters), .sc (.int .i64 a0.start), .sl a0.final.length (a0.final.map fun x0 => .sc (.bool x0)), .sl a0.next.length (a0.next.map fun x0 => .sl x0.length (x0.map fun x1 => .sc (.int .i64 x1)))]] = some (.tup [.agg [.sl r.1.sets.length (r.1.sets.map fun x0 => .sc (.int .i64 x0)), .sl r.1.class_.length (r.1.class_.map fun x0 => .sc (.int .i64 x0)), .sl r.1.height.length (r.1.height.map fun x0 => .sc (.int .i64 x0)), .sl r.1.tiles.length (r.1.tiles.map fun x0 => .sl x0.length (x0.map fun x1 => .sc (.int .i64 x1))), .sl r.1.words.length (r.1.words.map fun x0 => .sc (.string x0)), .sl r.1.back.length (r.1.back.map fun x0 => .sc (.string x0))], .sc (.int .i64 r.2)], [.dead]) := by
  simp only [z8y] at h0
  refine z2l zv5 zvi (zpa zvm ⟨of_decide_eq_true rfl, of_decide_eq_true rfl⟩ rfl ?_)
  simp only [z1z, z1w, z1s, z1A, z2X]
  refine zq rfl (zr rfl rfl rfl (by simp; rfl) ?_)
  refine z0a (zq rfl (zq rfl ?_))
  obtain ⟨v68, f87, h1⟩ := z0b h0
  have f87k := z5d f87
  try simp at f87k
  refine zr rfl rfl rfl (by simp [f87k]; rfl) ?_
  refine z0a (zq rfl (zr rfl rfl rfl (by simp; rfl) ?_))
  refine z0a ?_
  by_cases c88 : v68 = 0
  ·rw [if_pos c88] at h1
   have c88e := eq_true c88
   refine z0m rfl (by simp [c88e]) (z0h rfl (z0a (zq rfl ?_)))
   obtain ⟨v69, f89, h2⟩ := z0b h1
   have f89k := zeA f89
   try simp at f89k
   refine zr rfl rfl rfl (by simp [f89k]; rfl) ?_
   refine z0a (zq rfl (zr rfl rfl rfl (by simp; rfl) ?_))
   refine z0a (zq rfl (zq rfl (zr rfl rfl rfl (by simp; rfl) ?_)))
   refine z0a ?_
   by_cases c90 : 400 < (v69.length : Int)
   ·rw [if_pos c90] at h2
    refine z0p rfl (by simp [c90]) (zq rfl (zr rfl rfl rfl (by simp; rfl) ?_))
    refine z0a (z0U rfl (z0n ?_))
    cases h2
    simp
   ·rw [if_neg c90] at h2
    refine z0m rfl (by simp [c90]) (z0h rfl (z0a (zq rfl (zpf rfl rfl (by simp; rfl) ?_))))
    obtain ⟨v70, f91, h3⟩ := z0b h2
    have f91k := z9v f91
    try simp at f91k
    refine zr rfl rfl rfl (by simp [f91k]; rfl) ?_
    refine z0a (zq rfl ?_)
    obtain ⟨v71, f92, h4⟩ := z0b h3
    have f92k := z7b f92
    try simp at f92k
    refine zr rfl rfl rfl (by simp [f92k]; rfl) ?_
    refine z0a (zq rfl (zpf rfl rfl (by simp; rfl) ?_))
    obtain ⟨v72, f93, h5⟩ := z0b h4
    have f93k := z7a f93
    try simp at f93k
    obtain ⟨f94, h6⟩ := zoQ h5
    obtain ⟨f95, h7⟩ := zoQ h6
    refine zk3 rfl rfl rfl rfl ?_
    refine zq0 [(0, 0, 0, 1), (1, 1, 0, 2), (2, 2, 0, 3), (3, 3, 0, 4), (4, 5, 0, 5), (5, 7, 0, 6), (6, 9, 0, 7), (7, 4, 1, 8), (7, 6, 1, 9), (7, 8, 1, 10), (7, 10, 1, 11), (7, 12, 1, 12), (8, 6, 1, 13), (8, 8, 1, 14), (8, 10, 1, 15), (8, 12, 1, 16), (9, 4, 1, 13), (9, 8, 1, 17), (9, 10, 1, 18), (9, 12, 1, 19), (10, 4, 1, 14), (10, 6, 1, 17), (10, 10, 1, 20), (10, 12, 1, 21), (11, 4, 1, 15), (11, 6, 1, 18), (11, 8, 1, 20), (11, 12, 1, 22), (12, 4, 1, 16), (12, 6, 1, 19), (12, 8, 1, 21), (12, 10, 1, 22), (13, 8, 1, 23), (13, 10, 1, 24), (13, 12, 1, 25), (14, 6, 1, 23), (14, 10, 1, 26), (14, 12, 1, 27), (15, 6, 1, 24), (15, 8, 1, 26), (15, 12, 1, 28), (16, 6, 1, 25), (16, 8, 1, 27), (16, 10, 1, 28), (17, 4, 1, 23), (17, 10, 1, 29), (17, 12, 1, 30), (18, 4, 1, 24), (18, 8, 1, 29), (18, 12, 1, 31), (19, 4, 1, 25), (19, 8, 1, 30), (19, 10, 1, 31), (20, 4, 1, 26), (20, 6, 1, 29), (20, 12, 1, 32), (21, 4, 1, 27), (21, 6, 1, 30), (21, 10, 1, 32), (22, 4, 1, 28), (22, 6, 1, 31), (22, 8, 1, 32), (23, 10, 1, 33), (23, 12, 1, 34), (24, 8, 1, 33), (24, 12, 1, 35), (25, 8, 1, 34), (25, 10, 1, 35), (26, 6, 1, 33), (26, 12, 1, 36), (27, 6, 1, 34), (27, 10, 1, 36), (28, 6, 1, 35), (28, 8, 1, 36), (29, 4, 1, 33), (29, 12, 1, 37), (30, 4, 1, 34), (30, 10, 1, 37), (31, 4, 1, 35), (31, 8, 1, 37), (32, 4, 1, 36), (32, 6, 1, 37), (33, 11, 0, 38), (34, 10, 1, 39), (35, 8, 1, 39), (36, 6, 1, 39), (37, 4, 1, 39), (38, 12, 1, 40), (39, 11, 0, 40), (40, 13, 2, 41)] 41 (by kernel_rfl) ?_
    refine z0D rfl rfl rfl rfl (by simp [z0d, z0e, f93k, f94, f95]; rfl) ?_
    refine z0D rfl rfl rfl rfl (by simp [z0d, z0e, f93k, f94, f95]; rfl) ?_
    refine z0D rfl rfl rfl rfl (by simp [z0d, z0e, f93k, f94, f95]; rfl) ?_
    refine z0D rfl rfl rfl rfl (by simp [z0d, z0e, f93k, f94, f95]; rfl) ?_
    refine z0D rfl rfl rfl rfl (by simp [z0d, z0e, f93k, f94, f95]; rfl) ?_
    refine z0D rfl rfl rfl rfl (by simp [z0d, z0e, f93k, f94, f95]; rfl) ?_
    refine z0D rfl rfl rfl rfl (by simp [z0d, z0e, f93k, f94, f95]; rfl) ?_
    refine z0D rfl rfl rfl rfl (by simp [z0d, z0e, f93k, f94, f95]; rfl) ?_
    refine z0D rfl rfl rfl rfl (by simp [z0d, z0e, f93k, f94, f95]; rfl) ?_
    refine z0D rfl rfl rfl rfl (by simp [z0d, z0e, f93k, f94, f95]; rfl) ?_
    refine z0D rfl rfl rfl rfl (by simp [z0d, z0e, f93k, f94, f95]; rfl) ?_
    refine z0D rfl rfl rfl rfl (by simp [z0d, z0e, f93k, f94, f95]; rfl) ?_
    refine z0D rfl rfl rfl rfl (by simp [z0d, z0e, f93k, f94, f95]; rfl) ?_
    refine z0D rfl rfl rfl rfl (by simp [z0d, z0e, f93k, f94, f95]; rfl) ?_
    refine z0D rfl rfl rfl rfl (by simp [z0d, z0e, f93k, f94, f95]; rfl) ?_
    refine z0D rfl rfl rfl rfl (by simp [z0d, z0e, f93k, f94, f95]; rfl) ?_
    refine z0C rfl rfl rfl rfl (by simp [z0d, z0e, f93k, f94, f95]) ?_
    refine z0D rfl rfl rfl rfl (by simp [z0d, z0e, f93k, f94, f95]; rfl) ?_
    refine z0D rfl rfl rfl rfl (by simp [z0d, z0e, f93k, f94, f95]; rfl) ?_
    refine z0D rfl rfl rfl rfl (by simp [z0d, z0e, f93k, f94, f95]; rfl) ?_
    refine z0C rfl rfl rfl rfl (by simp [z0d, z0e, f93k, f94, f95]) ?_
    refine z0C rfl rfl rfl rfl (by simp [z0d, z0e, f93k, f94, f95]) ?_
    refine z0D rfl rfl rfl rfl (by simp [z0d, z0e, f93k, f94, f95]; rfl) ?_
    refine z0D rfl rfl rfl rfl (by simp [z0d, z0e, f93k, f94, f95]; rfl) ?_
    refine z0C rfl rfl rfl rfl (by simp [z0d, z0e, f93k, f94, f95]) ?_
    refine z0C rfl rfl rfl rfl (by simp [z0d, z0e, f93k, f94, f95]) ?_
    refine z0C rfl rfl rfl rfl (by simp [z0d, z0e, f93k, f94, f95]) ?_
    refine z0D rfl rfl rfl rfl (by simp [z0d, z0e, f93k, f94, f95]; rfl) ?_
    refine z0C rfl rfl rfl rfl (by simp [z0d, z0e, f93k, f94, f95]) ?_
    refine z0C rfl rfl rfl rfl (by simp [z0d, z0e, f93k, f94, f95]) ?_
    refine z0C rfl rfl rfl rfl (by simp [z0d, z0e, f93k, f94, f95]) ?_
    refine z0C rfl rfl rfl rfl (by simp [z0d, z0e, f93k, f94, f95]) ?_
    refine z0D rfl rfl rfl rfl (by simp [z0d, z0e, f93k, f94, f95]; rfl) ?_
    refine z0D rfl rfl rfl rfl (by simp [z0d, z0e, f93k, f94, f95]; rfl) ?_
    refine z0D rfl rfl rfl rfl (by simp [z0d, z0e, f93k, f94, f95]; rfl) ?_
    refine z0C rfl rfl rfl rfl (by simp [z0d, z0e, f93k, f94, f95]) ?_
    refine z0D rfl rfl rfl rfl (by simp [z0d, z0e, f93k, f94, f95]; rfl) ?_
    refine z0D rfl rfl rfl rfl (by simp [z0d, z0e, f93k, f94, f95]; rfl) ?_
    refine z0C rfl rfl rfl rfl (by simp [z0d, z0e, f93k, f94, f95]) ?_
    refine z0C rfl rfl rfl rfl (by simp [z0d, z0e, f93k, f94, f95]) ?_
    refine z0D rfl rfl rfl rfl (by simp [z0d, z0e, f93k, f94, f95]; rfl) ?_
    refine z0C rfl rfl rfl rfl (by simp [z0d, z0e, f93k, f94, f95]) ?_
    refine z0C rfl rfl rfl rfl (by simp [z0d, z0e, f93k, f94, f95]) ?_
    refine z0C rfl rfl rfl rfl (by simp [z0d, z0e, f93k, f94, f95]) ?_
    refine z0C rfl rfl rfl rfl (by simp [z0d, z0e, f93k, f94, f95]) ?_
    refine z0D rfl rfl rfl rfl (by simp [z0d, z0e, f93k, f94, f95]; rfl) ?_
    refine z0D rfl rfl rfl rfl (by simp [z0d, z0e, f93k, f94, f95]; rfl) ?_
    refine z0C rfl rfl rfl rfl (by simp [z0d, z0e, f93k, f94, f95]) ?_
    refine z0C rfl rfl rfl rfl (by simp [z0d, z0e, f93k, f94, f95]) ?_
    refine z0D rfl rfl rfl rfl (by simp [z0d, z0e, f93k, f94, f95]; rfl) ?_
    refine z0C rfl rfl rfl rfl (by simp [z0d, z0e, f93k, f94, f95]) ?_
    refine z0C rfl rfl rfl rfl (by simp [z0d, z0e, f93k, f94, f95]) ?_
    refine z0C rfl rfl rfl rfl (by simp [z0d, z0e, f93k, f94, f95]) ?_
    refine z0C rfl rfl rfl rfl (by simp [z0d, z0e, f93k, f94, f95]) ?_
    refine z0C rfl rfl rfl rfl (by simp [z0d, z0e, f93k, f94, f95]) ?_
    refine z0D rfl rfl rfl rfl (by simp [z0d, z0e, f93k, f94, f95]; rfl) ?_
    refine z0C rfl rfl rfl rfl (by simp [z0d, z0e, f93k, f94, f95]) ?_
    refine z0C rfl rfl rfl rfl (by simp [z0d, z0e, f93k, f94, f95]) ?_
    refine z0C rfl rfl rfl rfl (by simp [z0d, z0e, f93k, f94, f95]) ?_
    refine z0C rfl rfl rfl rfl (by simp [z0d, z0e, f93k, f94, f95]) ?_
    refine z0C rfl rfl rfl rfl (by simp [z0d, z0e, f93k, f94, f95]) ?_
    refine z0C rfl rfl rfl rfl (by simp [z0d, z0e, f93k, f94, f95]) ?_
    refine z0D rfl rfl rfl rfl (by simp [z0d, z0e, f93k, f94, f95]; rfl) ?_
    refine z0D rfl rfl rfl rfl (by simp [z0d, z0e, f93k, f94, f95]; rfl) ?_
    refine z0C rfl rfl rfl rfl (by simp [z0d, z0e, f93k, f94, f95]) ?_
    refine z0D rfl rfl rfl rfl (by simp [z0d, z0e, f93k, f94, f95]; rfl) ?_
    refine z0C rfl rfl rfl rfl (by simp [z0d, z0e, f93k, f94, f95]) ?_
    refine z0C rfl rfl rfl rfl (by simp [z0d, z0e, f93k, f94, f95]) ?_
    refine z0C rfl rfl rfl rfl (by simp [z0d, z0e, f93k, f94, f95]) ?_
    refine z0D rfl rfl rfl rfl (by simp [z0d, z0e, f93k, f94, f95]; rfl) ?_
    refine z0C rfl rfl rfl rfl (by simp [z0d, z0e, f93k, f94, f95]) ?_
    refine z0C rfl rfl rfl rfl (by simp [z0d, z0e, f93k, f94, f95]) ?_
    refine z0C rfl rfl rfl rfl (by simp [z0d, z0e, f93k, f94, f95]) ?_
    refine z0C rfl rfl rfl rfl (by simp [z0d, z0e, f93k, f94, f95]) ?_
    refine z0C rfl rfl rfl rfl (by simp [z0d, z0e, f93k, f94, f95]) ?_
    refine z0D rfl rfl rfl rfl (by simp [z0d, z0e, f93k, f94, f95]; rfl) ?_
    refine z0C rfl rfl rfl rfl (by simp [z0d, z0e, f93k, f94, f95]) ?_
    refine z0C rfl rfl rfl rfl (by simp [z0d, z0e, f93k, f94, f95]) ?_
    refine z0C rfl rfl rfl rfl (by simp [z0d, z0e, f93k, f94, f95]) ?_
    refine z0C rfl rfl rfl rfl (by simp [z0d, z0e, f93k, f94, f95]) ?_
    refine z0C rfl rfl rfl rfl (by simp [z0d, z0e, f93k, f94, f95]) ?_
    refine z0C rfl rfl rfl rfl (by simp [z0d, z0e, f93k, f94, f95]) ?_
    refine z0D rfl rfl rfl rfl (by simp [z0d, z0e, f93k, f94, f95]; rfl) ?_
    refine z0D rfl rfl rfl rfl (by simp [z0d, z0e, f93k, f94, f95]; rfl) ?_
    refine z0C rfl rfl rfl rfl (by simp [z0d, z0e, f93k, f94, f95]) ?_
    refine z0C rfl rfl rfl rfl (by simp [z0d, z0e, f93k, f94, f95]) ?_
    refine z0C rfl rfl rfl rfl (by simp [z0d, z0e, f93k, f94, f95]) ?_
    refine z0D rfl rfl rfl rfl (by simp [z0d, z0e, f93k, f94, f95]; rfl) ?_
    refine z0C rfl rfl rfl rfl (by simp [z0d, z0e, f93k, f94, f95]) ?_
    refine z0D rfl rfl rfl rfl (by simp [z0d, z0e, f93k, f94, f95]; rfl) ?_
    refine zqh rfl ?_
    refine zjT rfl (by simp [f93k, f94, f95]; rfl) ?_
    refine z0a (zq rfl (zq rfl (zr rfl rfl rfl (by simp; rfl) ?_)))
    refine z0a (zb rfl (z0S h7 (z6i v69 v70 v71 v72) rfl rfl (by simp [z6i]) fun s o1 h8 hr1 => ?_))
    obtain ⟨w78, w79, w80⟩ := s
    simp only [z6k] at h8
    simp only [z6i]
    refine zq rfl (zr rfl rfl rfl (by simp; rfl) ?_)
    refine z0a (zq rfl ?_)
    by_cases c111 : w78 < (v69.length : Int)
    ·rw [if_pos c111] at h8
     refine z0p rfl (by simp [c111]) (z0h rfl (z0a (zq rfl (zb rfl (zq rfl (zr rfl rfl rfl (by simp; rfl) ?_))))))
     refine z0a (zq rfl ?_)
     obtain ⟨v88, f112, h9⟩ := z0b h8
     have f112k := z7M f112
     try simp at f112k
     obtain ⟨v89, f113, h10⟩ := z1r h9
     refine z1D rfl rfl rfl rfl ?_; repeat' ((first | refine z0F rfl rfl fun Q' hQ => ?_ | refine z0w rfl fun Q' hQ => ?_); simp [f112k, f113]; refine hQ.out _ ?_; clear hQ; clear Q')
     refine z0a (zq rfl ?_)
     obtain ⟨v90, f114, h11⟩ := z0b h10
     have f114k := z3N f114
     try simp at f114k
     refine zr rfl rfl rfl (by simp [f114k]; rfl) ?_
     refine z0a ?_
     obtain ⟨v91, f115, h12⟩ := z1r h11
     obtain ⟨v92, f116, h13⟩ := z1r h12
     obtain ⟨v93, f117, h14⟩ := z1r h13
     obtain ⟨v94, f118, h15⟩ := z1r h14
     refine z1D rfl rfl rfl rfl ?_; repeat' ((first | refine z0F rfl rfl fun Q' hQ => ?_ | refine z0w rfl fun Q' hQ => ?_); simp [f115, f116, f117, f118]; refine hQ.out _ ?_; clear hQ; clear Q')
     refine z0k (z0a (zr rfl rfl rfl (by simp; rfl) ?_))
     have ho := z0f h15
     refine z0j ho ?_
     simp [z6i]
    ·rw [if_neg c111] at h8
     refine z0m rfl (by simp [c111]) (z1m rfl (z0E ?_))
     obtain ⟨rr1, h9, ho1⟩ := z0g h8
     have hs1 := hr1 _ ho1
     subst hs1
     refine z0r ho1 (z0c rfl (z0a (zq rfl (zq rfl (zr rfl rfl rfl (by simp; rfl) ?_)))))
     refine z0a (zb rfl (z0S h9 (z6h v69 v70 v71 v72 w79 w80) rfl rfl (by simp [z6h]) fun s o2 h10 hr2 => ?_))
     obtain ⟨w107, w108⟩ := s
     simp only [z6j] at h10
     simp only [z6h]
     refine zq rfl (zr rfl rfl rfl (by simp; rfl) ?_)
     refine z0a (zq rfl ?_)
     by_cases c155 : w107 < (v71.2.length : Int)
     ·rw [if_pos c155] at h10
      refine z0p rfl (by simp [c155]) (z0h rfl (z0a (zq rfl (zb rfl (zq rfl ?_)))))
      obtain ⟨v122, f156, h11⟩ := z1r h10
      refine zr rfl rfl rfl (by simp [f156]; rfl) ?_
      refine z0a (zq rfl ?_)
      obtain ⟨v123, f157, h12⟩ := z0b h11
      have f157k := z3N f157
      try simp at f157k
      refine zr rfl rfl rfl (by simp [f157k]; rfl) ?_
      refine z0a (zq rfl (zr rfl rfl rfl (by simp; rfl) ?_))
      refine z0a (zb rfl (z0S h12 (z5f v69 v70 v71 v72 w79 w80 w107 v123) rfl rfl (by simp [z5f]) fun s o3 h13 hr3 => ?_))
      obtain ⟨w127, w128⟩ := s
      simp only [z5g] at h13
      simp only [z5f]
      refine zq rfl (zr rfl rfl rfl (by simp; rfl) ?_)
      refine z0a (zq rfl ?_)
      by_cases c168 : w127 < (v69.length : Int)
      ·rw [if_pos c168] at h13
       refine z0p rfl (by simp [c168]) (z0h rfl (z0a (zq rfl (zb rfl (zq rfl (zr rfl rfl rfl (by simp; rfl) ?_))))))
       refine z0a (zq rfl ?_)
       obtain ⟨v132, f169, h14⟩ := z1r h13
       refine zr rfl rfl rfl (by simp [f169]; rfl) ?_
       refine z0a ?_
       by_cases c170 : v132 = w107
       ·rw [if_pos c170] at h14
        have c170e := eq_true c170
        refine z0p rfl (by simp [c170e]) ?_
        obtain ⟨v133, f171, h15⟩ := z1r h14
        obtain ⟨v134, f172, h16⟩ := z1r h15
        refine z1D rfl rfl rfl rfl ?_; repeat' ((first | refine z0F rfl rfl fun Q' hQ => ?_ | refine z0w rfl fun Q' hQ => ?_); simp [f171, f172]; refine hQ.out _ ?_; clear hQ; clear Q')
        refine z0k (z0a (zr rfl rfl rfl (by simp; rfl) ?_))
        have ho := z0f h16
        refine z0j ho ?_
        simp [z5f]
       ·rw [if_neg c170] at h14
        have c170e := eq_false c170
        refine z0m rfl (by simp [c170e]) (z0h rfl (z0k (z0a (zr rfl rfl rfl (by simp; rfl) ?_))))
        have ho := z0f h14
        refine z0j ho ?_
        simp [z5f]
      ·rw [if_neg c168] at h13
       refine z0m rfl (by simp [c168]) (z1m rfl (z0E ?_))
       obtain ⟨rr3, h14, ho3⟩ := z0g h13
       have hs3 := hr3 _ ho3
       subst hs3
       refine z0r ho3 (z0c rfl (z0k (z0a (zr rfl rfl rfl (by simp; rfl) ?_))))
       have ho := z0f h14
       refine z0j ho ?_
       simp [z6h]
     ·rw [if_neg c155] at h10
      refine z0m rfl (by simp [c155]) (z1m rfl (z0E ?_))
      obtain ⟨rr2, h11, ho2⟩ := z0g h10
      have hs2 := hr2 _ ho2
      subst hs2
      refine z0r ho2 (z0c rfl (z0a (zq rfl (zr rfl rfl rfl (by simp; rfl) ?_))))
      refine z0a (z0U rfl ?_)
      cases h11
      simp
  ·rw [if_neg c88] at h1
   have c88e := eq_false c88
   refine z0p rfl (by simp [c88e]) (zq rfl (zr rfl rfl rfl (by simp; rfl) ?_))
   refine z0a (z0U rfl (z0n ?_))
   cases h1
   simp
end
end Go.Proofs.Ytbnnipkanechoaa
end
section
namespace Go.Proofs.Ytbnnipkanechoaa
open Go
set_option maxRecDepth 100000
theorem zej (a b : Nat) : zpO a b = true ↔ (szN b < szN a ∨ (szN a = szN b ∧ a ≤ b)) := by unfold zpO; simp
theorem bef_not (a b : Nat) : zpO a b = false ↔ ¬ (szN b < szN a ∨ (szN a = szN b ∧ a ≤ b)) := by rw [← zej]; simp
def zpp (x : Nat) : List Nat → List Nat
  | [] => [x]
  | y :: l => if zpO x y = true then x :: y :: l else y :: zpp x l
def zfW : List Nat → List Nat
  | [] => []
  | x :: l => zpp x (zfW l)
abbrev zrb (l : List Nat) : Prop := l.Pairwise fun a b => zpO a b = true
theorem zkn (x : Nat) : ∀ l : List Nat, zpq (x : Int) (toI l) = toI (zpp x l)
  | [] => rfl
  | y :: l => by
    have ih := zkn x l
    have e : leI (x : Int) (y : Int) = zpO x y := by simp [leI]
    simp only [toI, List.map_cons, zpq, zpp] at ih ⊢
    rw [e]
    by_cases h : zpO x y = true
    · rw [if_pos h, if_pos h]; rfl
    · rw [if_neg h, if_neg h, ih]; rfl
theorem zhs : ∀ l : List Nat, zax (toI l) = toI (zfW l)
  | [] => rfl
  | x :: l => by
    have ih := zhs l
    simp only [toI, List.map_cons, zax, zfW] at ih ⊢
    rw [ih]; exact zkn x (zfW l)
theorem zdX (x : Nat) : ∀ l : List Nat, (zpp x l).Perm (x :: l)
  | [] => .refl _
  | y :: l => by
    unfold zpp
    split
    · exact .refl _
    · exact ((zdX x l).cons y).trans (.swap x y l)
theorem zbV : ∀ l : List Nat, (zfW l).Perm l
  | [] => .refl _
  | x :: l => (zdX x (zfW l)).trans ((zbV l).cons x)
theorem zdW (x : Nat) : ∀ l : List Nat, zrb l → zrb (zpp x l)
  | [], _ => by simp [zpp]
  | y :: l, h => by
    unfold zpp
    rw [zrb, List.pairwise_cons] at h
    split
    · rename_i hxy
      refine List.pairwise_cons.2 ⟨fun z hz => ?_, List.pairwise_cons.2 h⟩
      rcases List.mem_cons.1 hz with rfl | hz
      · exact hxy
      · have := h.1 z hz
        rw [zej] at *
        omega
    · rename_i hxy
      refine List.pairwise_cons.2 ⟨fun z hz => ?_, zdW x l h.2⟩
      rcases List.mem_cons.1 ((zdX x l).mem_iff.1 hz) with rfl | hz
      · rw [zej] at *
        omega
      · exact h.1 z hz
theorem zch : ∀ l : List Nat, zrb (zfW l)
  | [] => by simp [zfW]
  | x :: l => zdW x _ (zch l)
theorem zlZ : ∀ {l1 l2 : List Nat}, l1.Perm l2 → zrb l1 → zrb l2 → l1 = l2
  | [], l2, h, _, _ => by rw [List.nil_perm] at h; exact h.symm
  | a :: l1, [], h, _, _ => by simp at h
  | a :: l1, b :: l2, h, h1, h2 => by
    have hab : a = b := by
      rcases List.mem_cons.1 (h.mem_iff.1 (List.mem_cons_self ..)) with e | ha
      · exact e
      · rcases List.mem_cons.1 (h.mem_iff.2 (List.mem_cons_self ..)) with e | hb
        · exact e.symm
        · have e1 := (List.pairwise_cons.1 h2).1 a ha
          have e2 := (List.pairwise_cons.1 h1).1 b hb
          rw [zej] at e1 e2
          omega
    subst hab
    rw [zlZ (List.perm_cons a |>.1 h) (List.pairwise_cons.1 h1).2 (List.pairwise_cons.1 h2).2]
def z9B (S : List Nat) : Nat → List Nat
  | 0 => S
  | q + 1 => if 2 ^ q ∈ z9B S q then z9B S q else z9B S q ++ [2 ^ q]
theorem z7w {S : List Nat} (hS : S.Nodup) : ∀ q, (z9B S q).Nodup ∧ (∀ x, x ∈ z9B S q ↔ x ∈ S ∨ ∃ i, i < q ∧ x = 2 ^ i) ∧ (z9B S q).length ≤ S.length + q
  | 0 => ⟨hS, fun x => by simp [z9B], by simp [z9B]⟩
  | q + 1 => by
    obtain ⟨h1, h2, h3⟩ := z7w hS q
    unfold z9B
    split
    · rename_i h
      refine ⟨h1, fun x => ?_, by omega⟩
      rw [h2]
      constructor
      · rintro (h | ⟨i, h, e⟩)
        · exact .inl h
        · exact .inr ⟨i, by omega, e⟩
      · rintro (h' | ⟨i, h', e⟩)
        · exact .inl h'
        · by_cases ei : i = q
          · subst ei; rw [e]; exact (h2 _).1 h
          · exact .inr ⟨i, by omega, e⟩
    · rename_i h
      refine ⟨List.nodup_append.2 ⟨h1, by simp, fun a ha b hb e => ?_⟩, fun x => ?_, by rw [List.length_append, List.length_singleton]; omega⟩
      · obtain rfl := List.mem_singleton.1 hb
        exact h (e ▸ ha)
      · rw [List.mem_append, h2, List.mem_singleton]
        constructor
        · rintro ((h' | ⟨i, h', e⟩) | e)
          · exact .inl h'
          · exact .inr ⟨i, by omega, e⟩
          · exact .inr ⟨q, by omega, e⟩
        · rintro (h' | ⟨i, h', e⟩)
          · exact .inl (.inl h')
          · by_cases ei : i = q
            · subst ei; exact .inr e
            · exact .inl (.inr ⟨i, by omega, e⟩)
def z5t (d : DFA) (m n : Nat) : List Nat := zfW (z9B (z1q d m n (2 ^ n - 1)).1 n)
structure SetsP (d : DFA) (m n : Nat) (S : List Nat) : Prop where
  nd : S.Nodup
  lt : ∀ x ∈ S, x < 2 ^ n
  cl : ∀ x ∈ S, ∀ a, a < m → mvN d x a ∈ S
  one : ∀ q, q < n → 2 ^ q ∈ S
  srt : zrb S
theorem zrR {d : DFA} {m n : Nat} (hd : DfaOk d m n) {q a : Nat} (hq : q < n) (ha : a < m) : ∃ p, p < n ∧ mvN d (2 ^ q) a = 2 ^ p := by
  obtain ⟨h1, h2, e, h3, h4⟩ := zdK hd hq ha
  refine ⟨((d.next.getD q []).getD a 0).toNat, by rw [e]; omega, Nat.eq_of_testBit_eq fun i => ?_⟩
  rw [Bool.eq_iff_iff, za7 hd ha, Nat.testBit_two_pow, decide_eq_true_iff]
  constructor
  · rintro ⟨j, j1, j2, j3⟩
    rw [Nat.testBit_two_pow, decide_eq_true_iff] at j2
    subst j2; exact j3
  · intro h
    exact ⟨q, hq, by rw [Nat.testBit_two_pow]; simp, h⟩
theorem zj0 {d : DFA} {m n : Nat} (hd : DfaOk d m n) : SetsP d m n (z5t d m n) := by
  have hp := Nat.two_pow_pos n
  have hf : 2 ^ n - 1 < 2 ^ n := by omega
  have hi := z4D hd hf
  obtain ⟨h1, h2, h3⟩ := z7w hi.nd n
  have hpm := zbV (z9B (z1q d m n (2 ^ n - 1)).1 n)
  have hm : ∀ x, x ∈ z5t d m n ↔ x ∈ (z1q d m n (2 ^ n - 1)).1 ∨ ∃ i, i < n ∧ x = 2 ^ i := fun x => hpm.mem_iff.trans (h2 x)
  refine ⟨hpm.nodup_iff.2 h1, fun x hx => ?_, fun x hx a ha => ?_, fun q hq => (hm _).2 (.inr ⟨q, hq, rfl⟩), zch _⟩
  · rcases (hm x).1 hx with h | ⟨i, hi', rfl⟩
    · exact hi.lt x h
    · exact Nat.pow_lt_pow_right (by omega) hi'
  · rcases (hm x).1 hx with h | ⟨i, hi', rfl⟩
    · exact (hm _).2 (.inl (zcm hd hf h ha))
    · obtain ⟨p, hp1, hp2⟩ := zrR hd hi' ha
      exact (hm _).2 (.inr ⟨p, hp1, hp2⟩)
theorem zjF {S : List Nat} (hl : S.length < 4611686018427387904) (x : Nat) : z2c (toI S) (x : Int) = some (decide (x ∈ S)) := by
  unfold z2c z3p
  rw [z6E (s := (0 : Int)) S.length (fun k => (k : Int)) (fun k => decide (x = S.getD k 0)) (fun k => some (k : Int)) (x := some (-1)) rfl (by simp only [LFm]; omega)]
  · cases h : (List.range S.length).find? (fun k => decide (x = S.getD k 0)) with
    | none =>
      have := ze9.1 h
      rw [Option.bind_some]
      congr 1
      have hn : ¬ x ∈ S := fun hx => by
        obtain ⟨i, hi, rfl⟩ := List.getElem_of_mem hx
        have := this i hi
        simp [List.getD, hi] at this
      simp [hn]
    | some k =>
      obtain ⟨k1, k2, _⟩ := zaR.1 h
      rw [Option.bind_some]
      congr 1
      have hx : x ∈ S := by
        have : x = S.getD k 0 := by simpa using k2
        rw [this]; exact z1J k1
      simp [hx]
  · intro k hk
    simp only [z2Q]
    rw [if_pos (by rw [z0W]; omega), z3V hk, Option.bind_some]
    by_cases h : x = S.getD k 0
    · rw [if_pos (by omega), if_pos (by simpa using h)]
    · rw [if_neg (by omega), if_neg (by simpa using h), z3f (by omega)]
  · simp only [z2Q]
    rw [if_neg (by rw [z0W]; omega)]
theorem zqO {d : DFA} {m n : Nat} (hd : DfaOk d m n) (hn : n ≤ 7) : z6G d = some (toI (z5t d m n)) := by
  have hp := Nat.two_pow_pos n
  have h128 : 2 ^ n ≤ 128 := Nat.pow_le_pow_right (n := 2) (by omega) hn
  have hf : 2 ^ n - 1 < 2 ^ n := by omega
  have hi := z4D hd hf
  have hl := z1O hi.nd hi.lt
  obtain ⟨h1, h2, h3⟩ := z7w hi.nd n
  unfold z6G
  have ew : IntKind.i64.wrap (((2 ^ n : Nat) : Int) - 1) = ((2 ^ n - 1 : Nat) : Int) := by rw [z2m (by omega) (by omega)]; omega
  rw [hd.fin, z1i _ (by omega), z6L (by omega), ew, zk2 hd (by omega) hf, Option.bind_some]
  refine z2j (s := ((0 : Int), toI (z1q d m n (2 ^ n - 1)).1)) n (fun q => ((q : Int), toI (z9B (z1q d m n (2 ^ n - 1)).1 q))) rfl (by simp only [LFm]; omega) (fun q hq => ?_) ?_
  · have h3' := (z7w hi.nd q).2.2
    simp only [z5I]
    rw [if_pos (by rw [hd.fin]; omega), z1i _ (by omega), z6L (by omega), zjF (by omega), Option.bind_some, z3f (by omega), z9B]
    by_cases h : 2 ^ q ∈ z9B (z1q d m n (2 ^ n - 1)).1 q
    · rw [if_pos (by simpa using h), if_pos h]
    · rw [if_neg (by simpa using h), if_neg h, z1i _ (by unfold z3i; rw [z0W]; omega), z7H]
  · simp only [z5I]
    rw [if_neg (by rw [hd.fin]; omega)]
    have hv : zl4 (toI (z9B (z1q d m n (2 ^ n - 1)).1 n)) = some (toI (z5t d m n)) := by
      unfold zl4
      rw [if_pos, zhs]; rfl
      refine ⟨fun h => ?_, by rw [z0W]; omega, ?_⟩
      · have hm := (h2 (2 ^ n - 1)).2 (.inl (zfy hd hf))
        have := congrArg List.length h
        rw [z0W] at this
        have h0 := List.length_pos_of_mem hm
        simp at this
        rw [this] at h0; simp at h0
      · rw [List.all_eq_true]
        intro x hx
        simp only [toI, List.mem_map] at hx
        obtain ⟨y, hy, rfl⟩ := hx
        have : y < 2 ^ n := by
          rcases (h2 y).1 hy with h | ⟨i, hi', rfl⟩
          · exact hi.lt y h
          · exact Nat.pow_lt_pow_right (by omega) hi'
        simp; omega
    rw [hv, Option.bind_some]
end Go.Proofs.Ytbnnipkanechoaa
end
section
namespace Go.Proofs.Ytbnnipkanechoaa
open Go
set_option maxRecDepth 100000
def z2y {α : Type} (N : Nat) (f : Nat → α) (z : α) (k : Nat) : List α := (List.range N).map fun i => if i < k then f i else z
theorem zcF {α : Type} (N : Nat) (f : Nat → α) (z : α) (k : Nat) : (z2y N f z k).length = N := by simp [z2y]
theorem zaT {α : Type} (N : Nat) (f : Nat → α) (z : α) : z2y N f z 0 = List.replicate N z := by
  apply List.ext_getElem (by simp [z2y]); intro i h1 h2; simp [z2y]
theorem zaS {α : Type} (N : Nat) (f : Nat → α) (z : α) : z2y N f z N = (List.range N).map f := by
  apply List.ext_getElem (by simp [z2y]); intro i h1 h2
  have : i < N := by simpa [z2y] using h1
  simp [z2y, this]
theorem z8C {α : Type} {N : Nat} {f : Nat → α} {z : α} {k i : Nat} (h : i < N) : atI (z2y N f z k) (i : Int) = some (if i < k then f i else z) := by
  rw [z2V (by rw [zcF]; exact h)]; simp [z2y]
theorem z6n {α : Type} {N : Nat} {f : Nat → α} {z : α} {k : Nat} (h : k < N) : (z2y N f z k).set k (f k) = z2y N f z (k + 1) := by
  apply List.ext_getElem (by simp [z2y]); intro i h1 h2
  simp only [z2y, List.getElem_set, List.getElem_map, List.getElem_range]
  by_cases e : k = i
  · subst e; rw [if_pos rfl, if_pos (by omega)]
  · rw [if_neg e]
    by_cases e2 : i < k
    · rw [if_pos e2, if_pos (by omega)]
    · rw [if_neg e2, if_neg (by omega)]
theorem zok {α : Type} {N : Nat} {f : Nat → α} {z : α} {k : Nat} (h : f k = z) : z2y N f z k = z2y N f z (k + 1) := by
  apply List.ext_getElem (by simp [z2y]); intro i h1 h2
  simp only [z2y, List.getElem_map, List.getElem_range]
  by_cases e : k = i
  · subst e; rw [if_neg (by omega), if_pos (by omega), h]
  · by_cases e2 : i < k
    · rw [if_pos e2, if_pos (by omega)]
    · rw [if_neg e2, if_neg (by omega)]
theorem z4d {α : Type} {N : Nat} {f : Nat → α} {i : Nat} (h : i < N) : atI ((List.range N).map f) (i : Int) = some (f i) := by
  rw [z2V (by simpa using h)]; simp
theorem zjY {α : Type} {l : List α} {i : Nat} {x : α} (h : i < l.length) : atI (l.set i x) (i : Int) = some x := by
  rw [z2V (by simpa using h)]; simp
theorem zj1 {α : Type} (l : List α) (i : Nat) (x y : α) : (l.set i x).set i y = l.set i y := by simp
theorem z8z {S : List Nat} (hS : S.Nodup) {i : Nat} (h : i < S.length) : S.idxOf (S.getD i 0) = i := by
  rw [List.getD, List.getElem?_eq_getElem h, Option.getD_some]
  have hm : S[i] ∈ S := List.getElem_mem h
  have h1 := List.idxOf_lt_length_of_mem hm
  have h2 : S[S.idxOf S[i]] = S[i] := List.getElem_idxOf h1
  exact (List.getElem_inj hS).1 h2
theorem z8A {S : List Nat} {x : Nat} (h : x ∈ S) : S.getD (S.idxOf x) 0 = x := by
  have := List.idxOf_lt_length_of_mem h
  rw [List.getD, List.getElem?_eq_getElem this, Option.getD_some, List.getElem_idxOf]
theorem zcp {S : List Nat} {x : Nat} (h : x ∈ S) : S.idxOf x < S.length := List.idxOf_lt_length_of_mem h
theorem zjm {S : List Nat} (hS : S.Nodup) {i j : Nat} (hi : i < S.length) (hj : j < S.length) (h : S.getD i 0 = S.getD j 0) : i = j := by
  rw [← z8z hS hi, h, z8z hS hj]
def z8g (st : RS) (x : Nat) : ByteArray := st.2.getD (st.1.idxOf x) ByteArray.empty
theorem ziw {st : RS} (hl : st.2.length = st.1.length) {x : Nat} (hx : x ∉ st.1) (w : ByteArray) (y : Nat) : z8g (st.1 ++ [x], st.2 ++ [w]) y = if y = x then w else z8g st y := by
  unfold z8g
  simp only
  by_cases hy : y ∈ st.1
  · have hne : y ≠ x := fun e => hx (e ▸ hy)
    rw [if_neg hne, List.idxOf_append, if_pos hy, z7P _ (by rw [hl]; exact zcp hy)]
  · rw [List.idxOf_append, if_neg hy]
    by_cases e : y = x
    · subst e
      rw [if_pos rfl, show List.idxOf y [y] = 0 by simp, Nat.zero_add, ze3 hl.symm]
    · rw [if_neg e]
      have h1 : List.idxOf y [x] = 1 := by
        rw [List.idxOf_cons]
        have : (x == y) = false := by simpa using fun h => e h.symm
        simp [this]
      have h2 : st.1.idxOf y = st.1.length := List.idxOf_eq_length hy
      rw [h1, h2, List.getD, List.getD, List.getElem?_eq_none (by simp [hl]; omega), List.getElem?_eq_none (by omega)]
theorem zny {d : DFA} {m n : Nat} {S : List Nat} (hS : SetsP d m n S) : ∀ {w : List UInt8} {s : Nat}, (∀ c ∈ w, 97 ≤ c.toNat ∧ c.toNat < 97 + m) → s ∈ S → za3 d s w ∈ S
  | [], s, _, h => h
  | c :: w, s, hw, h => zny (w := w) (s := mvN d s (c.toNat - 97)) hS (fun c' hc' => hw c' (List.mem_cons_of_mem _ hc')) (hS.cl s h _ (by have := hw c (List.mem_cons_self ..); omega))
theorem zo5 {d : DFA} {m n s : Nat} {S : List Nat} (hS : SetsP d m n S) (hs : s ∈ S) {st : RS} (h : RInv d m n s st) {x : Nat} (hx : x ∈ st.1) : x ∈ S := by
  obtain ⟨i, hi, rfl⟩ := List.getElem_of_mem hx
  obtain ⟨_, o2, o3⟩ := h.ok i hi
  rw [List.getD, List.getD, List.getElem?_eq_getElem hi, Option.getD_some] at o3
  rw [← o3]
  exact zny hS o2 hs
def zk7 (d : DFA) (m : Nat) (S : List Nat) (i : Nat) : List Int := (List.range m).map fun a => ((S.idxOf (mvN d (S.getD i 0) a) : Nat) : Int)
def zri (d : DFA) (m : Nat) (S : List Nat) : List (List Int) := (List.range S.length).map (zk7 d m S)
def znT (S : List Nat) (st : RS) : List Bool := (List.range S.length).map fun i => decide (S.getD i 0 ∈ st.1)
def zgz (S : List Nat) (st : RS) : List ByteArray := (List.range S.length).map fun i => z8g st (S.getD i 0)
def zew (S : List Nat) (st : RS) : List Int := toI (st.1.map S.idxOf)
theorem znH {S : List Nat} {st : RS} {k : Nat} (h : k < st.1.length) : atI (zew S st) (k : Int) = some ((S.idxOf (st.1.getD k 0) : Nat) : Int) := by
  unfold zew
  rw [z3V (by simpa using h)]
  simp [List.getD, h]
theorem zhz {d : DFA} {m n s : Nat} (hd : DfaOk d m n) (hn : n ≤ 12) {S : List Nat} (hS : SetsP d m n S) (hs : s ∈ S) {st : RS} (h : RInv d m n s st) {k : Nat} (hk : k < st.1.length) :
    z1j (z2h (k : Int) (zk7 d m S (S.idxOf (st.1.getD k 0)))) LFm (0, znT S st, zgz S st, zew S st) = z0Y (((k + 1 : Nat) : Int), znT S (z6g d k st m), zgz S (z6g d k st m), zew S (z6g d k st m)) := by
  have h12 := za4 hn
  have hm6 := hd.m6
  have hSl := z1O hS.nd hS.lt
  refine z2j (s := ((0 : Int), znT S st, zgz S st, zew S st)) m (fun a => ((a : Int), znT S (z6g d k st a), zgz S (z6g d k st a), zew S (z6g d k st a))) rfl (by simp only [LFm]; omega) (fun a ha => ?_) ?_
  · obtain ⟨k1, _, X, W, k3, k4⟩ := ze0 hd h hk a (by omega)
    have hk' : k < (z6g d k st a).1.length := by rw [k3, List.length_append]; omega
    have hl := z1O k1.nd k1.lt
    have eg : (z6g d k st a).1.getD k 0 = st.1.getD k 0 := by rw [k3, z7P _ hk]
    have hkS : st.1.getD k 0 ∈ S := zo5 hS hs h (z1J hk)
    have hxS : mvN d (st.1.getD k 0) a ∈ S := hS.cl _ hkS a ha
    obtain ⟨o1, _, _⟩ := k1.ok k hk'
    have hwk : z8g (z6g d k st a) (st.1.getD k 0) = (z6g d k st a).2.getD k ByteArray.empty := by
      unfold z8g; rw [← eg, z8z k1.nd hk']
    simp only [z2h]
    rw [if_pos (by simp [zk7]; omega), zk7, z4d ha, Option.bind_some, z8A hkS, znT, z4d (zcp hxS), Option.bind_some, z8A hxS, z3f (by omega), z6g]
    unfold zfU
    rw [eg]
    simp only [decide_eq_true_eq]
    by_cases hm : mvN d (st.1.getD k 0) a ∈ (z6g d k st a).1
    · rw [if_pos hm, if_pos hm]; rfl
    · rw [if_neg hm, if_neg hm, znH hk', Option.bind_some, eg, zgz, z4d (zcp hkS), Option.bind_some, z8A hkS, hwk, zjf (by omega), z1i _ (by unfold z9z; rw [zaL]; omega), z4d (zcp hxS), Option.bind_some, z1i _ (by unfold z3i zew; rw [z0W, List.length_map]; omega), Int.toNat_natCast]
      congr 1
      refine Prod.ext rfl (Prod.ext ?_ (Prod.ext ?_ ?_))
      · simp only [znT]
        apply List.ext_getElem (by simp)
        intro i i1 i2
        have hi : i < S.length := by simpa using i2
        simp only [List.getElem_set, List.getElem_map, List.getElem_range, List.mem_append, List.mem_singleton]
        by_cases e : S.idxOf (mvN d (st.1.getD k 0) a) = i
        · subst e; rw [if_pos rfl, z8A hxS]; simp
        · rw [if_neg e]
          have : S.getD i 0 ≠ mvN d (st.1.getD k 0) a := fun hh => e (by rw [← hh, z8z hS.nd hi])
          simp only [this, or_false]
      · simp only [zgz]
        apply List.ext_getElem (by simp)
        intro i i1 i2
        have hi : i < S.length := by simpa using i2
        simp only [List.getElem_set, List.getElem_map, List.getElem_range]
        rw [ziw k1.len hm]
        by_cases e : S.idxOf (mvN d (st.1.getD k 0) a) = i
        · subst e; rw [if_pos rfl, z8A hxS, if_pos rfl]
        · have : S.getD i 0 ≠ mvN d (st.1.getD k 0) a := fun hh => e (by rw [← hh, z8z hS.nd hi])
          rw [if_neg e, if_neg this]
      · simp only [zew, List.map_append, List.map_cons, List.map_nil]
        rw [z7H]
  · simp only [z2h]
    have := z1O h.nd h.lt
    rw [if_neg (by simp [zk7]), z3f (by omega)]
theorem zdI {d : DFA} {m n : Nat} (hd : DfaOk d m n) (hn : n ≤ 12) {S : List Nat} (hS : SetsP d m n S) (bl : List (List Bool)) {j : Nat} (hj : j < S.length) :
    z1P ⟨toI S, zri d m S, bl⟩ (j : Int) = some (zew S (z1q d m n (S.getD j 0)), zgz S (z1q d m n (S.getD j 0))) := by
  have h12 := za4 hn
  have hp := Nat.two_pow_pos n
  have hSl := z1O hS.nd hS.lt
  have hs : S.getD j 0 ∈ S := z1J hj
  have hs2 : S.getD j 0 < 2 ^ n := hS.lt _ hs
  unfold z1P
  simp only
  rw [z0W, z1i _ (by unfold z3l; omega), z1i _ (by unfold z3l; omega), z1i _ (by omega), Int.toNat_natCast, Int.toNat_natCast]
  have e1 : (List.replicate S.length false).set j true = znT S (z5P d m (S.getD j 0) 0) := by
    apply List.ext_getElem (by simp [znT])
    intro i i1 i2
    have hi : i < S.length := by simpa using i1
    simp only [znT, z5P, List.getElem_set, List.getElem_map, List.getElem_range, List.getElem_replicate, List.mem_singleton]
    by_cases e : j = i
    · subst e; simp
    · rw [if_neg e]
      have : S.getD i 0 ≠ S.getD j 0 := fun hh => e (zjm hS.nd hi hj hh).symm
      symm; simpa using this
  have e2 : List.replicate S.length (ByteArray.empty : ByteArray) = zgz S (z5P d m (S.getD j 0) 0) := by
    apply List.ext_getElem (by simp [zgz])
    intro i i1 i2
    simp only [zgz, z5P, List.getElem_map, List.getElem_range, List.getElem_replicate, z8g]
    generalize List.idxOf (S.getD i 0) [S.getD j 0] = q
    cases q <;> rfl
  have e3 : [(j : Int)] = zew S (z5P d m (S.getD j 0) 0) := by
    simp only [zew, z5P, List.map_cons, List.map_nil, z8z hS.nd hj]; rfl
  rw [e1, e2, e3]
  refine zcD (s := ((0 : Int), znT S (z5P d m (S.getD j 0) 0), zgz S (z5P d m (S.getD j 0) 0), zew S (z5P d m (S.getD j 0) 0))) (fun z => ∃ k : Nat, k ≤ 2 ^ n ∧ z = ((k : Int), znT S (z5P d m (S.getD j 0) k), zgz S (z5P d m (S.getD j 0) k), zew S (z5P d m (S.getD j 0) k))) (fun z => 2 ^ n + 1 - z.1.toNat) ⟨0, by omega, rfl⟩ (by simp only [LFm]; omega) ?_
  rintro z ⟨k, hk, rfl⟩
  have hl := zfY hd hs2 k
  have hqs : (zew S (z5P d m (S.getD j 0) k)).length = (z5P d m (S.getD j 0) k).1.length := by simp [zew, toI]
  simp only [z3O]
  by_cases h : k < (z5P d m (S.getD j 0) k).1.length
  · left
    have hinv := (z8n hd hs2 k).1
    have hkS : (z5P d m (S.getD j 0) k).1.getD k 0 ∈ S := zo5 hS hs hinv (z1J h)
    rw [if_pos (by rw [hqs]; omega), znH h, Option.bind_some, zri, z4d (zcp hkS), Option.bind_some, zhz hd hn hS hs hinv h]
    refine ⟨_, rfl, ⟨k + 1, by omega, ?_⟩, by simp only; omega⟩
    rw [z5P, if_pos h]
  · right
    rw [if_neg (by rw [hqs]; omega)]
    unfold z1q
    rw [zcy h _ hk]
end Go.Proofs.Ytbnnipkanechoaa
end
section
namespace Go.Proofs.Ytbnnipkanechoaa
open Go
set_option maxRecDepth 100000
def z6u (d : DFA) (m n : Nat) (S : List Nat) (i j : Nat) : Bool := (z1q d m n (S.getD j 0)).1.any fun x => decide (S.getD i 0 &&& x = S.getD i 0)
def zpN (d : DFA) (m n : Nat) (S : List Nat) : List (List Bool) := (List.range S.length).map fun i => (List.range S.length).map (z6u d m n S i)
def dgm (d : DFA) (m n : Nat) (S : List Nat) : Dgm := ⟨toI S, zri d m S, zpN d m n S⟩
theorem z4u {d : DFA} {m n : Nat} (hd : DfaOk d m n) {S : List Nat} (hS : SetsP d m n S) {i j : Nat} (hj : j < S.length) : z6u d m n S i j = true ↔ zr7 d m (S.getD i 0) (S.getD j 0) := by
  rw [zik hd (hS.lt _ (z1J hj))]
  unfold z6u zb1
  simp
def zmR (n : Nat) (S : List Nat) (k : Nat) : List Int := (List.range (2 ^ n)).map fun x => if x ∈ S.take k then ((S.idxOf x : Nat) : Int) else 0
theorem zps {n : Nat} {S : List Nat} (hS : S.Nodup) {k : Nat} (hk : k < S.length) : (zmR n S k).set (S.getD k 0) (k : Int) = zmR n S (k + 1) := by
  have hg : S.getD k 0 = S[k] := by rw [List.getD, List.getElem?_eq_getElem hk, Option.getD_some]
  apply List.ext_getElem (by simp [zmR])
  intro i h1 h2
  simp only [zmR, List.getElem_set, List.getElem_map, List.getElem_range]
  rw [List.take_succ_eq_append_getElem hk]
  simp only [List.mem_append, List.mem_singleton]
  by_cases e : S.getD k 0 = i
  · rw [if_pos e, if_pos (.inr (by rw [← hg]; exact e.symm)), ← e, z8z hS hk]
  · rw [if_neg e]
    have : ¬ i = S[k] := fun h => e (by rw [hg]; exact h.symm)
    simp [this]
theorem zqd {n : Nat} {S : List Nat} {k x : Nat} (h : x < 2 ^ n) : atI (zmR n S k) (x : Int) = some (if x ∈ S.take k then ((S.idxOf x : Nat) : Int) else 0) := by
  unfold zmR; rw [z4d h]
theorem zm7 {d : DFA} {m n : Nat} (hd : DfaOk d m n) (hn : n ≤ 12) {S : List Nat} (hS : SetsP d m n S) {i : Nat} (hi : i < S.length) :
    z1j (z2N d (toI S) (zmR n S S.length) (i : Int) (z2y S.length (fun _ => List.replicate S.length false) [] i) ((S.getD i 0 : Nat) : Int)) LFm (0, (z2y S.length (zk7 d m S) [] i).set i (List.replicate m 0)) =
      z0Y (((i + 1 : Nat) : Int), z2y S.length (zk7 d m S) [] (i + 1), z2y S.length (fun _ => List.replicate S.length false) [] (i + 1)) := by
  have h12 := za4 hn
  have hm6 := hd.m6
  have hSl := z1O hS.nd hS.lt
  have hx : S.getD i 0 ∈ S := z1J hi
  refine z2j (s := ((0 : Int), (z2y S.length (zk7 d m S) [] i).set i (List.replicate m 0))) m (fun a => ((a : Int), (z2y S.length (zk7 d m S) [] i).set i (z2y m (fun a => ((S.idxOf (mvN d (S.getD i 0) a) : Nat) : Int)) 0 a))) (by rw [zaT]; rfl) (by simp only [LFm]; omega) (fun a ha => ?_) ?_
  · have hmv : mvN d (S.getD i 0) a ∈ S := hS.cl _ hx a ha
    simp only [z2N]
    rw [if_pos (by rw [hd.lt]; omega), zjY (by rw [zcF]; exact hi), Option.bind_some, zja hd hn (hS.lt _ hx) ha, Option.bind_some, zqd (hS.lt _ hmv), Option.bind_some, List.take_length, if_pos hmv, z8C ha, Option.bind_some, z3f (by omega), Int.toNat_natCast, Int.toNat_natCast, zj1]
    rw [z6n (f := fun a => ((S.idxOf (mvN d (S.getD i 0) a) : Nat) : Int)) (z := 0) ha]
  · simp only [z2N]
    rw [if_neg (by rw [hd.lt]; omega), z0W, z1i _ (by unfold z3l; omega), z8C hi, Option.bind_some, z3f (by omega), Int.toNat_natCast, Int.toNat_natCast, zaS]
    have e1 := z6n (f := zk7 d m S) (z := []) hi
    have e2 := z6n (f := fun _ => List.replicate S.length false) (z := []) hi
    rw [show ((List.range m).map fun a => ((S.idxOf (mvN d (S.getD i 0) a) : Nat) : Int)) = zk7 d m S i from rfl, e1, e2]
def zcJ (d : DFA) (m n : Nat) (S : List Nat) (j i : Nat) : List (List Bool) := (List.range S.length).map fun i' => z2y S.length (z6u d m n S i') false (if i' < i then j + 1 else j)
theorem zsZ {d : DFA} {m n : Nat} {S : List Nat} {j : Nat} : zcJ d m n S j S.length = zcJ d m n S (j + 1) 0 := by
  unfold zcJ
  refine List.map_congr_left fun i hi => ?_
  rw [if_pos (List.mem_range.1 hi), if_neg (by omega)]
theorem zpS {α : Type} (p : α → Bool) (l : List α) (d : α) : ((List.range l.length).find? fun k => p (l.getD k d)).isSome = l.any p := by
  rw [Bool.eq_iff_iff, List.any_eq_true]
  rw [List.find?_isSome]
  constructor
  · rintro ⟨k, hk, h⟩
    have hk := List.mem_range.1 hk
    exact ⟨_, by rw [List.getD, List.getElem?_eq_getElem hk, Option.getD_some]; exact List.getElem_mem hk, h⟩
  · rintro ⟨x, hx, h⟩
    obtain ⟨i, hi, rfl⟩ := List.getElem_of_mem hx
    exact ⟨i, List.mem_range.2 hi, by rw [List.getD, List.getElem?_eq_getElem hi, Option.getD_some]; exact h⟩
theorem zoF {d : DFA} {m n : Nat} (hd : DfaOk d m n) (hn : n ≤ 12) {S : List Nat} (hS : SetsP d m n S) {i j : Nat} (hi : i < S.length) (hj : j < S.length) (w : List ByteArray) :
    z1j (z2M (toI S) (j : Int) (zew S (z1q d m n (S.getD j 0)), w) (i : Int) (zcJ d m n S j i) ((S.getD i 0 : Nat) : Int)) LFm 0 = z0Y (((i + 1 : Nat) : Int), zcJ d m n S j (i + 1)) := by
  have h12 := za4 hn
  have hSl := z1O hS.nd hS.lt
  have hjS := z1J hj
  have hinv := z4D hd (hS.lt _ hjS)
  have hl := z1O hinv.nd hinv.lt
  have hx62 : S.getD i 0 < 2 ^ n := hS.lt _ (z1J hi)
  have hcol : z6u d m n S i j = true → (zcJ d m n S j i).set i ((z2y S.length (z6u d m n S i) false j).set j true) = zcJ d m n S j (i + 1) := fun hb => by
    have e := z6n (f := z6u d m n S i) (z := false) hj
    rw [hb] at e
    rw [e]
    apply List.ext_getElem (by simp [zcJ])
    intro k h1 h2
    simp only [zcJ, List.getElem_set, List.getElem_map, List.getElem_range]
    by_cases ek : i = k
    · subst ek; rw [if_pos rfl, if_pos (by omega)]
    · rw [if_neg ek]
      by_cases e2 : k < i
      · rw [if_pos e2, if_pos (by omega)]
      · rw [if_neg e2, if_neg (by omega)]
  have hcol0 : z6u d m n S i j = false → zcJ d m n S j i = zcJ d m n S j (i + 1) := fun hb => by
    unfold zcJ
    refine List.map_congr_left fun k hk => ?_
    by_cases ek : k = i
    · subst ek; rw [if_neg (by omega), if_pos (by omega)]; exact zok hb
    · by_cases e2 : k < i
      · rw [if_pos e2, if_pos (by omega)]
      · rw [if_neg e2, if_neg (by omega)]
  rw [z6E (s := (0 : Int)) (z1q d m n (S.getD j 0)).1.length (fun k => (k : Int)) (fun k => decide (S.getD i 0 &&& (z1q d m n (S.getD j 0)).1.getD k 0 = S.getD i 0)) (fun _ => z0Y (((i + 1 : Nat) : Int), (zcJ d m n S j i).set i ((z2y S.length (z6u d m n S i) false j).set j true))) (x := z0Y (((i + 1 : Nat) : Int), zcJ d m n S j i)) rfl (by simp only [LFm]; omega)]
  · have ha : ((List.range (z1q d m n (S.getD j 0)).1.length).find? fun k => decide (S.getD i 0 &&& (z1q d m n (S.getD j 0)).1.getD k 0 = S.getD i 0)).isSome = z6u d m n S i j := zpS (fun x => decide (S.getD i 0 &&& x = S.getD i 0)) (z1q d m n (S.getD j 0)).1 0
    revert ha
    cases (List.range (z1q d m n (S.getD j 0)).1.length).find? fun k => decide (S.getD i 0 &&& (z1q d m n (S.getD j 0)).1.getD k 0 = S.getD i 0) with
    | none => intro ha; simp only; rw [hcol0 (by simpa using ha.symm)]
    | some k => intro ha; simp only; rw [hcol (by simpa using ha.symm)]
  · intro k hk
    have hkS : (z1q d m n (S.getD j 0)).1.getD k 0 ∈ S := zo5 hS hjS hinv (z1J hk)
    have hqs : (zew S (z1q d m n (S.getD j 0))).length = (z1q d m n (S.getD j 0)).1.length := by simp [zew, toI]
    have h62 := hS.lt _ hkS
    simp only [z2M]
    rw [if_pos (by rw [hqs]; omega), znH hk, Option.bind_some, z3V (zcp hkS), z8A hkS, Option.bind_some, z7Q (by omega) (by omega), Option.bind_some]
    simp only [decide_eq_true_eq]
    split
    · rw [zcJ, z4d hi, Option.bind_some, z8C hj, Option.bind_some, z3f (by omega), if_neg (by omega : ¬ i < i), Int.toNat_natCast, Int.toNat_natCast]
    · rw [z3f (by omega)]
  · have hqs : (zew S (z1q d m n (S.getD j 0))).length = (z1q d m n (S.getD j 0)).1.length := by simp [zew, toI]
    simp only [z2M]
    rw [if_neg (by rw [hqs]; omega), z3f (by omega)]
theorem zmD {d : DFA} {m n : Nat} (hd : DfaOk d m n) (hn : n ≤ 12) {S : List Nat} (hS : SetsP d m n S) : z3M d (toI S) = some (dgm d m n S) := by
  have h12 := za4 hn
  have hm6 := hd.m6
  have hp := Nat.two_pow_pos n
  have hSl := z1O hS.nd hS.lt
  unfold z3M
  rw [hd.fin, z1i _ (by omega), z6L (by omega), z1i _ (by unfold z3l; omega), Int.toNat_natCast]
  have e0 : List.replicate (2 ^ n) (0 : Int) = zmR n S 0 := by
    apply List.ext_getElem (by simp [zmR]); intro i h1 h2; simp [zmR]
  rw [e0]
  refine z2j (s := ((0 : Int), zmR n S 0)) S.length (fun k => ((k : Int), zmR n S k)) rfl (by simp only [LFm]; omega) (fun k hk => ?_) ?_
  · simp only [z3I]
    rw [if_pos (by rw [z0W]; omega), z3V hk, Option.bind_some, zqd (hS.lt _ (z1J hk)), Option.bind_some, z3f (by omega), Int.toNat_natCast, zps hS.nd hk]
  · simp only [z3I]
    rw [if_neg (by rw [z0W]; omega), z0W, z1i _ (by unfold z3l; omega), Int.toNat_natCast]
    congr 1
    have f1 : List.replicate S.length ([] : List Int) = z2y S.length (zk7 d m S) [] 0 := (zaT _ _ _).symm
    have f2 : List.replicate S.length ([] : List Bool) = z2y S.length (fun _ => List.replicate S.length false) [] 0 := (zaT _ _ _).symm
    rw [f1, f2]
    refine z2j (s := ((0 : Int), z2y S.length (zk7 d m S) [] 0, z2y S.length (fun _ => List.replicate S.length false) [] 0)) S.length (fun k => ((k : Int), z2y S.length (zk7 d m S) [] k, z2y S.length (fun _ => List.replicate S.length false) [] k)) rfl (by simp only [LFm]; omega) (fun k hk => ?_) ?_
    · simp only [z3H]
      rw [if_pos (by rw [z0W]; omega), z3V hk, Option.bind_some, hd.lt, z1i _ (by unfold z3l; omega), z8C hk, Option.bind_some, Int.toNat_natCast, Int.toNat_natCast, zm7 hd hn hS hk]
    · simp only [z3H]
      rw [if_neg (by rw [z0W]; omega), zaS, zaS]
      congr 1
      have f3 : ((List.range S.length).map fun _ => List.replicate S.length false) = zcJ d m n S 0 0 := by
        unfold zcJ
        refine List.map_congr_left fun i hi => ?_
        rw [if_neg (by omega), zaT]
      rw [f3]
      refine z2j (s := ((0 : Int), zcJ d m n S 0 0)) S.length (fun j => ((j : Int), zcJ d m n S j 0)) rfl (by simp only [LFm]; omega) (fun j hj => ?_) ?_
      · simp only [z3y]
        rw [if_pos (by rw [z0W]; omega)]
        have es := zdI hd hn hS (zcJ d m n S j 0) hj
        unfold zri at es
        rw [es, Option.bind_some]
        refine z2j (s := ((0 : Int), zcJ d m n S j 0)) S.length (fun i => ((i : Int), zcJ d m n S j i)) rfl (by simp only [LFm]; omega) (fun i hi => ?_) ?_
        · simp only [z3x]
          rw [if_pos (by rw [z0W]; omega), z3V hi, Option.bind_some, zoF hd hn hS hi hj]
        · simp only [z3x]
          rw [if_neg (by rw [z0W]; omega), z3f (by omega), zsZ]
      · simp only [z3y]
        rw [if_neg (by rw [z0W]; omega)]
        have f4 : zcJ d m n S S.length 0 = zpN d m n S := by
          unfold zcJ zpN
          refine List.map_congr_left fun i hi => ?_
          rw [if_neg (by omega), zaS]
        rw [f4]; rfl
end Go.Proofs.Ytbnnipkanechoaa
end
