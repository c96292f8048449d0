/- Proved here: a part of the proof of the law at hand, in one text: no condition. -/
import Derived.Test.YthalofddjlhcjaaDoorMCascadeText4
set_option linter.unusedVariables false
set_option linter.unusedSimpArgs false
section
/- Plain: strings.Split at one space. -/
namespace Go.Proofs.YthalofddjlhcjaaDoor
open Go
set_option linter.unusedVariables false
set_option linter.unusedSimpArgs false

theorem pieceS_to {l : List UInt8} {k : Nat} (h : k ≤ l.length) : pieceS (toBA l) 0 (k : Int) = some (toBA (l.take k)) := by
  unfold pieceS
  rw [if_pos (by rw [toBA_size]; omega), Int.toNat_natCast]
  congr 1
  apply ByteArray.ext
  apply Array.toList_inj.1
  simp [toBA, List.extract]
theorem pieceS_from {l : List UInt8} {k : Nat} (h : k ≤ l.length) : pieceS (toBA l) (k : Int) ((toBA l).size : Int) = some (toBA (l.drop k)) := by
  unfold pieceS
  rw [if_pos (by rw [toBA_size]; omega), Int.toNat_natCast, Int.toNat_natCast, toBA_size]
  congr 1
  apply ByteArray.ext
  apply Array.toList_inj.1
  simp only [toBA, ByteArray.data_extract, Array.toList_extract, List.extract]
  exact List.take_of_length_le (by rw [List.length_drop]; omega)
theorem take_set {α : Type} (l : List α) (i : Nat) (x : α) : (l.set i x).take i = l.take i := by rw [List.take_set, List.set_eq_of_length_le (by rw [List.length_take]; omega)]
theorem vIndex_one (l : List UInt8) (c : UInt8) : vIndex (toBA l) ⟨#[c]⟩ = some (Lib.indexByte l c) := by simp [vIndex, toBA]
theorem vCount_one (l : List UInt8) (c : UInt8) : vCount (toBA l) ⟨#[c]⟩ = some ((Lib.countByte l c : Nat) : Int) := by simp [vCount, toBA]
theorem Split_eq (s : ByteArray) (h : s.size < 100000000) : vSplit s ⟨#[32]⟩ = some (splitW s) := by
  have hw : splitW s = (splitA 32 s.data.toList []).map toBA := rfl
  have hs0 := toBA_toList s
  have hlen := toList_len s
  generalize s.data.toList = L0 at hw hs0 hlen
  have hcs : Lib.countByte L0 32 ≤ L0.length := List.count_le_length
  generalize hcnt : Lib.countByte L0 32 = cnt at hcs
  have w1 : IntKind.i64.wrap ((s.size : Int) + 1) = (s.size : Int) + 1 := wrapI (by omega) (by omega)
  have w2 : IntKind.i64.wrap ((cnt : Int) + 1) = (cnt : Int) + 1 := wrapI (by omega) (by omega)
  have hn : (if IntKind.i64.wrap ((s.size : Int) + 1) < IntKind.i64.wrap ((cnt : Int) + 1) then IntKind.i64.wrap ((s.size : Int) + 1) else IntKind.i64.wrap ((cnt : Int) + 1)) = (cnt : Int) + 1 := by
    rw [w1, w2, if_neg (by omega)]
  have hne : ¬ ((⟨#[32]⟩ : ByteArray) = ByteArray.empty) := by decide
  have hC : vCount s ⟨#[32]⟩ = some (cnt : Int) := by
    have := vCount_one L0 32
    rw [hs0, hcnt] at this
    exact this
  have main : loopG (strings_genSplit_b11 s ⟨#[32]⟩ 0 (cnt : Int)) LFm (s, 0, List.replicate ((cnt : Int) + 1).toNat ByteArray.empty) = some (.inr (splitW s)) := by
    refine loopG_eq (fun st => ∃ i : Nat, ∃ l : List UInt8, st.1 = toBA l ∧ st.2.1 = (i : Int) ∧ i + Lib.countByte l 32 = cnt ∧ st.2.2.length = cnt + 1 ∧ l.length ≤ s.size ∧ st.2.2.take i ++ (splitA 32 l []).map toBA = splitW s) (fun st => cnt - st.2.1.toNat) ⟨0, L0, hs0.symm, rfl, by omega, by simp, by omega, by simp [hw]⟩ (by simp only [LFm]; omega) ?_
    rintro ⟨_, _, arr⟩ ⟨i, l, h1, h2, hc, ha, hl, he⟩
    simp only at h1 h2 ha he
    subst h1
    subst h2
    simp only [strings_genSplit_b11]
    rw [hn, wrapI (x := (cnt : Int) + 1 - 1) (by omega) (by omega)]
    have fin : Lib.countByte l 32 = 0 → ((atI arr (i : Int)).bind fun v58 => (pieceL (arr.set (i : Int).toNat (toBA l)) 0 (IntKind.i64.wrap ((i : Int) + 1))).bind fun v59 => some (Sum.inr v59 : Unit ⊕ List ByteArray)) = some (.inr (splitW s)) := by
      intro h0
      have hm : (32 : UInt8) ∉ l := List.count_eq_zero.1 h0
      rw [splitA_none hm] at he
      rw [atI_nat (by omega), Option.bind_some, wrapS (by omega), pieceL_to (by rw [List.length_set]; omega), Option.bind_some, ← he]
      congr 2
      rw [Int.toNat_natCast, List.take_succ_eq_append_getElem (by rw [List.length_set]; omega), take_set]
      simp
    by_cases hlt : i < cnt
    · rw [if_pos (by omega), vIndex_one, Option.bind_some]
      rcases index_cases 32 l with ⟨k1, k2⟩ | ⟨p, q, k1, k2, k3⟩
      · have := count_none k2
        omega
      · left
        subst k1
        rw [splitA_some k2] at he
        rw [count_some k2] at hc
        simp only [List.length_append, List.length_cons] at hl
        have e1 : IntKind.i64.wrap ((p.length : Int) + 0) = ((p.length : Nat) : Int) := by rw [wrapI (by omega) (by omega)]; omega
        have e2 : IntKind.i64.wrap ((p.length : Int) + ((⟨#[32]⟩ : ByteArray).size : Int)) = ((p.length + 1 : Nat) : Int) := by
          rw [show ((⟨#[32]⟩ : ByteArray).size : Int) = 1 from rfl, wrapS (by omega)]
        rw [k3, if_neg (by omega), e1, e2, pieceS_to (by simp), Option.bind_some, atI_nat (by omega), Option.bind_some, pieceS_from (by simp), Option.bind_some]
        refine ⟨_, rfl, ⟨i + 1, q, ?_, wrapS (by omega), by omega, by simp only [List.length_set]; exact ha, by omega, ?_⟩, ?_⟩
        · simp only
          congr 1
          simp
        · rw [← he]
          simp only [Int.toNat_natCast]
          rw [List.take_succ_eq_append_getElem (by rw [List.length_set]; omega), take_set]
          simp
        · simp only
          rw [wrapS (by omega)]
          omega
    · right
      rw [if_neg (by omega), fin (by omega)]
  unfold vSplit strings_Split strings_genSplit
  rw [if_neg (by decide), if_neg hne, if_pos (by decide), hC, Option.bind_some, hn, chk_pos _ (by unfold makeOk; omega), main]
  rfl
end Go.Proofs.YthalofddjlhcjaaDoor
end
section
/- Plain: numbers as text. -/
namespace Go.Proofs.YthalofddjlhcjaaDoor
open Go
set_option linter.unusedVariables false
set_option linter.unusedSimpArgs false

/-- The digits of a number below 100. -/
def digL (n : Int) : List Int := if n < 10 then [48 + n] else [48 + n / 10, 48 + n % 10]
theorem small1 : ∀ k : Nat, k < 10 → intsOf (ByteArray.extract ⟨#[48,49,50,51,52,53,54,55,56,57,97,98,99,100,101,102,103,104,105,106,107,108,109,110,111,112,113,114,115,116,117,118,119,120,121,122]⟩ k (k + 1)) = digL (k : Int) := by decide +kernel
theorem small2 : ∀ k : Nat, k < 100 → ¬ k < 10 → intsOf (ByteArray.extract ⟨#[48,48,48,49,48,50,48,51,48,52,48,53,48,54,48,55,48,56,48,57,49,48,49,49,49,50,49,51,49,52,49,53,49,54,49,55,49,56,49,57,50,48,50,49,50,50,50,51,50,52,50,53,50,54,50,55,50,56,50,57,51,48,51,49,51,50,51,51,51,52,51,53,51,54,51,55,51,56,51,57,52,48,52,49,52,50,52,51,52,52,52,53,52,54,52,55,52,56,52,57,53,48,53,49,53,50,53,51,53,52,53,53,53,54,53,55,53,56,53,57,54,48,54,49,54,50,54,51,54,52,54,53,54,54,54,55,54,56,54,57,55,48,55,49,55,50,55,51,55,52,55,53,55,54,55,55,55,56,55,57,56,48,56,49,56,50,56,51,56,52,56,53,56,54,56,55,56,56,56,57,57,48,57,49,57,50,57,51,57,52,57,53,57,54,57,55,57,56,57,57]⟩ (k * 2) (k * 2 + 2)) = digL (k : Int) := by decide +kernel
theorem digL_len (n : Int) : 1 ≤ (digL n).length ∧ (digL n).length ≤ 2 := by unfold digL; split <;> simp
theorem small_eq (x : Int) (h0 : 0 ≤ x) (h1 : x < 100) : ∃ s, i_strconv_small x = some s ∧ intsOf s = digL x ∧ s.size ≤ 2 := by
  obtain ⟨k, rfl⟩ := Int.eq_ofNat_of_zero_le h0
  unfold i_strconv_small
  split
  · rename_i h
    rw [wrapS (by omega)]
    unfold pieceS
    rw [if_pos (by refine ⟨by omega, by omega, ?_⟩; show ((k + 1 : Nat) : Int) ≤ 36; omega)]
    refine ⟨_, rfl, ?_, ?_⟩
    · rw [Int.toNat_natCast, Int.toNat_natCast]; exact small1 k (by omega)
    · simp only [Int.toNat_natCast, ByteArray.size_extract]; omega
  · rename_i h
    rw [wrapI (x := (k : Int) * 2) (by omega) (by omega), wrapI (by omega) (by omega)]
    unfold pieceS
    rw [if_pos (by refine ⟨by omega, by omega, ?_⟩; show (k : Int) * 2 + 2 ≤ 200; omega)]
    have e1 : ((k : Int) * 2).toNat = k * 2 := by omega
    have e2 : ((k : Int) * 2 + 2).toNat = k * 2 + 2 := by omega
    refine ⟨_, rfl, ?_, ?_⟩
    · rw [e1, e2]; exact small2 k (by omega) (by omega)
    · simp only [e1, e2, ByteArray.size_extract]; omega
theorem intsOf_len (s : ByteArray) : (intsOf s).length = s.size := by simp [intsOf]
theorem AppendInt_eq (a : List Int) (x : Int) (h0 : 0 ≤ x) (h1 : x < 100) (ha : a.length < 100000000) : strconv_AppendInt a x 10 = some (a ++ digL x) := by
  obtain ⟨s, e, e2, e3⟩ := small_eq x h0 h1
  have w1 : IntKind.u64.wrap x = x := by rw [IntKind.wrap_u64]; omega
  unfold strconv_AppendInt i_strconv_AppendInt
  rw [if_neg (by omega), w1]
  unfold i_strconv_AppendUint
  rw [if_pos rfl, if_pos (by omega), wrapI (by omega) (by omega), e]
  simp only [Option.bind_some]
  rw [chk_pos _ (by unfold capOk; omega), e2]
  rfl
def numsT (xs : List Int) : List Int := xs.flatMap fun x => 32 :: digL x
theorem numsT_snoc (xs : List Int) (k : Nat) (h : k < xs.length) : numsT (xs.take (k + 1)) = numsT (xs.take k) ++ (32 :: digL (xs.getD k 0)) := by
  have e : xs.getD k 0 = xs[k] := by simp [List.getD, List.getElem?_eq_getElem h]
  rw [List.take_succ_eq_append_getElem h, e]
  unfold numsT
  rw [List.flatMap_append]
  simp
theorem numsT_len : ∀ xs : List Int, (numsT xs).length ≤ 3 * xs.length
  | [] => by simp [numsT]
  | x :: xs => by
    have := numsT_len xs
    have h2 := (digL_len x).2
    simp only [numsT, List.flatMap_cons, List.length_append, List.length_cons] at this ⊢
    omega
theorem atI_D {α : Type} {xs : List α} {k : Nat} (d : α) (h : k < xs.length) : atI xs (k : Int) = some (xs.getD k d) := by
  rw [atI_nat h]; simp [List.getD, List.getElem?_eq_getElem h]
theorem getD_mem {α : Type} {xs : List α} {k : Nat} (d : α) (h : k < xs.length) : xs.getD k d ∈ xs := by
  rw [show xs.getD k d = xs[k] by simp [List.getD, List.getElem?_eq_getElem h]]; exact List.getElem_mem h
theorem appendNumbers_eq (a xs : List Int) (hx : ∀ x ∈ xs, 0 ≤ x ∧ x < 100) (ha : a.length + 3 * xs.length < 100000000) : cascade_appendNumbers a xs = some (a ++ numsT xs) := by
  unfold cascade_appendNumbers
  refine (loop_to (x := some (a ++ numsT xs)) xs.length (fun k => ((k : Int), a ++ numsT (xs.take k))) (by simp [numsT]) (by simp only [LFm]; omega) (fun k hk => ?_) ?_)
  · have hm := hx _ (getD_mem 0 hk)
    have hl := numsT_len (xs.take k)
    rw [List.length_take] at hl
    simp only [cascade_appendNumbers_b2]
    rw [if_pos (by omega), atI_D 0 hk]
    simp only [Option.bind_some]
    rw [chk_pos _ (by unfold capOk; simp only [List.length_append]; omega), AppendInt_eq _ _ hm.1 hm.2 (by simp only [List.length_append, List.length_singleton]; omega)]
    simp only [Option.bind_some]
    rw [wrapS (by omega), numsT_snoc xs k hk]
    simp
  · simp only [cascade_appendNumbers_b2]
    rw [if_neg (by omega), List.take_length]
theorem digits_eq (n : Int) (h0 : 0 ≤ n) (h1 : n < 100) : ref26_digits 12 n = some (bytesOf (digL n)) := by
  have d9 : ∀ (k : Nat) (m : Int), 0 ≤ m → m < 10 → ref26_digits (k + 1) m = some (bytesOf [48 + m]) := by
    intro k m a b
    simp only [ref26_digits, ref26_digits_r]
    rw [if_pos b, wrapI (by omega) (by omega), wrap8 (by omega) (by omega)]
    rfl
  unfold digL
  by_cases h : n < 10
  · rw [if_pos h]; exact d9 11 n h0 h
  · rw [if_neg h]
    have e1 : quoI .i64 n 10 = n / 10 := by
      unfold quoI
      rw [Int.tdiv_eq_ediv_of_nonneg h0]
      exact wrapI (by omega) (by omega)
    have e2 : n.tmod 10 = n % 10 := Int.tmod_eq_emod_of_nonneg h0
    rw [show ref26_digits 12 n = ref26_digits_r (ref26_digits 11) n from rfl]
    unfold ref26_digits_r
    rw [if_neg h, e1, d9 10 _ (by omega) (by omega), e2, wrapI (x := 48 + n % 10) (by omega) (by omega), wrap8 (by omega) (by omega)]
    simp only [Option.bind_some]
    rw [chk_pos _ (by unfold catOk; show ((1 : Nat) : Int) + ((1 : Nat) : Int) ≤ _; omega)]
    rfl
end Go.Proofs.YthalofddjlhcjaaDoor
end
section
/- Plain facts on lists of numbers and cascades. No program. -/
namespace Go.Proofs.YthalofddjlhcjaaDoor
set_option linter.unusedVariables false
set_option linter.unusedSimpArgs false

/-- The lexicographic order of lists. -/
def lexLt : List Int → List Int → Bool
  | _, [] => false
  | [], _ :: _ => true
  | a :: x, b :: y => decide (a < b) || (decide (a = b) && lexLt x y)

/-- What slices.Compare answers. -/
def cmpL : List Int → List Int → Int
  | [], [] => 0
  | [], _ :: _ => -1
  | _ :: _, [] => 1
  | a :: x, b :: y => if a < b then -1 else if b < a then 1 else cmpL x y

/-- The order of prefixes. -/
def cmpR (a b : List Int) : Int := if a.length < b.length then -1 else if b.length < a.length then 1 else cmpL a b

/-- All states lie below the sizes. -/
def inB (sizes xs : List Int) : Bool := (xs.zip sizes).all fun p => decide (0 ≤ p.1) && decide (p.1 < p.2)

def tupB (sizes xs : List Int) : Bool := decide (xs.length = sizes.length) && inB sizes xs

theorem getD_of_lt {α : Type} {l : List α} {i : Nat} (d : α) (h : i < l.length) : l.getD i d = l[i] := by simp [List.getD, List.getElem?_eq_getElem h]

theorem list_ext_getD {xs ys : List Int} (hl : xs.length = ys.length) (h : ∀ i, i < xs.length → xs.getD i 0 = ys.getD i 0) : xs = ys := by
  apply List.ext_getElem hl
  intro i h1 h2
  have := h i h1
  rwa [getD_of_lt 0 h1, getD_of_lt 0 h2] at this

theorem inB_iff (sizes xs : List Int) (hl : xs.length ≤ sizes.length) : inB sizes xs = true ↔ ∀ i, i < xs.length → 0 ≤ xs.getD i 0 ∧ xs.getD i 0 < sizes.getD i 0 := by
  unfold inB
  rw [List.all_eq_true]
  constructor
  · intro h i hi
    have hz : i < (xs.zip sizes).length := by simp; omega
    have := h (xs.zip sizes)[i] (List.getElem_mem _)
    simp only [List.getElem_zip, Bool.and_eq_true, decide_eq_true_eq] at this
    rw [getD_of_lt 0 hi, getD_of_lt 0 (by omega)]
    exact this
  · intro h p hp
    obtain ⟨i, hi, rfl⟩ := List.getElem_of_mem hp
    have hz : i < xs.length := by simp at hi; omega
    have := h i hz
    rw [getD_of_lt 0 hz, getD_of_lt 0 (by omega)] at this
    simp only [List.getElem_zip, Bool.and_eq_true, decide_eq_true_eq]
    exact this

theorem inB_false (sizes xs : List Int) (hl : xs.length ≤ sizes.length) (i : Nat) (hi : i < xs.length) (h : ¬ (0 ≤ xs.getD i 0 ∧ xs.getD i 0 < sizes.getD i 0)) : inB sizes xs = false := by
  rw [← Bool.not_eq_true, inB_iff _ _ hl]
  exact fun h' => h (h' i hi)

theorem lexLt_take : ∀ (xs ys : List Int) (k : Nat), k < xs.length → k < ys.length → (∀ i, i < k → xs.getD i 0 = ys.getD i 0) → xs.getD k 0 ≠ ys.getD k 0 → lexLt xs ys = decide (xs.getD k 0 < ys.getD k 0)
  | [], _, k, h, _, _, _ => by simp at h
  | _ :: _, [], k, _, h, _, _ => by simp at h
  | a :: x, b :: y, 0, _, _, _, hne => by
    simp at hne
    simp [lexLt, hne]
  | a :: x, b :: y, k + 1, h1, h2, he, hne => by
    have h0 := he 0 (by omega)
    simp at h0
    subst h0
    have ih := lexLt_take x y k (by simpa using h1) (by simpa using h2) (fun i hi => by have := he (i + 1) (by omega); simpa using this) (by simpa using hne)
    simp [lexLt] at ih ⊢
    exact ih

theorem lexLt_end : ∀ (xs ys : List Int), (∀ i, i < xs.length → i < ys.length → xs.getD i 0 = ys.getD i 0) → lexLt xs ys = decide (xs.length < ys.length)
  | [], [], _ => by simp [lexLt]
  | [], _ :: _, _ => by simp [lexLt]
  | _ :: _, [], _ => by simp [lexLt]
  | a :: x, b :: y, he => by
    have h0 := he 0 (by simp) (by simp)
    simp at h0
    subst h0
    have ih := lexLt_end x y (fun i h1 h2 => by have := he (i + 1) (by simpa using h1) (by simpa using h2); simpa using this)
    simp [lexLt, ih]

theorem cmpL_take : ∀ (xs ys : List Int) (k : Nat), k < xs.length → k < ys.length → (∀ i, i < k → xs.getD i 0 = ys.getD i 0) → xs.getD k 0 ≠ ys.getD k 0 → cmpL xs ys = if xs.getD k 0 < ys.getD k 0 then -1 else 1
  | [], _, k, h, _, _, _ => by simp at h
  | _ :: _, [], k, _, h, _, _ => by simp at h
  | a :: x, b :: y, 0, _, _, _, hne => by
    simp at hne
    simp only [cmpL, List.getD_cons_zero]
    by_cases h : a < b
    · simp [h]
    · have : b < a := by omega
      simp [h, this]
  | a :: x, b :: y, k + 1, h1, h2, he, hne => by
    have h0 := he 0 (by omega)
    simp at h0
    subst h0
    have ih := cmpL_take x y k (by simpa using h1) (by simpa using h2) (fun i hi => by have := he (i + 1) (by omega); simpa using this) (by simpa using hne)
    simp [cmpL] at ih ⊢
    exact ih

theorem cmpL_end : ∀ (xs ys : List Int), (∀ i, i < xs.length → i < ys.length → xs.getD i 0 = ys.getD i 0) → cmpL xs ys = if xs.length < ys.length then -1 else if ys.length < xs.length then 1 else 0
  | [], [], _ => by simp [cmpL]
  | [], _ :: _, _ => by simp [cmpL]
  | _ :: _, [], _ => by simp [cmpL]
  | a :: x, b :: y, he => by
    have h0 := he 0 (by simp) (by simp)
    simp at h0
    subst h0
    have ih := cmpL_end x y (fun i h1 h2 => by have := he (i + 1) (by simpa using h1) (by simpa using h2); simpa using this)
    simp [cmpL, ih]

theorem cmpL_lt : ∀ (xs ys : List Int), lexLt xs ys = decide (cmpL xs ys < 0)
  | [], [] => by simp [cmpL, lexLt]
  | [], _ :: _ => by simp [cmpL, lexLt]
  | _ :: _, [] => by simp [cmpL, lexLt]
  | a :: x, b :: y => by
    have ih := cmpL_lt x y
    simp only [cmpL, lexLt, ih]
    by_cases h : a < b
    · simp [h]
    · by_cases h2 : b < a
      · have : a ≠ b := by omega
        simp [h, h2, this]
      · have : a = b := by omega
        simp [this]

theorem cmpL_range : ∀ (xs ys : List Int), cmpL xs ys = -1 ∨ cmpL xs ys = 0 ∨ cmpL xs ys = 1
  | [], [] => by simp [cmpL]
  | [], _ :: _ => by simp [cmpL]
  | _ :: _, [] => by simp [cmpL]
  | a :: x, b :: y => by
    have ih := cmpL_range x y
    simp only [cmpL]
    split
    · simp
    · split
      · simp
      · exact ih

theorem cmpL_zero : ∀ (xs ys : List Int), cmpL xs ys = 0 ↔ xs = ys
  | [], [] => by simp [cmpL]
  | [], _ :: _ => by simp [cmpL]
  | _ :: _, [] => by simp [cmpL]
  | a :: x, b :: y => by
    have ih := cmpL_zero x y
    simp only [cmpL]
    by_cases h : a < b
    · have : a ≠ b := by omega
      simp [h, this]
    · by_cases h2 : b < a
      · have : a ≠ b := by omega
        simp [h, h2, this]
      · have : a = b := by omega
        simp [this, ih]

theorem cmpR_range (a b : List Int) : cmpR a b = -1 ∨ cmpR a b = 0 ∨ cmpR a b = 1 := by
  have := cmpL_range a b
  unfold cmpR; split
  · simp
  · split
    · simp
    · exact this

theorem cmpR_zero (a b : List Int) : cmpR a b = 0 ↔ a = b := by
  have := cmpL_zero a b
  unfold cmpR
  by_cases h : a.length < b.length
  · simp only [if_pos h]
    constructor
    · omega
    · intro e; subst e; omega
  · by_cases h2 : b.length < a.length
    · simp only [if_neg h, if_pos h2]
      constructor
      · omega
      · intro e; subst e; omega
    · simp only [if_neg h, if_neg h2]; exact this

/-- A map of a component with n states. -/
def mapB (n : Int) (m : List Int) : Bool := decide ((m.length : Int) = n) && m.all fun s => decide (0 ≤ s) && decide (s < n)

/-- A row of the right form. -/
def rowB (c : Casc) (r : CRow) : Bool := decide (r.pre.length < c.sizes.length) && inB c.sizes r.pre && decide ((r.maps.length : Int) = c.letters) && r.maps.all (mapB (c.sizes.getD r.pre.length 0))

theorem tupB_take (sizes xs : List Int) (h : xs.length < sizes.length) : tupB (sizes.take xs.length) xs = inB sizes xs := by
  have hl : (sizes.take xs.length).length = xs.length := by rw [List.length_take]; omega
  have e : ∀ i, i < xs.length → (sizes.take xs.length).getD i 0 = sizes.getD i 0 := fun i hi => by
    simp only [List.getD, List.getElem?_take_of_lt hi]
  have : tupB (sizes.take xs.length) xs = inB (sizes.take xs.length) xs := by simp [tupB, hl]
  rw [this, Bool.eq_iff_iff, inB_iff _ _ (by omega), inB_iff _ _ (by omega)]
  constructor
  · intro h i hi; have := h i hi; rwa [e i hi] at this
  · intro h i hi; rw [e i hi]; exact h i hi

theorem all_getD {α : Type} (p : α → Bool) (l : List α) (d : α) : l.all p = true ↔ ∀ i, i < l.length → p (l.getD i d) = true := by
  rw [List.all_eq_true]
  constructor
  · intro h i hi; rw [getD_of_lt d hi]; exact h _ (List.getElem_mem _)
  · intro h x hx
    obtain ⟨i, hi, rfl⟩ := List.getElem_of_mem hx
    have := h i hi
    rwa [getD_of_lt d hi] at this

theorem all_getD_false {α : Type} (p : α → Bool) (l : List α) (d : α) (i : Nat) (hi : i < l.length) (h : p (l.getD i d) = false) : l.all p = false := by
  rw [← Bool.not_eq_true, all_getD p l d]
  intro h'
  rw [h' i hi] at h
  cases h

theorem mapB_iff (n : Int) (m : List Int) (hl : (m.length : Int) = n) : mapB n m = true ↔ ∀ i, i < m.length → 0 ≤ m.getD i 0 ∧ m.getD i 0 < n := by
  unfold mapB
  rw [decide_eq_true hl, Bool.true_and, all_getD _ _ 0]
  simp

theorem rowB_short (c : Casc) (r : CRow) (h : ¬ r.pre.length < c.sizes.length) : rowB c r = false := by simp [rowB, h]
theorem rowB_in (c : Casc) (r : CRow) (h : inB c.sizes r.pre = false) : rowB c r = false := by simp [rowB, h]
theorem rowB_letters (c : Casc) (r : CRow) (h : ¬ (r.maps.length : Int) = c.letters) : rowB c r = false := by simp [rowB, h]
theorem rowB_maps (c : Casc) (r : CRow) (h1 : r.pre.length < c.sizes.length) (h2 : inB c.sizes r.pre = true) (h3 : (r.maps.length : Int) = c.letters) : rowB c r = r.maps.all (mapB (c.sizes.getD r.pre.length 0)) := by
  simp [rowB, h1, h2, h3]

/-- The rows have the right form and ascend. -/
def rowsUpB (c : Casc) (k : Nat) : Bool := (List.range k).all fun i => rowB c (c.rows.getD i ⟨[], []⟩) && (decide (i = 0) || decide (cmpR (c.rows.getD (i - 1) ⟨[], []⟩).pre (c.rows.getD i ⟨[], []⟩).pre < 0))

/-- The first error of a cascade. -/
def validE (c : Casc) : Int :=
  if c.letters < 1 ∨ 6 < c.letters then 1
  else if 24 < c.sizes.length ∨ 48000 < c.rows.length then 3
  else if (c.sizes.all fun n => decide (1 ≤ n) && decide (n ≤ 32)) && rowsUpB c c.rows.length then 0 else 23

theorem rowsUpB_succ (c : Casc) (k : Nat) : rowsUpB c (k + 1) = (rowsUpB c k && (rowB c (c.rows.getD k ⟨[], []⟩) && (decide (k = 0) || decide (cmpR (c.rows.getD (k - 1) ⟨[], []⟩).pre (c.rows.getD k ⟨[], []⟩).pre < 0)))) := by
  simp [rowsUpB, List.range_succ, List.all_append]

theorem rowsUpB_mono (c : Casc) {k n : Nat} (h : k ≤ n) (hf : rowsUpB c k = false) : rowsUpB c n = false := by
  rw [← Bool.not_eq_true] at hf ⊢
  intro h'
  apply hf
  simp only [rowsUpB, List.all_eq_true, List.mem_range] at h' ⊢
  exact fun i hi => h' i (by omega)
end Go.Proofs.YthalofddjlhcjaaDoor
end
section
/- More plain facts on cascades. No program. -/
namespace Go.Proofs.YthalofddjlhcjaaDoor
set_option linter.unusedVariables false
set_option linter.unusedSimpArgs false

theorem cmpL_trans : ∀ (a b c : List Int), cmpL a b < 0 → cmpL b c < 0 → cmpL a c < 0
  | [], _, [] => by intro h1 h2; cases ‹List Int› <;> simp [cmpL] at *
  | [], _, _ :: _ => by simp [cmpL]
  | _ :: _, [], _ => by simp [cmpL]
  | _ :: _, _ :: _, [] => by simp [cmpL]
  | a :: us, b :: bs, c :: cs => by
    have h := cmpL_trans us bs cs
    simp only [cmpL]
    intro h1 h2
    by_cases ab : a < b
    · by_cases bc : b < c
      · rw [if_pos (by omega)]; omega
      · by_cases cb : c < b
        · rw [if_neg bc, if_pos cb] at h2; omega
        · rw [if_pos (by omega)]; omega
    · by_cases ba : b < a
      · rw [if_neg ab, if_pos ba] at h1; omega
      · have : a = b := by omega
        subst this
        rw [if_neg ab, if_neg ba] at h1
        by_cases bc : a < c
        · rw [if_pos bc]; omega
        · by_cases cb : c < a
          · rw [if_neg bc, if_pos cb] at h2; omega
          · rw [if_neg bc, if_neg cb] at h2 ⊢
            exact h h1 h2

theorem cmpR_trans (a b c : List Int) (h1 : cmpR a b < 0) (h2 : cmpR b c < 0) : cmpR a c < 0 := by
  have := cmpL_trans a b c
  unfold cmpR at *
  by_cases ab : a.length < b.length
  · by_cases cb : c.length < b.length
    · rw [if_neg (by omega), if_pos cb] at h2; omega
    · rw [if_pos (by omega)]; omega
  · by_cases ba : b.length < a.length
    · rw [if_neg ab, if_pos ba] at h1; omega
    · rw [if_neg ab, if_neg ba] at h1
      by_cases bc : b.length < c.length
      · rw [if_pos (by omega)]; omega
      · by_cases cb : c.length < b.length
        · rw [if_neg bc, if_pos cb] at h2; omega
        · rw [if_neg bc, if_neg cb] at h2
          rw [if_neg (by omega), if_neg (by omega)]
          exact this h1 h2

/-- The rows ascend. -/
def UpR (rows : List CRow) : Prop := ∀ i j (hi : i < rows.length) (hj : j < rows.length), i < j → cmpR rows[i].pre rows[j].pre < 0

theorem upR_of (c : Casc) (h : rowsUpB c c.rows.length = true) : UpR c.rows := by
  have adj : ∀ i (h1 : i + 1 < c.rows.length), cmpR c.rows[i].pre c.rows[i + 1].pre < 0 := fun i h1 => by
    simp only [rowsUpB, List.all_eq_true, List.mem_range] at h
    have := h (i + 1) h1
    simp only [Nat.add_sub_cancel, getD_of_lt _ h1, getD_of_lt _ (show i < c.rows.length by omega)] at this
    rw [Bool.and_eq_true] at this
    simpa using this.2
  intro i j hi hj hij
  induction j with
  | zero => omega
  | succ j ih =>
    by_cases e : i = j
    · subst e; exact adj i hj
    · exact cmpR_trans _ _ _ (ih (by omega) (by omega)) (adj j hj)

/-- What a cascade without an error is like. -/
structure Valid (c : Casc) : Prop where
  l1 : 1 ≤ c.letters
  l2 : c.letters ≤ 6
  s1 : c.sizes.length ≤ 24
  r1 : c.rows.length ≤ 48000
  sz : ∀ i, i < c.sizes.length → 1 ≤ c.sizes.getD i 0 ∧ c.sizes.getD i 0 ≤ 32
  up : UpR c.rows
  row : ∀ i (h : i < c.rows.length), rowB c c.rows[i] = true

theorem valid_of (c : Casc) (h : validE c = 0) : Valid c := by
  unfold validE at h
  split at h
  · cases h
  · rename_i a1
    split at h
    · cases h
    · rename_i a2
      split at h
      · rename_i a3
        rw [Bool.and_eq_true] at a3
        obtain ⟨b1, b2⟩ := a3
        refine ⟨by omega, by omega, by omega, by omega, fun i hi => ?_, upR_of c b2, fun i hi => ?_⟩
        · have := (all_getD _ _ 0).1 b1 i hi
          rw [Bool.and_eq_true, decide_eq_true_iff, decide_eq_true_iff] at this
          exact this
        · simp only [rowsUpB, List.all_eq_true, List.mem_range] at b2
          have := b2 i hi
          rw [Bool.and_eq_true, getD_of_lt _ hi] at this
          exact this.1
      · cases h

theorem rowB_facts {c : Casc} {r : CRow} (h : rowB c r = true) : r.pre.length < c.sizes.length ∧ inB c.sizes r.pre = true ∧ (r.maps.length : Int) = c.letters ∧
    ∀ i, i < r.maps.length → ((r.maps.getD i []).length : Int) = c.sizes.getD r.pre.length 0 ∧ ∀ j, j < (r.maps.getD i []).length → 0 ≤ (r.maps.getD i []).getD j 0 ∧ (r.maps.getD i []).getD j 0 < c.sizes.getD r.pre.length 0 := by
  unfold rowB at h
  simp only [Bool.and_eq_true, decide_eq_true_eq] at h
  obtain ⟨⟨⟨h1, h2⟩, h3⟩, h4⟩ := h
  refine ⟨h1, h2, h3, fun i hi => ?_⟩
  have := (all_getD _ _ []).1 h4 i hi
  have hl : ((r.maps.getD i []).length : Int) = c.sizes.getD r.pre.length 0 := by
    unfold mapB at this
    rw [Bool.and_eq_true, decide_eq_true_iff] at this
    exact this.1
  exact ⟨hl, (mapB_iff _ _ hl).1 this⟩
end Go.Proofs.YthalofddjlhcjaaDoor
end
section
/- Plain: comparisons of lists. -/
namespace Go.Proofs.YthalofddjlhcjaaDoor
open Go
set_option linter.unusedVariables false
set_option linter.unusedSimpArgs false

theorem atI_getD {α : Type} {xs : List α} {k : Nat} (d : α) (h : k < xs.length) : atI xs (k : Int) = some (xs.getD k d) := by
  rw [atI_nat h, getD_of_lt d h]
def cmpI (a b : Int) : Int := if a < b then -1 else if b < a then 1 else 0
theorem cmpI_zero (a b : Int) : cmpI a b = 0 ↔ a = b := by unfold cmpI; split <;> (try split) <;> omega
theorem Compare_eq (a b : Int) : cmp_Compare_int a b = some (cmpI a b) := by
  simp [cmp_Compare_int, cmp_isNaN_int, cmpI]
  split <;> (try split) <;> simp_all
theorem Or_eq (a b : Int) : cmp_Or_int [a, b] = some (if a ≠ 0 then a else b) := by
  unfold cmp_Or_int
  rw [loop_find (s := (0 : Int)) 2 (fun k => (k : Int)) (fun k => decide (([a, b].getD k 0) ≠ 0)) (fun k => some ([a, b].getD k 0)) (x := some 0) rfl (by simp only [LFm]; omega)]
  · by_cases ha : a = 0 <;> by_cases hb : b = 0 <;> simp [List.range, List.range.loop, ha, hb]
  · intro k hk
    simp only [cmp_Or_int_b3]
    rw [if_pos (by simp; omega), atI_getD 0 (by simpa using hk), wrapS (by omega)]
    simp only [Option.bind_some]
    by_cases h : [a, b].getD k 0 = 0 <;> simp [h]
  · simp [cmp_Or_int_b3]
theorem Same_eq (xs ys : List Int) (h : xs.length < 4611686018427387904) : ref03_Same xs ys = some (decide (xs = ys)) := by
  unfold ref03_Same
  split
  · rename_i hl
    have hl : xs.length = ys.length := by omega
    rw [loop_find (s := (0 : Int)) xs.length (fun k => (k : Int)) (fun k => !decide (xs.getD k 0 = ys.getD k 0)) (fun _ => some false) (x := some true) rfl (by simp only [LFm]; omega)]
    · rw [find_all]
      simp only [Bool.not_not]
      by_cases he : xs = ys
      · subst he; simp
      · rw [if_neg, decide_eq_false he]
        intro hh
        simp only [List.all_eq_true, List.mem_range, decide_eq_true_eq] at hh
        exact he (list_ext_getD hl hh)
    · intro k hk
      simp only [ref03_Same_b4]
      rw [if_pos (by omega), atI_getD 0 hk, atI_getD 0 (by omega), wrapS (by omega)]
      simp only [Option.bind_some]
      by_cases h : xs.getD k 0 = ys.getD k 0 <;> simp [h]
    · simp [ref03_Same_b4]
  · rename_i hl
    rw [decide_eq_false]
    intro e; subst e; exact hl rfl
def short (xss : List (List Int)) : Prop := xss.length < 4611686018427387904 ∧ ∀ m ∈ xss, m.length < 4611686018427387904
theorem SameRows_eq (xs ys : List (List Int)) (h : short xs) : ref03_SameRows xs ys = some (decide (xs = ys)) := by
  unfold ref03_SameRows
  split
  · rename_i hl
    have hl : xs.length = ys.length := by omega
    rw [loop_find (s := (0 : Int)) xs.length (fun k => (k : Int)) (fun k => !decide (xs.getD k [] = ys.getD k [])) (fun _ => some false) (x := some true) rfl (by simp only [LFm]; have := h.1; omega)]
    · rw [find_all]
      simp only [Bool.not_not]
      by_cases he : xs = ys
      · subst he; simp
      · rw [if_neg, decide_eq_false he]
        intro hh
        simp only [List.all_eq_true, List.mem_range, decide_eq_true_eq] at hh
        apply he
        apply List.ext_getElem hl
        intro i h1 h2
        have := hh i h1
        rwa [getD_of_lt _ h1, getD_of_lt _ h2] at this
    · intro k hk
      have := h.1
      simp only [ref03_SameRows_b4]
      rw [if_pos (by omega), atI_getD [] hk, atI_getD [] (by omega), wrapS (by omega)]
      simp only [Option.bind_some]
      rw [Same_eq _ _ (by rw [getD_of_lt _ hk]; exact h.2 _ (List.getElem_mem hk))]
      simp only [Option.bind_some]
      by_cases h : xs.getD k [] = ys.getD k [] <;> simp [h]
    · simp [ref03_SameRows_b4]
  · rename_i hl
    rw [decide_eq_false]
    intro e; subst e; exact hl rfl
theorem Compare_list (xs ys : List Int) (h : xs.length < 4611686018427387904) : slices_Compare_Lint_int xs ys = some (cmpL xs ys) := by
  unfold slices_Compare_Lint_int
  rw [loop_find (s := (0 : Int)) xs.length (fun k => (k : Int)) (fun k => decide (ys.length ≤ k) || !decide (xs.getD k 0 = ys.getD k 0)) (fun k => some (if ys.length ≤ k then 1 else cmpI (xs.getD k 0) (ys.getD k 0))) (x := some (if xs.length < ys.length then -1 else 0)) rfl (by simp only [LFm]; omega)]
  · split
    · rename_i k hk
      rw [find_some] at hk
      obtain ⟨k1, k2, k3⟩ := hk
      have k3' : ∀ j, j < k → xs.getD j 0 = ys.getD j 0 ∧ j < ys.length := fun j hj => by have := k3 j hj; simp only [Bool.or_eq_false_iff, decide_eq_false_iff_not, Bool.not_eq_false', decide_eq_true_eq] at this; omega
      split
      · rename_i hy
        have hyk : k = ys.length := by
          rcases Nat.eq_or_lt_of_le hy with h | h
          · exact h.symm
          · exact absurd (k3' _ h).2 (by omega)
        rw [cmpL_end xs ys (fun i h1 h2 => (k3' i (by omega)).1), if_neg (by omega), if_pos (by omega)]
      · rename_i hy
        have hne : xs.getD k 0 ≠ ys.getD k 0 := by simp [hy] at k2; exact k2
        rw [cmpL_take xs ys k k1 (by omega) (fun i hi => (k3' i hi).1) hne]
        unfold cmpI
        split <;> (try split) <;> first | rfl | omega
    · rename_i hk
      rw [find_none] at hk
      have hk' : ∀ j, j < xs.length → xs.getD j 0 = ys.getD j 0 ∧ j < ys.length := fun j hj => by have := hk j hj; simp only [Bool.or_eq_false_iff, decide_eq_false_iff_not, Bool.not_eq_false', decide_eq_true_eq] at this; omega
      rw [cmpL_end xs ys (fun i h1 h2 => (hk' i h1).1)]
      split
      · rfl
      · rw [if_neg]
        intro hh
        have := (hk' ys.length hh).2
        omega
  · intro k hk
    simp only [slices_Compare_Lint_int_b2]
    rw [if_pos (by omega), atI_getD 0 hk]
    simp only [Option.bind_some]
    by_cases hy : ys.length ≤ k
    · rw [if_pos (by omega)]
      simp [hy]
    · rw [if_neg (by omega), atI_getD 0 (by omega), wrapS (by omega)]
      simp only [Option.bind_some, Compare_eq, cmpI_zero]
      by_cases h : xs.getD k 0 = ys.getD k 0 <;> simp [h, hy]
  · simp only [slices_Compare_Lint_int_b2]
    rw [if_neg (by omega)]
    split <;> rfl
theorem Less_eq (xs ys : List Int) (h : xs.length < 4611686018427387904) : ref03_Less xs ys = some (lexLt xs ys) := by
  unfold ref03_Less
  rw [loop_find (s := (0 : Int)) xs.length (fun k => (k : Int)) (fun k => decide (ys.length ≤ k) || !decide (xs.getD k 0 = ys.getD k 0)) (fun k => some (if ys.length ≤ k then decide (xs.length < ys.length) else decide (xs.getD k 0 < ys.getD k 0))) (x := some (decide (xs.length < ys.length))) rfl (by simp only [LFm]; omega)]
  · split
    · rename_i k hk
      rw [find_some] at hk
      obtain ⟨k1, k2, k3⟩ := hk
      have k3' : ∀ j, j < k → xs.getD j 0 = ys.getD j 0 ∧ j < ys.length := fun j hj => by have := k3 j hj; simp only [Bool.or_eq_false_iff, decide_eq_false_iff_not, Bool.not_eq_false', decide_eq_true_eq] at this; omega
      split
      · rename_i hy
        have hyk : k = ys.length := by
          rcases Nat.eq_or_lt_of_le hy with h | h
          · exact h.symm
          · exact absurd (k3' _ h).2 (by omega)
        rw [lexLt_end xs ys (fun i h1 h2 => (k3' i (by omega)).1)]
      · rename_i hy
        have hne : xs.getD k 0 ≠ ys.getD k 0 := by simp [hy] at k2; exact k2
        rw [lexLt_take xs ys k k1 (by omega) (fun i hi => (k3' i hi).1) hne]
    · rename_i hk
      rw [find_none] at hk
      have hk' : ∀ j, j < xs.length → xs.getD j 0 = ys.getD j 0 ∧ j < ys.length := fun j hj => by have := hk j hj; simp only [Bool.or_eq_false_iff, decide_eq_false_iff_not, Bool.not_eq_false', decide_eq_true_eq] at this; omega
      rw [lexLt_end xs ys (fun i h1 h2 => (hk' i h1).1)]
  · intro k hk
    simp only [ref03_Less_b2]
    rw [if_pos (by omega)]
    by_cases hy : ys.length ≤ k
    · rw [if_neg (by omega)]
      simp [hy]
    · rw [if_pos (by omega), atI_getD 0 (by omega), atI_getD 0 (by omega), wrapS (by omega)]
      simp only [Option.bind_some]
      by_cases h : xs.getD k 0 = ys.getD k 0 <;> simp [h, hy]
  · simp [ref03_Less_b2]
end Go.Proofs.YthalofddjlhcjaaDoor
end
section
/- Plain facts on a search among rows that ascend. No program. -/
namespace Go.Proofs.YthalofddjlhcjaaDoor
set_option linter.unusedVariables false
set_option linter.unusedSimpArgs false

/-- Where the search ends. -/
def lowB (rows : List CRow) (p : List Int) : Nat := (rows.takeWhile fun r => decide (cmpR r.pre p < 0)).length
def hasB (rows : List CRow) (p : List Int) : Bool := rows.any fun r => decide (r.pre = p)

/-- What the search answers. -/
def Found (rows : List CRow) (p : List Int) (i : Nat) (b : Bool) : Prop := i = lowB rows p ∧ b = hasB rows p

theorem takeWhile_len {α : Type} (q : α → Bool) : ∀ (l : List α) (i : Nat), i ≤ l.length → (∀ k (h : k < l.length), k < i → q l[k] = true) → (∀ h : i < l.length, q l[i] = false) → (l.takeWhile q).length = i
  | [], i, hi, _, _ => by simp at hi; simp [hi]
  | a :: l, 0, _, _, h2 => by
    have := h2 (by simp)
    simp at this
    simp [List.takeWhile_cons, this]
  | a :: l, i + 1, hi, h1, h2 => by
    have e := h1 0 (by simp) (by omega)
    simp at e
    have ih := takeWhile_len q l i (by simpa using hi) (fun k h hk => by have := h1 (k + 1) (by simpa using h) (by omega); simpa using this) (fun h => by have := h2 (by simpa using h); simpa using this)
    simp [List.takeWhile_cons, e, ih]

theorem hasB_iff (rows : List CRow) (p : List Int) : hasB rows p = true ↔ ∃ j, ∃ h : j < rows.length, rows[j].pre = p := by
  unfold hasB
  rw [List.any_eq_true]
  constructor
  · rintro ⟨r, hr, e⟩
    obtain ⟨j, hj, rfl⟩ := List.getElem_of_mem hr
    exact ⟨j, hj, of_decide_eq_true e⟩
  · rintro ⟨j, hj, e⟩
    exact ⟨rows[j], List.getElem_mem _, decide_eq_true e⟩

/-- All rows before i are less, all from j on are not. -/
def Between (rows : List CRow) (p : List Int) (i j : Nat) : Prop :=
  (∀ k (h : k < rows.length), k < i → cmpR rows[k].pre p < 0) ∧ (∀ k (h : k < rows.length), j ≤ k → ¬ cmpR rows[k].pre p < 0)

theorem between_up {rows : List CRow} (hu : UpR rows) {p : List Int} {i j k : Nat} (h : Between rows p i j) (hk : k < rows.length) (hc : cmpR rows[k].pre p < 0) : Between rows p (k + 1) j :=
  ⟨fun l hl hlk => by
    by_cases e : l = k
    · subst e; exact hc
    · exact cmpR_trans _ _ _ (hu l k hl hk (by omega)) hc, h.2⟩
theorem between_down {rows : List CRow} (hu : UpR rows) {p : List Int} {i j k : Nat} (h : Between rows p i j) (hk : k < rows.length) (hc : ¬ cmpR rows[k].pre p < 0) : Between rows p i k :=
  ⟨h.1, fun l hl hlk => by
    by_cases e : l = k
    · subst e; exact hc
    · exact fun h' => hc (cmpR_trans _ _ _ (hu k l hk hl (by omega)) h')⟩
theorem low_of {rows : List CRow} {p : List Int} {i : Nat} (h : Between rows p i i) (hi : i ≤ rows.length) : lowB rows p = i :=
  takeWhile_len _ rows i hi (fun k hk hki => decide_eq_true (h.1 k hk hki)) (fun hk => decide_eq_false (h.2 i hk (Nat.le_refl _)))
theorem found_of {rows : List CRow} (hu : UpR rows) {p : List Int} {i : Nat} (h : Between rows p i i) (hi : i < rows.length) : Found rows p i (decide (cmpR rows[i].pre p = 0)) := by
  refine ⟨(low_of h (by omega)).symm, ?_⟩
  rw [Bool.eq_iff_iff, decide_eq_true_iff, hasB_iff]
  constructor
  · exact fun e => ⟨i, hi, (cmpR_zero _ _).1 e⟩
  · rintro ⟨j, hj, e⟩
    rcases Nat.lt_trichotomy j i with hl | hl | hl
    · have := h.1 j hj hl; rw [(cmpR_zero _ _).2 e] at this; omega
    · subst hl; exact (cmpR_zero _ _).2 e
    · have := hu i j hi hj hl
      rw [e] at this
      exact absurd this (h.2 i hi (Nat.le_refl _))
theorem found_none {rows : List CRow} {p : List Int} {i : Nat} (h : Between rows p i i) (hi : ¬ i < rows.length) (hi2 : i ≤ rows.length) : Found rows p i false := by
  refine ⟨(low_of h hi2).symm, ?_⟩
  rw [eq_comm, ← Bool.not_eq_true, hasB_iff]
  rintro ⟨j, hj, e⟩
  have := h.1 j hj (by omega)
  rw [(cmpR_zero _ _).2 e] at this
  omega
theorem low_row {rows : List CRow} (hu : UpR rows) {p : List Int} (h : hasB rows p = true) : ∃ hl : lowB rows p < rows.length, rows[lowB rows p].pre = p := by
  obtain ⟨j, hj, e⟩ := (hasB_iff _ _).1 h
  have hb : Between rows p j j := ⟨fun k hk hkj => by rw [← e]; exact hu k j hk hj hkj, fun k hk hjk => by
    by_cases ek : k = j
    · subst ek; rw [(cmpR_zero _ _).2 e]; omega
    · intro hlt
      have := hu j k hj hk (by omega)
      rw [e] at this
      have h2 := cmpR_trans _ _ _ this hlt
      rw [(cmpR_zero p p).2 rfl] at h2
      omega⟩
  have hl := low_of hb (by omega)
  exact ⟨by omega, by simp only [hl]; exact e⟩

end Go.Proofs.YthalofddjlhcjaaDoor
end
section
/- What a step of a cascade is. No program. -/
namespace Go.Proofs.YthalofddjlhcjaaDoor
set_option linter.unusedVariables false
set_option linter.unusedSimpArgs false

/-- The number of the row of a prefix. -/
def rowIx (c : Casc) (p : List Int) : Option Nat := c.rows.findIdx? fun r => decide (r.pre = p)
/-- The coordinate behind a letter. -/
def stVal (c : Casc) (x : List Int) (l : Nat) (i : Nat) : Int := match rowIx c (x.take i) with
  | some k => ((c.rows.getD k ⟨[], []⟩).maps.getD l []).getD (x.getD i 0).toNat 0
  | none => 0
def stV (c : Casc) (x : List Int) (l : Nat) : List Int := (List.range x.length).map (stVal c x l)
def stOk (c : Casc) (x : List Int) : Bool := (List.range x.length).all fun i => hasB c.rows (x.take i)
/-- The tuple behind a letter, or an error. -/
def stepG (c : Casc) (x : List Int) (l : Int) : List Int × Int :=
  if tupB c.sizes x = true ∧ 0 ≤ l ∧ l < c.letters then (if stOk c x = true then (stV c x l.toNat, 0) else ([], 23)) else ([], 1)

theorem rowIx_has {c : Casc} (hu : UpR c.rows) {p : List Int} (h : hasB c.rows p = true) : rowIx c p = some (lowB c.rows p) := by
  obtain ⟨hl, e⟩ := low_row hu h
  unfold rowIx
  rw [List.findIdx?_eq_some_iff_getElem]
  refine ⟨hl, by simpa using e, fun j hj => ?_⟩
  intro hh
  have e2 : c.rows[j].pre = p := by simpa using hh
  have := hu j _ (by omega) hl hj
  rw [e, e2, (cmpR_zero p p).2 rfl] at this
  omega
theorem rowIx_none {c : Casc} {p : List Int} (h : hasB c.rows p = false) : rowIx c p = none := by
  unfold rowIx
  rw [List.findIdx?_eq_none_iff]
  intro r hr
  rw [← Bool.not_eq_true]
  intro e
  rw [← Bool.not_eq_true] at h
  apply h
  unfold hasB
  rw [List.any_eq_true]
  exact ⟨r, hr, e⟩
theorem stV_length (c : Casc) (x : List Int) (l : Nat) : (stV c x l).length = x.length := by simp [stV]
theorem stV_get (c : Casc) (x : List Int) (l i : Nat) (h : i < x.length) : (stV c x l)[i]? = some (stVal c x l i) := by
  simp [stV, h]

/-- The cell that a step reads. -/
theorem step_cell {c : Casc} (hv : Valid c) {x : List Int} (hx : tupB c.sizes x = true) {l k : Nat} (hl : (l : Int) < c.letters) (hk : k < x.length) (hh : hasB c.rows (x.take k) = true) :
    ∃ (low s : Nat) (h1 : low < c.rows.length) (h2 : l < c.rows[low].maps.length) (h3 : s < c.rows[low].maps[l].length), lowB c.rows (x.take k) = low ∧ x[k] = s ∧ stVal c x l k = c.rows[low].maps[l][s] := by
  obtain ⟨h1, e1⟩ := low_row hv.up hh
  obtain ⟨f1, f2, f3, f4⟩ := rowB_facts (hv.row _ h1)
  have h2 : l < c.rows[lowB c.rows (x.take k)].maps.length := by omega
  have hlen : x.length = c.sizes.length ∧ inB c.sizes x = true := by simpa [tupB] using hx
  have hxk := (inB_iff c.sizes x (by omega)).1 hlen.2 k hk
  rw [getD_of_lt 0 hk] at hxk
  obtain ⟨g1, -⟩ := f4 l h2
  rw [getD_of_lt _ h2, e1] at g1
  have hpl : (x.take k).length = k := by simp; omega
  rw [hpl] at g1
  obtain ⟨s, hs⟩ := Int.eq_ofNat_of_zero_le hxk.1
  have h3 : s < c.rows[lowB c.rows (x.take k)].maps[l].length := by omega
  refine ⟨_, s, h1, h2, h3, rfl, hs, ?_⟩
  unfold stVal
  rw [rowIx_has hv.up hh]
  simp only
  rw [getD_of_lt _ h1, getD_of_lt _ h2, getD_of_lt 0 hk, hs]
  simp only [Int.toNat_natCast]
  rw [getD_of_lt _ h3]
end Go.Proofs.YthalofddjlhcjaaDoor
end
section
/- Plain: cascades: what is valid, what a step is. -/
namespace Go.Proofs.YthalofddjlhcjaaDoor
open Go
set_option linter.unusedVariables false
set_option linter.unusedSimpArgs false

theorem compareRows_eq (a b : List Int) (h : a.length < 4611686018427387904) : cascade_compareRows a b = some (cmpR a b) := by
  unfold cascade_compareRows
  simp only [Compare_eq, Compare_list _ _ h, Option.bind_some, Or_eq]
  congr 1
  unfold cmpR cmpI
  split <;> (try split) <;> (try split) <;> simp_all <;> omega
theorem isTuple_eq (sz xs : List Int) (h : xs.length < 4611686018427387904) : cascade_isTuple sz xs = some (tupB sz xs) := by
  unfold cascade_isTuple tupB
  split
  · rename_i hl
    have hl : xs.length = sz.length := by omega
    rw [loop_find (s := (0 : Int)) xs.length (fun k => (k : Int)) (fun k => !decide (0 ≤ xs.getD k 0 ∧ xs.getD k 0 < sz.getD k 0)) (fun _ => some false) (x := some true) rfl (by simp only [LFm]; omega)]
    · rw [find_all, decide_eq_true hl]
      simp only [Bool.not_not, Bool.true_and]
      congr 1
      cases hb : inB sz xs with
      | true =>
        have := (inB_iff sz xs (by omega)).1 hb
        rw [if_pos]
        simp only [List.all_eq_true, List.mem_range, decide_eq_true_eq]
        exact this
      | false =>
        rw [if_neg]
        intro hh
        simp only [List.all_eq_true, List.mem_range, decide_eq_true_eq] at hh
        rw [(inB_iff sz xs (by omega)).2 hh] at hb
        cases hb
    · intro k hk
      simp only [cascade_isTuple_b4]
      rw [if_pos (by omega), atI_getD 0 hk, wrapS (by omega)]
      simp only [Option.bind_some]
      split
      · rename_i h0
        rw [if_pos]
        simp only [Bool.not_eq_true', decide_eq_false_iff_not]; omega
      · rw [atI_getD 0 (by omega)]
        simp only [Option.bind_some]
        split
        · rw [if_pos]
          simp only [Bool.not_eq_true', decide_eq_false_iff_not]; omega
        · rw [if_neg]
          simp only [Bool.not_eq_true', decide_eq_false_iff_not]; omega
    · simp [cascade_isTuple_b4]
  · rename_i hl
    rw [decide_eq_false (by omega)]; rfl
theorem in_eq (sz xs : List Int) (h : xs.length < 4611686018427387904) (hl : xs.length ≤ sz.length) : ref26_in sz xs = some (inB sz xs) := by
  unfold ref26_in
  rw [loop_find (s := (0 : Int)) xs.length (fun k => (k : Int)) (fun k => !decide (0 ≤ xs.getD k 0 ∧ xs.getD k 0 < sz.getD k 0)) (fun _ => some false) (x := some true) rfl (by simp only [LFm]; omega)]
  · rw [find_all]
    simp only [Bool.not_not]
    congr 1
    cases hb : inB sz xs with
    | true =>
      have := (inB_iff sz xs (by omega)).1 hb
      rw [if_pos]
      simp only [List.all_eq_true, List.mem_range, decide_eq_true_eq]
      exact this
    | false =>
      rw [if_neg]
      intro hh
      simp only [List.all_eq_true, List.mem_range, decide_eq_true_eq] at hh
      rw [(inB_iff sz xs (by omega)).2 hh] at hb
      cases hb
  · intro k hk
    simp only [ref26_in_b2]
    rw [if_pos (by omega), atI_getD 0 hk, wrapS (by omega)]
    simp only [Option.bind_some]
    split
    · rename_i h0
      rw [if_pos]
      simp only [Bool.not_eq_true', decide_eq_false_iff_not]; omega
    · rw [atI_getD 0 (by omega)]
      simp only [Option.bind_some]
      split
      · rw [if_pos]
        simp only [Bool.not_eq_true', decide_eq_false_iff_not]; omega
      · rw [if_neg]
        simp only [Bool.not_eq_true', decide_eq_false_iff_not]; omega
  · simp [ref26_in_b2]
theorem IsTuple_eq (c : Casc) (xs : List Int) (h : xs.length < 4611686018427387904) : ref26_IsTuple c xs = some (tupB c.sizes xs) := by
  unfold ref26_IsTuple tupB
  split
  · rename_i hl
    rw [in_eq _ _ h (by omega), decide_eq_true (by omega)]; rfl
  · rw [decide_eq_false (by omega)]; rfl
theorem Less26_eq (a b : List Int) (h : a.length < 4611686018427387904) : ref26_Less a b = some (decide (cmpR a b < 0)) := by
  unfold ref26_Less
  split
  · rename_i hl
    rw [Less_eq _ _ h, cmpL_lt]
    have : cmpR a b = cmpL a b := by unfold cmpR; rw [if_neg (by omega), if_neg (by omega)]
    rw [this]; rfl
  · rename_i hl
    congr 1
    unfold cmpR
    split
    · simp_all
    · rw [if_pos (by omega)]; simp_all
def findI {α : Type} (p : α → Bool) (l : List α) : Int := match l.findIdx? p with | some i => (i : Int) | none => -1
theorem findI_range {α : Type} (p : α → Bool) (l : List α) (d : α) : (match (List.range l.length).find? (fun k => p (l.getD k d)) with | some k => (k : Int) | none => -1) = findI p l := by
  unfold findI
  cases h : (List.range l.length).find? (fun k => p (l.getD k d)) with
  | none =>
    rw [find_none] at h
    have : l.findIdx? p = none := by
      rw [List.findIdx?_eq_none_iff]
      intro x hx
      obtain ⟨i, hi, rfl⟩ := List.getElem_of_mem hx
      have := h i hi
      rwa [getD_of_lt _ hi] at this
    rw [this]
  | some k =>
    rw [find_some] at h
    have : l.findIdx? p = some k := by
      rw [List.findIdx?_eq_some_iff_getElem]
      refine ⟨h.1, by have := h.2.1; rwa [getD_of_lt _ h.1] at this, fun j hj => ?_⟩
      have := h.2.2 j hj
      rw [getD_of_lt _ (by omega)] at this
      simp [this]
    rw [this]
theorem Find_eq (xs : List (List Int)) (x : List Int) (h : xs.length < 4611686018427387904) (h2 : x.length < 4611686018427387904) : ref26_Find xs x = some (findI (fun y => decide (x = y)) xs) := by
  unfold ref26_Find
  rw [loop_find (s := (0 : Int)) xs.length (fun k => (k : Int)) (fun k => decide (x = xs.getD k [])) (fun k => some (k : Int)) (x := some (-1)) rfl (by simp only [LFm]; omega)]
  · rw [← findI_range (fun y => decide (x = y)) xs []]
    split <;> rename_i hh <;> simp only [hh]
  · intro k hk
    simp only [ref26_Find_b2]
    rw [if_pos (by omega), atI_getD [] hk, wrapS (by omega)]
    simp only [Option.bind_some, Same_eq _ _ h2]
  · simp [ref26_Find_b2]
structure CB (c : Casc) : Prop where
  sz : c.sizes.length < 4611686018427387904
  rl : c.rows.length < 4611686018427387904
  row : ∀ r ∈ c.rows, r.pre.length < 4611686018427387904 ∧ r.maps.length < 4611686018427387904 ∧ ∀ m ∈ r.maps, m.length < 4611686018427387904
theorem Row_eq (c : Casc) (p : List Int) (h : CB c) : ref26_Row c p = some (findI (fun r => decide (r.pre = p)) c.rows) := by
  unfold ref26_Row
  have hr := h.rl
  rw [loop_find (s := (0 : Int)) c.rows.length (fun k => (k : Int)) (fun k => decide ((c.rows.getD k ⟨[], []⟩).pre = p)) (fun k => some (k : Int)) (x := some (-1)) rfl (by simp only [LFm]; omega)]
  · rw [← findI_range (fun r => decide (r.pre = p)) c.rows ⟨[], []⟩]
    split <;> rename_i hh <;> simp only [hh]
  · intro k hk
    simp only [ref26_Row_b2]
    rw [if_pos (by omega), atI_getD ⟨[], []⟩ hk, wrapS (by omega)]
    simp only [Option.bind_some]
    rw [Same_eq _ _ (by rw [getD_of_lt _ hk]; exact (h.row _ (List.getElem_mem hk)).1)]
    simp only [Option.bind_some]
  · simp [ref26_Row_b2]
/-- A row's maps, one by one. -/
theorem map_loop {ρ : Type} {b : Int → Option (Int ⊕ ρ)} {m : List Int} {n : Int} {A B : Option ρ} (h : m.length < 4611686018427387904) (step : ∀ k, (h : k < m.length) → b (k : Int) = if 0 ≤ m.getD k 0 ∧ m.getD k 0 < n then nextG ((k + 1 : Nat) : Int) else exitG A) (last : b (m.length : Int) = exitG B) :
    loopG b LFm 0 = if (m.all fun s => decide (0 ≤ s) && decide (s < n)) = true then B else A :=
  list_loop 0 _ h (fun k hk => by rw [step k hk]; simp only [Bool.and_eq_true, decide_eq_true_eq]) last
theorem maps_loop {ρ : Type} {b : Int → Option (Int ⊕ ρ)} {ms : List (List Int)} {n : Int} {A B : Option ρ} (h : ms.length < 4611686018427387904) (step : ∀ k, (h : k < ms.length) → b (k : Int) = if mapB n (ms.getD k []) = true then nextG ((k + 1 : Nat) : Int) else exitG A) (last : b (ms.length : Int) = exitG B) :
    loopG b LFm 0 = if ms.all (mapB n) = true then B else A := list_loop [] _ h step last
theorem validRow_eq (c : Casc) (r : CRow) (h : CB c) (hr : r.pre.length < 4611686018427387904 ∧ r.maps.length < 4611686018427387904 ∧ ∀ m ∈ r.maps, m.length < 4611686018427387904) : cascade_validRow c r = some (rowB c r) := by
  obtain ⟨h1, h2, h3⟩ := hr
  unfold cascade_validRow
  split
  · rename_i hp
    rw [rowB_short c r (by omega)]
  · rename_i hp
    have hp : r.pre.length < c.sizes.length := by omega
    rw [pieceL_to (by omega)]
    simp only [Option.bind_some]
    rw [isTuple_eq _ _ h1]
    simp only [Option.bind_some]
    rw [tupB_take _ _ hp]
    split
    · rename_i hin
      split
      · rename_i hl
        rw [rowB_maps c r hp hin hl]
        rw [maps_loop (ms := r.maps) (n := c.sizes.getD r.pre.length 0) (A := some false) (B := some true) h2]
        · split <;> simp_all
        · intro k hk
          have hm := h3 _ (List.getElem_mem hk)
          rw [← getD_of_lt [] hk] at hm
          generalize hg : r.maps.getD k [] = m at *
          simp only [cascade_validRow_b5]
          rw [if_pos (by omega), atI_getD [] hk, atI_getD 0 hp, hg]
          simp only [Option.bind_some]
          split
          · rename_i hml
            have hmb : mapB (c.sizes.getD r.pre.length 0) m = m.all fun s => decide (0 ≤ s) && decide (s < c.sizes.getD r.pre.length 0) := by
              unfold mapB; rw [decide_eq_true hml, Bool.true_and]
            rw [hmb]
            rw [map_loop (m := m) (n := c.sizes.getD r.pre.length 0) (A := exitG (some false)) (B := nextG ((k + 1 : Nat) : Int)) hm]
            · intro j hj
              simp only [cascade_validRow_b10]
              rw [if_pos (by omega), atI_getD 0 hj, wrapS (by omega)]
              simp only [Option.bind_some]
              split
              · rw [if_neg (by omega)]
              · rw [atI_getD 0 hp]
                simp only [Option.bind_some]
                split
                · rw [if_neg (by omega)]
                · rw [if_pos (by omega)]
            · simp only [cascade_validRow_b10]
              rw [if_neg (by omega), wrapS (by omega)]
          · rename_i hml
            rw [if_neg]
            unfold mapB
            rw [decide_eq_false hml]; simp
        · simp [cascade_validRow_b5]
      · rename_i hl
        rw [rowB_letters c r hl]
    · rename_i hin
      rw [rowB_in c r (by simpa using hin)]
theorem sizes_loop {ρ : Type} {b : Int → Option (Int ⊕ ρ)} {m : List Int} {A B : Option ρ} (h : m.length < 4611686018427387904) (step : ∀ k, (h : k < m.length) → b (k : Int) = if 1 ≤ m.getD k 0 ∧ m.getD k 0 ≤ 32 then nextG ((k + 1 : Nat) : Int) else exitG A) (last : b (m.length : Int) = exitG B) :
    loopG b LFm 0 = if (m.all fun n => decide (1 ≤ n) && decide (n ≤ 32)) = true then B else A :=
  list_loop 0 _ h (fun k hk => by rw [step k hk]; simp only [Bool.and_eq_true, decide_eq_true_eq]) last
theorem rows_loop {ρ : Type} {b : Int → Option (Int ⊕ ρ)} {c : Casc} {A B : Option ρ} (h : c.rows.length < 4611686018427387904) (step : ∀ k, (h : k < c.rows.length) → b (k : Int) = if (rowB c (c.rows.getD k ⟨[], []⟩) && (decide (k = 0) || decide (cmpR (c.rows.getD (k - 1) ⟨[], []⟩).pre (c.rows.getD k ⟨[], []⟩).pre < 0))) = true then nextG ((k + 1 : Nat) : Int) else exitG A) (last : b (c.rows.length : Int) = exitG B) :
    loopG b LFm 0 = if rowsUpB c c.rows.length = true then B else A := by
  rw [loop_find (s := (0 : Int)) c.rows.length (fun k => (k : Int)) (fun k => !(rowB c (c.rows.getD k ⟨[], []⟩) && (decide (k = 0) || decide (cmpR (c.rows.getD (k - 1) ⟨[], []⟩).pre (c.rows.getD k ⟨[], []⟩).pre < 0)))) (fun _ => A) (x := B) rfl (by simp only [LFm]; omega) (fun k hk => ?_) last]
  · rw [find_all]
    simp only [Bool.not_not]
    rfl
  · rw [step k hk]
    generalize (rowB c (c.rows.getD k ⟨[], []⟩) && (decide (k = 0) || decide (cmpR (c.rows.getD (k - 1) ⟨[], []⟩).pre (c.rows.getD k ⟨[], []⟩).pre < 0))) = q
    cases q <;> simp
end Go.Proofs.YthalofddjlhcjaaDoor
end
section
/- Plain: validity as the program and the reference say it; a step of the reference and of the program. -/
namespace Go.Proofs.YthalofddjlhcjaaDoor
open Go
set_option linter.unusedVariables false
set_option linter.unusedSimpArgs false

theorem valid_head (c : Casc) (x : Option Int) : (if c.letters < 1 then some 1 else if 6 < c.letters then some 1 else if 24 < (c.sizes.length : Int) then some 3 else if 48000 < (c.rows.length : Int) then some 3 else x) =
    if c.letters < 1 ∨ 6 < c.letters then some 1 else if 24 < c.sizes.length ∨ 48000 < c.rows.length then some 3 else x := by
  by_cases h1 : c.letters < 1 <;> by_cases h2 : 6 < c.letters <;> by_cases h3 : 24 < c.sizes.length <;> by_cases h4 : 48000 < c.rows.length <;>
    simp only [h1, h2, if_true, if_false, true_or, or_true, false_or, or_false, or_self] <;>
    (try (first | rw [if_pos (by omega), if_pos (by omega)] | (rw [if_neg (by omega)]; first | rw [if_pos (by omega), if_pos (by omega)] | rw [if_neg (by omega), if_neg (by omega)])))
theorem Validate_eq (c : Casc) (h : CB c) : cascade_Validate c = some (validE c) := by
  unfold cascade_Validate validE
  have h1 := h.sz
  have h2 := h.rl
  rw [valid_head]
  by_cases hl : c.letters < 1 ∨ 6 < c.letters
  · rw [if_pos hl, if_pos hl]
  rw [if_neg hl, if_neg hl]
  by_cases hs : 24 < c.sizes.length ∨ 48000 < c.rows.length
  · rw [if_pos hs, if_pos hs]
  rw [if_neg hs, if_neg hs]
  rw [sizes_loop (m := c.sizes) (A := some 23) (B := loopG (cascade_Validate_b12 c) LFm 0) h1]
  · rw [rows_loop (c := c) (A := some 23) (B := some 0) h2]
    · cases (c.sizes.all fun n => decide (1 ≤ n) && decide (n ≤ 32)) <;> cases rowsUpB c c.rows.length <;> simp
    · intro k hk
      have hr := h.row _ (List.getElem_mem hk)
      rw [← getD_of_lt ⟨[], []⟩ hk] at hr
      simp only [cascade_Validate_b12]
      rw [if_pos (by omega), atI_getD ⟨[], []⟩ hk, wrapS (by omega)]
      simp only [Option.bind_some]
      rw [validRow_eq c _ h hr]
      simp only [Option.bind_some]
      split
      · rename_i hv
        rw [hv]
        split
        · rename_i hk0
          have hk1 : k - 1 < c.rows.length := by omega
          have hr1 := h.row _ (List.getElem_mem hk1)
          rw [← getD_of_lt ⟨[], []⟩ hk1] at hr1
          have ek : IntKind.i64.wrap ((k : Int) - 1) = ((k - 1 : Nat) : Int) := by rw [wrapI (by omega) (by omega)]; omega
          rw [ek, atI_getD ⟨[], []⟩ hk1]
          simp only [Option.bind_some]
          rw [compareRows_eq _ _ hr1.1]
          simp only [Option.bind_some]
          have hk0' : ¬ k = 0 := by omega
          split
          · rw [if_neg]; simp only [Bool.and_eq_true, Bool.or_eq_true, decide_eq_true_eq]; omega
          · rw [if_pos]; simp only [Bool.and_eq_true, Bool.or_eq_true, decide_eq_true_eq, true_and]; omega
        · have hk0' : k = 0 := by omega
          rw [if_pos]; simp only [Bool.and_eq_true, Bool.or_eq_true, decide_eq_true_eq, true_and]; omega
      · rename_i hv
        rw [if_neg]; intro hh; simp only [Bool.and_eq_true] at hh; exact hv hh.1
    · simp [cascade_Validate_b12]
  · intro k hk
    simp only [cascade_Validate_b6]
    rw [if_pos (by omega), atI_getD 0 hk, wrapS (by omega)]
    simp only [Option.bind_some]
    split
    · rw [if_neg (by omega)]
    · split
      · rw [if_neg (by omega)]
      · rw [if_pos (by omega)]
  · simp only [cascade_Validate_b6]
    rw [if_neg (by omega)]
theorem rowB_split (c : Casc) (r : CRow) : rowB c r = (decide (r.pre.length < c.sizes.length) && (inB c.sizes r.pre && (decide ((r.maps.length : Int) = c.letters) && r.maps.all (mapB (c.sizes.getD r.pre.length 0))))) := by
  unfold rowB; simp [Bool.and_assoc]
theorem refValidate_maps {σ : Type} (n : Int) (ms : List (List Int)) (A B : Option σ) (b18 : Int → Option (Int ⊕ σ)) (b23 : Int → List Int → Int → Option (Int ⊕ (Int ⊕ σ))) (h2 : ms.length < 4611686018427387904) (h3 : ∀ m ∈ ms, m.length < 4611686018427387904)
    (h18 : ∀ w, b18 w = if w < (ms.length : Int) then (atI ms w).bind fun v => if (v.length : Int) = n then loopG (b23 w v) LFm 0 else exitG A else exitG B)
    (h23 : ∀ w v j, b23 w v j = if j < (v.length : Int) then (atI v j).bind fun x => if x < 0 then exitG (exitG A) else if n ≤ x then exitG (exitG A) else nextG (IntKind.i64.wrap (j + 1)) else exitG (nextG (IntKind.i64.wrap (w + 1)))) :
    loopG b18 LFm 0 = if ms.all (mapB n) = true then B else A := by
  rw [maps_loop (ms := ms) (n := n) (A := A) (B := B) h2]
  · intro k hk
    have hm := h3 _ (List.getElem_mem hk)
    rw [← getD_of_lt [] hk] at hm
    generalize hg : ms.getD k [] = m at *
    rw [h18, if_pos (by omega), atI_getD [] hk, hg]
    simp only [Option.bind_some]
    split
    · rename_i hml
      have hmb : mapB n m = m.all fun s => decide (0 ≤ s) && decide (s < n) := by
        unfold mapB; rw [decide_eq_true hml, Bool.true_and]
      rw [hmb]
      rw [map_loop (m := m) (n := n) (A := exitG A) (B := nextG ((k + 1 : Nat) : Int)) hm]
      · intro j hj
        rw [h23, if_pos (by omega), atI_getD 0 hj, wrapS (by omega)]
        simp only [Option.bind_some]
        split
        · rw [if_neg (by omega)]
        · split
          · rw [if_neg (by omega)]
          · rw [if_pos (by omega)]
      · rw [h23, if_neg (by omega), wrapS (by omega)]
    · rename_i hml
      rw [if_neg]
      unfold mapB
      rw [decide_eq_false hml]; simp
  · rw [h18, if_neg (by omega)]
theorem refValidate_eq (c : Casc) (h : CB c) : ref26_Validate c = some (validE c) := by
  unfold ref26_Validate validE
  have h1 := h.sz
  have h2 := h.rl
  rw [valid_head]
  by_cases hl : c.letters < 1 ∨ 6 < c.letters
  · rw [if_pos hl, if_pos hl]
  rw [if_neg hl, if_neg hl]
  by_cases hs : 24 < c.sizes.length ∨ 48000 < c.rows.length
  · rw [if_pos hs, if_pos hs]
  rw [if_neg hs, if_neg hs]
  rw [sizes_loop (m := c.sizes) (A := some 23) (B := loopG (ref26_Validate_b12 c) LFm 0) h1]
  · rw [rows_loop (c := c) (A := some 23) (B := some 0) h2]
    · cases (c.sizes.all fun n => decide (1 ≤ n) && decide (n ≤ 32)) <;> cases rowsUpB c c.rows.length <;> simp
    · intro k hk
      have hr := h.row _ (List.getElem_mem hk)
      rw [← getD_of_lt ⟨[], []⟩ hk] at hr
      simp only [ref26_Validate_b12]
      rw [if_pos (by omega), atI_getD ⟨[], []⟩ hk]
      simp only [Option.bind_some]
      rw [rowB_split]
      split
      · rename_i hp
        rw [if_neg]; simp only [Bool.and_eq_true, decide_eq_true_eq]; omega
      · rename_i hp
        have hp : (c.rows.getD k ⟨[], []⟩).pre.length < c.sizes.length := by omega
        rw [in_eq _ _ hr.1 (by omega), decide_eq_true hp, Bool.true_and]
        simp only [Option.bind_some]
        split
        · rename_i hin
          rw [hin, Bool.true_and]
          split
          · rename_i hk0
            have hk1 : k - 1 < c.rows.length := by omega
            have hr1 := h.row _ (List.getElem_mem hk1)
            rw [← getD_of_lt ⟨[], []⟩ hk1] at hr1
            have ek : IntKind.i64.wrap ((k : Int) - 1) = ((k - 1 : Nat) : Int) := by rw [wrapI (by omega) (by omega)]; omega
            have hk0' : ¬ k = 0 := by omega
            rw [ek, atI_getD ⟨[], []⟩ hk1, decide_eq_false hk0', Bool.false_or]
            simp only [Option.bind_some]
            rw [Less26_eq _ _ hr1.1]
            simp only [Option.bind_some]
            split
            · rename_i hlt
              rw [hlt, Bool.and_true]
              split
              · rename_i hl
                rw [decide_eq_true hl, Bool.true_and, atI_getD 0 hp]
                simp only [Option.bind_some]
                rw [refValidate_maps _ _ (exitG (some 23)) (nextG ((k + 1 : Nat) : Int)) _ (fun w v => ref26_Validate_b23 (c.sizes.getD (c.rows.getD k ⟨[], []⟩).pre.length 0) w v) hr.2.1 hr.2.2]
                · intro w
                  simp only [ref26_Validate_b18]
                  rw [wrapS (by omega)]
                · intro w v j
                  simp only [ref26_Validate_b23]
              · rename_i hl
                rw [if_neg]; rw [decide_eq_false hl]; simp
            · rename_i hlt
              rw [if_neg]; simp only [Bool.not_eq_true] at hlt; rw [hlt]; simp
          · have hk0' : k = 0 := by omega
            rw [decide_eq_true hk0', Bool.true_or, Bool.and_true]
            split
            · rename_i hl
              rw [decide_eq_true hl, Bool.true_and, atI_getD 0 hp]
              simp only [Option.bind_some]
              rw [refValidate_maps _ _ (exitG (some 23)) (nextG ((k + 1 : Nat) : Int)) _ (fun w v => ref26_Validate_b23a (c.sizes.getD (c.rows.getD k ⟨[], []⟩).pre.length 0) w v) hr.2.1 hr.2.2]
              · intro w
                simp only [ref26_Validate_b18a]
                rw [wrapS (by omega)]
              · intro w v j
                simp only [ref26_Validate_b23a]
            · rename_i hl
              rw [if_neg]; rw [decide_eq_false hl]; simp
        · rename_i hin
          rw [if_neg]; simp only [Bool.not_eq_true] at hin; rw [hin]; simp
    · simp [ref26_Validate_b12]
  · intro k hk
    simp only [ref26_Validate_b6]
    rw [if_pos (by omega), atI_getD 0 hk, wrapS (by omega)]
    simp only [Option.bind_some]
    split
    · rw [if_neg (by omega)]
    · split
      · rw [if_neg (by omega)]
      · rw [if_pos (by omega)]
  · simp only [ref26_Validate_b6]
    rw [if_neg (by omega)]
/-- The search among ascending rows. -/
theorem mid_eq (i j : Nat) (h : i + j < 4611686018427387904) : IntKind.i64.wrap (shrI .u64 (IntKind.u64.wrap (IntKind.i64.wrap ((i : Int) + j))) 1) = (((i + j) / 2 : Nat) : Int) := by
  rw [wrapI (x := (i : Int) + j) (by omega) (by omega)]
  have e : IntKind.u64.wrap ((i : Int) + j) = (i : Int) + j := by rw [IntKind.wrap_u64]; omega
  have e2 : shrI .u64 ((i : Int) + j) 1 = (((i + j) / 2 : Nat) : Int) := by
    unfold shrI
    have : (2 : Int) ^ (min (1 : Int).toNat IntKind.u64.bits) = 2 := by decide
    rw [this, Int.fdiv_eq_ediv_of_nonneg _ (by omega)]
    omega
  rw [e, e2, wrapI (by omega) (by omega)]
theorem Search_eq (rs : List CRow) (p : List Int) (hu : UpR rs) (hr : rs.length ≤ 48000) (hb : ∀ r ∈ rs, r.pre.length < 4611686018427387904) : slices_BinarySearchFunc_Lapi_CascadeRow_api_CascadeRow_Lint_cascade_Runner_Step_1 rs p = some ((lowB rs p : Int), hasB rs p) := by
  unfold slices_BinarySearchFunc_Lapi_CascadeRow_api_CascadeRow_Lint_cascade_Runner_Step_1
  refine loopG_eq (fun s => ∃ i j : Nat, s = ((i : Int), (j : Int)) ∧ i ≤ j ∧ j ≤ rs.length ∧ Between rs p i j) (fun s => (s.2 - s.1).toNat) ⟨0, rs.length, rfl, by omega, by omega, fun k h1 => by omega, fun k h1 h2 => by omega⟩ (by simp only [LFm]; omega) ?_
  rintro _ ⟨i, j, rfl, hij, hj, hB⟩
  simp only [slices_BinarySearchFunc_Lapi_CascadeRow_api_CascadeRow_Lint_cascade_Runner_Step_1_b3]
  by_cases hlt : i < j
  · left
    rw [if_pos (by omega), chk_pos _ (by omega), mid_eq i j (by omega)]
    have hm : (i + j) / 2 < rs.length := by omega
    rw [atI_nat hm]
    simp only [Option.bind_some, cascade_Runner_Step_1]
    rw [compareRows_eq _ _ (hb _ (List.getElem_mem hm))]
    simp only [Option.bind_some]
    split
    · rename_i hc
      rw [wrapS (by omega)]
      exact ⟨_, rfl, ⟨(i + j) / 2 + 1, j, rfl, by omega, hj, between_up hu hB hm hc⟩, by simp only; omega⟩
    · rename_i hc
      exact ⟨_, rfl, ⟨i, (i + j) / 2, rfl, by omega, by omega, between_down hu hB hm hc⟩, by simp only; omega⟩
  · right
    have : i = j := by omega
    subst this
    rw [if_neg (by omega)]
    congr 1
    have hl := low_of hB hj
    split
    · rename_i h
      have h : i < rs.length := by omega
      rw [atI_nat h]
      simp only [Option.bind_some, cascade_Runner_Step_1]
      rw [compareRows_eq _ _ (hb _ (List.getElem_mem h))]
      simp only [Option.bind_some]
      obtain ⟨f1, f2⟩ := found_of hu hB h
      rw [f2, hl]
    · rename_i h
      obtain ⟨f1, f2⟩ := found_none hB (by omega) hj
      rw [← f2, hl]
end Go.Proofs.YthalofddjlhcjaaDoor
end
section
/- Plain: Format is what the reference says. -/
namespace Go.Proofs.YthalofddjlhcjaaDoor
open Go
set_option linter.unusedVariables false
set_option linter.unusedSimpArgs false

/-- A row whose text is short. -/
structure SmR (r : CRow) : Prop where
  p1 : r.pre.length ≤ 24
  p2 : ∀ x ∈ r.pre, 0 ≤ x ∧ x < 100
  m1 : r.maps.length ≤ 6
  m2 : ∀ m ∈ r.maps, m.length ≤ 32 ∧ ∀ x ∈ m, 0 ≤ x ∧ x < 100
theorem smR_of {c : Casc} (hV : Valid c) {r : CRow} (hr : r ∈ c.rows) : SmR r := by
  obtain ⟨i, hi, rfl⟩ := List.getElem_of_mem hr
  have h := hV.row i hi
  have hs := hV.s1
  have hl := hV.l2
  have hz := hV.sz
  generalize c.rows[i] = r at h
  unfold rowB at h
  simp only [Bool.and_eq_true, decide_eq_true_eq, List.all_eq_true] at h
  obtain ⟨⟨⟨h1, h2⟩, h3⟩, h4⟩ := h
  have h5 := hz _ h1
  refine ⟨by omega, fun x hx => ?_, by omega, fun m hm => ?_⟩
  · obtain ⟨j, hj, rfl⟩ := List.getElem_of_mem hx
    have := (inB_iff _ _ (by omega)).1 h2 j hj
    have h6 := hz j (by omega)
    rw [show r.pre.getD j 0 = r.pre[j] by simp [List.getD, List.getElem?_eq_getElem hj]] at this
    omega
  · have := h4 m hm
    unfold mapB at this
    simp only [Bool.and_eq_true, decide_eq_true_eq, List.all_eq_true] at this
    refine ⟨by omega, fun x hx => ?_⟩
    have := this.2 x hx
    omega
def mapsT (ms : List (List Int)) : List Int := ms.flatMap fun m => [32, 59] ++ numsT m
def rowT (r : CRow) : List Int := [114, 111, 119] ++ numsT r.pre ++ mapsT r.maps ++ [10]
theorem mapsT_snoc (xs : List (List Int)) (k : Nat) (h : k < xs.length) : mapsT (xs.take (k + 1)) = mapsT (xs.take k) ++ ([32, 59] ++ numsT (xs.getD k [])) := by
  have e : xs.getD k [] = xs[k] := by simp [List.getD, List.getElem?_eq_getElem h]
  rw [List.take_succ_eq_append_getElem h, e]
  unfold mapsT
  rw [List.flatMap_append]
  simp
theorem mapsT_len : ∀ ms : List (List Int), (∀ m ∈ ms, m.length ≤ 32) → (mapsT ms).length ≤ 98 * ms.length
  | [], _ => by simp [mapsT]
  | m :: ms, h => by
    have h1 := mapsT_len ms fun x hx => h x (List.mem_cons_of_mem _ hx)
    have h2 := numsT_len m
    have h3 := h m List.mem_cons_self
    simp only [mapsT, List.flatMap_cons, List.length_append, List.length_cons, List.length_nil] at h1 ⊢
    omega
theorem rowT_len {r : CRow} (h : SmR r) : (rowT r).length ≤ 1000 := by
  have h1 := numsT_len r.pre
  have h2 := mapsT_len r.maps fun m hm => (h.m2 m hm).1
  have h3 := h.p1
  have h4 := h.m1
  simp only [rowT, List.length_append, List.length_cons, List.length_nil]
  omega
/-- The rows' text, if it is not too long. -/
def fmtRows : List CRow → List Int → Option (List Int)
  | [], t => some t
  | r :: rs, t => if 1048576 < (t ++ rowT r).length then none else fmtRows rs (t ++ rowT r)
def headT (c : Casc) : List Int := [99, 97, 115, 99, 97, 100, 101] ++ numsT [c.letters] ++ numsT c.sizes ++ [10]
def fmtR (c : Casc) : ByteArray × Int := match fmtRows c.rows (headT c) with | some t => (bytesOf t, 0) | none => (ByteArray.empty, 3)
def fmtV (c : Casc) : ByteArray × Int := if validE c = 0 then fmtR c else (ByteArray.empty, validE c)
theorem fmt_maps {r : CRow} (h : SmR r) (w : Int) (t : List Int) (ht : t.length ≤ 2000000) : loopG (cascade_Format_b11 w r) LFm (0, t) = if 1048576 < (t ++ mapsT r.maps).length + 1 then exitG (some (ByteArray.empty, 3)) else nextG (IntKind.i64.wrap (w + 1), t ++ mapsT r.maps ++ [10]) := by
  have hm := h.m1
  have hL := mapsT_len r.maps fun m hm => (h.m2 m hm).1
  refine loop_to (x := _) r.maps.length (fun k => ((k : Int), t ++ mapsT (r.maps.take k))) (by simp [mapsT]) (by simp only [LFm]; omega) (fun k hk => ?_) ?_
  · have hx := h.m2 _ (getD_mem [] hk)
    have hl := mapsT_len (r.maps.take k) fun m hm => (h.m2 m (List.mem_of_mem_take hm)).1
    rw [List.length_take] at hl
    simp only [cascade_Format_b11]
    rw [if_pos (by omega), atI_D [] hk]
    simp only [Option.bind_some]
    rw [chk_pos _ (by unfold capOk; simp only [List.length_append]; omega)]
    rw [show intsOf ⟨#[32, 59]⟩ = [32, 59] from rfl]
    rw [appendNumbers_eq _ _ hx.2 (by simp only [List.length_append, List.length_cons, List.length_nil]; omega)]
    simp only [Option.bind_some]
    rw [wrapS (by omega), mapsT_snoc _ k hk]
    simp
  · simp only [cascade_Format_b11]
    rw [if_neg (by omega), List.take_length]
    rw [chk_pos _ (by unfold capOk; simp only [List.length_append]; omega)]
    simp only [List.length_append] at hL ⊢
    by_cases hc : 1048576 < t.length + (mapsT r.maps).length + 1
    · rw [if_pos (by omega), if_pos hc]
    · rw [if_neg (by omega), if_neg hc]
theorem fmt_rows {c : Casc} (hV : Valid c) (t0 : List Int) (h0 : t0.length ≤ 1100000) : loopG (cascade_Format_b7 c) LFm (0, t0) = some (match fmtRows c.rows t0 with | some t => (bytesOf t, 0) | none => (ByteArray.empty, 3)) := by
  have hr := hV.r1
  refine loopG_eq (fun s => ∃ k : Nat, k ≤ c.rows.length ∧ s.1 = (k : Int) ∧ s.2.length ≤ 1100000 ∧ fmtRows (c.rows.drop k) s.2 = fmtRows c.rows t0) (fun s => c.rows.length - s.1.toNat) ⟨0, by omega, rfl, h0, rfl⟩ (by simp only [LFm]; omega) ?_
  rintro ⟨_, t⟩ ⟨k, hk, rfl, ht, he⟩
  simp only at ht he
  simp only [cascade_Format_b7]
  by_cases hlt : k < c.rows.length
  · have hS := smR_of hV (List.getElem_mem hlt)
    have hp := numsT_len c.rows[k].pre
    have hp1 := hS.p1
    have hR := rowT_len hS
    rw [List.drop_eq_getElem_cons hlt] at he
    simp only [fmtRows] at he
    rw [if_pos (by omega), atI_nat hlt]
    simp only [Option.bind_some]
    rw [chk_pos _ (by unfold capOk; omega), show intsOf ⟨#[114, 111, 119]⟩ = [114, 111, 119] from rfl]
    rw [appendNumbers_eq _ _ hS.p2 (by simp only [List.length_append, List.length_cons, List.length_nil]; omega)]
    simp only [Option.bind_some]
    rw [fmt_maps hS _ _ (by simp only [rowT, List.length_append, List.length_cons, List.length_nil] at hR ⊢; omega)]
    have e1 : t ++ [114, 111, 119] ++ numsT c.rows[k].pre ++ mapsT c.rows[k].maps ++ [10] = t ++ rowT c.rows[k] := by simp [rowT]
    have e2 : (t ++ [114, 111, 119] ++ numsT c.rows[k].pre ++ mapsT c.rows[k].maps).length + 1 = (t ++ rowT c.rows[k]).length := by rw [← e1]; simp; omega
    rw [e1, e2]
    by_cases hc : 1048576 < (t ++ rowT c.rows[k]).length
    · rw [if_pos hc] at he ⊢
      right
      rw [← he]
    · rw [if_neg hc] at he ⊢
      left
      refine ⟨_, rfl, ⟨k + 1, by omega, wrapS (by omega), by simp only; omega, he⟩, ?_⟩
      simp only
      rw [wrapS (by omega)]
      omega
  · right
    have : k = c.rows.length := by omega
    subst this
    rw [List.drop_length] at he
    simp only [fmtRows] at he
    rw [if_neg (by omega), ← he]
theorem headT_len {c : Casc} (hV : Valid c) : (headT c).length ≤ 100 := by
  have h1 := numsT_len [c.letters]
  have h2 := numsT_len c.sizes
  have h3 := hV.s1
  simp only [headT, List.length_append, List.length_cons, List.length_nil] at h1 ⊢
  omega
theorem Format_eq (c : Casc) (h : CB c) : cascade_Format c = some (fmtV c) := by
  unfold cascade_Format fmtV
  rw [Validate_eq c h]
  simp only [Option.bind_some]
  by_cases hv : validE c = 0
  case neg => rw [if_neg hv, if_neg hv]
  rw [if_pos hv, if_pos hv]
  have hV := valid_of c hv
  have l1 := hV.l1
  have l2 := hV.l2
  have s1 := hV.s1
  have hl := headT_len hV
  have hz : ∀ x ∈ c.sizes, 0 ≤ x ∧ x < 100 := fun x hx => by
    obtain ⟨j, hj, rfl⟩ := List.getElem_of_mem hx
    have := hV.sz j hj
    rw [show c.sizes.getD j 0 = c.sizes[j] by simp [List.getD, List.getElem?_eq_getElem hj]] at this
    omega
  rw [appendNumbers_eq _ _ (by intro x hx; have : x = c.letters := by simpa using hx
                               omega) (by simp)]
  simp only [Option.bind_some]
  rw [appendNumbers_eq _ _ hz (by have := numsT_len [c.letters]; simp only [List.length_append, List.length_cons, List.length_nil] at this ⊢; omega)]
  simp only [Option.bind_some]
  have e : [99, 97, 115, 99, 97, 100, 101] ++ numsT [c.letters] ++ numsT c.sizes ++ [10] = headT c := rfl
  rw [chk_pos _ (by unfold capOk; rw [← e] at hl; simp only [List.length_append, List.length_cons, List.length_nil] at hl ⊢; omega), e, fmt_rows hV _ (by omega)]
  rfl
end Go.Proofs.YthalofddjlhcjaaDoor
end
section
/- Plain: the reference's Format. -/
namespace Go.Proofs.YthalofddjlhcjaaDoor
open Go
set_option linter.unusedVariables false
set_option linter.unusedSimpArgs false

theorem bytesOf_append (a b : List Int) : bytesOf (a ++ b) = bytesOf a ++ bytesOf b := by
  unfold bytesOf
  apply ByteArray.ext
  simp
theorem bytesOf_len (a : List Int) : (bytesOf a).size = a.length := by simp [bytesOf]
theorem catOk_of {a b : List Int} (h : a.length + b.length < 100000000) : catOk (bytesOf a) (bytesOf b) := by
  unfold catOk; rw [bytesOf_len, bytesOf_len]; omega
/-- One number of the reference's text. -/
theorem ref_num (t : List Int) (x : Int) (hx : 0 ≤ x ∧ x < 100) (ht : t.length < 10000000) {α : Type} (K : ByteArray → Option α) :
    ((ref26_digits 12 x).bind fun v => chk (catOk ⟨#[32]⟩ v) (chk (catOk (bytesOf t) (⟨#[32]⟩ ++ v)) (K (bytesOf t ++ (⟨#[32]⟩ ++ v))))) = K (bytesOf (t ++ (32 :: digL x))) := by
  have h1 := digL_len x
  have e0 : (⟨#[32]⟩ : ByteArray) = bytesOf [32] := rfl
  rw [digits_eq x hx.1 hx.2]
  simp only [Option.bind_some]
  rw [e0, ← bytesOf_append, ← bytesOf_append, chk_pos _ (catOk_of (by simp only [List.length_singleton]; omega)), chk_pos _ (catOk_of (by simp only [List.length_append, List.length_singleton]; omega))]
  rfl
theorem ref_map {m : List Int} (hx : ∀ x ∈ m, 0 ≤ x ∧ x < 100) (hl : m.length ≤ 32) (w : Int) (t : List Int) (ht : t.length ≤ 2000000) : loopG (ref26_Format_b25 w m) LFm (bytesOf t, 0) = nextG (bytesOf (t ++ numsT m), IntKind.i64.wrap (w + 1)) := by
  refine loop_to (x := _) m.length (fun k => (bytesOf (t ++ numsT (m.take k)), (k : Int))) (by simp [numsT]) (by simp only [LFm]; omega) (fun k hk => ?_) ?_
  · have hm := hx _ (getD_mem 0 hk)
    have hn := numsT_len (m.take k)
    rw [List.length_take] at hn
    simp only [ref26_Format_b25]
    rw [if_pos (by omega), atI_D 0 hk]
    simp only [Option.bind_some]
    rw [ref_num _ _ hm (by simp only [List.length_append]; omega) (fun v => nextG (v, IntKind.i64.wrap ((k : Int) + 1)))]
    rw [wrapS (by omega), numsT_snoc m k hk]
    simp
  · simp only [ref26_Format_b25]
    rw [if_neg (by omega), List.take_length]
theorem ref_maps {r : CRow} (h : SmR r) (w : Int) (t : List Int) (ht : t.length ≤ 1900000) : loopG (ref26_Format_b21 w r) LFm (bytesOf t, 0) = if 1048576 < (t ++ mapsT r.maps).length + 1 then exitG (some (ByteArray.empty, 3)) else nextG (bytesOf (t ++ mapsT r.maps ++ [10]), IntKind.i64.wrap (w + 1)) := by
  have hm := h.m1
  have hL := mapsT_len r.maps fun m hm => (h.m2 m hm).1
  refine loop_to (x := _) r.maps.length (fun k => (bytesOf (t ++ mapsT (r.maps.take k)), (k : Int))) (by simp [mapsT]) (by simp only [LFm]; omega) (fun k hk => ?_) ?_
  · have hx := h.m2 _ (getD_mem [] hk)
    have hl := mapsT_len (r.maps.take k) fun m hm => (h.m2 m (List.mem_of_mem_take hm)).1
    rw [List.length_take] at hl
    simp only [ref26_Format_b21]
    rw [if_pos (by omega), atI_D [] hk]
    rw [Option.bind_some]
    have e0 : (⟨#[32, 59]⟩ : ByteArray) = bytesOf [32, 59] := rfl
    rw [e0, chk_pos _ (catOk_of (by simp only [List.length_append, List.length_cons, List.length_nil]; omega)), ← bytesOf_append]
    rw [ref_map hx.2 hx.1 _ _ (by simp only [List.length_append, List.length_cons, List.length_nil]; omega)]
    rw [wrapS (by omega), mapsT_snoc _ k hk]
    simp
  · simp only [ref26_Format_b21]
    rw [if_neg (by omega), List.take_length]
    have e0 : (⟨#[10]⟩ : ByteArray) = bytesOf [10] := rfl
    rw [e0, chk_pos _ (catOk_of (by simp only [List.length_append, List.length_cons, List.length_nil]; omega)), ← bytesOf_append, bytesOf_len]
    simp only [List.length_append, List.length_singleton] at hL ⊢
    by_cases hc : 1048576 < t.length + (mapsT r.maps).length + 1
    · rw [if_pos (by omega), if_pos hc]
    · rw [if_neg (by omega), if_neg hc]
theorem ref_pre {r : CRow} (h : SmR r) (w : Int) (t : List Int) (ht : t.length ≤ 1800000) : loopG (ref26_Format_b16 w r) LFm (bytesOf t, 0) = loopG (ref26_Format_b21 w r) LFm (bytesOf (t ++ numsT r.pre), 0) := by
  have hm := h.p1
  cases hE : loopG (ref26_Format_b21 w r) LFm (bytesOf (t ++ numsT r.pre), 0) with
  | _ =>
    rw [← hE]
    refine loop_to (x := loopG (ref26_Format_b21 w r) LFm (bytesOf (t ++ numsT r.pre), 0)) r.pre.length (fun k => (bytesOf (t ++ numsT (r.pre.take k)), (k : Int))) (by simp [numsT]) (by simp only [LFm]; omega) (fun k hk => ?_) ?_
    · have hx := h.p2 _ (getD_mem 0 hk)
      have hn := numsT_len (r.pre.take k)
      rw [List.length_take] at hn
      simp only [ref26_Format_b16]
      rw [if_pos (by omega), atI_D 0 hk]
      simp only [Option.bind_some]
      rw [ref_num _ _ hx (by simp only [List.length_append]; omega) (fun v => nextG (v, IntKind.i64.wrap ((k : Int) + 1)))]
      rw [wrapS (by omega), numsT_snoc _ k hk]
      simp
    · simp only [ref26_Format_b16]
      rw [if_neg (by omega), List.take_length]
theorem ref_rows {c : Casc} (hV : Valid c) (t0 : List Int) (h0 : t0.length ≤ 1100000) : loopG (ref26_Format_b12 c) LFm (bytesOf t0, 0) = some (match fmtRows c.rows t0 with | some t => (bytesOf t, 0) | none => (ByteArray.empty, 3)) := by
  have hr := hV.r1
  refine loopG_eq (fun s => ∃ k : Nat, ∃ t : List Int, k ≤ c.rows.length ∧ s = (bytesOf t, (k : Int)) ∧ t.length ≤ 1100000 ∧ fmtRows (c.rows.drop k) t = fmtRows c.rows t0) (fun s => c.rows.length - s.2.toNat) ⟨0, t0, by omega, rfl, h0, rfl⟩ (by simp only [LFm]; omega) ?_
  rintro _ ⟨k, t, hk, rfl, ht, he⟩
  simp only [ref26_Format_b12]
  by_cases hlt : k < c.rows.length
  · have hS := smR_of hV (List.getElem_mem hlt)
    have hp := numsT_len c.rows[k].pre
    have hp1 := hS.p1
    have hR := rowT_len hS
    rw [List.drop_eq_getElem_cons hlt] at he
    simp only [fmtRows] at he
    have e0 : (⟨#[114, 111, 119]⟩ : ByteArray) = bytesOf [114, 111, 119] := rfl
    rw [if_pos (by omega), atI_nat hlt]
    rw [Option.bind_some]
    rw [e0, chk_pos _ (catOk_of (by simp only [List.length_cons, List.length_nil]; omega)), ← bytesOf_append]
    rw [ref_pre hS _ _ (by simp only [List.length_append, List.length_cons, List.length_nil]; omega), ref_maps hS _ _ (by simp only [List.length_append, List.length_cons, List.length_nil]; omega)]
    have e1 : t ++ [114, 111, 119] ++ numsT c.rows[k].pre ++ mapsT c.rows[k].maps ++ [10] = t ++ rowT c.rows[k] := by simp [rowT]
    have e2 : (t ++ [114, 111, 119] ++ numsT c.rows[k].pre ++ mapsT c.rows[k].maps).length + 1 = (t ++ rowT c.rows[k]).length := by rw [← e1]; simp; omega
    rw [e1, e2]
    by_cases hc : 1048576 < (t ++ rowT c.rows[k]).length
    · rw [if_pos hc] at he ⊢
      right
      rw [← he]
    · rw [if_neg hc] at he ⊢
      left
      refine ⟨_, rfl, ⟨k + 1, _, by omega, by rw [wrapS (by omega)], by omega, he⟩, ?_⟩
      simp only
      rw [wrapS (by omega)]
      omega
  · right
    have : k = c.rows.length := by omega
    subst this
    rw [List.drop_length] at he
    simp only [fmtRows] at he
    rw [if_neg (by omega), ← he]
theorem refFormat_eq (c : Casc) (h : CB c) : ref26_Format c = some (fmtV c) := by
  unfold ref26_Format fmtV
  rw [refValidate_eq c h]
  simp only [Option.bind_some]
  by_cases hv : validE c = 0
  case neg => rw [if_neg hv, if_neg hv]
  rw [if_pos hv, if_pos hv]
  have hV := valid_of c hv
  have l1 := hV.l1
  have l2 := hV.l2
  have s1 := hV.s1
  have hl := headT_len hV
  have hz : ∀ x ∈ c.sizes, 0 ≤ x ∧ x < 100 := fun x hx => by
    obtain ⟨j, hj, rfl⟩ := List.getElem_of_mem hx
    have := hV.sz j hj
    rw [show c.sizes.getD j 0 = c.sizes[j] by simp [List.getD, List.getElem?_eq_getElem hj]] at this
    omega
  have hd := digL_len c.letters
  have e0 : (⟨#[99, 97, 115, 99, 97, 100, 101, 32]⟩ : ByteArray) = bytesOf [99, 97, 115, 99, 97, 100, 101, 32] := rfl
  rw [digits_eq _ (by omega) (by omega)]
  simp only [Option.bind_some]
  rw [e0, chk_pos _ (catOk_of (by simp only [List.length_cons, List.length_nil]; omega)), ← bytesOf_append]
  have e1 : [99, 97, 115, 99, 97, 100, 101, 32] ++ digL c.letters = [99, 97, 115, 99, 97, 100, 101] ++ numsT [c.letters] := by simp [numsT]
  rw [e1]
  refine loop_to (x := some (fmtR c)) c.sizes.length (fun k => (bytesOf ([99, 97, 115, 99, 97, 100, 101] ++ numsT [c.letters] ++ numsT (c.sizes.take k)), (k : Int))) (by simp [numsT]) (by simp only [LFm]; omega) (fun k hk => ?_) ?_
  · have hx := hz _ (getD_mem 0 hk)
    have hn := numsT_len (c.sizes.take k)
    have hn2 := numsT_len [c.letters]
    rw [List.length_take] at hn
    simp only [ref26_Format_b6]
    rw [if_pos (by omega), atI_D 0 hk]
    simp only [Option.bind_some]
    rw [ref_num _ _ hx (by simp only [List.length_append, List.length_cons, List.length_nil] at hn2 ⊢; omega) (fun v => nextG (v, IntKind.i64.wrap ((k : Int) + 1)))]
    rw [wrapS (by omega), numsT_snoc _ k hk]
    simp
  · simp only [ref26_Format_b6]
    have e2 : (⟨#[10]⟩ : ByteArray) = bytesOf [10] := rfl
    have e3 : [99, 97, 115, 99, 97, 100, 101] ++ numsT [c.letters] ++ numsT c.sizes ++ [10] = headT c := rfl
    have hh : ([99, 97, 115, 99, 97, 100, 101] ++ numsT [c.letters] ++ numsT c.sizes).length + 1 = (headT c).length := by rw [← e3]; simp; omega
    rw [if_neg (by omega), List.take_length, e2, chk_pos _ (catOk_of (by simp only [List.length_singleton]; omega)), ← bytesOf_append, e3, ref_rows hV _ (by omega)]
    rfl
end Go.Proofs.YthalofddjlhcjaaDoor
end
section
/- Plain: what a text of a cascade says; the text that Format writes says the cascade. -/
namespace Go.Proofs.YthalofddjlhcjaaDoor
open Go
set_option linter.unusedVariables false
set_option linter.unusedSimpArgs false

def headV : List ByteArray → Option (List Int)
  | [] => none
  | w :: ws => if w = ⟨#[99, 97, 115, 99, 97, 100, 101]⟩ then (match numsV ws with | some (x :: l) => some (x :: l) | _ => none) else none
def zC : Casc := ⟨0, [], []⟩
def finV (hd : List Int) (rows : List CRow) : Casc × Int × Int := match hd with
  | [] => (zC, 0, 2)
  | x :: l => if validE ⟨x, l, rows⟩ = 0 then (⟨x, l, rows⟩, -1, 0) else (zC, 0, validE ⟨x, l, rows⟩)
def linesV : List (List UInt8) → Nat → List Int → List CRow → Casc × Int × Int
  | [], ln, hd, rows => (zC, (ln : Int), 2)
  | p :: ps, ln, hd, rows => if ps = [] then (if p = [] ∧ 0 < ln then finV hd rows else (zC, (ln : Int), 2))
      else if ln = 0 then (match headV (splitW (toBA p)) with | some h => linesV ps 1 h rows | none => (zC, 0, 2))
      else (match rowV (splitW (toBA p)) with | some r => linesV ps (ln + 1) hd (rows ++ [r]) | none => (zC, (ln : Int), 2))
def parseV (s : ByteArray) : Casc × Int × Int := if 1048576 < s.size then (zC, 0, 3) else linesV (splitA 10 s.data.toList []) 0 [] []

/-! The text of a cascade. -/
def byL (l : List Int) : List UInt8 := l.map fun x => UInt8.ofNat x.toNat
theorem byL_append (a b : List Int) : byL (a ++ b) = byL a ++ byL b := List.map_append
theorem bytesOf_byL (l : List Int) : bytesOf l = toBA (byL l) := rfl
theorem splitA_words {c : UInt8} : ∀ (ws : List (List UInt8)) (w cur : List UInt8), c ∉ w → (∀ x ∈ ws, c ∉ x) → splitA c (w ++ ws.flatMap (c :: ·)) cur = (cur ++ w) :: ws
  | [], w, cur, h, _ => by simp only [List.flatMap_nil, List.append_nil]; exact splitA_none h
  | x :: ws, w, cur, h, hx => by
    simp only [List.flatMap_cons, List.cons_append]
    rw [splitA_some h, splitA_words ws x [] (hx x List.mem_cons_self) fun y hy => hx y (List.mem_cons_of_mem _ hy)]
    all_goals rfl
def dW (n : Int) : List UInt8 := byL (digL n)
theorem dW_all : ∀ k : Nat, k < 100 → numV (toBA (dW (k : Int))) = some (k : Int) ∧ (32 : UInt8) ∉ dW (k : Int) ∧ (10 : UInt8) ∉ dW (k : Int) := by decide +kernel
theorem dW_of {n : Int} (h : 0 ≤ n ∧ n < 100) : numV (toBA (dW n)) = some n ∧ (32 : UInt8) ∉ dW n ∧ (10 : UInt8) ∉ dW n := by
  have := dW_all n.toNat (by omega)
  rw [Int.toNat_of_nonneg h.1] at this
  exact this
theorem numsV_dW : ∀ {l : List Int}, (∀ x ∈ l, 0 ≤ x ∧ x < 100) → numsV (l.map fun x => toBA (dW x)) = some l
  | [], _ => rfl
  | x :: l, h => by
    simp only [List.map_cons, numsV]
    rw [(dW_of (h x List.mem_cons_self)).1, numsV_dW fun y hy => h y (List.mem_cons_of_mem _ hy)]
    all_goals rfl
theorem dW_semi {n : Int} (h : 0 ≤ n ∧ n < 100) : toBA (dW n) ≠ ⟨#[59]⟩ := fun e => by
  have h1 := (dW_of h).1
  rw [e] at h1
  have h2 : numV ⟨#[59]⟩ = none := by decide +kernel
  rw [h2] at h1
  cases h1
def mapW (ms : List (List Int)) : List ByteArray := ms.flatMap fun m => ⟨#[59]⟩ :: m.map fun x => toBA (dW x)
theorem groups_nums (ws : List ByteArray) : ∀ {l : List Int}, (∀ x ∈ l, 0 ≤ x ∧ x < 100) → groupsV ((l.map fun x => toBA (dW x)) ++ ws) = ((l.map fun x => toBA (dW x)) ++ (groupsV ws).1, (groupsV ws).2)
  | [], _ => rfl
  | x :: l, h => by
    simp only [List.map_cons, List.cons_append, groupsV]
    rw [if_neg (dW_semi (h x List.mem_cons_self)), groups_nums ws fun y hy => h y (List.mem_cons_of_mem _ hy)]
theorem groups_maps : ∀ {ms : List (List Int)}, (∀ m ∈ ms, ∀ x ∈ m, 0 ≤ x ∧ x < 100) → groupsV (mapW ms) = ([], ms.map fun m => m.map fun x => toBA (dW x))
  | [], _ => rfl
  | m :: ms, h => by
    simp only [mapW, List.flatMap_cons, List.cons_append, groupsV, if_true]
    have ih := groups_maps (ms := ms) fun y hy => h y (List.mem_cons_of_mem _ hy)
    unfold mapW at ih
    rw [groups_nums _ (h m List.mem_cons_self), ih]
    simp
theorem lists_maps : ∀ {ms : List (List Int)}, (∀ m ∈ ms, ∀ x ∈ m, 0 ≤ x ∧ x < 100) → listsV (ms.map fun m => m.map fun x => toBA (dW x)) = some ms
  | [], _ => rfl
  | m :: ms, h => by
    simp only [List.map_cons, listsV]
    rw [numsV_dW (h m List.mem_cons_self), lists_maps fun y hy => h y (List.mem_cons_of_mem _ hy)]
    all_goals rfl
def rowW (r : CRow) : List ByteArray := ⟨#[114, 111, 119]⟩ :: ((r.pre.map fun x => toBA (dW x)) ++ mapW r.maps)
theorem rowV_rowW {r : CRow} (h : SmR r) : rowV (rowW r) = some r := by
  have hm : ∀ m ∈ r.maps, ∀ x ∈ m, 0 ≤ x ∧ x < 100 := fun m hm => (h.m2 m hm).2
  simp only [rowV, rowW, if_true]
  rw [groups_nums _ h.p2, groups_maps hm]
  simp only [List.append_nil]
  rw [numsV_dW h.p2, lists_maps hm]
  all_goals rfl
def headW (c : Casc) : List ByteArray := ⟨#[99, 97, 115, 99, 97, 100, 101]⟩ :: ((c.letters :: c.sizes).map fun x => toBA (dW x))
theorem headV_headW {c : Casc} (h : ∀ x ∈ c.letters :: c.sizes, 0 ≤ x ∧ x < 100) : headV (headW c) = some (c.letters :: c.sizes) := by
  simp only [headV, headW, if_true]
  rw [numsV_dW h]
theorem numsT_byL (l : List Int) : byL (numsT l) = (l.map dW).flatMap ((32 : UInt8) :: ·) := by
  induction l with
  | nil => rfl
  | cons x l ih =>
    have : numsT (x :: l) = (32 :: digL x) ++ numsT l := rfl
    rw [this, byL_append, ih]
    all_goals rfl
theorem mapsT_byL (ms : List (List Int)) : byL (mapsT ms) = (ms.flatMap fun m => [59] :: m.map dW).flatMap ((32 : UInt8) :: ·) := by
  induction ms with
  | nil => rfl
  | cons m ms ih =>
    have : mapsT (m :: ms) = ([32, 59] ++ numsT m) ++ mapsT ms := rfl
    rw [this, byL_append, byL_append, ih, numsT_byL]
    simp [List.flatMap_append, byL]
def rowL (r : CRow) : List UInt8 := byL ([114, 111, 119] ++ numsT r.pre ++ mapsT r.maps)
def headL (c : Casc) : List UInt8 := byL ([99, 97, 115, 99, 97, 100, 101] ++ numsT [c.letters] ++ numsT c.sizes)
theorem rowT_byL (r : CRow) : byL (rowT r) = rowL r ++ [10] := by unfold rowT rowL; rw [byL_append]; rfl
theorem headT_byL (c : Casc) : byL (headT c) = headL c ++ [10] := by unfold headT headL; rw [byL_append]; rfl
theorem rowL_words (r : CRow) : rowL r = [114, 111, 119] ++ (r.pre.map dW ++ r.maps.flatMap fun m => [59] :: m.map dW).flatMap ((32 : UInt8) :: ·) := by
  unfold rowL
  rw [byL_append, byL_append, numsT_byL, mapsT_byL, List.flatMap_append, ← List.append_assoc]
  all_goals rfl
theorem headL_words (c : Casc) : headL c = [99, 97, 115, 99, 97, 100, 101] ++ ((c.letters :: c.sizes).map dW).flatMap ((32 : UInt8) :: ·) := by
  unfold headL
  rw [byL_append, byL_append, numsT_byL, numsT_byL, List.append_assoc, ← List.flatMap_append, ← List.map_append]
  all_goals rfl
theorem mem_words {ms : List (List Int)} {x : List UInt8} (h : x ∈ ms.flatMap fun m => [59] :: m.map dW) : x = [59] ∨ ∃ m ∈ ms, ∃ n ∈ m, x = dW n := by
  obtain ⟨m, hm, hx⟩ := List.mem_flatMap.1 h
  rcases List.mem_cons.1 hx with e | e
  · exact .inl e
  · obtain ⟨n, hn, rfl⟩ := List.mem_map.1 e
    exact .inr ⟨m, hm, n, hn, rfl⟩
theorem row_word {r : CRow} (h : SmR r) {x : List UInt8} (hx : x ∈ r.pre.map dW ++ r.maps.flatMap fun m => [59] :: m.map dW) : (32 : UInt8) ∉ x ∧ (10 : UInt8) ∉ x := by
  rcases List.mem_append.1 hx with e | e
  · obtain ⟨n, hn, rfl⟩ := List.mem_map.1 e
    exact (dW_of (h.p2 n hn)).2
  · rcases mem_words e with rfl | ⟨m, hm, n, hn, rfl⟩
    · decide
    · exact (dW_of ((h.m2 m hm).2 n hn)).2
theorem toBA_map (l : List Int) : (l.map dW).map toBA = l.map fun x => toBA (dW x) := by rw [List.map_map]; rfl
theorem split_row {r : CRow} (h : SmR r) : splitW (toBA (rowL r)) = rowW r := by
  unfold splitW
  rw [show (toBA (rowL r)).data.toList = rowL r by simp [toBA], rowL_words, splitA_words _ _ _ (by decide) fun x hx => (row_word h hx).1]
  simp only [List.map_cons, List.nil_append, List.map_append, toBA_map, rowW, List.map_flatMap, mapW]
  all_goals rfl
theorem split_head {c : Casc} (h : ∀ x ∈ c.letters :: c.sizes, 0 ≤ x ∧ x < 100) : splitW (toBA (headL c)) = headW c := by
  unfold splitW
  rw [show (toBA (headL c)).data.toList = headL c by simp [toBA], headL_words, splitA_words _ _ _ (by decide) fun x hx => by
    obtain ⟨n, hn, rfl⟩ := List.mem_map.1 hx
    exact (dW_of (h n hn)).2.1]
  rw [List.map_cons, toBA_map]
  all_goals rfl
theorem no_nl {ws : List (List UInt8)} {w : List UInt8} (h : (10 : UInt8) ∉ w) (hw : ∀ x ∈ ws, (10 : UInt8) ∉ x) : (10 : UInt8) ∉ w ++ ws.flatMap ((32 : UInt8) :: ·) := fun hm => by
  rcases List.mem_append.1 hm with e | e
  · exact h e
  · obtain ⟨x, hx, hx2⟩ := List.mem_flatMap.1 e
    rcases List.mem_cons.1 hx2 with e2 | e2
    · exact absurd e2 (by decide)
    · exact hw x hx e2
theorem rowL_nl {r : CRow} (h : SmR r) : (10 : UInt8) ∉ rowL r := by
  rw [rowL_words]
  exact no_nl (by decide) fun x hx => (row_word h hx).2
theorem headL_nl {c : Casc} (h : ∀ x ∈ c.letters :: c.sizes, 0 ≤ x ∧ x < 100) : (10 : UInt8) ∉ headL c := by
  rw [headL_words]
  refine no_nl (by decide) fun x hx => ?_
  obtain ⟨n, hn, rfl⟩ := List.mem_map.1 hx
  exact (dW_of (h n hn)).2.2
theorem split_rows : ∀ {rs : List CRow} {t : List UInt8}, (10 : UInt8) ∉ t → (∀ r ∈ rs, SmR r) → splitA 10 (t ++ [10] ++ rs.flatMap fun r => rowL r ++ [10]) [] = t :: (rs.map rowL ++ [[]])
  | [], t, ht, _ => by
    simp only [List.flatMap_nil, List.append_nil, List.map_nil, List.nil_append]
    rw [splitA_some ht]; rfl
  | r :: rs, t, ht, h => by
    simp only [List.flatMap_cons, List.append_assoc, List.singleton_append]
    rw [splitA_some ht]
    have := split_rows (rs := rs) (rowL_nl (h r List.mem_cons_self)) fun x hx => h x (List.mem_cons_of_mem _ hx)
    simp only [List.append_assoc, List.singleton_append] at this
    rw [this]
    all_goals rfl
theorem lines_rows (hd : List Int) : ∀ {rs : List CRow} (acc : List CRow) (ln : Nat), (∀ r ∈ rs, SmR r) → 0 < ln → linesV (rs.map rowL ++ [[]]) ln hd acc = finV hd (acc ++ rs)
  | [], acc, ln, _, hl => by simp [linesV, hl]
  | r :: rs, acc, ln, h, hl => by
    simp only [List.map_cons, List.cons_append, linesV]
    rw [if_neg (by simp), if_neg (by omega), split_row (h r List.mem_cons_self), rowV_rowW (h r List.mem_cons_self)]
    simp only
    rw [lines_rows hd (acc ++ [r]) (ln + 1) (fun x hx => h x (List.mem_cons_of_mem _ hx)) (by omega)]
    simp
theorem fmtRows_some : ∀ {rs : List CRow} {t : List Int}, (∀ r ∈ rs, SmR r) → t.length + 1000 * rs.length ≤ 1048576 → fmtRows rs t = some (t ++ rs.flatMap rowT)
  | [], t, _, _ => by simp [fmtRows]
  | r :: rs, t, h, hl => by
    have h1 := rowT_len (h r List.mem_cons_self)
    simp only [List.length_cons] at hl
    simp only [fmtRows]
    rw [if_neg (by rw [List.length_append]; omega), fmtRows_some (fun x hx => h x (List.mem_cons_of_mem _ hx)) (by rw [List.length_append]; omega)]
    simp
theorem rows_byL (rs : List CRow) : byL (rs.flatMap rowT) = rs.flatMap fun r => rowL r ++ [10] := by
  induction rs with
  | nil => rfl
  | cons r rs ih => rw [List.flatMap_cons, byL_append, ih, rowT_byL]; rfl
theorem rows_len : ∀ {rs : List CRow}, (∀ r ∈ rs, SmR r) → (rs.flatMap rowT).length ≤ 1000 * rs.length
  | [], _ => by simp
  | r :: rs, h => by
    have h1 := rowT_len (h r List.mem_cons_self)
    have h2 := rows_len fun x hx => h x (List.mem_cons_of_mem _ hx)
    simp only [List.flatMap_cons, List.length_append, List.length_cons]
    omega
theorem parse_fmt {c : Casc} (hv : validE c = 0) (hs : ∀ r ∈ c.rows, SmR r) (hn : ∀ x ∈ c.letters :: c.sizes, 0 ≤ x ∧ x < 100) (h0 : (headT c).length ≤ 100) (hr : c.rows.length ≤ 1000) : fmtV c = (bytesOf (headT c ++ c.rows.flatMap rowT), 0) ∧ parseV (bytesOf (headT c ++ c.rows.flatMap rowT)) = (c, -1, 0) := by
  have hl := rows_len hs
  refine ⟨?_, ?_⟩
  · unfold fmtV fmtR
    rw [if_pos hv, fmtRows_some hs (by omega)]
  · unfold parseV
    rw [if_neg (by rw [bytesOf_len, List.length_append]; omega), bytesOf_byL, show (toBA (byL (headT c ++ c.rows.flatMap rowT))).data.toList = byL (headT c ++ c.rows.flatMap rowT) by simp [toBA], byL_append, headT_byL, rows_byL, split_rows (headL_nl hn) hs]
    simp only [linesV]
    rw [if_neg (by simp), if_pos trivial, split_head hn, headV_headW hn]
    simp only
    rw [lines_rows _ _ _ hs (by omega)]
    simp only [finV, List.nil_append]
    rw [if_pos hv]
end Go.Proofs.YthalofddjlhcjaaDoor
end
section
/- Functions by value: program. -/
namespace Go.Proofs.YthalofddjlhcjaaDoor
open Go
set_option maxRecDepth 100000
set_option maxHeartbeats 1000000
set_option linter.unusedVariables false
set_option linter.unusedSimpArgs false



-- semigroup/cascade.Parse
def cascade_Parse_b5 : ByteArray × Int × Int × List Int × List CRow → Option ((ByteArray × Int × Int × List Int × List CRow) ⊕ (Casc × Int × Int))
  | (w71, w72, w74, w75, w73) =>
  if w72 = 0 then
    (strings_Cut w71 ⟨#[10]⟩).bind fun v92 =>
    if v92.2.2 = true then
      (vSplit v92.1 ⟨#[32]⟩).bind fun v93 =>
      if 0 < w72 then
        (cascade_parseRow v93).bind fun v94 =>
        if v94.2 = true then
          chk (capOk 48 (w73.length + 1)) <|
          nextG (v92.2.1, IntKind.i64.wrap (w72 + 1), w74, w75, w73 ++ [v94.1])
        else
          exitG <|
          some ((⟨0, [], []⟩ : Casc), w72, 2)
      else
        (pieceL v93 1 (v93.length : Int)).bind fun v95 =>
        (cascade_parseNumbers v95).bind fun v96 =>
        (atI v93 0).bind fun v97 =>
        if v97 = ⟨#[99, 97, 115, 99, 97, 100, 101]⟩ then
          if v96.2 = true then
            if (v96.1.length : Int) = 0 then
              exitG <|
              some ((⟨0, [], []⟩ : Casc), w72, 2)
            else
              (atI v96.1 0).bind fun v98 =>
              (pieceL v96.1 1 (v96.1.length : Int)).bind fun v99 =>
              nextG (v92.2.1, IntKind.i64.wrap (w72 + 1), v98, v99, w73)
          else
            exitG <|
            some ((⟨0, [], []⟩ : Casc), w72, 2)
        else
          exitG <|
          some ((⟨0, [], []⟩ : Casc), w72, 2)
    else
      exitG <|
      some ((⟨0, [], []⟩ : Casc), w72, 2)
  else
    if w71 = ByteArray.empty then
      exitG <|
      (cascade_Validate (⟨w74, w75, w73⟩ : Casc)).bind fun v100 =>
      if v100 = 0 then
        some ((⟨w74, w75, w73⟩ : Casc), (-1), 0)
      else
        some ((⟨0, [], []⟩ : Casc), 0, v100)
    else
      (strings_Cut w71 ⟨#[10]⟩).bind fun v101 =>
      if v101.2.2 = true then
        (vSplit v101.1 ⟨#[32]⟩).bind fun v102 =>
        if 0 < w72 then
          (cascade_parseRow v102).bind fun v103 =>
          if v103.2 = true then
            chk (capOk 48 (w73.length + 1)) <|
            nextG (v101.2.1, IntKind.i64.wrap (w72 + 1), w74, w75, w73 ++ [v103.1])
          else
            exitG <|
            some ((⟨0, [], []⟩ : Casc), w72, 2)
        else
          (pieceL v102 1 (v102.length : Int)).bind fun v104 =>
          (cascade_parseNumbers v104).bind fun v105 =>
          (atI v102 0).bind fun v106 =>
          if v106 = ⟨#[99, 97, 115, 99, 97, 100, 101]⟩ then
            if v105.2 = true then
              if (v105.1.length : Int) = 0 then
                exitG <|
                some ((⟨0, [], []⟩ : Casc), w72, 2)
              else
                (atI v105.1 0).bind fun v107 =>
                (pieceL v105.1 1 (v105.1.length : Int)).bind fun v108 =>
                nextG (v101.2.1, IntKind.i64.wrap (w72 + 1), v107, v108, w73)
            else
              exitG <|
              some ((⟨0, [], []⟩ : Casc), w72, 2)
          else
            exitG <|
            some ((⟨0, [], []⟩ : Casc), w72, 2)
      else
        exitG <|
        some ((⟨0, [], []⟩ : Casc), w72, 2)
def cascade_Parse_h5 : ByteArray × Int × Int × List Int × List CRow → Fr
  | (w71, w72, w74, w75, w73) => ⟨92, [(0, .one (.t none (.sc (.string w71)))), (2, .one (.a 2 [] (0))), (5, .one (.a 5 [] (0))), (6, .one (.t none (.sc (.int .i64 w72))))], [(2, .vr [.sc (.int .i64 0), .os 1 0 [], .os 2 0 []]), (5, .vr [.sc (.int .i64 w74), .sl w75.length (w75.map fun x0 => .sc (.int .i64 x0)), .os 2 w73.length (w73.flatMap fun x0 => [.sl x0.pre.length (x0.pre.map fun x1 => .sc (.int .i64 x1)), .sl x0.maps.length (x0.maps.map fun x1 => .sl x1.length (x1.map fun x2 => .sc (.int .i64 x2)))])])]⟩
def cascade_Parse (a0 : ByteArray) : Option (Casc × Int × Int) :=
  if 1048576 < (a0.size : Int) then
    some ((⟨0, [], []⟩ : Casc), 0, 3)
  else
    loopG (cascade_Parse_b5) LFm (a0, 0, 0, [], [])
theorem cascade_Parse_ok {a0 : ByteArray} {r : Casc × Int × Int} (h0 : cascade_Parse a0 = some r) : L 25 [.sc (.string a0)] = some (.tup [.agg [.sc (.int .i64 r.1.letters), .sl r.1.sizes.length (r.1.sizes.map fun x0 => .sc (.int .i64 x0)), .sl r.1.rows.length (r.1.rows.flatMap fun x0 => [.sl x0.pre.length (x0.pre.map fun x1 => .sc (.int .i64 x1)), .sl x0.maps.length (x0.maps.map fun x1 => .sl x1.length (x1.map fun x2 => .sc (.int .i64 x2)))])], .sc (.int .i64 r.2.1), .sc (.int .i64 r.2.2)], [.dead]) := by
  simp only [cascade_Parse] at h0
  refine L_run cfn25 fn25 (runF_ofD bd25 ⟨of_decide_eq_true rfl, of_decide_eq_true rfl⟩ rfl ?_)
  simp only [entryF, entryT, entryO, entryE, isIo]
  refine zq rfl (zr rfl rfl rfl (by simp; rfl) ?_)
  refine thenC_n (zq rfl (zq rfl (zr rfl rfl rfl (by simp; rfl) ?_)))
  refine thenC_n ?_
  by_cases c98 : 1048576 < (a0.size : Int)
  · rw [if_pos c98] at h0
    refine q_ifT rfl (by simp [c98]) (zq rfl (zr rfl rfl rfl (by simp; rfl) ?_))
    refine thenC_n (q_ret rfl (thenC_r ?_))
    cases h0
    simp
  · rw [if_neg c98] at h0
    refine q_ifF rfl (by simp [c98]) (q_skip rfl (thenC_n (zq rfl (zr rfl rfl rfl (by simp; rfl) ?_))))
    refine thenC_n (zq rfl (zq rfl (q_frz rfl rfl (by simp; rfl) (zr rfl rfl rfl (by simp; rfl) ?_))))
    refine thenC_n (zb rfl (q_loopG h0 cascade_Parse_h5 rfl rfl (by simp [cascade_Parse_h5]) fun s o1 h1 hr1 => ?_))
    obtain ⟨w71, w72, w74, w75, w73⟩ := s
    simp only [cascade_Parse_b5] at h1
    simp only [cascade_Parse_h5]
    refine zq rfl (zq rfl ?_)
    by_cases c161 : w72 = 0
    · rw [if_pos c161] at h1
      have c161e := eq_true c161
      refine zr rfl rfl rfl (by simp [c161e]; rfl) ?_
      refine thenC_n (q_ifT rfl (by simp) (q_skip rfl (thenC_n (zq rfl (zb rfl (zq rfl ?_))))))
      obtain ⟨v92, f162, h2⟩ := bnd_some h1
      have f162k := strings_Cut_ok f162
      try simp at f162k
      refine zr rfl rfl rfl (by simp [f162k]; rfl) ?_
      refine thenC_n (zq rfl (zq rfl (zr rfl rfl rfl (by simp; rfl) ?_)))
      refine thenC_n ?_
      by_cases c163 : v92.2.2 = true
      · rw [if_pos c163] at h2
        refine q_ifF rfl (by simp [c163]) (q_skip rfl (thenC_n (zq rfl (zr rfl rfl rfl (by simp; rfl) ?_))))
        refine thenC_n (zq rfl ?_)
        obtain ⟨v93, f164, h3⟩ := bnd_some h2
        have f164k := vSplit_ok f164
        try simp at f164k
        refine zr rfl rfl rfl (by simp [f164k]; rfl) ?_
        refine thenC_n (zq rfl (zq rfl (zr rfl rfl rfl (by simp; rfl) ?_)))
        refine thenC_n ?_
        by_cases c165 : 0 < w72
        · rw [if_pos c165] at h3
          refine q_ifT rfl (by simp [c165]) (zq rfl ?_)
          obtain ⟨v94, f166, h4⟩ := bnd_some h3
          have f166k := cascade_parseRow_ok f166
          try simp at f166k
          refine zr rfl rfl rfl (by simp [f166k]; rfl) ?_
          refine thenC_n (zq rfl (zq rfl (zr rfl rfl rfl (by simp; rfl) ?_)))
          refine thenC_n ?_
          by_cases c167 : v94.2 = true
          · rw [if_pos c167] at h4
            refine q_ifF rfl (by simp [c167]) (q_skip rfl (thenC_n (zq rfl ?_)))
            obtain ⟨f168, h5⟩ := chk_some h4
            obtain ⟨f168a, f168b⟩ := f168
            refine zr rfl rfl rfl (by simp [f168a, f168b]; rfl) ?_
            refine thenC_n (q_exit rfl (thenC_x (blockC_hit2 rfl (thenC_n (zr rfl rfl rfl (by simp; rfl) ?_)))))
            have ho := next_some h5
            refine roundC_n ho ?_
            simp [cascade_Parse_h5, c163, c167]
          · rw [if_neg c167] at h4
            refine q_ifT rfl (by simp [c167]) (zq rfl (zr rfl rfl rfl (by simp; rfl) ?_))
            refine thenC_n (q_ret rfl (thenC_r (thenC_r (blockC_r (thenC_r ?_)))))
            obtain ⟨rr1, h5, ho1⟩ := exit_some h4
            have hs1 := hr1 _ ho1
            subst hs1
            refine roundC_r ho1 (blockC_r (thenC_r ?_))
            cases h5
            simp [c163, c167]
        · rw [if_neg c165] at h3
          refine q_ifF rfl (by simp [c165]) (q_skip rfl (thenC_n (zq rfl ?_)))
          obtain ⟨v95, f169, h4⟩ := bnd_some h3
          obtain ⟨f169a, f169b, f169c, -⟩ := pieceL_some f169
          obtain ⟨f169d, f169g⟩ := piece_hi f169a f169b
          have f169e := pieceL_map (g := fun x : ByteArray => (.sc (.string x) : T)) f169
          try simp at f169e
          have f169f := pieceL_slm f169
          try simp only [Int.reduceToNat, Int.toNat_natCast, Nat.sub_zero] at f169f
          obtain ⟨v96, f170, h5⟩ := bnd_some h4
          have f170k := cascade_parseNumbers_ok f170
          try simp at f170k
          refine zr rfl rfl rfl (by simp [f169a, f169b, f169c, f169d, f169g, f169e, f169f, f170k]; rfl) ?_
          refine thenC_n (zq rfl (zq rfl ?_))
          obtain ⟨v97, f171, h6⟩ := bnd_some h5
          obtain ⟨f171a, f171b, f171c, f171d, f171e⟩ := atI_some f171
          simp only [Int.reduceToNat, Int.toNat_natCast] at f171c f171d f171e
          have f171j : v93 ≠ [] := by intro hh; rw [hh] at f171c; simp at f171c
          have f171l : 0 < v93.length := by omega
          by_cases c172 : v97 = ⟨#[99, 97, 115, 99, 97, 100, 101]⟩
          · rw [if_pos c172] at h6
            have c172e := eq_true c172
            by_cases c173 : v96.2 = true
            · rw [if_pos c173] at h6
              refine zr rfl rfl rfl (by simp [f171a, f171b, f171c, f171d, f171e, f171j, f171l, c172e, c173]; rfl) ?_
              refine thenC_n ?_
              by_cases c174 : (v96.1.length : Int) = 0
              · rw [if_pos c174] at h6
                have c174e := eq_true c174
                have c174s : v96.1 = [] := by simpa [List.length_pos_iff] using c174
                refine q_ifT rfl (by simp [c174e, c174s]) (zq rfl (zr rfl rfl rfl (by simp; rfl) ?_))
                refine thenC_n (q_ret rfl (thenC_r (blockC_r (thenC_r ?_))))
                obtain ⟨rr1, h7, ho1⟩ := exit_some h6
                have hs1 := hr1 _ ho1
                subst hs1
                refine roundC_r ho1 (blockC_r (thenC_r ?_))
                cases h7
                simp [c163, c173]
              · rw [if_neg c174] at h6
                have c174e := eq_false c174
                have c174s : v96.1 ≠ [] := by simpa [List.length_pos_iff] using c174
                refine q_ifF rfl (by simp [c174e, c174s]) (q_skip rfl (thenC_n ?_))
                obtain ⟨v98, f175, h7⟩ := bnd_some h6
                obtain ⟨f175a, f175b, f175c, f175d, f175e⟩ := atI_some f175
                simp only [Int.reduceToNat, Int.toNat_natCast] at f175c f175d f175e
                have f175j : v96.1 ≠ [] := by intro hh; rw [hh] at f175c; simp at f175c
                have f175l : 0 < v96.1.length := by omega
                obtain ⟨v99, f176, h8⟩ := bnd_some h7
                obtain ⟨f176a, f176b, f176c, -⟩ := pieceL_some f176
                obtain ⟨f176d, f176g⟩ := piece_hi f176a f176b
                have f176e := pieceL_map (g := fun x : Int => (.sc (.int .i64 x) : T)) f176
                try simp at f176e
                have f176f := pieceL_slm f176
                try simp only [Int.reduceToNat, Int.toNat_natCast, Nat.sub_zero] at f176f
                refine q_drawW rfl rfl rfl rfl ?_; repeat' (first | (refine q_drawW_op rfl rfl fun Q' hQ => ?_; simp [f175a, f175b, f175c, f175d, f175e, f175j, f175l, f176a, f176b, f176c, f176d, f176g, f176e, f176f]; refine hQ.out _ ?_; clear hQ; clear Q') | (refine q_drawW_guard rfl rfl fun Q1 Q2 h1 h2 => ?_; simp [f175a, f175b, f175c, f175d, f175e, f175j, f175l, f176a, f176b, f176c, f176d, f176g, f176e, f176f, twoB_some]; (first | refine h1.out ?_ | refine h2.out ?_); clear h1 h2; clear Q1 Q2; intro Q' hQ; simp [f175a, f175b, f175c, f175d, f175e, f175j, f175l, f176a, f176b, f176c, f176d, f176g, f176e, f176f]; refine hQ.out _ ?_; clear hQ; clear Q') | (refine q_drawW_nil rfl fun Q' hQ => ?_; simp [f175a, f175b, f175c, f175d, f175e, f175j, f175l, f176a, f176b, f176c, f176d, f176g, f176e, f176f]; refine hQ.out _ ?_; clear hQ; clear Q'))
                refine blockC_n (thenC_n (zr rfl rfl rfl (by simp; rfl) ?_))
                have ho := next_some h8
                refine roundC_n ho ?_
                simp [cascade_Parse_h5, c163, c173]
            · rw [if_neg c173] at h6
              refine zr rfl rfl rfl (by simp [f171a, f171b, f171c, f171d, f171e, f171j, f171l, c172e, c173]; rfl) ?_
              refine thenC_n (q_ifT rfl (by simp) (zq rfl (zr rfl rfl rfl (by simp; rfl) ?_)))
              refine thenC_n (q_ret rfl (thenC_r (blockC_r (thenC_r ?_))))
              obtain ⟨rr1, h7, ho1⟩ := exit_some h6
              have hs1 := hr1 _ ho1
              subst hs1
              refine roundC_r ho1 (blockC_r (thenC_r ?_))
              cases h7
              simp [c163, c173]
          · rw [if_neg c172] at h6
            have c172e := eq_false c172
            refine zr rfl rfl rfl (by simp [f171a, f171b, f171c, f171d, f171e, f171j, f171l, c172e]; rfl) ?_
            refine thenC_n (q_ifT rfl (by simp) (zq rfl (zr rfl rfl rfl (by simp; rfl) ?_)))
            refine thenC_n (q_ret rfl (thenC_r (blockC_r (thenC_r ?_))))
            obtain ⟨rr1, h7, ho1⟩ := exit_some h6
            have hs1 := hr1 _ ho1
            subst hs1
            refine roundC_r ho1 (blockC_r (thenC_r ?_))
            cases h7
            simp [c163]
      · rw [if_neg c163] at h2
        refine q_ifT rfl (by simp [c163]) (zq rfl (zr rfl rfl rfl (by simp; rfl) ?_))
        refine thenC_n (q_ret rfl (thenC_r (blockC_r (thenC_r ?_))))
        obtain ⟨rr1, h3, ho1⟩ := exit_some h2
        have hs1 := hr1 _ ho1
        subst hs1
        refine roundC_r ho1 (blockC_r (thenC_r ?_))
        cases h3
        simp [c163]
    · rw [if_neg c161] at h1
      have c161e := eq_false c161
      refine zr rfl rfl rfl (by simp [c161e]; rfl) ?_
      refine thenC_n ?_
      by_cases c177 : w71 = ByteArray.empty
      · rw [if_pos c177] at h1
        have c177e := eq_true c177
        refine q_ifF rfl (by simp [c177e]) (q_exit rfl (thenC_x ?_))
        obtain ⟨rr1, h2, ho1⟩ := exit_some h1
        have hs1 := hr1 _ ho1
        subst hs1
        refine roundC_x ho1 (blockC_hit2 rfl (thenC_n (zq rfl (zq rfl ?_))))
        obtain ⟨v100, f178, h3⟩ := bnd_some h2
        have f178k := cascade_Validate_ok f178
        try simp at f178k
        refine zr rfl rfl rfl (by simp [f178k]; rfl) ?_
        refine thenC_n (zq rfl (zr rfl rfl rfl (by simp; rfl) ?_))
        refine thenC_n ?_
        by_cases c179 : v100 = 0
        · rw [if_pos c179] at h3
          have c179e := eq_true c179
          refine q_ifF rfl (by simp [c179e]) (q_skip rfl (thenC_n (zq rfl (zr rfl rfl rfl (by simp; rfl) ?_))))
          refine thenC_n (q_ret rfl ?_)
          cases h3
          simp
        · rw [if_neg c179] at h3
          have c179e := eq_false c179
          refine q_ifT rfl (by simp [c179e]) (zq rfl (zr rfl rfl rfl (by simp; rfl) ?_))
          refine thenC_n (q_ret rfl (thenC_r ?_))
          cases h3
          simp
      · rw [if_neg c177] at h1
        have c177e := eq_false c177
        refine q_ifT rfl (by simp [c177e]) (q_skip rfl (thenC_n (zq rfl (zb rfl (zq rfl ?_)))))
        obtain ⟨v101, f180, h2⟩ := bnd_some h1
        have f180k := strings_Cut_ok f180
        try simp at f180k
        refine zr rfl rfl rfl (by simp [f180k]; rfl) ?_
        refine thenC_n (zq rfl (zq rfl (zr rfl rfl rfl (by simp; rfl) ?_)))
        refine thenC_n ?_
        by_cases c181 : v101.2.2 = true
        · rw [if_pos c181] at h2
          refine q_ifF rfl (by simp [c181]) (q_skip rfl (thenC_n (zq rfl (zr rfl rfl rfl (by simp; rfl) ?_))))
          refine thenC_n (zq rfl ?_)
          obtain ⟨v102, f182, h3⟩ := bnd_some h2
          have f182k := vSplit_ok f182
          try simp at f182k
          refine zr rfl rfl rfl (by simp [f182k]; rfl) ?_
          refine thenC_n (zq rfl (zq rfl (zr rfl rfl rfl (by simp; rfl) ?_)))
          refine thenC_n ?_
          by_cases c183 : 0 < w72
          · rw [if_pos c183] at h3
            refine q_ifT rfl (by simp [c183]) (zq rfl ?_)
            obtain ⟨v103, f184, h4⟩ := bnd_some h3
            have f184k := cascade_parseRow_ok f184
            try simp at f184k
            refine zr rfl rfl rfl (by simp [f184k]; rfl) ?_
            refine thenC_n (zq rfl (zq rfl (zr rfl rfl rfl (by simp; rfl) ?_)))
            refine thenC_n ?_
            by_cases c185 : v103.2 = true
            · rw [if_pos c185] at h4
              refine q_ifF rfl (by simp [c185]) (q_skip rfl (thenC_n (zq rfl ?_)))
              obtain ⟨f186, h5⟩ := chk_some h4
              obtain ⟨f186a, f186b⟩ := f186
              refine zr rfl rfl rfl (by simp [f186a, f186b]; rfl) ?_
              refine thenC_n (q_exit rfl (thenC_x (blockC_hit2 rfl (thenC_n (zr rfl rfl rfl (by simp; rfl) ?_)))))
              have ho := next_some h5
              refine roundC_n ho ?_
              simp [cascade_Parse_h5, c181, c185]
            · rw [if_neg c185] at h4
              refine q_ifT rfl (by simp [c185]) (zq rfl (zr rfl rfl rfl (by simp; rfl) ?_))
              refine thenC_n (q_ret rfl (thenC_r (thenC_r (blockC_r (thenC_r ?_)))))
              obtain ⟨rr1, h5, ho1⟩ := exit_some h4
              have hs1 := hr1 _ ho1
              subst hs1
              refine roundC_r ho1 (blockC_r (thenC_r ?_))
              cases h5
              simp [c181, c185]
          · rw [if_neg c183] at h3
            refine q_ifF rfl (by simp [c183]) (q_skip rfl (thenC_n (zq rfl ?_)))
            obtain ⟨v104, f187, h4⟩ := bnd_some h3
            obtain ⟨f187a, f187b, f187c, -⟩ := pieceL_some f187
            obtain ⟨f187d, f187g⟩ := piece_hi f187a f187b
            have f187e := pieceL_map (g := fun x : ByteArray => (.sc (.string x) : T)) f187
            try simp at f187e
            have f187f := pieceL_slm f187
            try simp only [Int.reduceToNat, Int.toNat_natCast, Nat.sub_zero] at f187f
            obtain ⟨v105, f188, h5⟩ := bnd_some h4
            have f188k := cascade_parseNumbers_ok f188
            try simp at f188k
            refine zr rfl rfl rfl (by simp [f187a, f187b, f187c, f187d, f187g, f187e, f187f, f188k]; rfl) ?_
            refine thenC_n (zq rfl (zq rfl ?_))
            obtain ⟨v106, f189, h6⟩ := bnd_some h5
            obtain ⟨f189a, f189b, f189c, f189d, f189e⟩ := atI_some f189
            simp only [Int.reduceToNat, Int.toNat_natCast] at f189c f189d f189e
            have f189j : v102 ≠ [] := by intro hh; rw [hh] at f189c; simp at f189c
            have f189l : 0 < v102.length := by omega
            by_cases c190 : v106 = ⟨#[99, 97, 115, 99, 97, 100, 101]⟩
            · rw [if_pos c190] at h6
              have c190e := eq_true c190
              by_cases c191 : v105.2 = true
              · rw [if_pos c191] at h6
                refine zr rfl rfl rfl (by simp [f189a, f189b, f189c, f189d, f189e, f189j, f189l, c190e, c191]; rfl) ?_
                refine thenC_n ?_
                by_cases c192 : (v105.1.length : Int) = 0
                · rw [if_pos c192] at h6
                  have c192e := eq_true c192
                  have c192s : v105.1 = [] := by simpa [List.length_pos_iff] using c192
                  refine q_ifT rfl (by simp [c192e, c192s]) (zq rfl (zr rfl rfl rfl (by simp; rfl) ?_))
                  refine thenC_n (q_ret rfl (thenC_r (blockC_r (thenC_r ?_))))
                  obtain ⟨rr1, h7, ho1⟩ := exit_some h6
                  have hs1 := hr1 _ ho1
                  subst hs1
                  refine roundC_r ho1 (blockC_r (thenC_r ?_))
                  cases h7
                  simp [c181, c191]
                · rw [if_neg c192] at h6
                  have c192e := eq_false c192
                  have c192s : v105.1 ≠ [] := by simpa [List.length_pos_iff] using c192
                  refine q_ifF rfl (by simp [c192e, c192s]) (q_skip rfl (thenC_n ?_))
                  obtain ⟨v107, f193, h7⟩ := bnd_some h6
                  obtain ⟨f193a, f193b, f193c, f193d, f193e⟩ := atI_some f193
                  simp only [Int.reduceToNat, Int.toNat_natCast] at f193c f193d f193e
                  have f193j : v105.1 ≠ [] := by intro hh; rw [hh] at f193c; simp at f193c
                  have f193l : 0 < v105.1.length := by omega
                  obtain ⟨v108, f194, h8⟩ := bnd_some h7
                  obtain ⟨f194a, f194b, f194c, -⟩ := pieceL_some f194
                  obtain ⟨f194d, f194g⟩ := piece_hi f194a f194b
                  have f194e := pieceL_map (g := fun x : Int => (.sc (.int .i64 x) : T)) f194
                  try simp at f194e
                  have f194f := pieceL_slm f194
                  try simp only [Int.reduceToNat, Int.toNat_natCast, Nat.sub_zero] at f194f
                  refine q_drawW rfl rfl rfl rfl ?_; repeat' (first | (refine q_drawW_op rfl rfl fun Q' hQ => ?_; simp [f193a, f193b, f193c, f193d, f193e, f193j, f193l, f194a, f194b, f194c, f194d, f194g, f194e, f194f]; refine hQ.out _ ?_; clear hQ; clear Q') | (refine q_drawW_guard rfl rfl fun Q1 Q2 h1 h2 => ?_; simp [f193a, f193b, f193c, f193d, f193e, f193j, f193l, f194a, f194b, f194c, f194d, f194g, f194e, f194f, twoB_some]; (first | refine h1.out ?_ | refine h2.out ?_); clear h1 h2; clear Q1 Q2; intro Q' hQ; simp [f193a, f193b, f193c, f193d, f193e, f193j, f193l, f194a, f194b, f194c, f194d, f194g, f194e, f194f]; refine hQ.out _ ?_; clear hQ; clear Q') | (refine q_drawW_nil rfl fun Q' hQ => ?_; simp [f193a, f193b, f193c, f193d, f193e, f193j, f193l, f194a, f194b, f194c, f194d, f194g, f194e, f194f]; refine hQ.out _ ?_; clear hQ; clear Q'))
                  refine blockC_n (thenC_n (zr rfl rfl rfl (by simp; rfl) ?_))
                  have ho := next_some h8
                  refine roundC_n ho ?_
                  simp [cascade_Parse_h5, c181, c191]
              · rw [if_neg c191] at h6
                refine zr rfl rfl rfl (by simp [f189a, f189b, f189c, f189d, f189e, f189j, f189l, c190e, c191]; rfl) ?_
                refine thenC_n (q_ifT rfl (by simp) (zq rfl (zr rfl rfl rfl (by simp; rfl) ?_)))
                refine thenC_n (q_ret rfl (thenC_r (blockC_r (thenC_r ?_))))
                obtain ⟨rr1, h7, ho1⟩ := exit_some h6
                have hs1 := hr1 _ ho1
                subst hs1
                refine roundC_r ho1 (blockC_r (thenC_r ?_))
                cases h7
                simp [c181, c191]
            · rw [if_neg c190] at h6
              have c190e := eq_false c190
              refine zr rfl rfl rfl (by simp [f189a, f189b, f189c, f189d, f189e, f189j, f189l, c190e]; rfl) ?_
              refine thenC_n (q_ifT rfl (by simp) (zq rfl (zr rfl rfl rfl (by simp; rfl) ?_)))
              refine thenC_n (q_ret rfl (thenC_r (blockC_r (thenC_r ?_))))
              obtain ⟨rr1, h7, ho1⟩ := exit_some h6
              have hs1 := hr1 _ ho1
              subst hs1
              refine roundC_r ho1 (blockC_r (thenC_r ?_))
              cases h7
              simp [c181]
        · rw [if_neg c181] at h2
          refine q_ifT rfl (by simp [c181]) (zq rfl (zr rfl rfl rfl (by simp; rfl) ?_))
          refine thenC_n (q_ret rfl (thenC_r (blockC_r (thenC_r ?_))))
          obtain ⟨rr1, h3, ho1⟩ := exit_some h2
          have hs1 := hr1 _ ho1
          subst hs1
          refine roundC_r ho1 (blockC_r (thenC_r ?_))
          cases h3
          simp [c181]
end Go.Proofs.YthalofddjlhcjaaDoor
end
section
/- Plain: Parse is what the text says. -/
namespace Go.Proofs.YthalofddjlhcjaaDoor
open Go
set_option linter.unusedVariables false
set_option linter.unusedSimpArgs false
set_option maxHeartbeats 1000000

theorem Cut_cases (l : List UInt8) (h : l.length < 100000000) : ((10 : UInt8) ∉ l ∧ strings_Cut (toBA l) ⟨#[10]⟩ = some (toBA l, ByteArray.empty, false)) ∨
    ∃ p q, l = p ++ (10 : UInt8) :: q ∧ (10 : UInt8) ∉ p ∧ strings_Cut (toBA l) ⟨#[10]⟩ = some (toBA p, toBA q, true) := by
  unfold strings_Cut i_stringslite_Cut
  rw [vIndex_one, Option.bind_some]
  rcases index_cases 10 l with ⟨h1, h2⟩ | ⟨p, q, h1, h2, h3⟩
  · left
    rw [h1, if_neg (by omega)]
    exact ⟨h2, rfl⟩
  · right
    refine ⟨p, q, h1, h2, ?_⟩
    have hl : p.length + 1 ≤ l.length := by rw [h1]; simp
    rw [h3, if_pos (by omega), pieceS_to (by omega), Option.bind_some]
    have e1 : IntKind.i64.wrap ((p.length : Int) + ((⟨#[10]⟩ : ByteArray).size : Int)) = ((p.length + 1 : Nat) : Int) := wrapS (by omega)
    rw [e1, pieceS_from hl, Option.bind_some, Option.bind_some]
    congr 3
    · rw [h1]; simp
    · rw [h1]
      simp
theorem numsV_le {ws : List ByteArray} {l : List Int} (h : numsV ws = some l) : l.length ≤ ws.length := Nat.le_of_eq (numsV_len h)
theorem groups_le : ∀ ws : List ByteArray, (groupsV ws).1.length ≤ ws.length ∧ (groupsV ws).2.length ≤ ws.length ∧ ∀ g ∈ (groupsV ws).2, g.length ≤ ws.length
  | [] => by simp [groupsV]
  | w :: ws => by
    obtain ⟨h1, h2, h3⟩ := groups_le ws
    simp only [groupsV]
    split
    · refine ⟨by simp, by simp; omega, fun g hg => ?_⟩
      rcases List.mem_cons.1 hg with rfl | hg
      · simp only [List.length_cons]; omega
      · have := h3 g hg; simp only [List.length_cons]; omega
    · refine ⟨by simp only [List.length_cons]; omega, by simp only [List.length_cons]; omega, fun g hg => ?_⟩
      have := h3 g hg; simp only [List.length_cons]; omega
theorem lists_le : ∀ {gs : List (List ByteArray)} {ls : List (List Int)} {n : Nat}, listsV gs = some ls → (∀ g ∈ gs, g.length ≤ n) → ls.length ≤ gs.length ∧ ∀ l ∈ ls, l.length ≤ n
  | [], ls, n, h, _ => by cases h; simp
  | g :: gs, ls, n, h, hg => by
    simp only [listsV, Option.bind_eq_some_iff, Option.map_eq_some_iff] at h
    obtain ⟨l, h1, ls', h2, rfl⟩ := h
    obtain ⟨a, b⟩ := lists_le h2 fun x hx => hg x (List.mem_cons_of_mem _ hx)
    refine ⟨by simp only [List.length_cons]; omega, fun x hx => ?_⟩
    rcases List.mem_cons.1 hx with rfl | hx
    · exact Nat.le_trans (numsV_le h1) (hg g List.mem_cons_self)
    · exact b x hx
def RowLe (n : Nat) (r : CRow) : Prop := r.pre.length ≤ n ∧ r.maps.length ≤ n ∧ ∀ m ∈ r.maps, m.length ≤ n
theorem rowV_le {ws : List ByteArray} {r : CRow} {n : Nat} (h : rowV ws = some r) (hn : ws.length ≤ n) : RowLe n r := by
  cases ws with
  | nil => cases h
  | cons w ws =>
    simp only [rowV] at h
    split at h
    · rw [Option.bind_eq_some_iff] at h
      obtain ⟨p, h1, h2⟩ := h
      rw [Option.map_eq_some_iff] at h2
      obtain ⟨ms, h3, rfl⟩ := h2
      obtain ⟨a, b, c⟩ := groups_le ws
      obtain ⟨d, e⟩ := lists_le h3 c
      simp only [List.length_cons] at hn
      have := numsV_le h1
      exact ⟨by simp only; omega, by simp only; omega, fun m hm => by have := e m hm; omega⟩
    · cases h
theorem headV_le {ws : List ByteArray} {l : List Int} (h : headV ws = some l) : l ≠ [] ∧ l.length ≤ ws.length := by
  cases ws with
  | nil => cases h
  | cons w ws =>
    simp only [headV] at h
    split at h
    · split at h
      · rename_i x l' hn
        cases h
        have := numsV_le hn
        exact ⟨by simp, by simp only [List.length_cons] at this ⊢; omega⟩
      · cases h
    · cases h
theorem splitA_len (c : UInt8) : ∀ (l cur : List UInt8), (splitA c l cur).length ≤ l.length + 1 ∧ splitA c l cur ≠ []
  | [], cur => by simp [splitA]
  | b :: l, cur => by
    simp only [splitA]
    split
    · have := splitA_len c l []
      exact ⟨by simp only [List.length_cons]; omega, by simp⟩
    · have := splitA_len c l (cur ++ [b])
      exact ⟨by simp only [List.length_cons]; omega, this.2⟩
theorem splitW_len (l : List UInt8) : (splitW (toBA l)).length ≤ l.length + 1 ∧ splitW (toBA l) ≠ [] := by
  unfold splitW
  have := splitA_len 32 (toBA l).data.toList []
  have e : (toBA l).data.toList = l := by simp [toBA]
  rw [e] at this ⊢
  exact ⟨by simpa using this.1, by simpa using this.2⟩
theorem cb_of {x : Int} {l : List Int} {rows : List CRow} {n : Nat} (hn : n < 4611686018427387904) (h1 : l.length ≤ n) (h2 : rows.length ≤ n) (h3 : ∀ r ∈ rows, RowLe n r) : CB ⟨x, l, rows⟩ :=
  ⟨by simp only; omega, by simp only; omega, fun r hr => by
    obtain ⟨a, b, c⟩ := h3 r hr
    exact ⟨by omega, by omega, fun m hm => by have := c m hm; omega⟩⟩
theorem toBA_empty (l : List UInt8) : toBA l = ByteArray.empty ↔ l = [] := by
  rw [empty_iff]; simp [toBA]
/-- What both readers hold. -/
structure PrI (V : Casc × Int × Int) (l : List UInt8) (ln : Nat) (hd : List Int) (rows : List CRow) : Prop where
  v : linesV (splitA 10 l []) ln hd rows = V
  sz : ln + l.length ≤ 2000000
  hl : hd.length ≤ 2000000
  rl : rows.length ≤ ln
  rb : ∀ r ∈ rows, RowLe 2000000 r
  z : ln = 0 → rows = [] ∧ hd = []
  nz : 0 < ln → hd ≠ []
theorem PrI.cut {V : Casc × Int × Int} {l : List UInt8} {ln : Nat} {hd : List Int} {rows : List CRow} (h : PrI V l ln hd rows) (hc : (10 : UInt8) ∉ l) (hn : ln = 0 ∨ l ≠ []) : V = (zC, (ln : Int), 2) := by
  rw [← h.v, splitA_none hc]
  simp only [linesV, if_true, List.nil_append]
  rw [if_neg (by rintro ⟨a, b⟩; rcases hn with e | e; omega; exact e a)]
theorem PrI.fin {V : Casc × Int × Int} {ln : Nat} {hd : List Int} {rows : List CRow} (h : PrI V [] ln hd rows) (hn : 0 < ln) : V = finV hd rows := by
  rw [← h.v]
  simp [splitA, linesV, hn]
theorem PrI.line {V : Casc × Int × Int} {p q : List UInt8} {ln : Nat} {hd : List Int} {rows : List CRow} (h : PrI V (p ++ (10 : UInt8) :: q) ln hd rows) (hc : (10 : UInt8) ∉ p) :
    V = if ln = 0 then (match headV (splitW (toBA p)) with | some h => linesV (splitA 10 q []) 1 h rows | none => (zC, 0, 2)) else (match rowV (splitW (toBA p)) with | some r => linesV (splitA 10 q []) (ln + 1) hd (rows ++ [r]) | none => (zC, (ln : Int), 2)) := by
  rw [← h.v, splitA_some hc]
  simp only [linesV, List.nil_append]
  rw [if_neg (splitA_len 10 q []).2]
  all_goals rfl
theorem PrI.head {V : Casc × Int × Int} {p q : List UInt8} {hd hd' : List Int} {rows : List CRow} (h : PrI V (p ++ (10 : UInt8) :: q) 0 hd rows) (hc : (10 : UInt8) ∉ p) (hh : headV (splitW (toBA p)) = some hd') : PrI V q 1 hd' rows := by
  have h1 := h.line hc
  rw [if_pos rfl, hh] at h1
  have hs := h.sz
  simp only [List.length_append, List.length_cons] at hs
  have hw := (splitW_len p).1
  obtain ⟨a, b⟩ := headV_le hh
  exact ⟨h1.symm, by omega, by omega, Nat.le_trans h.rl (by omega), h.rb, (fun e => by cases e), fun _ => a⟩
theorem PrI.row {V : Casc × Int × Int} {p q : List UInt8} {ln : Nat} {hd : List Int} {rows : List CRow} {r : CRow} (h : PrI V (p ++ (10 : UInt8) :: q) ln hd rows) (hc : (10 : UInt8) ∉ p) (hn : 0 < ln) (hr : rowV (splitW (toBA p)) = some r) : PrI V q (ln + 1) hd (rows ++ [r]) := by
  have h1 := h.line hc
  rw [if_neg (by omega), hr] at h1
  have hs := h.sz
  simp only [List.length_append, List.length_cons] at hs
  have hw := (splitW_len p).1
  refine ⟨h1.symm, by omega, h.hl, ?_, fun x hx => ?_, (fun e => by cases e), fun _ => h.nz hn⟩
  · have := h.rl; simp only [List.length_append, List.length_singleton]; omega
  · rcases List.mem_append.1 hx with e | e
    · exact h.rb x e
    · rw [List.mem_singleton.1 e]; exact rowV_le hr (by omega)
theorem PrI.start {s : ByteArray} (h : ¬ 1048576 < s.size) : PrI (parseV s) s.data.toList 0 [] [] := by
  refine ⟨?_, by rw [toList_len]; omega, by simp, by simp, by simp, fun _ => ⟨rfl, rfl⟩, fun e => by cases e⟩
  unfold parseV
  rw [if_neg h]
theorem finV_cons {x : Int} {l : List Int} {rows : List CRow} : finV (x :: l) rows = if validE ⟨x, l, rows⟩ = 0 then (⟨x, l, rows⟩, -1, 0) else (zC, 0, validE ⟨x, l, rows⟩) := rfl
theorem cb_z : CB zC := ⟨by decide, by decide, fun r hr => by cases hr⟩
theorem Parse_ex (s : ByteArray) : ∃ r, cascade_Parse s = some r ∧ r = parseV s ∧ CB r.1 := by
  unfold cascade_Parse
  by_cases hs : 1048576 < s.size
  · rw [if_pos (by omega)]
    refine ⟨_, rfl, ?_, cb_z⟩
    unfold parseV
    rw [if_pos hs]
    all_goals rfl
  rw [if_neg (by omega)]
  refine Exists.elim (loopG_rule (b := cascade_Parse_b5) (fun st => ∃ (l : List UInt8) (ln : Nat) (hd : List Int), PrI (parseV s) l ln hd st.2.2.2.2 ∧ st.1 = toBA l ∧ st.2.1 = (ln : Int) ∧ (0 < ln → hd = st.2.2.1 :: st.2.2.2.1)) (fun st => st.1.size) (fun r => r = parseV s ∧ CB r.1) ?_ LFm (s, 0, 0, [], []) ⟨s.data.toList, 0, [], PrI.start hs, (toBA_toList s).symm, rfl, fun e => by cases e⟩ (by simp only [LFm]; omega)) fun r hr => ⟨r, hr⟩
  rintro ⟨_, _, x, szs, rows⟩ ⟨l, ln, hd, hI, h1, h2, h3⟩
  simp only at hI h1 h2 h3
  subst h1
  subst h2
  simp only [cascade_Parse_b5]
  have hsz := hI.sz
  have hrl := hI.rl
  by_cases h0 : ln = 0
  · subst h0
    rw [if_pos (by rfl)]
    rcases Cut_cases l (by omega) with ⟨hc, e⟩ | ⟨p, q, rfl, hc, e⟩
    · rw [e]
      right
      refine ⟨_, rfl, ?_, cb_z⟩
      rw [hI.cut hc (.inl rfl)]
      all_goals rfl
    · simp only [List.length_append, List.length_cons] at hsz
      rw [e]
      simp only [Option.bind_some, if_true]
      rw [Split_eq _ (by rw [toBA_size]; omega)]
      simp only [Option.bind_some]
      rw [if_neg (by omega)]
      have hV := hI.line hc
      rw [if_pos rfl] at hV
      obtain ⟨hw1, hw2⟩ := splitW_len p
      have hH := fun hd' hh => hI.head (hd' := hd') hc hh
      generalize splitW (toBA p) = ws at hw1 hw2 hV hH ⊢
      cases ws with
      | nil => exact absurd rfl hw2
      | cons w ws =>
        simp only [List.length_cons] at hw1
        have hp : pieceL (w :: ws) 1 ((w :: ws).length : Int) = some ws := by
          have := piece_at (ws := w :: ws) (b := 1) (i := (w :: ws).length) (by simp) (Nat.le_refl _)
          simpa using this
        rw [hp, Option.bind_some, parseNumbers_eq ws (by omega), Option.bind_some, show atI (w :: ws) 0 = some w from rfl, Option.bind_some]
        by_cases hw : w = ⟨#[99, 97, 115, 99, 97, 100, 101]⟩
        · rw [if_pos hw]
          cases hN : numsV ws with
          | none =>
            right
            refine ⟨_, rfl, ?_, cb_z⟩
            rw [hV]
            simp only [headV, if_pos hw, hN]
            all_goals rfl
          | some nl =>
            simp only [if_true]
            cases nl with
            | nil =>
              right
              refine ⟨_, rfl, ?_, cb_z⟩
              rw [hV]
              simp only [headV, if_pos hw, hN]
              all_goals rfl
            | cons y ys =>
              left
              have hh : headV (w :: ws) = some (y :: ys) := by simp only [headV, if_pos hw, hN]
              have hp2 : pieceL (y :: ys) 1 ((y :: ys).length : Int) = some ys := by
                unfold pieceL
                rw [if_pos (by simp only [List.length_cons]; omega)]
                simp
              rw [if_neg (by simp only [List.length_cons]; omega), show atI (y :: ys) 0 = some y from rfl, Option.bind_some, hp2, Option.bind_some]
              refine ⟨_, rfl, ⟨q, 1, y :: ys, hH _ hh, rfl, rfl, fun _ => rfl⟩, ?_⟩
              simp only [toBA_size, List.length_append, List.length_cons]
              omega
        · rw [if_neg hw]
          right
          refine ⟨_, rfl, ?_, cb_z⟩
          rw [hV]
          simp only [headV, if_neg hw]
          all_goals rfl
  · have hln : 0 < ln := by omega
    have hhd := h3 hln
    rw [if_neg (by omega)]
    by_cases hl : l = []
    · subst hl
      rw [if_pos ((toBA_empty []).2 rfl)]
      right
      have hcb : CB ⟨x, szs, rows⟩ := cb_of (n := 2000000) (by omega) (by have := hI.hl; rw [hhd] at this; simp only [List.length_cons] at this; omega) (by omega) hI.rb
      rw [Validate_eq _ hcb, Option.bind_some, hI.fin hln, hhd, finV_cons]
      by_cases hv : validE ⟨x, szs, rows⟩ = 0
      · rw [if_pos hv, if_pos hv]
        exact ⟨_, rfl, rfl, hcb⟩
      · rw [if_neg hv, if_neg hv]
        exact ⟨_, rfl, rfl, cb_z⟩
    · rw [if_neg (fun e => hl ((toBA_empty l).1 e))]
      rcases Cut_cases l (by omega) with ⟨hc, e⟩ | ⟨p, q, rfl, hc, e⟩
      · rw [e]
        right
        refine ⟨_, rfl, ?_, cb_z⟩
        rw [hI.cut hc (.inr hl)]
        all_goals rfl
      · simp only [List.length_append, List.length_cons] at hsz
        rw [e]
        simp only [Option.bind_some, if_true]
        rw [Split_eq _ (by rw [toBA_size]; omega)]
        simp only [Option.bind_some]
        rw [if_pos (by omega)]
        have hV := hI.line hc
        rw [if_neg h0] at hV
        obtain ⟨hw1, hw2⟩ := splitW_len p
        obtain ⟨r, hr1, hr2⟩ := parseRow_eq (splitW (toBA p)) hw2 (by omega)
        rw [hr1]
        simp only [Option.bind_some]
        cases hR : rowV (splitW (toBA p)) with
        | none =>
          right
          rw [hR] at hV
          refine ⟨_, rfl, ?_, cb_z⟩
          rw [hV]
          all_goals rfl
        | some r' =>
          left
          have := hr2 _ hR
          subst this
          simp only [Option.isSome_some, if_true]
          rw [chk_pos _ (by unfold capOk; omega), wrapS (by omega)]
          refine ⟨_, rfl, ⟨q, ln + 1, hd, hI.row hc hln hR, rfl, rfl, fun _ => hhd⟩, ?_⟩
          simp only [toBA_size, List.length_append, List.length_cons]
          omega
theorem Parse_eq (s : ByteArray) : cascade_Parse s = some (parseV s) := by
  obtain ⟨r, h1, h2, _⟩ := Parse_ex s
  rw [h1, h2]
theorem parseV_cb (s : ByteArray) : CB (parseV s).1 := by
  obtain ⟨r, h1, h2, h3⟩ := Parse_ex s
  rw [← h2]; exact h3
end Go.Proofs.YthalofddjlhcjaaDoor
end
section
/- Functions by value: program. -/
namespace Go.Proofs.YthalofddjlhcjaaDoor
open Go
set_option maxRecDepth 100000
set_option maxHeartbeats 8000000
set_option linter.unusedVariables false
set_option linter.unusedSimpArgs false



-- semigroup/semigroupref26.Parse
def ref26_Parse_b18 (w344 : Int) (w347 : List CRow) (w398 : Int) (v404 : List ByteArray) : Int × Int × List Int × List Int × List (List Int) → Option ((Int × Int × List Int × List Int × List (List Int)) ⊕ ((Int × Int × List Int × List CRow) ⊕ (Casc × Int × Int)))
  | (w408, w409, w411, w412, w410) =>
  if w409 < (v404.length : Int) then
    (atI v404 w409).bind fun v420 =>
    if v420 = ⟨#[59]⟩ then
      if 0 < w344 then
        chk (capOk 24 (w410.length + 1)) <|
        nextG (IntKind.i64.wrap (w408 + 1), IntKind.i64.wrap (w409 + 1), w411, w412, w410 ++ [[]])
      else
        (ref26_number v420).bind fun v421 =>
        if v421 = (-1) then
          exitG <|
          exitG <|
          some ((⟨0, [], []⟩ : Casc), w344, 2)
        else
          if w344 = 0 then
            chk (capOk 8 (w411.length + 1)) <|
            nextG (w408, IntKind.i64.wrap (w409 + 1), w411 ++ [v421], w412, w410)
          else
            if w408 = 0 then
              chk (capOk 8 (w412.length + 1)) <|
              nextG (w408, IntKind.i64.wrap (w409 + 1), w411, w412 ++ [v421], w410)
            else
              (atI w410 (IntKind.i64.wrap (w408 - 1))).bind fun v422 =>
              chk (capOk 8 (v422.length + 1)) <|
              nextG (w408, IntKind.i64.wrap (w409 + 1), w411, w412, (w410.set (IntKind.i64.wrap (w408 - 1)).toNat (v422 ++ [v421])))
    else
      (ref26_number v420).bind fun v424 =>
      if v424 = (-1) then
        exitG <|
        exitG <|
        some ((⟨0, [], []⟩ : Casc), w344, 2)
      else
        if w344 = 0 then
          chk (capOk 8 (w411.length + 1)) <|
          nextG (w408, IntKind.i64.wrap (w409 + 1), w411 ++ [v424], w412, w410)
        else
          if w408 = 0 then
            chk (capOk 8 (w412.length + 1)) <|
            nextG (w408, IntKind.i64.wrap (w409 + 1), w411, w412 ++ [v424], w410)
          else
            (atI w410 (IntKind.i64.wrap (w408 - 1))).bind fun v425 =>
            chk (capOk 8 (v425.length + 1)) <|
            nextG (w408, IntKind.i64.wrap (w409 + 1), w411, w412, (w410.set (IntKind.i64.wrap (w408 - 1)).toNat (v425 ++ [v424])))
  else
    exitG <|
    if 0 < w344 then
      chk (capOk 48 (w347.length + 1)) <|
      nextG (IntKind.i64.wrap (w344 + 1), IntKind.i64.wrap (w398 + 1), w411, w347 ++ [(⟨w412, w410⟩ : CRow)])
    else
      nextG (IntKind.i64.wrap (w344 + 1), IntKind.i64.wrap (w398 + 1), w411, w347)
def ref26_Parse_h18 (a0 : ByteArray) (w344 : Int) (w347 : List CRow) (w398 : Int) (v402 : List ByteArray) (v404 : List ByteArray) : Int × Int × List Int × List Int × List (List Int) → Fr
  | (w408, w409, w411, w412, w410) => ⟨161, [(0, .one (.t none (.sc (.string a0)))), (2, .one (.a 2 [] (0))), (5, .one (.a 5 [] (0))), (6, .one (.t none (.sc (.int .i64 w344)))), (8, .one (.t none (.sc (.int .i64 w398)))), (10, .one (.a 10 [] (0))), (11, .one (.t none (.sc (.int .i64 w408)))), (79, .one (.t (some 9) (.sl v404.length (v404.map fun x0 => .sc (.string x0))))), (80, .one (.t none (.sc (.int .i64 (v404.length : Int))))), (81, .one (.t none (.sc (.int .i64 w409))))], [(2, .vr [.sc (.int .i64 0), .os 1 0 [], .os 2 0 []]), (5, .vr [.sc (.int .i64 0), .os 1 w411.length (w411.map fun x0 => .sc (.int .i64 x0)), .os 2 w347.length (w347.flatMap fun x0 => [.sl x0.pre.length (x0.pre.map fun x1 => .sc (.int .i64 x1)), .sl x0.maps.length (x0.maps.map fun x1 => .sl x1.length (x1.map fun x2 => .sc (.int .i64 x2)))])]), (10, .vr [.os 1 w412.length (w412.map fun x0 => .sc (.int .i64 x0)), .os 1 w410.length (w410.map fun x0 => .os 1 x0.length (x0.map fun x1 => .sc (.int .i64 x1)))]), (9, .os 1 v402.length (v402.map fun x0 => .sc (.string x0)))]⟩
def ref26_Parse_b18a (w344 : Int) (w347 : List CRow) (w398 : Int) (v428 : List ByteArray) : Int × Int × List Int × List Int × List (List Int) → Option ((Int × Int × List Int × List Int × List (List Int)) ⊕ ((Int × Int × List Int × List CRow) ⊕ (Casc × Int × Int)))
  | (w432, w433, w435, w436, w434) =>
  if w433 < (v428.length : Int) then
    (atI v428 w433).bind fun v444 =>
    if v444 = ⟨#[59]⟩ then
      if 0 < w344 then
        chk (capOk 24 (w434.length + 1)) <|
        nextG (IntKind.i64.wrap (w432 + 1), IntKind.i64.wrap (w433 + 1), w435, w436, w434 ++ [[]])
      else
        (ref26_number v444).bind fun v445 =>
        if v445 = (-1) then
          exitG <|
          exitG <|
          some ((⟨0, [], []⟩ : Casc), w344, 2)
        else
          if w344 = 0 then
            chk (capOk 8 (w435.length + 1)) <|
            nextG (w432, IntKind.i64.wrap (w433 + 1), w435 ++ [v445], w436, w434)
          else
            if w432 = 0 then
              chk (capOk 8 (w436.length + 1)) <|
              nextG (w432, IntKind.i64.wrap (w433 + 1), w435, w436 ++ [v445], w434)
            else
              (atI w434 (IntKind.i64.wrap (w432 - 1))).bind fun v446 =>
              chk (capOk 8 (v446.length + 1)) <|
              nextG (w432, IntKind.i64.wrap (w433 + 1), w435, w436, (w434.set (IntKind.i64.wrap (w432 - 1)).toNat (v446 ++ [v445])))
    else
      (ref26_number v444).bind fun v448 =>
      if v448 = (-1) then
        exitG <|
        exitG <|
        some ((⟨0, [], []⟩ : Casc), w344, 2)
      else
        if w344 = 0 then
          chk (capOk 8 (w435.length + 1)) <|
          nextG (w432, IntKind.i64.wrap (w433 + 1), w435 ++ [v448], w436, w434)
        else
          if w432 = 0 then
            chk (capOk 8 (w436.length + 1)) <|
            nextG (w432, IntKind.i64.wrap (w433 + 1), w435, w436 ++ [v448], w434)
          else
            (atI w434 (IntKind.i64.wrap (w432 - 1))).bind fun v449 =>
            chk (capOk 8 (v449.length + 1)) <|
            nextG (w432, IntKind.i64.wrap (w433 + 1), w435, w436, (w434.set (IntKind.i64.wrap (w432 - 1)).toNat (v449 ++ [v448])))
  else
    exitG <|
    if 0 < w344 then
      chk (capOk 48 (w347.length + 1)) <|
      nextG (IntKind.i64.wrap (w344 + 1), IntKind.i64.wrap (w398 + 1), w435, w347 ++ [(⟨w436, w434⟩ : CRow)])
    else
      nextG (IntKind.i64.wrap (w344 + 1), IntKind.i64.wrap (w398 + 1), w435, w347)
def ref26_Parse_h18a (a0 : ByteArray) (w344 : Int) (w347 : List CRow) (w398 : Int) (v402 : List ByteArray) (v428 : List ByteArray) : Int × Int × List Int × List Int × List (List Int) → Fr
  | (w432, w433, w435, w436, w434) => ⟨161, [(0, .one (.t none (.sc (.string a0)))), (2, .one (.a 2 [] (0))), (5, .one (.a 5 [] (0))), (6, .one (.t none (.sc (.int .i64 w344)))), (8, .one (.t none (.sc (.int .i64 w398)))), (10, .one (.a 10 [] (0))), (11, .one (.t none (.sc (.int .i64 w432)))), (79, .one (.t (some 9) (.sl v428.length (v428.map fun x0 => .sc (.string x0))))), (80, .one (.t none (.sc (.int .i64 (v428.length : Int))))), (81, .one (.t none (.sc (.int .i64 w433))))], [(2, .vr [.sc (.int .i64 0), .os 1 0 [], .os 2 0 []]), (5, .vr [.sc (.int .i64 0), .os 1 w435.length (w435.map fun x0 => .sc (.int .i64 x0)), .os 2 w347.length (w347.flatMap fun x0 => [.sl x0.pre.length (x0.pre.map fun x1 => .sc (.int .i64 x1)), .sl x0.maps.length (x0.maps.map fun x1 => .sl x1.length (x1.map fun x2 => .sc (.int .i64 x2)))])]), (10, .vr [.os 1 w436.length (w436.map fun x0 => .sc (.int .i64 x0)), .os 1 w434.length (w434.map fun x0 => .os 1 x0.length (x0.map fun x1 => .sc (.int .i64 x1)))]), (9, .os 1 v402.length (v402.map fun x0 => .sc (.string x0)))]⟩
def ref26_Parse_b10 (a0 : ByteArray) (w344 : Int) (w345 : Int) (w346 : List Int) (w347 : List CRow) : Int → Option (Int ⊕ ((Int × Int × List Int × List CRow) ⊕ (Casc × Int × Int)))
  | w398 =>
  if w398 < (a0.size : Int) then
    (byteI a0 w398).bind fun v400 =>
    if v400 = 10 then
      exitG <|
      (pieceS a0 w345 w398).bind fun v401 =>
      (ref26_split v401).bind fun v402 =>
      if w398 = (a0.size : Int) then
        none
      else
        if w344 = 0 then
          (atI v402 0).bind fun v403 =>
          if v403 = ⟨#[99, 97, 115, 99, 97, 100, 101]⟩ then
            if (v402.length : Int) < 2 then
              exitG <|
              some ((⟨0, [], []⟩ : Casc), w344, 2)
            else
              if 0 < w344 then
                none
              else
                (pieceL v402 1 (v402.length : Int)).bind fun v404 =>
                loopG (ref26_Parse_b18 w344 w347 w398 v404) LFm (0, 0, w346, [], [])
          else
            exitG <|
            some ((⟨0, [], []⟩ : Casc), w344, 2)
        else
          if 0 < w344 then
            (atI v402 0).bind fun v427 =>
            if v427 = ⟨#[114, 111, 119]⟩ then
              (pieceL v402 1 (v402.length : Int)).bind fun v428 =>
              loopG (ref26_Parse_b18a w344 w347 w398 v428) LFm (0, 0, w346, [], [])
            else
              exitG <|
              some ((⟨0, [], []⟩ : Casc), w344, 2)
          else
            none
    else
      nextG (IntKind.i64.wrap (w398 + 1))
  else
    exitG <|
    (pieceS a0 w345 w398).bind fun v451 =>
    (ref26_split v451).bind fun v452 =>
    if w398 = (a0.size : Int) then
      exitG <|
      some ((⟨0, [], []⟩ : Casc), w344, 2)
    else
      none
def ref26_Parse_h10 (a0 : ByteArray) (w344 : Int) (w345 : Int) (w346 : List Int) (w347 : List CRow) : Int → Fr
  | w398 => ⟨161, [(0, .one (.t none (.sc (.string a0)))), (2, .one (.a 2 [] (0))), (5, .one (.a 5 [] (0))), (6, .one (.t none (.sc (.int .i64 w344)))), (7, .one (.t none (.sc (.int .i64 w345)))), (8, .one (.t none (.sc (.int .i64 w398))))], [(2, .vr [.sc (.int .i64 0), .os 1 0 [], .os 2 0 []]), (5, .vr [.sc (.int .i64 0), .os 1 w346.length (w346.map fun x0 => .sc (.int .i64 x0)), .os 2 w347.length (w347.flatMap fun x0 => [.sl x0.pre.length (x0.pre.map fun x1 => .sc (.int .i64 x1)), .sl x0.maps.length (x0.maps.map fun x1 => .sl x1.length (x1.map fun x2 => .sc (.int .i64 x2)))])])]⟩
def ref26_Parse_b7 (a0 : ByteArray) : Int × Int × List Int × List CRow → Option ((Int × Int × List Int × List CRow) ⊕ (Casc × Int × Int))
  | (w344, w345, w346, w347) =>
  if w345 < (a0.size : Int) then
    loopG (ref26_Parse_b10 a0 w344 w345 w346 w347) LFm w345
  else
    exitG <|
    (atI w346 0).bind fun v453 =>
    (pieceL w346 1 (w346.length : Int)).bind fun v454 =>
    (ref26_Validate (⟨v453, v454, w347⟩ : Casc)).bind fun v455 =>
    if v455 = 0 then
      some ((⟨v453, v454, w347⟩ : Casc), (-1), 0)
    else
      some ((⟨0, [], []⟩ : Casc), 0, v455)
def ref26_Parse_h7 (a0 : ByteArray) : Int × Int × List Int × List CRow → Fr
  | (w344, w345, w346, w347) => ⟨161, [(0, .one (.t none (.sc (.string a0)))), (2, .one (.a 2 [] (0))), (5, .one (.a 5 [] (0))), (6, .one (.t none (.sc (.int .i64 w344)))), (7, .one (.t none (.sc (.int .i64 w345))))], [(2, .vr [.sc (.int .i64 0), .os 1 0 [], .os 2 0 []]), (5, .vr [.sc (.int .i64 0), .os 1 w346.length (w346.map fun x0 => .sc (.int .i64 x0)), .os 2 w347.length (w347.flatMap fun x0 => [.sl x0.pre.length (x0.pre.map fun x1 => .sc (.int .i64 x1)), .sl x0.maps.length (x0.maps.map fun x1 => .sl x1.length (x1.map fun x2 => .sc (.int .i64 x2)))])])]⟩
def ref26_Parse (a0 : ByteArray) : Option (Casc × Int × Int) :=
  if 1048576 < (a0.size : Int) then
    some ((⟨0, [], []⟩ : Casc), 0, 3)
  else
    if a0 = ByteArray.empty then
      some ((⟨0, [], []⟩ : Casc), 0, 2)
    else
      loopG (ref26_Parse_b7 a0) LFm (0, 0, [], [])
theorem ref26_Parse_ok {a0 : ByteArray} {r : Casc × Int × Int} (h0 : ref26_Parse a0 = some r) : L 26 [.sc (.string a0)] = some (.tup [.agg [.sc (.int .i64 r.1.letters), .sl r.1.sizes.length (r.1.sizes.map fun x0 => .sc (.int .i64 x0)), .sl r.1.rows.length (r.1.rows.flatMap fun x0 => [.sl x0.pre.length (x0.pre.map fun x1 => .sc (.int .i64 x1)), .sl x0.maps.length (x0.maps.map fun x1 => .sl x1.length (x1.map fun x2 => .sc (.int .i64 x2)))])], .sc (.int .i64 r.2.1), .sc (.int .i64 r.2.2)], [.dead]) := by
  simp only [ref26_Parse] at h0
  refine L_run cfn26 fn26 (runF_ofD bd26 ⟨of_decide_eq_true rfl, of_decide_eq_true rfl⟩ rfl ?_)
  simp only [entryF, entryT, entryO, entryE, isIo]
  refine zq rfl (zr rfl rfl rfl (by simp; rfl) ?_)
  refine thenC_n (zq rfl (zq rfl (zr rfl rfl rfl (by simp; rfl) ?_)))
  refine thenC_n ?_
  by_cases c485 : 1048576 < (a0.size : Int)
  · rw [if_pos c485] at h0
    refine q_ifT rfl (by simp [c485]) (zq rfl (zr rfl rfl rfl (by simp; rfl) ?_))
    refine thenC_n (q_ret rfl (thenC_r ?_))
    cases h0
    simp
  · rw [if_neg c485] at h0
    refine q_ifF rfl (by simp [c485]) (q_skip rfl (thenC_n (zq rfl (zr rfl rfl rfl (by simp; rfl) ?_))))
    refine thenC_n (zq rfl (zq rfl (zr rfl rfl rfl (by simp; rfl) ?_)))
    refine thenC_n ?_
    by_cases c486 : a0 = ByteArray.empty
    · rw [if_pos c486] at h0
      have c486e := eq_true c486
      refine q_ifT rfl (by simp [c486e]) (zq rfl (zr rfl rfl rfl (by simp; rfl) ?_))
      refine thenC_n (q_ret rfl (thenC_r ?_))
      cases h0
      simp
    · rw [if_neg c486] at h0
      have c486e := eq_false c486
      refine q_ifF rfl (by simp [c486e]) (q_skip rfl (thenC_n (zq rfl (zq rfl (zr rfl rfl rfl (by simp; rfl) ?_)))))
      refine thenC_n (zb rfl (q_loopG h0 (ref26_Parse_h7 a0) rfl rfl (by simp [ref26_Parse_h7]) fun s o1 h1 hr1 => ?_))
      obtain ⟨w344, w345, w346, w347⟩ := s
      simp only [ref26_Parse_b7] at h1
      simp only [ref26_Parse_h7]
      refine zq rfl (zq rfl (zr rfl rfl rfl (by simp; rfl) ?_))
      refine thenC_n ?_
      by_cases c857 : w345 < (a0.size : Int)
      · rw [if_pos c857] at h1
        refine q_ifT rfl (by simp [c857]) (q_skip rfl (thenC_n (zq rfl (zb rfl (zq rfl (zr rfl rfl rfl (by simp; rfl) ?_))))))
        refine thenC_n (zq rfl (zb rfl (q_loopG h1 (ref26_Parse_h10 a0 w344 w345 w346 w347) rfl rfl (by simp [ref26_Parse_h10]) fun s o2 h2 hr2 => ?_)))
        obtain ⟨w398, hs2⟩ : ∃ y, y = s := ⟨_, rfl⟩
        subst hs2
        simp only [ref26_Parse_b10] at h2
        simp only [ref26_Parse_h10]
        refine zq rfl (zq rfl ?_)
        by_cases c864 : w398 < (a0.size : Int)
        · rw [if_pos c864] at h2
          obtain ⟨v400, f865, h3⟩ := bnd_some h2
          obtain ⟨f865a, f865b, f865w, f865c, f865d, f865g⟩ := byteI_some f865
          have f865d := f865d.symm
          refine zr rfl rfl rfl (by simp [c864, f865a, f865b, f865c, f865d, f865g]; rfl) ?_
          refine thenC_n ?_
          by_cases c866 : v400 = 10
          · rw [if_pos c866] at h3
            have c866e := eq_true c866
            refine q_ifF rfl (by simp [c866e]) (q_exit rfl (thenC_x ?_))
            obtain ⟨rr2, h4, ho2⟩ := exit_some h3
            have hs2 := hr2 _ ho2
            subst hs2
            refine roundC_x ho2 (blockC_hit2 rfl (thenC_n (zq rfl ?_)))
            obtain ⟨v401, f867, h5⟩ := bnd_some h4
            obtain ⟨f867a, f867b, f867c, f867d⟩ := pieceS_some f867
            obtain ⟨f867e, f867f⟩ := piece_hi f867a f867b
            have f867d := f867d.symm
            have f867g : w345 ≤ max w398 0 := by omega
            obtain ⟨v402, f868, h6⟩ := bnd_some h5
            have f868k := ref26_split_ok f868
            try simp at f868k
            refine zr rfl rfl rfl (by simp [f867a, f867b, f867c, f867d, f867e, f867f, f867g, f868k]; rfl) ?_
            refine thenC_n (zq rfl (zq rfl ?_))
            by_cases c869 : w398 = (a0.size : Int)
            · rw [if_pos c869] at h6
              have c869e := eq_true c869
              cases h6
            · rw [if_neg c869] at h6
              have c869e := eq_false c869
              by_cases c870 : w344 = 0
              · rw [if_pos c870] at h6
                have c870e := eq_true c870
                obtain ⟨v403, f871, h7⟩ := bnd_some h6
                obtain ⟨f871a, f871b, f871c, f871d, f871e⟩ := atI_some f871
                simp only [Int.reduceToNat, Int.toNat_natCast] at f871c f871d f871e
                have f871j : v402 ≠ [] := by intro hh; rw [hh] at f871c; simp at f871c
                have f871l : 0 < v402.length := by omega
                by_cases c872 : v403 = ⟨#[99, 97, 115, 99, 97, 100, 101]⟩
                · rw [if_pos c872] at h7
                  have c872e := eq_true c872
                  by_cases c873 : (v402.length : Int) < 2
                  · rw [if_pos c873] at h7
                    refine zr rfl rfl rfl (by simp [c869e, c870e, f871a, f871b, f871c, f871d, f871e, f871j, f871l, c872e, c873]; rfl) ?_
                    refine thenC_n (q_ifT rfl (by simp) (zq rfl (zr rfl rfl rfl (by simp; rfl) ?_)))
                    refine thenC_n (q_ret rfl (thenC_r (blockC_r (thenC_r ?_))))
                    obtain ⟨rr1, h8, ho1⟩ := exit_some h7
                    have hs1 := hr1 _ ho1
                    subst hs1
                    refine roundC_r ho1 (blockC_r (thenC_r ?_))
                    cases h8
                    simp
                  · rw [if_neg c873] at h7
                    by_cases c874 : 0 < w344
                    · rw [if_pos c874] at h7
                      cases h7
                    · rw [if_neg c874] at h7
                      refine zr rfl rfl rfl (by simp [c869e, c870e, f871a, f871b, f871c, f871d, f871e, f871j, f871l, c872e, c873, c874]; rfl) ?_
                      refine thenC_n (q_ifF rfl (by simp) (q_skip rfl (thenC_n (zq rfl (zr rfl rfl rfl (by simp; rfl) ?_)))))
                      refine thenC_n (zq rfl (zr rfl rfl rfl (by simp; rfl) ?_))
                      refine thenC_n (zq rfl (zq rfl ?_))
                      obtain ⟨v404, f875, h8⟩ := bnd_some h7
                      obtain ⟨f875a, f875b, f875c, -⟩ := pieceL_some f875
                      obtain ⟨f875d, f875g⟩ := piece_hi f875a f875b
                      have f875e := pieceL_map (g := fun x : ByteArray => (.sc (.string x) : T)) f875
                      try simp at f875e
                      have f875f := pieceL_slm f875
                      try simp only [Int.reduceToNat, Int.toNat_natCast, Nat.sub_zero] at f875f
                      refine zr rfl rfl rfl (by simp [f875a, f875b, f875c, f875d, f875g, f875e, f875f]; rfl) ?_
                      refine thenC_n (zb rfl (q_loopG h8 (ref26_Parse_h18 a0 w344 w347 w398 v402 v404) rfl rfl (by simp [ref26_Parse_h18]) fun s o3 h9 hr3 => ?_))
                      obtain ⟨w408, w409, w411, w412, w410⟩ := s
                      simp only [ref26_Parse_b18] at h9
                      simp only [ref26_Parse_h18]
                      refine zq rfl (zr rfl rfl rfl (by simp; rfl) ?_)
                      refine thenC_n (zq rfl ?_)
                      by_cases c907 : w409 < (v404.length : Int)
                      · rw [if_pos c907] at h9
                        refine q_ifT rfl (by simp [c907]) (q_skip rfl (thenC_n (zq rfl (zb rfl (zq rfl ?_)))))
                        obtain ⟨v420, f908, h10⟩ := bnd_some h9
                        obtain ⟨f908a, f908b, f908c, f908d, f908e⟩ := atI_some f908
                        refine zr rfl rfl rfl (by simp [f908a, f908b, f908c, f908d, f908e]; rfl) ?_
                        refine thenC_n (zq rfl (zq rfl ?_))
                        by_cases c909 : v420 = ⟨#[59]⟩
                        · rw [if_pos c909] at h10
                          have c909e := eq_true c909
                          refine zr rfl rfl rfl (by simp [c909e]; rfl) ?_
                          refine thenC_n ?_
                          by_cases c910 : 0 < w344
                          · rw [if_pos c910] at h10
                            refine q_ifT rfl (by simp [c910]) (zq rfl ?_)
                            obtain ⟨f911, h11⟩ := chk_some h10
                            obtain ⟨f911a, f911b⟩ := f911
                            refine zr rfl rfl rfl (by simp [f911a, f911b]; rfl) ?_
                            refine thenC_n (zq rfl (zr rfl rfl rfl (by simp; rfl) ?_))
                            refine thenC_n (q_exit rfl (thenC_x (blockC_hit2 rfl (thenC_n (zr rfl rfl rfl (by simp; rfl) ?_)))))
                            have ho := next_some h11
                            refine roundC_n ho ?_
                            simp [ref26_Parse_h18]
                          · rw [if_neg c910] at h10
                            refine q_ifF rfl (by simp [c910]) (q_skip rfl (thenC_n (zq rfl ?_)))
                            obtain ⟨v421, f912, h11⟩ := bnd_some h10
                            have f912k := ref26_number_ok f912
                            try simp at f912k
                            refine zr rfl rfl rfl (by simp [f912k]; rfl) ?_
                            refine thenC_n (zq rfl (zq rfl (zr rfl rfl rfl (by simp; rfl) ?_)))
                            refine thenC_n ?_
                            by_cases c913 : v421 = (-1)
                            · rw [if_pos c913] at h11
                              have c913e := eq_true c913
                              refine q_ifT rfl (by simp [c913e]) (zq rfl (zr rfl rfl rfl (by simp; rfl) ?_))
                              refine thenC_n (q_ret rfl (thenC_r (blockC_r (thenC_r ?_))))
                              obtain ⟨rr3, h12, ho3⟩ := exit_some h11
                              have hs3 := hr3 _ ho3
                              subst hs3
                              refine roundC_r ho3 (blockC_r (thenC_r (blockC_r (thenC_r ?_))))
                              obtain ⟨rr1, h13, ho1⟩ := exit_some h12
                              have hs1 := hr1 _ ho1
                              subst hs1
                              refine roundC_r ho1 (blockC_r (thenC_r ?_))
                              cases h13
                              simp
                            · rw [if_neg c913] at h11
                              have c913e := eq_false c913
                              refine q_ifF rfl (by simp [c913e]) (q_skip rfl (thenC_n (zq rfl (zr rfl rfl rfl (by simp; rfl) ?_))))
                              refine thenC_n ?_
                              by_cases c914 : w344 = 0
                              · rw [if_pos c914] at h11
                                have c914e := eq_true c914
                                refine q_ifT rfl (by simp [c914e]) ?_
                                obtain ⟨f915, h12⟩ := chk_some h11
                                obtain ⟨f915a, f915b⟩ := f915
                                refine zr rfl rfl rfl (by simp [f915a, f915b]; rfl) ?_
                                refine blockC_n (thenC_n (zr rfl rfl rfl (by simp; rfl) ?_))
                                have ho := next_some h12
                                refine roundC_n ho ?_
                                simp [ref26_Parse_h18]
                              · rw [if_neg c914] at h11
                                have c914e := eq_false c914
                                refine q_ifF rfl (by simp [c914e]) (zq rfl (zr rfl rfl rfl (by simp; rfl) ?_))
                                refine thenC_n ?_
                                by_cases c916 : w408 = 0
                                · rw [if_pos c916] at h11
                                  have c916e := eq_true c916
                                  refine q_ifT rfl (by simp [c916e]) ?_
                                  obtain ⟨f917, h12⟩ := chk_some h11
                                  obtain ⟨f917a, f917b⟩ := f917
                                  refine zr rfl rfl rfl (by simp [f917a, f917b]; rfl) ?_
                                  refine blockC_n (thenC_n (zr rfl rfl rfl (by simp; rfl) ?_))
                                  have ho := next_some h12
                                  refine roundC_n ho ?_
                                  simp [ref26_Parse_h18]
                                · rw [if_neg c916] at h11
                                  have c916e := eq_false c916
                                  refine q_ifF rfl (by simp [c916e]) ?_
                                  obtain ⟨v422, f918, h12⟩ := bnd_some h11
                                  obtain ⟨f918a, f918b, f918c, f918d, f918e⟩ := atI_some f918
                                  obtain ⟨f919, h13⟩ := chk_some h12
                                  obtain ⟨f919a, f919b⟩ := f919
                                  refine q_tree rfl rfl rfl rfl ?_
                                  refine tp_op rfl rfl (by simp [stepZ, f918a, f918b, f918c, f918d, f918e, f919a, f919b]; rfl) ?_
                                  refine tp_op rfl rfl (by simp [stepZ, f918a, f918b, f918c, f918d, f918e, f919a, f919b]; rfl) ?_
                                  refine tp_op rfl rfl (by simp [stepZ, f918a, f918b, f918c, f918d, f918e, f919a, f919b]; rfl) ?_
                                  refine tp_op rfl rfl (by simp [stepZ, f918a, f918b, f918c, f918d, f918e, f919a, f919b]; rfl) ?_
                                  refine tp_op rfl rfl (by simp [stepZ, f918a, f918b, f918c, f918d, f918e, f919a, f919b]; rfl) ?_
                                  refine tp_op rfl rfl (by simp [stepZ, f918a, f918b, f918c, f918d, f918e, f919a, f919b]; rfl) ?_
                                  refine tp_op rfl rfl (by simp [stepZ, f918a, f918b, f918c, f918d, f918e, f919a, f919b]; rfl) ?_
                                  refine tp_op rfl rfl (by simp [stepZ, f918a, f918b, f918c, f918d, f918e, f919a, f919b]; rfl) ?_
                                  refine tp_op rfl rfl (by simp [stepZ, f918a, f918b, f918c, f918d, f918e, f919a, f919b]; rfl) ?_
                                  refine tp_op rfl rfl (by simp [stepZ, f918a, f918b, f918c, f918d, f918e, f919a, f919b]; rfl) ?_
                                  refine tp_alt2 ?_
                                  refine tp_op rfl rfl (by simp [stepZ, f918a, f918b, f918c, f918d, f918e, f919a, f919b]; rfl) ?_
                                  refine tp_op rfl rfl (by simp [stepZ, f918a, f918b, f918c, f918d, f918e, f919a, f919b]; rfl) ?_
                                  refine tp_op rfl rfl (by simp [stepZ, f918a, f918b, f918c, f918d, f918e, f919a, f919b]; rfl) ?_
                                  refine tp_op rfl rfl (by simp [stepZ, f918a, f918b, f918c, f918d, f918e, f919a, f919b]; rfl) ?_
                                  refine tp_op rfl rfl (by simp [stepZ, f918a, f918b, f918c, f918d, f918e, f919a, f919b]; rfl) ?_
                                  refine tp_nil ?_
                                  refine ⟨?_, ?_⟩
                                  · refine tp_op rfl rfl (by simp [stepZ, f918a, f918b, f918c, f918d, f918e, f919a, f919b]; rfl) ?_
                                    refine tp_alt2 ?_
                                    refine tp_op rfl rfl (by simp [stepZ, f918a, f918b, f918c, f918d, f918e, f919a, f919b]; rfl) ?_
                                    refine tp_op rfl rfl (by simp [stepZ, f918a, f918b, f918c, f918d, f918e, f919a, f919b]; rfl) ?_
                                    refine tp_op rfl rfl (by simp [stepZ, f918a, f918b, f918c, f918d, f918e, f919a, f919b]; rfl) ?_
                                    refine tp_op rfl rfl (by simp [stepZ, f918a, f918b, f918c, f918d, f918e, f919a, f919b]; rfl) ?_
                                    refine tp_nil ?_
                                    refine ⟨?_, ?_⟩
                                    · refine tp_op rfl rfl (by simp [stepZ, f918a, f918b, f918c, f918d, f918e, f919a, f919b]; rfl) ?_
                                      refine tp_op rfl rfl (by simp [stepZ, f918a, f918b, f918c, f918d, f918e, f919a, f919b]; rfl) ?_
                                      refine tp_op rfl rfl (by simp [stepZ, f918a, f918b, f918c, f918d, f918e, f919a, f919b]; rfl) ?_
                                      refine tp_op rfl rfl (by simp [stepZ, f918a, f918b, f918c, f918d, f918e, f919a, f919b]; rfl) ?_
                                      refine tp_nil ?_
                                      simp [sameF, f918a, f918b, f918c, f918d, f918e, f919a, f919b]
                                    simp [sameF, f918a, f918b, f918c, f918d, f918e, f919a, f919b]
                                  refine tp_end rfl (by simp [f918a, f918b, f918c, f918d, f918e, f919a, f919b]; rfl) ?_
                                  refine blockC_n (thenC_n (zr rfl rfl rfl (by simp; rfl) ?_))
                                  have ho := next_some h13
                                  refine roundC_n ho ?_
                                  simp [ref26_Parse_h18]
                        · rw [if_neg c909] at h10
                          have c909e := eq_false c909
                          refine zr rfl rfl rfl (by simp [c909e]; rfl) ?_
                          refine thenC_n (q_ifF rfl (by simp) (q_skip rfl (thenC_n (zq rfl ?_))))
                          obtain ⟨v424, f920, h11⟩ := bnd_some h10
                          have f920k := ref26_number_ok f920
                          try simp at f920k
                          refine zr rfl rfl rfl (by simp [f920k]; rfl) ?_
                          refine thenC_n (zq rfl (zq rfl (zr rfl rfl rfl (by simp; rfl) ?_)))
                          refine thenC_n ?_
                          by_cases c921 : v424 = (-1)
                          · rw [if_pos c921] at h11
                            have c921e := eq_true c921
                            refine q_ifT rfl (by simp [c921e]) (zq rfl (zr rfl rfl rfl (by simp; rfl) ?_))
                            refine thenC_n (q_ret rfl (thenC_r (blockC_r (thenC_r ?_))))
                            obtain ⟨rr3, h12, ho3⟩ := exit_some h11
                            have hs3 := hr3 _ ho3
                            subst hs3
                            refine roundC_r ho3 (blockC_r (thenC_r (blockC_r (thenC_r ?_))))
                            obtain ⟨rr1, h13, ho1⟩ := exit_some h12
                            have hs1 := hr1 _ ho1
                            subst hs1
                            refine roundC_r ho1 (blockC_r (thenC_r ?_))
                            cases h13
                            simp
                          · rw [if_neg c921] at h11
                            have c921e := eq_false c921
                            refine q_ifF rfl (by simp [c921e]) (q_skip rfl (thenC_n (zq rfl (zr rfl rfl rfl (by simp; rfl) ?_))))
                            refine thenC_n ?_
                            by_cases c922 : w344 = 0
                            · rw [if_pos c922] at h11
                              have c922e := eq_true c922
                              refine q_ifT rfl (by simp [c922e]) ?_
                              obtain ⟨f923, h12⟩ := chk_some h11
                              obtain ⟨f923a, f923b⟩ := f923
                              refine zr rfl rfl rfl (by simp [f923a, f923b]; rfl) ?_
                              refine blockC_n (thenC_n (zr rfl rfl rfl (by simp; rfl) ?_))
                              have ho := next_some h12
                              refine roundC_n ho ?_
                              simp [ref26_Parse_h18]
                            · rw [if_neg c922] at h11
                              have c922e := eq_false c922
                              refine q_ifF rfl (by simp [c922e]) (zq rfl (zr rfl rfl rfl (by simp; rfl) ?_))
                              refine thenC_n ?_
                              by_cases c924 : w408 = 0
                              · rw [if_pos c924] at h11
                                have c924e := eq_true c924
                                refine q_ifT rfl (by simp [c924e]) ?_
                                obtain ⟨f925, h12⟩ := chk_some h11
                                obtain ⟨f925a, f925b⟩ := f925
                                refine zr rfl rfl rfl (by simp [f925a, f925b]; rfl) ?_
                                refine blockC_n (thenC_n (zr rfl rfl rfl (by simp; rfl) ?_))
                                have ho := next_some h12
                                refine roundC_n ho ?_
                                simp [ref26_Parse_h18]
                              · rw [if_neg c924] at h11
                                have c924e := eq_false c924
                                refine q_ifF rfl (by simp [c924e]) ?_
                                obtain ⟨v425, f926, h12⟩ := bnd_some h11
                                obtain ⟨f926a, f926b, f926c, f926d, f926e⟩ := atI_some f926
                                obtain ⟨f927, h13⟩ := chk_some h12
                                obtain ⟨f927a, f927b⟩ := f927
                                refine q_tree rfl rfl rfl rfl ?_
                                refine tp_op rfl rfl (by simp [stepZ, f926a, f926b, f926c, f926d, f926e, f927a, f927b]; rfl) ?_
                                refine tp_op rfl rfl (by simp [stepZ, f926a, f926b, f926c, f926d, f926e, f927a, f927b]; rfl) ?_
                                refine tp_op rfl rfl (by simp [stepZ, f926a, f926b, f926c, f926d, f926e, f927a, f927b]; rfl) ?_
                                refine tp_op rfl rfl (by simp [stepZ, f926a, f926b, f926c, f926d, f926e, f927a, f927b]; rfl) ?_
                                refine tp_op rfl rfl (by simp [stepZ, f926a, f926b, f926c, f926d, f926e, f927a, f927b]; rfl) ?_
                                refine tp_op rfl rfl (by simp [stepZ, f926a, f926b, f926c, f926d, f926e, f927a, f927b]; rfl) ?_
                                refine tp_op rfl rfl (by simp [stepZ, f926a, f926b, f926c, f926d, f926e, f927a, f927b]; rfl) ?_
                                refine tp_op rfl rfl (by simp [stepZ, f926a, f926b, f926c, f926d, f926e, f927a, f927b]; rfl) ?_
                                refine tp_op rfl rfl (by simp [stepZ, f926a, f926b, f926c, f926d, f926e, f927a, f927b]; rfl) ?_
                                refine tp_op rfl rfl (by simp [stepZ, f926a, f926b, f926c, f926d, f926e, f927a, f927b]; rfl) ?_
                                refine tp_alt2 ?_
                                refine tp_op rfl rfl (by simp [stepZ, f926a, f926b, f926c, f926d, f926e, f927a, f927b]; rfl) ?_
                                refine tp_op rfl rfl (by simp [stepZ, f926a, f926b, f926c, f926d, f926e, f927a, f927b]; rfl) ?_
                                refine tp_op rfl rfl (by simp [stepZ, f926a, f926b, f926c, f926d, f926e, f927a, f927b]; rfl) ?_
                                refine tp_op rfl rfl (by simp [stepZ, f926a, f926b, f926c, f926d, f926e, f927a, f927b]; rfl) ?_
                                refine tp_op rfl rfl (by simp [stepZ, f926a, f926b, f926c, f926d, f926e, f927a, f927b]; rfl) ?_
                                refine tp_nil ?_
                                refine ⟨?_, ?_⟩
                                · refine tp_op rfl rfl (by simp [stepZ, f926a, f926b, f926c, f926d, f926e, f927a, f927b]; rfl) ?_
                                  refine tp_alt2 ?_
                                  refine tp_op rfl rfl (by simp [stepZ, f926a, f926b, f926c, f926d, f926e, f927a, f927b]; rfl) ?_
                                  refine tp_op rfl rfl (by simp [stepZ, f926a, f926b, f926c, f926d, f926e, f927a, f927b]; rfl) ?_
                                  refine tp_op rfl rfl (by simp [stepZ, f926a, f926b, f926c, f926d, f926e, f927a, f927b]; rfl) ?_
                                  refine tp_op rfl rfl (by simp [stepZ, f926a, f926b, f926c, f926d, f926e, f927a, f927b]; rfl) ?_
                                  refine tp_nil ?_
                                  refine ⟨?_, ?_⟩
                                  · refine tp_op rfl rfl (by simp [stepZ, f926a, f926b, f926c, f926d, f926e, f927a, f927b]; rfl) ?_
                                    refine tp_op rfl rfl (by simp [stepZ, f926a, f926b, f926c, f926d, f926e, f927a, f927b]; rfl) ?_
                                    refine tp_op rfl rfl (by simp [stepZ, f926a, f926b, f926c, f926d, f926e, f927a, f927b]; rfl) ?_
                                    refine tp_op rfl rfl (by simp [stepZ, f926a, f926b, f926c, f926d, f926e, f927a, f927b]; rfl) ?_
                                    refine tp_nil ?_
                                    simp [sameF, f926a, f926b, f926c, f926d, f926e, f927a, f927b]
                                  simp [sameF, f926a, f926b, f926c, f926d, f926e, f927a, f927b]
                                refine tp_end rfl (by simp [f926a, f926b, f926c, f926d, f926e, f927a, f927b]; rfl) ?_
                                refine blockC_n (thenC_n (zr rfl rfl rfl (by simp; rfl) ?_))
                                have ho := next_some h13
                                refine roundC_n ho ?_
                                simp [ref26_Parse_h18]
                      · rw [if_neg c907] at h9
                        refine q_ifF rfl (by simp [c907]) (q_exit rfl (thenC_x ?_))
                        obtain ⟨rr3, h10, ho3⟩ := exit_some h9
                        have hs3 := hr3 _ ho3
                        subst hs3
                        refine roundC_x ho3 (blockC_hit2 rfl (thenC_n (zq rfl (zq rfl (zr rfl rfl rfl (by simp; rfl) ?_)))))
                        refine thenC_n ?_
                        by_cases c928 : 0 < w344
                        · rw [if_pos c928] at h10
                          refine q_ifT rfl (by simp [c928]) ?_
                          obtain ⟨f929, h11⟩ := chk_some h10
                          obtain ⟨f929a, f929b⟩ := f929
                          refine zr rfl rfl rfl (by simp [f929a, f929b]; rfl) ?_
                          refine thenC_n (zr rfl rfl rfl (by simp; rfl) ?_)
                          refine blockC_n (thenC_n (zr rfl rfl rfl (by simp; rfl) ?_))
                          have ho := next_some h11
                          refine roundC_n ho ?_
                          simp [ref26_Parse_h7]
                        · rw [if_neg c928] at h10
                          refine q_ifF rfl (by simp [c928]) (q_skip rfl (thenC_n (zr rfl rfl rfl (by simp; rfl) ?_)))
                          refine blockC_n (thenC_n (zr rfl rfl rfl (by simp; rfl) ?_))
                          have ho := next_some h10
                          refine roundC_n ho ?_
                          simp [ref26_Parse_h7]
                · rw [if_neg c872] at h7
                  have c872e := eq_false c872
                  refine zr rfl rfl rfl (by simp [c869e, c870e, f871a, f871b, f871c, f871d, f871e, f871j, f871l, c872e]; rfl) ?_
                  refine thenC_n (q_ifT rfl (by simp) (zq rfl (zr rfl rfl rfl (by simp; rfl) ?_)))
                  refine thenC_n (q_ret rfl (thenC_r (blockC_r (thenC_r ?_))))
                  obtain ⟨rr1, h8, ho1⟩ := exit_some h7
                  have hs1 := hr1 _ ho1
                  subst hs1
                  refine roundC_r ho1 (blockC_r (thenC_r ?_))
                  cases h8
                  simp
              · rw [if_neg c870] at h6
                have c870e := eq_false c870
                by_cases c930 : 0 < w344
                · rw [if_pos c930] at h6
                  obtain ⟨v427, f931, h7⟩ := bnd_some h6
                  obtain ⟨f931a, f931b, f931c, f931d, f931e⟩ := atI_some f931
                  simp only [Int.reduceToNat, Int.toNat_natCast] at f931c f931d f931e
                  have f931j : v402 ≠ [] := by intro hh; rw [hh] at f931c; simp at f931c
                  have f931l : 0 < v402.length := by omega
                  refine zr rfl rfl rfl (by simp [c869e, c870e, c930, f931a, f931b, f931c, f931d, f931e, f931j, f931l]; rfl) ?_
                  refine thenC_n ?_
                  by_cases c932 : v427 = ⟨#[114, 111, 119]⟩
                  · rw [if_pos c932] at h7
                    have c932e := eq_true c932
                    refine q_ifF rfl (by simp [c932e]) (q_skip rfl (thenC_n (zq rfl (zr rfl rfl rfl (by simp; rfl) ?_))))
                    refine thenC_n (zq rfl (zr rfl rfl rfl (by simp; rfl) ?_))
                    refine thenC_n (zq rfl (zq rfl ?_))
                    obtain ⟨v428, f933, h8⟩ := bnd_some h7
                    obtain ⟨f933a, f933b, f933c, -⟩ := pieceL_some f933
                    obtain ⟨f933d, f933g⟩ := piece_hi f933a f933b
                    have f933e := pieceL_map (g := fun x : ByteArray => (.sc (.string x) : T)) f933
                    try simp at f933e
                    have f933f := pieceL_slm f933
                    try simp only [Int.reduceToNat, Int.toNat_natCast, Nat.sub_zero] at f933f
                    refine zr rfl rfl rfl (by simp [f933a, f933b, f933c, f933d, f933g, f933e, f933f]; rfl) ?_
                    refine thenC_n (zb rfl (q_loopG h8 (ref26_Parse_h18a a0 w344 w347 w398 v402 v428) rfl rfl (by simp [ref26_Parse_h18a]) fun s o4 h9 hr4 => ?_))
                    obtain ⟨w432, w433, w435, w436, w434⟩ := s
                    simp only [ref26_Parse_b18a] at h9
                    simp only [ref26_Parse_h18a]
                    refine zq rfl (zr rfl rfl rfl (by simp; rfl) ?_)
                    refine thenC_n (zq rfl ?_)
                    by_cases c965 : w433 < (v428.length : Int)
                    · rw [if_pos c965] at h9
                      refine q_ifT rfl (by simp [c965]) (q_skip rfl (thenC_n (zq rfl (zb rfl (zq rfl ?_)))))
                      obtain ⟨v444, f966, h10⟩ := bnd_some h9
                      obtain ⟨f966a, f966b, f966c, f966d, f966e⟩ := atI_some f966
                      refine zr rfl rfl rfl (by simp [f966a, f966b, f966c, f966d, f966e]; rfl) ?_
                      refine thenC_n (zq rfl (zq rfl ?_))
                      by_cases c967 : v444 = ⟨#[59]⟩
                      · rw [if_pos c967] at h10
                        have c967e := eq_true c967
                        refine zr rfl rfl rfl (by simp [c967e]; rfl) ?_
                        refine thenC_n ?_
                        by_cases c968 : 0 < w344
                        · rw [if_pos c968] at h10
                          refine q_ifT rfl (by simp [c968]) (zq rfl ?_)
                          obtain ⟨f969, h11⟩ := chk_some h10
                          obtain ⟨f969a, f969b⟩ := f969
                          refine zr rfl rfl rfl (by simp [f969a, f969b]; rfl) ?_
                          refine thenC_n (zq rfl (zr rfl rfl rfl (by simp; rfl) ?_))
                          refine thenC_n (q_exit rfl (thenC_x (blockC_hit2 rfl (thenC_n (zr rfl rfl rfl (by simp; rfl) ?_)))))
                          have ho := next_some h11
                          refine roundC_n ho ?_
                          simp [ref26_Parse_h18a]
                        · rw [if_neg c968] at h10
                          refine q_ifF rfl (by simp [c968]) (q_skip rfl (thenC_n (zq rfl ?_)))
                          obtain ⟨v445, f970, h11⟩ := bnd_some h10
                          have f970k := ref26_number_ok f970
                          try simp at f970k
                          refine zr rfl rfl rfl (by simp [f970k]; rfl) ?_
                          refine thenC_n (zq rfl (zq rfl (zr rfl rfl rfl (by simp; rfl) ?_)))
                          refine thenC_n ?_
                          by_cases c971 : v445 = (-1)
                          · rw [if_pos c971] at h11
                            have c971e := eq_true c971
                            refine q_ifT rfl (by simp [c971e]) (zq rfl (zr rfl rfl rfl (by simp; rfl) ?_))
                            refine thenC_n (q_ret rfl (thenC_r (blockC_r (thenC_r ?_))))
                            obtain ⟨rr4, h12, ho4⟩ := exit_some h11
                            have hs4 := hr4 _ ho4
                            subst hs4
                            refine roundC_r ho4 (blockC_r (thenC_r (blockC_r (thenC_r ?_))))
                            obtain ⟨rr1, h13, ho1⟩ := exit_some h12
                            have hs1 := hr1 _ ho1
                            subst hs1
                            refine roundC_r ho1 (blockC_r (thenC_r ?_))
                            cases h13
                            simp
                          · rw [if_neg c971] at h11
                            have c971e := eq_false c971
                            refine q_ifF rfl (by simp [c971e]) (q_skip rfl (thenC_n (zq rfl (zr rfl rfl rfl (by simp; rfl) ?_))))
                            refine thenC_n ?_
                            by_cases c972 : w344 = 0
                            · rw [if_pos c972] at h11
                              have c972e := eq_true c972
                              refine q_ifT rfl (by simp [c972e]) ?_
                              obtain ⟨f973, h12⟩ := chk_some h11
                              obtain ⟨f973a, f973b⟩ := f973
                              refine zr rfl rfl rfl (by simp [f973a, f973b]; rfl) ?_
                              refine blockC_n (thenC_n (zr rfl rfl rfl (by simp; rfl) ?_))
                              have ho := next_some h12
                              refine roundC_n ho ?_
                              simp [ref26_Parse_h18a]
                            · rw [if_neg c972] at h11
                              have c972e := eq_false c972
                              refine q_ifF rfl (by simp [c972e]) (zq rfl (zr rfl rfl rfl (by simp; rfl) ?_))
                              refine thenC_n ?_
                              by_cases c974 : w432 = 0
                              · rw [if_pos c974] at h11
                                have c974e := eq_true c974
                                refine q_ifT rfl (by simp [c974e]) ?_
                                obtain ⟨f975, h12⟩ := chk_some h11
                                obtain ⟨f975a, f975b⟩ := f975
                                refine zr rfl rfl rfl (by simp [f975a, f975b]; rfl) ?_
                                refine blockC_n (thenC_n (zr rfl rfl rfl (by simp; rfl) ?_))
                                have ho := next_some h12
                                refine roundC_n ho ?_
                                simp [ref26_Parse_h18a]
                              · rw [if_neg c974] at h11
                                have c974e := eq_false c974
                                refine q_ifF rfl (by simp [c974e]) ?_
                                obtain ⟨v446, f976, h12⟩ := bnd_some h11
                                obtain ⟨f976a, f976b, f976c, f976d, f976e⟩ := atI_some f976
                                obtain ⟨f977, h13⟩ := chk_some h12
                                obtain ⟨f977a, f977b⟩ := f977
                                refine q_tree rfl rfl rfl rfl ?_
                                refine tp_op rfl rfl (by simp [stepZ, f976a, f976b, f976c, f976d, f976e, f977a, f977b]; rfl) ?_
                                refine tp_op rfl rfl (by simp [stepZ, f976a, f976b, f976c, f976d, f976e, f977a, f977b]; rfl) ?_
                                refine tp_op rfl rfl (by simp [stepZ, f976a, f976b, f976c, f976d, f976e, f977a, f977b]; rfl) ?_
                                refine tp_op rfl rfl (by simp [stepZ, f976a, f976b, f976c, f976d, f976e, f977a, f977b]; rfl) ?_
                                refine tp_op rfl rfl (by simp [stepZ, f976a, f976b, f976c, f976d, f976e, f977a, f977b]; rfl) ?_
                                refine tp_op rfl rfl (by simp [stepZ, f976a, f976b, f976c, f976d, f976e, f977a, f977b]; rfl) ?_
                                refine tp_op rfl rfl (by simp [stepZ, f976a, f976b, f976c, f976d, f976e, f977a, f977b]; rfl) ?_
                                refine tp_op rfl rfl (by simp [stepZ, f976a, f976b, f976c, f976d, f976e, f977a, f977b]; rfl) ?_
                                refine tp_op rfl rfl (by simp [stepZ, f976a, f976b, f976c, f976d, f976e, f977a, f977b]; rfl) ?_
                                refine tp_op rfl rfl (by simp [stepZ, f976a, f976b, f976c, f976d, f976e, f977a, f977b]; rfl) ?_
                                refine tp_alt2 ?_
                                refine tp_op rfl rfl (by simp [stepZ, f976a, f976b, f976c, f976d, f976e, f977a, f977b]; rfl) ?_
                                refine tp_op rfl rfl (by simp [stepZ, f976a, f976b, f976c, f976d, f976e, f977a, f977b]; rfl) ?_
                                refine tp_op rfl rfl (by simp [stepZ, f976a, f976b, f976c, f976d, f976e, f977a, f977b]; rfl) ?_
                                refine tp_op rfl rfl (by simp [stepZ, f976a, f976b, f976c, f976d, f976e, f977a, f977b]; rfl) ?_
                                refine tp_op rfl rfl (by simp [stepZ, f976a, f976b, f976c, f976d, f976e, f977a, f977b]; rfl) ?_
                                refine tp_nil ?_
                                refine ⟨?_, ?_⟩
                                · refine tp_op rfl rfl (by simp [stepZ, f976a, f976b, f976c, f976d, f976e, f977a, f977b]; rfl) ?_
                                  refine tp_alt2 ?_
                                  refine tp_op rfl rfl (by simp [stepZ, f976a, f976b, f976c, f976d, f976e, f977a, f977b]; rfl) ?_
                                  refine tp_op rfl rfl (by simp [stepZ, f976a, f976b, f976c, f976d, f976e, f977a, f977b]; rfl) ?_
                                  refine tp_op rfl rfl (by simp [stepZ, f976a, f976b, f976c, f976d, f976e, f977a, f977b]; rfl) ?_
                                  refine tp_op rfl rfl (by simp [stepZ, f976a, f976b, f976c, f976d, f976e, f977a, f977b]; rfl) ?_
                                  refine tp_nil ?_
                                  refine ⟨?_, ?_⟩
                                  · refine tp_op rfl rfl (by simp [stepZ, f976a, f976b, f976c, f976d, f976e, f977a, f977b]; rfl) ?_
                                    refine tp_op rfl rfl (by simp [stepZ, f976a, f976b, f976c, f976d, f976e, f977a, f977b]; rfl) ?_
                                    refine tp_op rfl rfl (by simp [stepZ, f976a, f976b, f976c, f976d, f976e, f977a, f977b]; rfl) ?_
                                    refine tp_op rfl rfl (by simp [stepZ, f976a, f976b, f976c, f976d, f976e, f977a, f977b]; rfl) ?_
                                    refine tp_nil ?_
                                    simp [sameF, f976a, f976b, f976c, f976d, f976e, f977a, f977b]
                                  simp [sameF, f976a, f976b, f976c, f976d, f976e, f977a, f977b]
                                refine tp_end rfl (by simp [f976a, f976b, f976c, f976d, f976e, f977a, f977b]; rfl) ?_
                                refine blockC_n (thenC_n (zr rfl rfl rfl (by simp; rfl) ?_))
                                have ho := next_some h13
                                refine roundC_n ho ?_
                                simp [ref26_Parse_h18a]
                      · rw [if_neg c967] at h10
                        have c967e := eq_false c967
                        refine zr rfl rfl rfl (by simp [c967e]; rfl) ?_
                        refine thenC_n (q_ifF rfl (by simp) (q_skip rfl (thenC_n (zq rfl ?_))))
                        obtain ⟨v448, f978, h11⟩ := bnd_some h10
                        have f978k := ref26_number_ok f978
                        try simp at f978k
                        refine zr rfl rfl rfl (by simp [f978k]; rfl) ?_
                        refine thenC_n (zq rfl (zq rfl (zr rfl rfl rfl (by simp; rfl) ?_)))
                        refine thenC_n ?_
                        by_cases c979 : v448 = (-1)
                        · rw [if_pos c979] at h11
                          have c979e := eq_true c979
                          refine q_ifT rfl (by simp [c979e]) (zq rfl (zr rfl rfl rfl (by simp; rfl) ?_))
                          refine thenC_n (q_ret rfl (thenC_r (blockC_r (thenC_r ?_))))
                          obtain ⟨rr4, h12, ho4⟩ := exit_some h11
                          have hs4 := hr4 _ ho4
                          subst hs4
                          refine roundC_r ho4 (blockC_r (thenC_r (blockC_r (thenC_r ?_))))
                          obtain ⟨rr1, h13, ho1⟩ := exit_some h12
                          have hs1 := hr1 _ ho1
                          subst hs1
                          refine roundC_r ho1 (blockC_r (thenC_r ?_))
                          cases h13
                          simp
                        · rw [if_neg c979] at h11
                          have c979e := eq_false c979
                          refine q_ifF rfl (by simp [c979e]) (q_skip rfl (thenC_n (zq rfl (zr rfl rfl rfl (by simp; rfl) ?_))))
                          refine thenC_n ?_
                          by_cases c980 : w344 = 0
                          · rw [if_pos c980] at h11
                            have c980e := eq_true c980
                            refine q_ifT rfl (by simp [c980e]) ?_
                            obtain ⟨f981, h12⟩ := chk_some h11
                            obtain ⟨f981a, f981b⟩ := f981
                            refine zr rfl rfl rfl (by simp [f981a, f981b]; rfl) ?_
                            refine blockC_n (thenC_n (zr rfl rfl rfl (by simp; rfl) ?_))
                            have ho := next_some h12
                            refine roundC_n ho ?_
                            simp [ref26_Parse_h18a]
                          · rw [if_neg c980] at h11
                            have c980e := eq_false c980
                            refine q_ifF rfl (by simp [c980e]) (zq rfl (zr rfl rfl rfl (by simp; rfl) ?_))
                            refine thenC_n ?_
                            by_cases c982 : w432 = 0
                            · rw [if_pos c982] at h11
                              have c982e := eq_true c982
                              refine q_ifT rfl (by simp [c982e]) ?_
                              obtain ⟨f983, h12⟩ := chk_some h11
                              obtain ⟨f983a, f983b⟩ := f983
                              refine zr rfl rfl rfl (by simp [f983a, f983b]; rfl) ?_
                              refine blockC_n (thenC_n (zr rfl rfl rfl (by simp; rfl) ?_))
                              have ho := next_some h12
                              refine roundC_n ho ?_
                              simp [ref26_Parse_h18a]
                            · rw [if_neg c982] at h11
                              have c982e := eq_false c982
                              refine q_ifF rfl (by simp [c982e]) ?_
                              obtain ⟨v449, f984, h12⟩ := bnd_some h11
                              obtain ⟨f984a, f984b, f984c, f984d, f984e⟩ := atI_some f984
                              obtain ⟨f985, h13⟩ := chk_some h12
                              obtain ⟨f985a, f985b⟩ := f985
                              refine q_tree rfl rfl rfl rfl ?_
                              refine tp_op rfl rfl (by simp [stepZ, f984a, f984b, f984c, f984d, f984e, f985a, f985b]; rfl) ?_
                              refine tp_op rfl rfl (by simp [stepZ, f984a, f984b, f984c, f984d, f984e, f985a, f985b]; rfl) ?_
                              refine tp_op rfl rfl (by simp [stepZ, f984a, f984b, f984c, f984d, f984e, f985a, f985b]; rfl) ?_
                              refine tp_op rfl rfl (by simp [stepZ, f984a, f984b, f984c, f984d, f984e, f985a, f985b]; rfl) ?_
                              refine tp_op rfl rfl (by simp [stepZ, f984a, f984b, f984c, f984d, f984e, f985a, f985b]; rfl) ?_
                              refine tp_op rfl rfl (by simp [stepZ, f984a, f984b, f984c, f984d, f984e, f985a, f985b]; rfl) ?_
                              refine tp_op rfl rfl (by simp [stepZ, f984a, f984b, f984c, f984d, f984e, f985a, f985b]; rfl) ?_
                              refine tp_op rfl rfl (by simp [stepZ, f984a, f984b, f984c, f984d, f984e, f985a, f985b]; rfl) ?_
                              refine tp_op rfl rfl (by simp [stepZ, f984a, f984b, f984c, f984d, f984e, f985a, f985b]; rfl) ?_
                              refine tp_op rfl rfl (by simp [stepZ, f984a, f984b, f984c, f984d, f984e, f985a, f985b]; rfl) ?_
                              refine tp_alt2 ?_
                              refine tp_op rfl rfl (by simp [stepZ, f984a, f984b, f984c, f984d, f984e, f985a, f985b]; rfl) ?_
                              refine tp_op rfl rfl (by simp [stepZ, f984a, f984b, f984c, f984d, f984e, f985a, f985b]; rfl) ?_
                              refine tp_op rfl rfl (by simp [stepZ, f984a, f984b, f984c, f984d, f984e, f985a, f985b]; rfl) ?_
                              refine tp_op rfl rfl (by simp [stepZ, f984a, f984b, f984c, f984d, f984e, f985a, f985b]; rfl) ?_
                              refine tp_op rfl rfl (by simp [stepZ, f984a, f984b, f984c, f984d, f984e, f985a, f985b]; rfl) ?_
                              refine tp_nil ?_
                              refine ⟨?_, ?_⟩
                              · refine tp_op rfl rfl (by simp [stepZ, f984a, f984b, f984c, f984d, f984e, f985a, f985b]; rfl) ?_
                                refine tp_alt2 ?_
                                refine tp_op rfl rfl (by simp [stepZ, f984a, f984b, f984c, f984d, f984e, f985a, f985b]; rfl) ?_
                                refine tp_op rfl rfl (by simp [stepZ, f984a, f984b, f984c, f984d, f984e, f985a, f985b]; rfl) ?_
                                refine tp_op rfl rfl (by simp [stepZ, f984a, f984b, f984c, f984d, f984e, f985a, f985b]; rfl) ?_
                                refine tp_op rfl rfl (by simp [stepZ, f984a, f984b, f984c, f984d, f984e, f985a, f985b]; rfl) ?_
                                refine tp_nil ?_
                                refine ⟨?_, ?_⟩
                                · refine tp_op rfl rfl (by simp [stepZ, f984a, f984b, f984c, f984d, f984e, f985a, f985b]; rfl) ?_
                                  refine tp_op rfl rfl (by simp [stepZ, f984a, f984b, f984c, f984d, f984e, f985a, f985b]; rfl) ?_
                                  refine tp_op rfl rfl (by simp [stepZ, f984a, f984b, f984c, f984d, f984e, f985a, f985b]; rfl) ?_
                                  refine tp_op rfl rfl (by simp [stepZ, f984a, f984b, f984c, f984d, f984e, f985a, f985b]; rfl) ?_
                                  refine tp_nil ?_
                                  simp [sameF, f984a, f984b, f984c, f984d, f984e, f985a, f985b]
                                simp [sameF, f984a, f984b, f984c, f984d, f984e, f985a, f985b]
                              refine tp_end rfl (by simp [f984a, f984b, f984c, f984d, f984e, f985a, f985b]; rfl) ?_
                              refine blockC_n (thenC_n (zr rfl rfl rfl (by simp; rfl) ?_))
                              have ho := next_some h13
                              refine roundC_n ho ?_
                              simp [ref26_Parse_h18a]
                    · rw [if_neg c965] at h9
                      refine q_ifF rfl (by simp [c965]) (q_exit rfl (thenC_x ?_))
                      obtain ⟨rr4, h10, ho4⟩ := exit_some h9
                      have hs4 := hr4 _ ho4
                      subst hs4
                      refine roundC_x ho4 (blockC_hit2 rfl (thenC_n (zq rfl (zq rfl (zr rfl rfl rfl (by simp; rfl) ?_)))))
                      refine thenC_n ?_
                      by_cases c986 : 0 < w344
                      · rw [if_pos c986] at h10
                        refine q_ifT rfl (by simp [c986]) ?_
                        obtain ⟨f987, h11⟩ := chk_some h10
                        obtain ⟨f987a, f987b⟩ := f987
                        refine zr rfl rfl rfl (by simp [f987a, f987b]; rfl) ?_
                        refine thenC_n (zr rfl rfl rfl (by simp; rfl) ?_)
                        refine blockC_n (thenC_n (zr rfl rfl rfl (by simp; rfl) ?_))
                        have ho := next_some h11
                        refine roundC_n ho ?_
                        simp [ref26_Parse_h7]
                      · rw [if_neg c986] at h10
                        refine q_ifF rfl (by simp [c986]) (q_skip rfl (thenC_n (zr rfl rfl rfl (by simp; rfl) ?_)))
                        refine blockC_n (thenC_n (zr rfl rfl rfl (by simp; rfl) ?_))
                        have ho := next_some h10
                        refine roundC_n ho ?_
                        simp [ref26_Parse_h7]
                  · rw [if_neg c932] at h7
                    have c932e := eq_false c932
                    refine q_ifT rfl (by simp [c932e]) (zq rfl (zr rfl rfl rfl (by simp; rfl) ?_))
                    refine thenC_n (q_ret rfl (thenC_r (blockC_r (thenC_r ?_))))
                    obtain ⟨rr1, h8, ho1⟩ := exit_some h7
                    have hs1 := hr1 _ ho1
                    subst hs1
                    refine roundC_r ho1 (blockC_r (thenC_r ?_))
                    cases h8
                    simp
                · rw [if_neg c930] at h6
                  cases h6
          · rw [if_neg c866] at h3
            have c866e := eq_false c866
            refine q_ifT rfl (by simp [c866e]) (q_skip rfl (thenC_n (zb rfl (zr rfl rfl rfl (by simp; rfl) ?_))))
            refine blockC_n ?_
            have ho := next_some h3
            refine roundC_n ho ?_
            simp [ref26_Parse_h10]
        · rw [if_neg c864] at h2
          refine zr rfl rfl rfl (by simp [c864]; rfl) ?_
          refine thenC_n (q_ifF rfl (by simp) (q_exit rfl (thenC_x ?_)))
          obtain ⟨rr2, h3, ho2⟩ := exit_some h2
          have hs2 := hr2 _ ho2
          subst hs2
          refine roundC_x ho2 (blockC_hit2 rfl (thenC_n (zq rfl ?_)))
          obtain ⟨v451, f988, h4⟩ := bnd_some h3
          obtain ⟨f988a, f988b, f988c, f988d⟩ := pieceS_some f988
          obtain ⟨f988e, f988f⟩ := piece_hi f988a f988b
          have f988d := f988d.symm
          have f988g : w345 ≤ max w398 0 := by omega
          obtain ⟨v452, f989, h5⟩ := bnd_some h4
          have f989k := ref26_split_ok f989
          try simp at f989k
          refine zr rfl rfl rfl (by simp [f988a, f988b, f988c, f988d, f988e, f988f, f988g, f989k]; rfl) ?_
          refine thenC_n (zq rfl (zq rfl ?_))
          by_cases c990 : w398 = (a0.size : Int)
          · rw [if_pos c990] at h5
            have c990e := eq_true c990
            refine zr rfl rfl rfl (by simp [c990e]; rfl) ?_
            refine thenC_n (q_ifT rfl (by simp) (zq rfl (zr rfl rfl rfl (by simp; rfl) ?_)))
            refine thenC_n (q_ret rfl (thenC_r (blockC_r (thenC_r ?_))))
            obtain ⟨rr1, h6, ho1⟩ := exit_some h5
            have hs1 := hr1 _ ho1
            subst hs1
            refine roundC_r ho1 (blockC_r (thenC_r ?_))
            cases h6
            simp
          · rw [if_neg c990] at h5
            have c990e := eq_false c990
            cases h5
      · rw [if_neg c857] at h1
        refine q_ifF rfl (by simp [c857]) (q_exit rfl (thenC_x ?_))
        obtain ⟨rr1, h2, ho1⟩ := exit_some h1
        have hs1 := hr1 _ ho1
        subst hs1
        refine roundC_x ho1 (blockC_hit2 rfl (thenC_n (zq rfl (q_frz rfl rfl (by simp; rfl) ?_))))
        obtain ⟨v453, f991, h3⟩ := bnd_some h2
        obtain ⟨f991a, f991b, f991c, f991d, f991e⟩ := atI_some f991
        simp only [Int.reduceToNat, Int.toNat_natCast] at f991c f991d f991e
        have f991j : w346 ≠ [] := by intro hh; rw [hh] at f991c; simp at f991c
        have f991l : 0 < w346.length := by omega
        obtain ⟨v454, f992, h4⟩ := bnd_some h3
        obtain ⟨f992a, f992b, f992c, -⟩ := pieceL_some f992
        obtain ⟨f992d, f992g⟩ := piece_hi f992a f992b
        have f992e := pieceL_map (g := fun x : Int => (.sc (.int .i64 x) : T)) f992
        try simp at f992e
        have f992f := pieceL_slm f992
        try simp only [Int.reduceToNat, Int.toNat_natCast, Nat.sub_zero] at f992f
        refine q_drawW rfl rfl rfl rfl ?_; repeat' (first | (refine q_drawW_op rfl rfl fun Q' hQ => ?_; simp [f991a, f991b, f991c, f991d, f991e, f991j, f991l, f992a, f992b, f992c, f992d, f992g, f992e, f992f]; refine hQ.out _ ?_; clear hQ; clear Q') | (refine q_drawW_guard rfl rfl fun Q1 Q2 h1 h2 => ?_; simp [f991a, f991b, f991c, f991d, f991e, f991j, f991l, f992a, f992b, f992c, f992d, f992g, f992e, f992f, twoB_some]; (first | refine h1.out ?_ | refine h2.out ?_); clear h1 h2; clear Q1 Q2; intro Q' hQ; simp [f991a, f991b, f991c, f991d, f991e, f991j, f991l, f992a, f992b, f992c, f992d, f992g, f992e, f992f]; refine hQ.out _ ?_; clear hQ; clear Q') | (refine q_drawW_nil rfl fun Q' hQ => ?_; simp [f991a, f991b, f991c, f991d, f991e, f991j, f991l, f992a, f992b, f992c, f992d, f992g, f992e, f992f]; refine hQ.out _ ?_; clear hQ; clear Q'))
        refine thenC_n (zq rfl (zq rfl ?_))
        obtain ⟨v455, f993, h5⟩ := bnd_some h4
        have f993k := ref26_Validate_ok f993
        try simp at f993k
        refine zr rfl rfl rfl (by simp [f993k]; rfl) ?_
        refine thenC_n (zq rfl (zr rfl rfl rfl (by simp; rfl) ?_))
        refine thenC_n ?_
        by_cases c994 : v455 = 0
        · rw [if_pos c994] at h5
          have c994e := eq_true c994
          refine q_ifF rfl (by simp [c994e]) (q_skip rfl (thenC_n (zq rfl (zr rfl rfl rfl (by simp; rfl) ?_))))
          refine thenC_n (q_ret rfl ?_)
          cases h5
          simp
        · rw [if_neg c994] at h5
          have c994e := eq_false c994
          refine q_ifT rfl (by simp [c994e]) (zq rfl (zr rfl rfl rfl (by simp; rfl) ?_))
          refine thenC_n (q_ret rfl (thenC_r ?_))
          cases h5
          simp
end Go.Proofs.YthalofddjlhcjaaDoor
end
section
/- Plain: the reference's Parse is what the text says. -/
namespace Go.Proofs.YthalofddjlhcjaaDoor
open Go
set_option linter.unusedVariables false
set_option linter.unusedSimpArgs false
set_option maxHeartbeats 1000000

theorem pieceS_mid (s : ByteArray) {a n : Nat} {p q : List UInt8} (h : s.data.toList.drop a = p ++ q) (hn : p.length = n) (ha : a ≤ s.size) : pieceS s (a : Int) ((a + n : Nat) : Int) = some (toBA p) := by
  have hl : (s.data.toList.drop a).length = p.length + q.length := by rw [h]; simp
  rw [List.length_drop, toList_len] at hl
  unfold pieceS
  rw [if_pos (by omega), Int.toNat_natCast, Int.toNat_natCast]
  congr 1
  apply ByteArray.ext
  apply Array.toList_inj.1
  simp only [ByteArray.data_extract, Array.toList_extract, List.extract, toBA]
  rw [h, show a + n - a = n by omega, ← hn, List.take_left]
theorem numV_semi : numV ⟨#[59]⟩ = none := by decide +kernel
def appL (maps : List (List Int)) (l : List Int) : List (List Int) := maps.set (maps.length - 1) (maps.getD (maps.length - 1) [] ++ l)
theorem appL_nil (l : List Int) : appL [] l = [] := rfl
theorem appL_snoc (ms : List (List Int)) (x l : List Int) : appL (ms ++ [x]) l = ms ++ [x ++ l] := by
  unfold appL
  simp
theorem appL_empty (ms : List (List Int)) : appL ms [] = ms := by
  rcases List.eq_nil_or_concat ms with rfl | ⟨ms', x, rfl⟩
  · rfl
  · rw [List.concat_eq_append, appL_snoc]; simp
theorem appL_app (ms : List (List Int)) (a b : List Int) : appL (appL ms a) b = appL ms (a ++ b) := by
  rcases List.eq_nil_or_concat ms with rfl | ⟨ms', x, rfl⟩
  · rfl
  · rw [List.concat_eq_append, appL_snoc, appL_snoc, appL_snoc]; simp
theorem appL_len (ms : List (List Int)) (a : List Int) : (appL ms a).length = ms.length := by unfold appL; simp
def restR (pre : List Int) (maps : List (List Int)) (ws : List ByteArray) : Option CRow :=
  (numsV (groupsV ws).1).bind fun l => (listsV (groupsV ws).2).map fun gs => ⟨if maps = [] then pre ++ l else pre, appL maps l ++ gs⟩
theorem restR_semi (pre : List Int) (maps : List (List Int)) (ws : List ByteArray) : restR pre maps (⟨#[59]⟩ :: ws) = restR pre (maps ++ [[]]) ws := by
  unfold restR
  simp only [groupsV, if_true, numsV, Option.bind_some, listsV]
  cases numsV (groupsV ws).1 with
  | none => rfl
  | some l =>
    simp only [Option.bind_some, Option.map_map]
    congr 1
    funext gs
    simp [appL_snoc, appL_empty]
theorem restR_num (pre : List Int) (maps : List (List Int)) {w : ByteArray} (ws : List ByteArray) {n : Int} (hn : numV w = some n) : restR pre maps (w :: ws) = restR (if maps = [] then pre ++ [n] else pre) (appL maps [n]) ws := by
  have hw : w ≠ ⟨#[59]⟩ := fun e => by rw [e, numV_semi] at hn; cases hn
  unfold restR
  simp only [groupsV, if_neg hw, numsV, hn, Option.bind_some]
  cases numsV (groupsV ws).1 with
  | none => rfl
  | some l =>
    simp only [Option.map_some, Option.bind_some]
    congr 1
    funext gs
    rw [appL_app]
    by_cases hm : maps = []
    · subst hm
      simp [appL_nil]
    · have : appL maps [n] ≠ [] := fun e => hm (List.eq_nil_of_length_eq_zero (by rw [← appL_len maps [n], e]; rfl))
      simp [hm, this]
theorem restR_bad (pre : List Int) (maps : List (List Int)) {w : ByteArray} (ws : List ByteArray) (hw : w ≠ ⟨#[59]⟩) (hn : numV w = none) : restR pre maps (w :: ws) = none := by
  unfold restR
  simp only [groupsV, if_neg hw, numsV, hn, Option.bind_none]
theorem restR_row {w : ByteArray} (ws : List ByteArray) (hw : w = ⟨#[114, 111, 119]⟩) : rowV (w :: ws) = restR [] [] ws := by
  unfold restR
  simp only [rowV, if_pos hw]
  simp [appL_nil]
abbrev LnR := (Int × Int × List Int × List CRow) ⊕ (Casc × Int × Int)
def headR (e : Nat) (rows : List CRow) : Option (List Int) → LnR
  | some l => .inl (1, IntKind.i64.wrap ((e : Int) + 1), l, rows)
  | none => .inr (zC, 0, 2)
def rowR (ln e : Nat) (hd : List Int) (rows : List CRow) : Option CRow → LnR
  | some r => .inl (IntKind.i64.wrap ((ln : Int) + 1), IntKind.i64.wrap ((e : Int) + 1), hd, rows ++ [r])
  | none => .inr (zC, (ln : Int), 2)
theorem number_bad {w : ByteArray} (h : numV w = none) : ref26_number w = some (-1) := by rw [number_eq, h]; rfl
theorem number_good {w : ByteArray} {n : Int} (h : numV w = some n) : ref26_number w = some n ∧ n ≠ -1 := by
  have := numV_in h
  exact ⟨by rw [number_eq, h]; rfl, by omega⟩
/-- The words of a row. -/
theorem row_loop (ln e : Nat) (rows : List CRow) (hd : List Int) (ws : List ByteArray) (hln : 0 < ln) (hr : rows.length < 10000000) (hw : ws.length < 10000000) : loopG (ref26_Parse_b18a (ln : Int) rows (e : Int) ws) LFm (0, 0, hd, [], []) =
some (rowR ln e hd rows (restR [] [] ws)) := by
  refine loopG_eq (fun st : Int × Int × List Int × List Int × List (List Int) => ∃ k : Nat, k ≤ ws.length ∧ st.1 = (st.2.2.2.2.length : Int) ∧ st.2.1 = (k : Int) ∧ st.2.2.1 = hd ∧ st.2.2.2.1.length ≤ k ∧ st.2.2.2.2.length ≤ k ∧ (∀ m ∈ st.2.2.2.2, m.length ≤ k) ∧ restR st.2.2.2.1 st.2.2.2.2 (ws.drop k) = restR [] [] ws) (fun st => ws.length - st.2.1.toNat) (s := (0, 0, hd, [], [])) ⟨0, by omega, rfl, rfl, rfl, by simp, by simp, by simp, rfl⟩ (by simp only [LFm]; omega) ?_
  rintro ⟨_, _, _, pre, maps⟩ ⟨k, hk, h1, h2, h3, h4, h5, h6, h7⟩
  simp only at h1 h2 h3 h4 h5 h6 h7
  subst h1
  subst h2
  subst h3
  simp only [ref26_Parse_b18a]
  by_cases hlt : k < ws.length
  case neg =>
    right
    have : k = ws.length := by omega
    subst this
    rw [if_neg (by omega), if_pos (by omega), chk_pos _ (by unfold capOk; omega)]
    rw [List.drop_length] at h7
    have e1 : restR pre maps [] = some ⟨pre, maps⟩ := by
      unfold restR
      simp [groupsV, numsV, listsV, appL_empty]
    rw [← h7, e1]
    all_goals rfl
  rw [if_pos (by omega), atI_nat hlt, Option.bind_some]
  rw [List.drop_eq_getElem_cons hlt] at h7
  generalize ws[k] = w at h7
  by_cases hs : w = ⟨#[59]⟩
  · subst hs
    left
    rw [if_pos rfl, if_pos (by omega), chk_pos _ (by unfold capOk; omega), wrapS (by omega), wrapS (by omega)]
    rw [restR_semi] at h7
    refine ⟨_, rfl, ⟨k + 1, by omega, by simp, rfl, rfl, by simp only; omega, by simp only [List.length_append, List.length_singleton]; omega, fun m hm => ?_, h7⟩, by simp only; omega⟩
    rcases List.mem_append.1 hm with hm | hm
    · have := h6 m hm; omega
    · rw [List.mem_singleton.1 hm]; simp
  · rw [if_neg hs]
    cases hn : numV w with
    | none =>
      right
      rw [number_bad hn, Option.bind_some, if_pos rfl, ← h7, restR_bad _ _ _ hs hn]
      all_goals rfl
    | some n =>
      left
      obtain ⟨g1, g2⟩ := number_good hn
      rw [g1, Option.bind_some, if_neg g2, if_neg (by omega), wrapS (by omega)]
      rw [restR_num _ _ _ hn] at h7
      by_cases hm : maps = []
      · subst hm
        rw [if_pos rfl] at h7
        rw [if_pos (by simp), chk_pos _ (by unfold capOk; omega)]
        refine ⟨_, rfl, ⟨k + 1, by omega, rfl, rfl, rfl, by simp only [List.length_append, List.length_singleton]; omega, by simp, by simp, h7⟩, by simp only; omega⟩
      · have hpos : 0 < maps.length := List.length_pos_iff.2 hm
        rw [if_neg hm] at h7
        have e1 : IntKind.i64.wrap ((maps.length : Int) - 1) = ((maps.length - 1 : Nat) : Int) := by rw [wrapI (by omega) (by omega)]; omega
        rw [if_neg (by omega), e1, atI_nat (show maps.length - 1 < maps.length by omega), Option.bind_some]
        have hlast := h6 _ (List.getElem_mem (show maps.length - 1 < maps.length by omega))
        rw [chk_pos _ (by unfold capOk; omega), Int.toNat_natCast]
        have e2 : maps.set (maps.length - 1) (maps[maps.length - 1] ++ [n]) = appL maps [n] := by
          unfold appL
          rw [show maps.getD (maps.length - 1) [] = maps[maps.length - 1] by simp [List.getD, List.getElem?_eq_getElem (show maps.length - 1 < maps.length by omega)]]
        rw [e2]
        refine ⟨_, rfl, ⟨k + 1, by omega, by simp only [appL_len], rfl, rfl, by simp only; omega, by simp only [appL_len]; omega, fun m hmm => ?_, h7⟩, by simp only; omega⟩
        rw [← e2] at hmm
        rcases List.mem_or_eq_of_mem_set hmm with hmm | hmm
        · have := h6 m hmm; omega
        · rw [hmm]; simp only [List.length_append, List.length_singleton]; omega
/-- The words of the first line. -/
theorem head_loop (e : Nat) (rows : List CRow) (ws : List ByteArray) (hw : ws.length < 10000000) : loopG (ref26_Parse_b18 0 rows (e : Int) ws) LFm (0, 0, [], [], []) =
some (headR e rows (numsV ws)) := by
  refine loopG_eq (fun st : Int × Int × List Int × List Int × List (List Int) => ∃ k : Nat, k ≤ ws.length ∧ st.1 = 0 ∧ st.2.1 = (k : Int) ∧ st.2.2.1.length ≤ k ∧ st.2.2.2.1 = [] ∧ st.2.2.2.2 = [] ∧ (numsV (ws.drop k)).map (st.2.2.1 ++ ·) = numsV ws) (fun st => ws.length - st.2.1.toNat) (s := (0, 0, [], [], [])) ⟨0, by omega, rfl, rfl, by simp, rfl, rfl, by simp⟩ (by simp only [LFm]; omega) ?_
  rintro ⟨_, _, hd, _, _⟩ ⟨k, hk, h1, h2, h3, h4, h5, h6⟩
  simp only at h1 h2 h3 h4 h5 h6
  subst h1
  subst h2
  subst h4
  subst h5
  simp only [ref26_Parse_b18]
  by_cases hlt : k < ws.length
  case neg =>
    right
    have : k = ws.length := by omega
    subst this
    rw [if_neg (by omega), if_neg (by omega)]
    rw [List.drop_length] at h6
    simp only [numsV, Option.map_some, List.append_nil] at h6
    rw [← h6]
    all_goals rfl
  rw [if_pos (by omega), atI_nat hlt, Option.bind_some]
  rw [List.drop_eq_getElem_cons hlt] at h6
  generalize ws[k] = w at h6
  simp only [numsV] at h6
  have bad : numV w = none → (exitG (exitG (some ((⟨0, [], []⟩ : Casc), 0, 2))) : Option ((Int × Int × List Int × List Int × List (List Int)) ⊕ LnR)) = exitG (some (headR e rows (numsV ws))) := fun hn => by
    rw [hn] at h6
    simp only [Option.bind_none, Option.map_none] at h6
    rw [← h6]
    all_goals rfl
  have good : ∀ n, numV w = some n → (numsV (ws.drop (k + 1))).map ((hd ++ [n]) ++ ·) = numsV ws := fun n hn => by
    rw [hn] at h6
    simp only [Option.bind_some, Option.map_map] at h6
    rw [← h6]
    congr 1
    funext l
    simp
  by_cases hs : w = ⟨#[59]⟩
  · rw [if_pos hs, if_neg (by omega)]
    have hn : numV w = none := by rw [hs, numV_semi]
    right
    rw [number_bad hn, Option.bind_some, if_pos rfl]
    exact bad hn
  · rw [if_neg hs]
    cases hn : numV w with
    | none =>
      right
      rw [number_bad hn, Option.bind_some, if_pos rfl]
      exact bad hn
    | some n =>
      left
      obtain ⟨g1, g2⟩ := number_good hn
      rw [g1, Option.bind_some, if_neg g2, if_pos trivial, chk_pos _ (by unfold capOk; omega), wrapS (by omega)]
      exact ⟨_, rfl, ⟨k + 1, by omega, rfl, rfl, by simp only [List.length_append, List.length_singleton]; omega, rfl, rfl, good n hn⟩, by simp only; omega⟩
/-- One line. -/
theorem find_nl (s : ByteArray) (ln at_ : Nat) (hd : List Int) (rows : List CRow) {p q : List UInt8} (h : s.data.toList.drop at_ = p ++ (10 : UInt8) :: q) (hp : (10 : UInt8) ∉ p) (hs : s.size ≤ 1048576) (X : Option LnR)
    (hX : ref26_Parse_b10 s (ln : Int) (at_ : Int) hd rows ((at_ + p.length : Nat) : Int) = exitG X) : loopG (ref26_Parse_b10 s (ln : Int) (at_ : Int) hd rows) LFm (at_ : Int) = X := by
  have hl : (s.data.toList.drop at_).length = p.length + (q.length + 1) := by rw [h]; simp
  rw [List.length_drop, toList_len] at hl
  refine loop_to p.length (fun k => ((at_ + k : Nat) : Int)) rfl (by simp only [LFm]; omega) (fun k hk => ?_) hX
  have hlt : at_ + k < s.size := by omega
  have e1 := toList_drop s hlt
  rw [← List.drop_drop, h, List.drop_append_of_le_length (by omega), List.drop_eq_getElem_cons hk, List.cons_append] at e1
  have e2 : s[at_ + k] = p[k] := ((List.cons.inj e1).1).symm
  simp only [ref26_Parse_b10]
  rw [if_pos (by omega), byteI_nat hlt, Option.bind_some, if_neg (fun hh => hp (by
    have e3 : s[at_ + k] = 10 := UInt8.toNat_inj.1 (by
      have : s[at_ + k].toNat = 10 := by omega
      rw [this]; rfl)
    rw [← e3, e2]
    exact List.getElem_mem hk)), wrapS (by omega)]
  all_goals rfl
theorem find_no (s : ByteArray) (ln at_ : Nat) (hd : List Int) (rows : List CRow) (h : (10 : UInt8) ∉ s.data.toList.drop at_) (ha : at_ ≤ s.size) (hs : s.size ≤ 1048576) : loopG (ref26_Parse_b10 s (ln : Int) (at_ : Int) hd rows) LFm (at_ : Int) = exitG (some (zC, (ln : Int), 2)) := by
  obtain ⟨l, hl⟩ : ∃ l, s.data.toList.drop at_ = l := ⟨_, rfl⟩
  rw [hl] at h
  have hll : l.length = s.size - at_ := by rw [← hl, List.length_drop, toList_len]
  refine loop_to l.length (fun k => ((at_ + k : Nat) : Int)) rfl (by simp only [LFm]; omega) (fun k hk => ?_) ?_
  · have hlt : at_ + k < s.size := by omega
    have e1 := toList_drop s hlt
    rw [← List.drop_drop, hl, List.drop_eq_getElem_cons hk] at e1
    have e2 : s[at_ + k] = l[k] := ((List.cons.inj e1).1).symm
    simp only [ref26_Parse_b10]
    rw [if_pos (by omega), byteI_nat hlt, Option.bind_some, if_neg (fun hh => h (by
      have e3 : s[at_ + k] = 10 := UInt8.toNat_inj.1 (by
        have : s[at_ + k].toNat = 10 := by omega
        rw [this]; rfl)
      rw [← e3, e2]
      exact List.getElem_mem hk)), wrapS (by omega)]
    all_goals rfl
  · simp only [ref26_Parse_b10]
    rw [if_neg (by omega), pieceS_mid s (p := l) (q := []) (by rw [hl]; simp) rfl ha, Option.bind_some, split_eq _ (by rw [toBA_size]; omega), Option.bind_some, if_pos (by omega)]
    all_goals rfl
theorem line_eq (s : ByteArray) {V : Casc × Int × Int} (ln at_ : Nat) (hd : List Int) (rows : List CRow) (hI : PrI V (s.data.toList.drop at_) ln hd rows) (ha : at_ < s.size) (hs : s.size ≤ 1048576) :
    (∃ p q hd' rows', s.data.toList.drop at_ = p ++ (10 : UInt8) :: q ∧ loopG (ref26_Parse_b10 s (ln : Int) (at_ : Int) hd rows) LFm (at_ : Int) = (nextG (((ln + 1 : Nat) : Int), ((at_ + p.length + 1 : Nat) : Int), hd', rows') : Option LnR) ∧ PrI V q (ln + 1) hd' rows') ∨
    (∃ x : Casc × Int × Int, loopG (ref26_Parse_b10 s (ln : Int) (at_ : Int) hd rows) LFm (at_ : Int) = (exitG (some x) : Option LnR) ∧ x = V ∧ x.1 = zC) := by
  have hsz := hI.sz
  have hrl := hI.rl
  have hne : s.data.toList.drop at_ ≠ [] := fun e => by
    have : (s.data.toList.drop at_).length = 0 := by rw [e]; rfl
    rw [List.length_drop, toList_len] at this; omega
  by_cases hc : (10 : UInt8) ∈ s.data.toList.drop at_
  case neg =>
    right
    exact ⟨_, find_no s ln at_ hd rows hc (by omega) hs, (hI.cut hc (.inr hne)).symm, rfl⟩
  rcases index_cases 10 (s.data.toList.drop at_) with ⟨_, h2⟩ | ⟨p, q, h1, h2, _⟩
  · exact absurd hc h2
  rw [h1] at hI hsz
  simp only [List.length_append, List.length_cons] at hsz
  have hV := hI.line h2
  have hl : (s.data.toList.drop at_).length = p.length + (q.length + 1) := by rw [h1]; simp
  rw [List.length_drop, toList_len] at hl
  obtain ⟨hw1, hw2⟩ := splitW_len p
  have hlt : at_ + p.length < s.size := by omega
  have e10 : s[at_ + p.length] = 10 := by
    have e1 := toList_drop s hlt
    rw [← List.drop_drop, h1, List.drop_left] at e1
    exact ((List.cons.inj e1).1).symm
  have hb : ∀ Y : Option LnR, (∀ (w : ByteArray) (ws : List ByteArray), splitW (toBA p) = w :: ws → (if (ln : Int) = 0 then (if w = ⟨#[99, 97, 115, 99, 97, 100, 101]⟩ then (if ((w :: ws).length : Int) < 2 then (exitG (some ((⟨0, [], []⟩ : Casc), (ln : Int), 2)) : Option LnR) else (if 0 < (ln : Int) then none else loopG (ref26_Parse_b18 (ln : Int) rows ((at_ + p.length : Nat) : Int) ws) LFm (0, 0, hd, [], []))) else exitG (some ((⟨0, [], []⟩ : Casc), (ln : Int), 2))) else (if 0 < (ln : Int) then (if w = ⟨#[114, 111, 119]⟩ then loopG (ref26_Parse_b18a (ln : Int) rows ((at_ + p.length : Nat) : Int) ws) LFm (0, 0, hd, [], []) else exitG (some ((⟨0, [], []⟩ : Casc), (ln : Int), 2))) else none)) = Y) →
      loopG (ref26_Parse_b10 s (ln : Int) (at_ : Int) hd rows) LFm (at_ : Int) = Y := fun Y hY => by
    refine find_nl s ln at_ hd rows h1 h2 hs Y ?_
    simp only [ref26_Parse_b10]
    rw [if_pos (by omega), byteI_nat hlt, Option.bind_some, e10, if_pos (by rfl), pieceS_mid s h1 rfl (by omega), Option.bind_some, split_eq _ (by rw [toBA_size]; omega), Option.bind_some, if_neg (by omega)]
    congr 1
    obtain ⟨w, ws, hws⟩ := List.exists_cons_of_ne_nil hw2
    rw [← hY w ws hws, hws]
    have hp : pieceL (w :: ws) 1 ((w :: ws).length : Int) = some ws := by
      have := piece_at (ws := w :: ws) (b := 1) (i := (w :: ws).length) (by simp) (Nat.le_refl _)
      simpa using this
    simp only [show atI (w :: ws) 0 = some w from rfl, Option.bind_some, hp]
  obtain ⟨w, ws, hws⟩ := List.exists_cons_of_ne_nil hw2
  rw [hws] at hw1
  simp only [List.length_cons] at hw1
  by_cases h0 : ln = 0
  · subst h0
    rw [if_pos rfl, hws] at hV
    obtain ⟨hr0, hd0⟩ := hI.z rfl
    subst hr0
    subst hd0
    by_cases hw : w = ⟨#[99, 97, 115, 99, 97, 100, 101]⟩
    · cases ws with
      | nil =>
        right
        refine ⟨_, hb (exitG (some (zC, ((0 : Nat) : Int), 2))) (fun w' ws' e => ?_), ?_, rfl⟩
        · rw [hws] at e; cases e
          rw [if_pos (show ((0 : Nat) : Int) = 0 from rfl), if_pos hw, if_pos (by simp)]
          all_goals rfl
        · rw [hV]
          simp only [headV, if_pos hw, numsV]
          all_goals rfl
      | cons y ys =>
        have hloop := head_loop (at_ + p.length) [] (y :: ys) (by omega)
        have hy : loopG (ref26_Parse_b10 s ((0 : Nat) : Int) (at_ : Int) [] []) LFm (at_ : Int) = some (headR (at_ + p.length) [] (numsV (y :: ys))) := hb _ (fun w' ws' e => by
          rw [hws] at e; cases e
          rw [if_pos (show ((0 : Nat) : Int) = 0 from rfl), if_pos hw, if_neg (by simp only [List.length_cons]; omega), if_neg (by omega)]
          exact hloop)
        cases hN : numsV (y :: ys) with
        | none =>
          right
          rw [hN] at hy
          refine ⟨_, hy, ?_, rfl⟩
          rw [hV]
          simp only [headV, if_pos hw, hN]
        | some l =>
          left
          rw [hN] at hy
          have hne : l ≠ [] := fun e => by have := numsV_len hN; rw [e] at this; cases this
          have hh : headV (w :: y :: ys) = some l := by
            cases l with
            | nil => exact absurd rfl hne
            | cons a b => simp only [headV, if_pos hw, hN]
          refine ⟨p, q, l, [], h1, ?_, hI.head h2 (by rw [hws]; exact hh)⟩
          rw [hy]
          simp only [headR]
          rw [wrapS (by omega)]
          all_goals rfl
    · right
      refine ⟨_, hb (exitG (some (zC, ((0 : Nat) : Int), 2))) (fun w' ws' e => ?_), ?_, rfl⟩
      · rw [hws] at e; cases e
        rw [if_pos (show ((0 : Nat) : Int) = 0 from rfl), if_neg hw]
        all_goals rfl
      · rw [hV]
        simp only [headV, if_neg hw]
        all_goals rfl
  · have hln : 0 < ln := by omega
    rw [if_neg h0, hws] at hV
    by_cases hw : w = ⟨#[114, 111, 119]⟩
    · have hloop := row_loop ln (at_ + p.length) rows hd ws hln (by omega) (by omega)
      have hy : loopG (ref26_Parse_b10 s (ln : Int) (at_ : Int) hd rows) LFm (at_ : Int) = some (rowR ln (at_ + p.length) hd rows (restR [] [] ws)) := hb _ (fun w' ws' e => by
        rw [hws] at e; cases e
        rw [if_neg (by omega), if_pos (by omega), if_pos hw]
        exact hloop)
      rw [restR_row ws hw] at hV
      cases hR : restR [] [] ws with
      | none =>
        right
        rw [hR] at hy hV
        exact ⟨_, hy, hV.symm, rfl⟩
      | some r =>
        left
        rw [hR] at hy
        refine ⟨p, q, hd, rows ++ [r], h1, ?_, hI.row h2 hln (by rw [hws, restR_row ws hw]; exact hR)⟩
        rw [hy]
        simp only [rowR]
        rw [wrapS (by omega), wrapS (by omega)]
        all_goals rfl
    · right
      refine ⟨_, hb (exitG (some (zC, (ln : Int), 2))) (fun w' ws' e => ?_), ?_, rfl⟩
      · rw [hws] at e; cases e
        rw [if_neg (by omega), if_pos (by omega), if_neg hw]
        all_goals rfl
      · rw [hV]
        simp only [rowV, if_neg hw]
theorem refParse_eq (s : ByteArray) : ref26_Parse s = some (parseV s) := by
  unfold ref26_Parse
  by_cases hs : 1048576 < s.size
  · rw [if_pos (by omega)]
    unfold parseV
    rw [if_pos hs]
    all_goals rfl
  rw [if_neg (by omega)]
  by_cases he : s = ByteArray.empty
  · subst he
    rw [if_pos rfl]
    exact rfl
  rw [if_neg he]
  have hpos : 0 < s.size := by
    rcases Nat.eq_zero_or_pos s.size with e | e
    · exfalso
      apply he
      rw [empty_iff]
      exact List.eq_nil_of_length_eq_zero (by rw [toList_len]; exact e)
    · exact e
  refine Exists.elim (loopG_rule (b := ref26_Parse_b7 s) (fun st => ∃ (ln at_ : Nat), PrI (parseV s) (s.data.toList.drop at_) ln st.2.2.1 st.2.2.2 ∧ st.1 = (ln : Int) ∧ st.2.1 = (at_ : Int) ∧ at_ ≤ s.size ∧ (ln = 0 → at_ = 0)) (fun st => s.size - st.2.1.toNat) (fun r => r = parseV s) ?_ LFm (0, 0, [], []) ⟨0, 0, PrI.start hs, rfl, rfl, by omega, fun _ => rfl⟩ (by simp only [LFm]; omega)) fun r hr => by rw [hr.1, hr.2]
  rintro ⟨_, _, hd, rows⟩ ⟨ln, at_, hI, h1, h2, h3, h4⟩
  simp only at hI h1 h2
  subst h1
  subst h2
  simp only [ref26_Parse_b7]
  by_cases hlt : at_ < s.size
  · rw [if_pos (by omega)]
    rcases line_eq s ln at_ hd rows hI hlt (by omega) with ⟨p, q, hd', rows', e1, e2, e3⟩ | ⟨x, e1, e2, e3⟩
    · left
      have hl : (s.data.toList.drop at_).length = p.length + (q.length + 1) := by rw [e1]; simp
      rw [List.length_drop, toList_len] at hl
      have e4 : s.data.toList.drop (at_ + p.length + 1) = q := by
        rw [Nat.add_assoc, ← List.drop_drop, e1, show p.length + 1 = (p ++ [(10 : UInt8)]).length by simp, show p ++ (10 : UInt8) :: q = (p ++ [10]) ++ q by simp, List.drop_left]
      rw [e2]
      exact ⟨_, rfl, ⟨ln + 1, at_ + p.length + 1, by simp only; rw [e4]; exact e3, rfl, rfl, by omega, fun e => by omega⟩, by simp only; omega⟩
    · right
      rw [e1]
      exact ⟨_, rfl, e2⟩
  · right
    have : at_ = s.size := by omega
    subst this
    have hln : 0 < ln := by
      rcases Nat.eq_zero_or_pos ln with e | e
      · have := h4 e; omega
      · exact e
    have ed : s.data.toList.drop s.size = [] := List.drop_of_length_le (by rw [toList_len]; exact Nat.le_refl _)
    rw [ed] at hI
    have hF := hI.fin hln
    have hnz := hI.nz hln
    have hhl := hI.hl
    cases hd with
    | nil => exact absurd rfl hnz
    | cons x l =>
      have hp2 : pieceL (x :: l) 1 ((x :: l).length : Int) = some l := by
        unfold pieceL
        rw [if_pos (by simp only [List.length_cons]; omega)]
        simp
      have hsz := hI.sz
      have hrl := hI.rl
      simp only [List.length_cons] at hhl
      have hcb : CB ⟨x, l, rows⟩ := cb_of (n := 2000000) (by omega) (by omega) (by omega) hI.rb
      rw [if_neg (by omega), show atI (x :: l) 0 = some x from rfl, Option.bind_some, hp2, Option.bind_some, refValidate_eq _ hcb, Option.bind_some, hF, finV_cons]
      by_cases hv : validE ⟨x, l, rows⟩ = 0
      · rw [if_pos hv, if_pos hv]
        exact ⟨_, rfl, rfl⟩
      · rw [if_neg hv, if_neg hv]
        exact ⟨_, rfl, rfl⟩
end Go.Proofs.YthalofddjlhcjaaDoor
end
section
/- Plain: the tape. -/
namespace Go.Proofs.YthalofddjlhcjaaDoor
open Go
set_option linter.unusedVariables false
set_option linter.unusedSimpArgs false

/-- A tape at a place of it. -/
structure TapeOk (t : Tape) : Prop where
  a0 : 0 ≤ t.at_
  a1 : t.at_ ≤ t.l.length
  a2 : t.l.length ≤ 80
theorem made_Mod_in (x n : Int) (h1 : 1 ≤ n) (h2 : n < 4611686018427387904) : ∃ v, made_Mod x n = some v ∧ 0 ≤ v ∧ v < n := by
  have hx : x.tmod n < n := Int.tmod_lt_of_pos _ (by omega)
  have hy : -n < x.tmod n := Int.lt_tmod_of_pos x (by omega)
  unfold made_Mod
  rw [if_neg (by omega), chk_pos _ (by omega)]
  split
  · rw [wrapI (by omega) (by omega)]; exact ⟨_, rfl, by omega, by omega⟩
  · exact ⟨_, rfl, by omega, by omega⟩
theorem next_in {t : Tape} (ht : TapeOk t) (n : Int) (h1 : 1 ≤ n) (h2 : n < 4611686018427387904) : ∃ v t', made_Tape_Next t n = some (v, t') ∧ 0 ≤ v ∧ v < n ∧ TapeOk t' := by
  obtain ⟨a0, a1, a2⟩ := ht
  unfold made_Tape_Next
  split
  · exact ⟨_, _, rfl, by omega, by omega, a0, a1, a2⟩
  · rename_i hlt
    rw [wrapI (x := t.at_ + 1) (by omega) (by omega), wrapI (by omega) (by omega)]
    obtain ⟨k, hk⟩ := Int.eq_ofNat_of_zero_le a0
    have e : t.at_ + 1 - 1 = (k : Int) := by omega
    rw [e, atI_nat (by omega)]
    obtain ⟨v, hv, h3, h4⟩ := made_Mod_in t.l[k] n h1 h2
    simp only [Option.bind_some, hv]
    exact ⟨_, _, rfl, h3, h4, by simp only; omega, by simp only; omega, a2⟩
theorem new_in (l : List Int) : ∃ t, made_New l = some t ∧ TapeOk t := by
  unfold made_New
  split
  · rename_i h
    have := pieceL_to (xs := l) (k := 80) (by omega)
    simp only [Int.cast_ofNat_Int] at this
    rw [this]
    exact ⟨_, rfl, by simp, by simp, by simp only [List.length_take]; omega⟩
  · exact ⟨_, rfl, by simp, by simp, by simp; omega⟩
/-- Letters of a word. -/
def lettersB (m : Int) (w : ByteArray) : Prop := ∀ k, ∀ h : k < w.size, 97 ≤ (w[k].toNat : Int) ∧ (w[k].toNat : Int) < 97 + m
theorem bytesOf_size (l : List Int) : (bytesOf l).size = l.length := by simp [bytesOf, ByteArray.size]
theorem bytesOf_get (l : List Int) (k : Nat) (h : k < (bytesOf l).size) : (bytesOf l)[k] = UInt8.ofNat (l[k]'(by rw [bytesOf_size] at h; exact h)).toNat := by
  simp [bytesOf, ByteArray.getElem_eq_getElem_data]
theorem word_in {t : Tape} (ht : TapeOk t) (m most : Int) (hm : 1 ≤ m ∧ m ≤ 26) (hk : 0 ≤ most ∧ most < 1000) : ∃ w t', made_Tape_Word t m most = some (w, t') ∧ lettersB m w ∧ (w.size : Int) ≤ most ∧ TapeOk t' := by
  unfold made_Tape_Word
  rw [wrapI (by omega) (by omega)]
  obtain ⟨n, t1, e1, n0, n1, ht1⟩ := next_in ht (most + 1) (by omega) (by omega)
  simp only [e1, Option.bind_some]
  refine Exists.elim (loopG_rule (b := made_Tape_Word_b3 m) (fun s => 0 ≤ s.1 ∧ s.1 + s.2.2.2.length = n ∧ TapeOk ⟨s.2.1, s.2.2.1⟩ ∧ ∀ x ∈ s.2.2.2, 97 ≤ x ∧ x < 97 + m) (fun s => s.1.toNat) (fun r => lettersB m r.1 ∧ (r.1.size : Int) ≤ most ∧ TapeOk r.2) ?_ LFm (n, t1.l, t1.at_, []) ⟨n0, by simp, ht1, by simp⟩ (by simp only [LFm]; omega)) fun r h => ⟨r.1, r.2, h⟩
  rintro ⟨q, l, a, b⟩ ⟨i1, i2, i3, i4⟩
  simp only at i1 i2 i3 i4 ⊢
  simp only [made_Tape_Word_b3]
  by_cases hq : 0 < q
  · left
    obtain ⟨v, t2, e2, v0, v1, ht2⟩ := next_in i3 m (by omega) (by omega)
    rw [if_pos hq, e2]
    simp only [Option.bind_some]
    rw [chk_pos _ (by unfold capOk; omega), wrapI (x := q - 1) (by omega) (by omega), wrapI (x := 97 + v) (by omega) (by omega), wrap8 (by omega) (by omega)]
    refine ⟨_, rfl, ⟨by simp only; omega, by simp only [List.length_append, List.length_singleton]; omega, ht2, ?_⟩, by simp only; omega⟩
    intro x hx
    rcases List.mem_append.1 hx with h | h
    · exact i4 x h
    · have : x = 97 + v := by simpa using h
      omega
  · right
    rw [if_neg hq]
    refine ⟨_, rfl, fun k hk => ?_, by rw [bytesOf_size]; omega, i3⟩
    rw [bytesOf_get]
    have := i4 _ (List.getElem_mem (by rw [bytesOf_size] at hk; exact hk))
    generalize b[k]'_ = z at this
    simp only [UInt8.toNat_ofNat']
    omega
end Go.Proofs.YthalofddjlhcjaaDoor
end
section
/- Plain: steps and the flat form. -/
namespace Go.Proofs.YthalofddjlhcjaaDoor
open Go
set_option linter.unusedVariables false
set_option linter.unusedSimpArgs false

theorem rowIx_findI (c : Casc) (p : List Int) : findI (fun r => decide (r.pre = p)) c.rows = match rowIx c p with | some k => (k : Int) | none => -1 := rfl
/-- A cascade within bounds: what the proofs ask of its size. -/
theorem CB.of {c : Casc} (hv : Valid c) : CB c := by
  have h1 := hv.s1
  have h2 := hv.r1
  refine ⟨by omega, by omega, fun r hr => ?_⟩
  obtain ⟨i, hi, rfl⟩ := List.getElem_of_mem hr
  obtain ⟨f1, f2, f3, f4⟩ := rowB_facts (hv.row i hi)
  have h3 := hv.l2
  refine ⟨by omega, by omega, fun m hm => ?_⟩
  obtain ⟨j, hj, rfl⟩ := List.getElem_of_mem hm
  obtain ⟨g1, -⟩ := f4 j hj
  rw [getD_of_lt _ hj, getD_of_lt _ f1] at g1
  have := hv.sz _ f1
  rw [getD_of_lt _ f1] at this
  omega
theorem Runner_Step_eq (c : Casc) (hv : Valid c) (x : List Int) (l : Int) (hx : x.length < 4611686018427387904) : cascade_Runner_Step ⟨c⟩ x l = some (stepG c x l) := by
  have hcb := CB.of hv
  unfold cascade_Runner_Step stepG
  rw [isTuple_eq _ _ hx]
  simp only [Option.bind_some]
  by_cases ht : tupB c.sizes x = true
  case neg => rw [if_neg ht, if_neg (fun h => ht h.1)]
  rw [if_pos ht]
  by_cases h0 : l < 0
  · rw [if_pos h0, if_neg (by omega)]
  rw [if_neg h0]
  by_cases h1 : c.letters ≤ l
  · rw [if_pos h1, if_neg (by omega)]
  rw [if_neg h1, if_pos ⟨ht, by omega, by omega⟩]
  have hlen : x.length = c.sizes.length ∧ inB c.sizes x = true := by simpa [tupB] using ht
  have hs1 := hv.s1
  rw [chk_pos _ (by unfold makeOk; omega)]
  obtain ⟨n, rfl⟩ := Int.eq_ofNat_of_zero_le (show 0 ≤ l by omega)
  have hlt : (n : Int) < c.letters := by omega
  rw [loop_find (n := x.length) (fun k => ((k : Int), (stV c x n).take k ++ List.replicate (x.length - k) 0)) (fun k => !hasB c.rows (x.take k)) (fun _ => some ([], 23)) (x := some (stV c x n, 0)) (by simp) (by simp only [LFm]; omega)]
  · rw [find_all]
    simp only [Bool.not_not, Int.toNat_natCast]
    unfold stOk
    split <;> rfl
  · intro k hk
    simp only [cascade_Runner_Step_b5]
    rw [if_pos (by omega), atI_nat hk, pieceL_to (by omega)]
    simp only [Option.bind_some]
    rw [Search_eq _ _ hv.up (by exact hv.r1) (fun r hr => (hcb.row r hr).1)]
    simp only [Option.bind_some]
    cases hh : hasB c.rows (x.take k) with
    | false => simp
    | true =>
      obtain ⟨low, s, k1, k2, k3, e1, e2, e3⟩ := step_cell hv ht hlt hk hh
      rw [e1, e2, atI_nat k1]
      simp only [Option.bind_some, if_true]
      rw [atI_nat k2]
      simp only [Option.bind_some]
      rw [atI_nat k3]
      simp only [Option.bind_some]
      have hy : k < ((stV c x n).take k ++ List.replicate (x.length - k) 0).length := by simp [stV_length]; omega
      rw [atI_nat hy, wrapS (by omega)]
      simp only [Option.bind_some, Bool.not_true, Bool.false_eq_true, if_false]
      congr 2
      have hvv : (stV c x n)[k]? = some (stVal c x n k) := stV_get c x n k hk
      have hl := stV_length c x n
      rw [Int.toNat_natCast, ← e3, List.set_append_right _ _ (by simp; omega)]
      have e : k - (List.take k (stV c x n)).length = 0 := by simp; omega
      rw [e, List.take_add_one, hvv]
      obtain ⟨m, hm⟩ : ∃ m, x.length - k = m + 1 := ⟨x.length - k - 1, by omega⟩
      rw [hm, show x.length - (k + 1) = m by omega]
      simp [List.replicate_succ]
  · simp only [cascade_Runner_Step_b5]
    rw [if_neg (by omega)]
    simp [List.take_of_length_le (Nat.le_of_eq (stV_length c x n))]
theorem step_eq (c : Casc) (hv : Valid c) (x : List Int) (l : Int) (ht : tupB c.sizes x = true) (h0 : 0 ≤ l) (h1 : l < c.letters) : ref26_step c x l = some (stepG c x l) := by
  have hcb := CB.of hv
  have hlen : x.length = c.sizes.length ∧ inB c.sizes x = true := by simpa [tupB] using ht
  have hs1 := hv.s1
  unfold ref26_step stepG
  rw [if_pos ⟨ht, h0, h1⟩]
  obtain ⟨n, rfl⟩ := Int.eq_ofNat_of_zero_le h0
  rw [loop_find (n := x.length) (fun k => ((k : Int), (stV c x n).take k)) (fun k => !hasB c.rows (x.take k)) (fun _ => some ([], 23)) (x := some (stV c x n, 0)) (by simp) (by simp only [LFm]; omega)]
  · rw [find_all]
    simp only [Bool.not_not, Int.toNat_natCast]
    unfold stOk
    split <;> rfl
  · intro k hk
    simp only [ref26_step_b3]
    rw [if_pos (by omega), pieceL_to (by omega)]
    simp only [Option.bind_some]
    rw [Row_eq _ _ hcb, rowIx_findI]
    simp only [Option.bind_some]
    cases hh : hasB c.rows (x.take k) with
    | false => rw [rowIx_none hh]; simp
    | true =>
      obtain ⟨low, s, k1, k2, k3, e1, e2, e3⟩ := step_cell hv ht h1 hk hh
      rw [rowIx_has hv.up hh, e1]
      simp only
      rw [if_neg (by omega), atI_nat k1]
      simp only [Option.bind_some]
      rw [atI_nat k2]
      simp only [Option.bind_some]
      rw [atI_nat hk]
      simp only [Option.bind_some]
      rw [e2, atI_nat k3]
      simp only [Option.bind_some]
      have hl := stV_length c x n
      rw [chk_pos _ (by unfold capOk; simp; omega), wrapS (by omega)]
      simp only [Bool.not_true, Bool.false_eq_true, if_false]
      have hvv : (stV c x n)[k]? = some (stVal c x n k) := stV_get c x n k hk
      rw [List.take_add_one, hvv, e3]
      rfl
  · simp only [ref26_step_b3]
    rw [if_neg (by omega)]
    simp [List.take_of_length_le (Nat.le_of_eq (stV_length c x n))]
end Go.Proofs.YthalofddjlhcjaaDoor
end
section
/- Plain facts on the prefixes and rows that law26.build makes. No program. -/
namespace Go.Proofs.YthalofddjlhcjaaDoor
set_option linter.unusedVariables false
set_option linter.unusedSimpArgs false

theorem cmpL_snoc : ∀ (p q : List Int) (s t : Int), p.length = q.length → cmpL p q < 0 → cmpL (p ++ [s]) (q ++ [t]) < 0
  | [], [], s, t, _, h => by simp [cmpL] at h
  | [], _ :: _, s, t, hl, h => by simp at hl
  | _ :: _, [], s, t, hl, h => by simp at hl
  | a :: x, b :: y, s, t, hl, h => by
    simp only [List.cons_append, cmpL] at h ⊢
    split at h
    · rename_i h1; rw [if_pos h1]; decide
    · rename_i h1
      rw [if_neg h1]
      split at h
      · omega
      · rename_i h2
        rw [if_neg h2]
        exact cmpL_snoc x y s t (by simpa using hl) h
theorem cmpL_last : ∀ (p : List Int) (s t : Int), s < t → cmpL (p ++ [s]) (p ++ [t]) < 0
  | [], s, t, h => by simp [cmpL, h]
  | a :: x, s, t, h => by
    simp only [List.cons_append, cmpL]
    rw [if_neg (by omega), if_neg (by omega)]
    exact cmpL_last x s t h

theorem cmpR_short {a b : List Int} (h : a.length < b.length) : cmpR a b < 0 := by simp [cmpR, h]
theorem cmpR_same {a b : List Int} (h : a.length = b.length) : cmpR a b = cmpL a b := by simp [cmpR, h]

/-- The prefixes with one state more. -/
def nextOf (size : Nat) (p : List Int) : List (List Int) := (List.range size).map fun s : Nat => p ++ [(s : Int)]
def nextP (size : Nat) (pfx : List (List Int)) : List (List Int) := pfx.flatMap (nextOf size)

theorem nextOf_mem {size : Nat} {p q : List Int} (h : q ∈ nextOf size p) : ∃ s : Nat, s < size ∧ q = p ++ [(s : Int)] := by
  simp only [nextOf, List.mem_map, List.mem_range] at h
  obtain ⟨s, hs, rfl⟩ := h
  exact ⟨s, hs, rfl⟩

/-- The list of the prefixes of a length. -/
structure PfxOk (sizes : List Int) (pfx : List (List Int)) : Prop where
  len : ∀ p ∈ pfx, p.length = sizes.length
  inn : ∀ p ∈ pfx, inB sizes p = true
  up : pfx.Pairwise fun a b => cmpL a b < 0
  cnt : pfx.length ≤ 3 ^ sizes.length

theorem pfxOk_start : PfxOk [] [[]] := ⟨by simp, by simp [inB], by simp, by simp⟩

theorem inB_snoc {sizes p : List Int} {n s : Int} (hl : p.length = sizes.length) (h : inB sizes p = true) (h0 : 0 ≤ s) (h1 : s < n) : inB (sizes ++ [n]) (p ++ [s]) = true := by
  unfold inB at h ⊢
  rw [List.zip_append hl, List.all_append, h]
  simp [h0, h1]
theorem inB_more {sizes p : List Int} {n : Int} (hl : p.length ≤ sizes.length) (h : inB sizes p = true) : inB (sizes ++ [n]) p = true := by
  rw [inB_iff _ _ (by simp; omega)]
  intro i hi
  have := (inB_iff _ _ hl).1 h i hi
  rw [show (sizes ++ [n]).getD i 0 = sizes.getD i 0 by rw [List.getD_eq_getElem?_getD, List.getD_eq_getElem?_getD, List.getElem?_append_left (by omega)]]
  exact this

theorem nextP_len (size : Nat) (pfx : List (List Int)) : (nextP size pfx).length = size * pfx.length := by
  induction pfx with
  | nil => simp [nextP]
  | cons p l ih =>
    simp only [nextP] at ih ⊢
    rw [List.flatMap_cons, List.length_append, ih]
    simp [nextOf, Nat.mul_add, Nat.add_comm]

theorem nextP_up (size : Nat) : ∀ (pfx : List (List Int)) (n : Nat), (∀ p ∈ pfx, p.length = n) → (pfx.Pairwise fun a b => cmpL a b < 0) → (nextP size pfx).Pairwise fun a b => cmpL a b < 0
  | [], _, _, _ => by simp [nextP]
  | p :: l, n, hl, hu => by
    obtain ⟨h1, h2⟩ := List.pairwise_cons.1 hu
    have ih := nextP_up size l n (fun q hq => hl q (by simp [hq])) h2
    rw [nextP, List.flatMap_cons, List.pairwise_append]
    refine ⟨?_, ih, ?_⟩
    · rw [nextOf, List.pairwise_map]
      exact List.Pairwise.imp (R := fun a b : Nat => a < b) (fun {a b} (h : a < b) => cmpL_last p (a : Int) (b : Int) (by omega)) List.pairwise_lt_range
    · intro a ha b hb
      obtain ⟨s, hs, rfl⟩ := nextOf_mem ha
      obtain ⟨q, hq, hb⟩ := List.mem_flatMap.1 hb
      obtain ⟨t, ht, rfl⟩ := nextOf_mem hb
      exact cmpL_snoc p q _ _ (by rw [hl p (by simp), hl q (by simp [hq])]) (h1 q hq)

theorem pfxOk_next {sizes : List Int} {pfx : List (List Int)} (h : PfxOk sizes pfx) (size : Nat) (h3 : size ≤ 3) : PfxOk (sizes ++ [(size : Int)]) (nextP size pfx) := by
  refine ⟨?_, ?_, nextP_up size pfx _ h.len h.up, ?_⟩
  · intro q hq
    obtain ⟨p, hp, hq⟩ := List.mem_flatMap.1 hq
    obtain ⟨s, hs, rfl⟩ := nextOf_mem hq
    simp [h.len p hp]
  · intro q hq
    obtain ⟨p, hp, hq⟩ := List.mem_flatMap.1 hq
    obtain ⟨s, hs, rfl⟩ := nextOf_mem hq
    exact inB_snoc (h.len p hp) (h.inn p hp) (by omega) (by omega)
  · rw [nextP_len]
    simp only [List.length_append, List.length_cons, List.length_nil, Nat.zero_add, Nat.pow_succ]
    have := Nat.mul_le_mul h3 h.cnt
    omega

/-- The rows so far. -/
structure RowsOk (letters : Int) (sizes : List Int) (rows : List CRow) : Prop where
  row : ∀ r ∈ rows, rowB ⟨letters, sizes, []⟩ r = true
  up : rows.Pairwise fun a b => cmpR a.pre b.pre < 0

theorem rowsOk_start (letters : Int) : RowsOk letters [] [] := ⟨by simp, by simp⟩

theorem rowsOk_size {letters : Int} {sizes : List Int} {rows : List CRow} (h : RowsOk letters sizes rows) (n : Int) : RowsOk letters (sizes ++ [n]) rows := by
  refine ⟨fun r hr => ?_, h.up⟩
  have hl : r.pre.length < sizes.length := by
    have := h.row r hr
    simp only [rowB, Bool.and_eq_true, decide_eq_true_eq] at this
    exact this.1.1.1
  have := h.row r hr
  simp only [rowB, Bool.and_eq_true, decide_eq_true_eq] at this ⊢
  refine ⟨⟨⟨by simp; omega, inB_more (by omega) this.1.1.2⟩, this.1.2⟩, ?_⟩
  rw [show (sizes ++ [n]).getD r.pre.length 0 = sizes.getD r.pre.length 0 by rw [List.getD_eq_getElem?_getD, List.getD_eq_getElem?_getD, List.getElem?_append_left hl]]
  exact this.2

theorem rowsOk_short {letters : Int} {sizes : List Int} {rows : List CRow} (h : RowsOk letters sizes rows) : ∀ r ∈ rows, r.pre.length < sizes.length := fun r hr => by
  have := h.row r hr
  simp only [rowB, Bool.and_eq_true, decide_eq_true_eq] at this
  exact this.1.1.1

/-- One row more. -/
theorem rowsOk_snoc {letters : Int} {sizes : List Int} {n : Int} {rows : List CRow} {p : List Int} {maps : List (List Int)} (h : RowsOk letters (sizes ++ [n]) rows) (hp : p.length = sizes.length) (hin : inB sizes p = true)
    (hm : (maps.length : Int) = letters) (hmm : ∀ m ∈ maps, mapB n m = true) (hlt : ∀ r ∈ rows, cmpR r.pre p < 0) : RowsOk letters (sizes ++ [n]) (rows ++ [⟨p, maps⟩]) := by
  refine ⟨fun r hr => ?_, ?_⟩
  · rcases List.mem_append.1 hr with hr | hr
    · exact h.row r hr
    · obtain rfl : r = ⟨p, maps⟩ := by simpa using hr
      simp only [rowB, Bool.and_eq_true, decide_eq_true_eq, List.all_eq_true]
      refine ⟨⟨⟨by simp; omega, inB_more (by omega) hin⟩, hm⟩, ?_⟩
      rw [hp, show (sizes ++ [n]).getD sizes.length 0 = n by rw [List.getD_eq_getElem?_getD, List.getElem?_append_right (by omega)]; simp]
      exact hmm
  · rw [List.pairwise_append]
    exact ⟨h.up, by simp, fun a ha b hb => by
      have e : b = ⟨p, maps⟩ := by simpa using hb
      subst e
      exact hlt a ha⟩

theorem valid_build {letters : Int} {sizes : List Int} {rows : List CRow} (h : RowsOk letters sizes rows) (hl : 1 ≤ letters ∧ letters ≤ 6) (hs : sizes.length ≤ 24) (hs2 : ∀ n ∈ sizes, 1 ≤ n ∧ n ≤ 32) (hr : rows.length ≤ 48000) : validE ⟨letters, sizes, rows⟩ = 0 := by
  unfold validE
  simp only []
  rw [if_neg (by omega), if_neg (by omega), if_pos]
  rw [Bool.and_eq_true]
  refine ⟨?_, ?_⟩
  · simp only [List.all_eq_true, Bool.and_eq_true, decide_eq_true_eq]; exact hs2
  · simp only [rowsUpB, List.all_eq_true, List.mem_range, Bool.and_eq_true, Bool.or_eq_true, decide_eq_true_eq]
    intro i hi
    rw [getD_of_lt _ hi]
    refine ⟨h.row _ (List.getElem_mem _), ?_⟩
    by_cases h0 : i = 0
    · exact .inl h0
    · right
      rw [getD_of_lt _ (by omega)]
      exact List.pairwise_iff_getElem.1 h.up (i - 1) i (by omega) hi (by omega)
end Go.Proofs.YthalofddjlhcjaaDoor
end
section
/- Plain: the cascades that the tape gives. -/
namespace Go.Proofs.YthalofddjlhcjaaDoor
open Go
set_option linter.unusedVariables false
set_option linter.unusedSimpArgs false
set_option maxHeartbeats 1000000

/-- What is known of a built cascade. -/
structure Built (c : Casc) : Prop where
  l1 : 1 ≤ c.letters
  l2 : c.letters ≤ 2
  s1 : c.sizes.length ≤ 3
  sz : ∀ z ∈ c.sizes, 1 ≤ z ∧ z ≤ 3
  rl : c.rows.length ≤ 40 * c.sizes.length
  rok : RowsOk c.letters c.sizes c.rows
theorem built_valid {c : Casc} (h : Built c) : validE c = 0 := valid_build h.rok ⟨h.l1, by have := h.l2; omega⟩ (by have := h.s1; omega) (fun n hn => by have := h.sz n hn; omega) (by have := h.rl; have := h.s1; omega)
/-- The rows so far come before the prefixes from k on. -/
def Ahead (rs : List CRow) (ps : List (List Int)) (k : Nat) : Prop := ∀ r ∈ rs, ∀ j, (h : j < ps.length) → k ≤ j → cmpR r.pre ps[j] < 0
theorem ahead_next {rs : List CRow} {ps : List (List Int)} {k : Nat} (h : Ahead rs ps k) : Ahead rs ps (k + 1) := fun r hr j hj hk => h r hr j hj (by omega)
theorem ahead_snoc {szs : List Int} {rs : List CRow} {ps : List (List Int)} {k : Nat} {ms : List (List Int)} (hp : PfxOk szs ps) (hk : k < ps.length) (h : Ahead rs ps k) : Ahead (rs ++ [⟨ps[k], ms⟩]) ps (k + 1) := fun r hr j hj hkj => by
  rcases List.mem_append.1 hr with hr | hr
  · exact h r hr j hj (by omega)
  · obtain rfl : r = ⟨ps[k], ms⟩ := by simpa using hr
    rw [cmpR_same (by rw [hp.len _ (List.getElem_mem _), hp.len _ (List.getElem_mem _)])]
    exact List.pairwise_iff_getElem.1 hp.up k j hk hj (by omega)
theorem ahead_first {lt : Int} {szs : List Int} {rs : List CRow} {ps : List (List Int)} (hr : RowsOk lt szs rs) (hp : PfxOk szs ps) : Ahead rs ps 0 := fun r h j hj _ => cmpR_short (by rw [hp.len _ (List.getElem_mem _)]; exact rowsOk_short hr r h)
theorem pow3_le {n : Nat} (h : n ≤ 3) : 3 ^ n ≤ 27 := by
  match n, h with
  | 0, _ => decide
  | 1, _ => decide
  | 2, _ => decide
  | 3, _ => decide
theorem pfx_loop {ρ : Type} {b : Int × List (List Int) → Option ((Int × List (List Int)) ⊕ ρ)} {p : List Int} {sz : Nat} {X : List (List Int) → Option ρ} (nx : List (List Int)) (hp : p.length ≤ 100) (hn : nx.length + sz ≤ 1000000)
    (hb : ∀ s n, b (s, n) = if s < (sz : Int) then (chk (capOk 8 p.length) <| chk (capOk 8 (p.length + 1)) <| chk (capOk 24 (n.length + 1)) <| nextG (IntKind.i64.wrap (s + 1), n ++ [p ++ [s]])) else exitG (X n)) : loopG b LFm (0, nx) = X (nx ++ nextOf sz p) := by
  refine loop_to sz (fun k => ((k : Int), nx ++ nextOf k p)) (by simp [nextOf]) (by simp only [LFm]; omega) (fun k hk => ?_) ?_
  · have : (nextOf k p).length = k := by simp [nextOf]
    rw [hb, if_pos (by omega), chk_pos _ (by unfold capOk; omega), chk_pos _ (by unfold capOk; omega), chk_pos _ (by unfold capOk; simp only [List.length_append]; omega), wrapS (by omega)]
    congr 2
    rw [List.append_assoc]
    congr 1
    simp [nextOf, List.range_succ]
  · rw [hb, if_neg (by omega)]
/-- A map's cells. -/
theorem cells_in (v836 v943 : Int × Tape) (w929 : Int) (w932 : List (List Int)) (v942 : Int × Tape) (sz : Nat) (h1 : IntKind.i64.wrap (1 + v836.1) = sz) (hs : 1 ≤ sz ∧ sz ≤ 3) (hv : 0 ≤ v943.1 ∧ v943.1 < sz) (ht : TapeOk v943.2) (hl : w932.length ≤ 100) (hw : 0 ≤ w929 ∧ w929 < 100) :
    ∃ m t', loopG (law26_build_b20 v836 w929 w932 v942 v943) LFm (0, v943.2.l, v943.2.at_, []) = some (.inl (w929 + 1, t'.l, t'.at_, w932 ++ [m])) ∧ TapeOk t' ∧ mapB sz m = true := by
  refine Exists.elim (loopG_rule (b := law26_build_b20 v836 w929 w932 v942 v943) (fun s => ∃ (k : Nat) (t : Tape) (m : List Int), k ≤ sz ∧ TapeOk t ∧ m.length = k ∧ (∀ x ∈ m, 0 ≤ x ∧ x < sz) ∧ s = ((k : Int), t.l, t.at_, m)) (fun s => sz - s.1.toNat)
    (fun o => ∃ m t', o = .inl (w929 + 1, t'.l, t'.at_, w932 ++ [m]) ∧ TapeOk t' ∧ mapB sz m = true) ?_ LFm _ ⟨0, v943.2, [], by omega, ht, rfl, by simp, rfl⟩ (by simp only [LFm]; omega)) fun r h => ?_
  · rintro _ ⟨k, t, m, hk, htk, hm, hin, rfl⟩
    simp only [law26_build_b20, h1]
    by_cases hlt : k < sz
    case neg =>
      right
      rw [if_neg (by omega), chk_pos _ (by unfold capOk; omega), wrapI (by omega) (by omega)]
      refine ⟨_, rfl, m, t, rfl, htk, ?_⟩
      unfold mapB
      rw [Bool.and_eq_true, decide_eq_true_eq]
      refine ⟨by omega, ?_⟩
      simp only [List.all_eq_true, Bool.and_eq_true, decide_eq_true_eq]
      exact hin
    left
    have more : ∀ (t' : Tape) (x : Int), TapeOk t' → 0 ≤ x ∧ x < sz → (∃ s', nextG (IntKind.i64.wrap ((k : Int) + 1), t'.l, t'.at_, m ++ [x]) = some (Sum.inl (β := (Int × List Int × Int × List (List Int)) ⊕ ((Int × List Int × Int × List CRow × List (List Int)) ⊕ ((Int × List Int × Int × List Int × List CRow × List (List Int)) ⊕ (Casc × Tape)))) s') ∧ (∃ (k : Nat) (t : Tape) (m : List Int), k ≤ sz ∧ TapeOk t ∧ m.length = k ∧ (∀ x ∈ m, 0 ≤ x ∧ x < sz) ∧ s' = ((k : Int), t.l, t.at_, m)) ∧ sz - s'.1.toNat < sz - ((k : Int)).toNat) := fun t' x ht' hx => by
      rw [wrapS (by omega)]
      refine ⟨_, rfl, ⟨k + 1, t', m ++ [x], by omega, ht', by simp [hm], ?_, rfl⟩, by simp only [Int.toNat_natCast]; omega⟩
      intro y hy
      rcases List.mem_append.1 hy with h | h
      · exact hin y h
      · have : y = x := by simpa using h
        rw [this]; exact hx
    rw [if_pos (by omega)]
    by_cases h0 : v942.1 = 0
    · rw [if_pos h0, chk_pos _ (by omega), chk_pos _ (by unfold capOk; omega), wrapI (x := (k : Int) + v943.1) (by omega) (by omega)]
      have e1 : 0 ≤ Int.tmod ((k : Int) + v943.1) sz := Int.tmod_nonneg _ (by omega)
      have e2 : Int.tmod ((k : Int) + v943.1) sz < sz := Int.tmod_lt_of_pos _ (by omega)
      exact more t _ htk ⟨e1, e2⟩
    · rw [if_neg h0]
      by_cases h1 : v942.1 = 1
      · rw [if_pos h1, chk_pos _ (by unfold capOk; omega)]
        exact more t _ htk hv
      · rw [if_neg h1]
        obtain ⟨v, t2, e2, v0, v1, ht2⟩ := next_in htk sz (by omega) (by omega)
        rw [show (⟨t.l, t.at_⟩ : Tape) = t from rfl, e2]
        simp only [Option.bind_some]
        rw [chk_pos _ (by unfold capOk; omega)]
        exact more t2 v ht2 ⟨v0, v1⟩
  · obtain ⟨h2, m, t', rfl, h3, h4⟩ := h
    exact ⟨m, t', h2, h3, h4⟩
end Go.Proofs.YthalofddjlhcjaaDoor
end
section
/- Plain: the cascades that the tape gives, whole; its tuples. -/
namespace Go.Proofs.YthalofddjlhcjaaDoor
open Go
set_option linter.unusedVariables false
set_option linter.unusedSimpArgs false
set_option maxHeartbeats 1000000

/-- The maps of a row, and the prefixes behind it. -/
theorem maps_in (v477 v836 : Int × Tape) (w874 : Nat) (nx : List (List Int)) (rs : List CRow) (p : List Int) (t : Tape) (lt : Nat) (sz : Nat) (h0 : IntKind.i64.wrap (1 + v477.1) = lt) (hlt : 1 ≤ lt ∧ lt ≤ 2) (h1 : IntKind.i64.wrap (1 + v836.1) = sz) (hs : 1 ≤ sz ∧ sz ≤ 3) (ht : TapeOk t)
    (hr : rs.length ≤ 1000) (hp : p.length ≤ 100) (hn : nx.length ≤ 1000) (hw : w874 ≤ 1000) :
    ∃ (ms : List (List Int)) (t' : Tape), loopG (law26_build_b15 v477 v836 (w874 : Int) nx rs p) LFm (0, t.l, t.at_, []) = some (.inl (((w874 + 1 : Nat) : Int), t'.l, t'.at_, rs ++ [⟨p, ms⟩], nx ++ nextOf sz p)) ∧ TapeOk t' ∧ ms.length = lt ∧ ∀ m ∈ ms, mapB sz m = true := by
  refine Exists.elim (loopG_rule (b := law26_build_b15 v477 v836 (w874 : Int) nx rs p) (fun s => ∃ (k : Nat) (t : Tape) (ms : List (List Int)), k ≤ lt ∧ TapeOk t ∧ ms.length = k ∧ (∀ m ∈ ms, mapB sz m = true) ∧ s = ((k : Int), t.l, t.at_, ms)) (fun s => lt - s.1.toNat)
    (fun o => ∃ (ms : List (List Int)) (t' : Tape), o = .inl (((w874 + 1 : Nat) : Int), t'.l, t'.at_, rs ++ [⟨p, ms⟩], nx ++ nextOf sz p) ∧ TapeOk t' ∧ ms.length = lt ∧ ∀ m ∈ ms, mapB sz m = true) ?_ LFm _ ⟨0, t, [], by omega, ht, rfl, by simp, rfl⟩ (by simp only [LFm]; omega)) fun r h => ?_
  · rintro _ ⟨k, t, ms, hk, htk, hm, hin, rfl⟩
    simp only [law26_build_b15, h0]
    by_cases hkl : k < lt
    case neg =>
      right
      rw [if_neg (by omega), chk_pos _ (by unfold capOk; omega)]
      rw [pfx_loop (p := p) (sz := sz) (X := fun n => nextG (((w874 + 1 : Nat) : Int), t.l, t.at_, rs ++ [⟨p, ms⟩], n)) nx hp (by omega)]
      · exact ⟨_, rfl, ms, t, rfl, htk, by omega, hin⟩
      · intro s n
        simp only [law26_build_b31a, h1]
        rw [wrapS (k := w874) (by omega)]
    left
    rw [if_pos (by omega)]
    obtain ⟨v, t2, e2, v0, v1, ht2⟩ := next_in htk 3 (by omega) (by omega)
    rw [show (⟨t.l, t.at_⟩ : Tape) = t from rfl, e2]
    simp only [Option.bind_some]
    obtain ⟨u, t3, e3, u0, u1, ht3⟩ := next_in ht2 sz (by omega) (by omega)
    rw [h1, e3]
    simp only [Option.bind_some]
    obtain ⟨m, t4, e4, ht4, hmb⟩ := cells_in v836 (u, t3) (k : Int) ms (v, t2) sz h1 hs ⟨u0, u1⟩ ht3 (by omega) (by omega)
    rw [e4]
    refine ⟨_, rfl, ⟨k + 1, t4, ms ++ [m], by omega, ht4, by simp [hm], ?_, by simp⟩, by simp only; omega⟩
    intro y hy
    rcases List.mem_append.1 hy with h | h
    · exact hin y h
    · have : y = m := by simpa using h
      rw [this]; exact hmb
  · obtain ⟨h2, m, t', rfl, h3, h4⟩ := h
    exact ⟨m, t', h2, h3, h4⟩
/-- A component: its rows and the next prefixes. -/
theorem comp_in (v477 v836 : Int × Tape) (n : Int) (szs : List Int) (ps : List (List Int)) (rs : List CRow) (t : Tape) (lt : Nat) (sz : Nat) (h0 : IntKind.i64.wrap (1 + v477.1) = lt) (hlt : 1 ≤ lt ∧ lt ≤ 2) (h1 : IntKind.i64.wrap (1 + v836.1) = sz) (hs : 1 ≤ sz ∧ sz ≤ 3) (ht : TapeOk t)
    (hn : 0 < n ∧ n ≤ 3) (hz : szs.length ≤ 2) (hr : RowsOk lt szs rs) (hp : PfxOk szs ps) (hrl : rs.length ≤ 40 * szs.length) :
    ∃ (rs' : List CRow) (t' : Tape), loopG (law26_build_b10 v477 n szs ps v836) LFm (0, t.l, t.at_, rs, []) = some (.inl (n - 1, t'.l, t'.at_, szs ++ [(sz : Int)], rs', nextP sz ps)) ∧ TapeOk t' ∧ RowsOk lt (szs ++ [(sz : Int)]) rs' ∧ rs'.length ≤ 40 * (szs.length + 1) := by
  have hpc : ps.length ≤ 27 := Nat.le_trans hp.cnt (pow3_le (by omega))
  refine Exists.elim (loopG_rule (b := law26_build_b10 v477 n szs ps v836) (fun s => ∃ (k : Nat) (t : Tape) (rs' : List CRow), k ≤ ps.length ∧ TapeOk t ∧ RowsOk lt (szs ++ [(sz : Int)]) rs' ∧ rs'.length ≤ 40 * szs.length + k ∧ Ahead rs' ps k ∧ s = ((k : Int), t.l, t.at_, rs', nextP sz (ps.take k))) (fun s => ps.length - s.1.toNat)
    (fun o => ∃ (rs' : List CRow) (t' : Tape), o = .inl (n - 1, t'.l, t'.at_, szs ++ [(sz : Int)], rs', nextP sz ps) ∧ TapeOk t' ∧ RowsOk lt (szs ++ [(sz : Int)]) rs' ∧ rs'.length ≤ 40 * (szs.length + 1)) ?_ LFm (0, t.l, t.at_, rs, [])
    ⟨0, t, rs, by omega, ht, rowsOk_size hr _, by omega, ahead_first hr hp, by simp [nextP]⟩ (by simp only [LFm]; omega)) fun r h => ?_
  · rintro _ ⟨k, t, rs', hk, htk, hrok, hrl', hah, rfl⟩
    simp only [law26_build_b10]
    by_cases hkl : k < ps.length
    case neg =>
      right
      rw [if_neg (by omega), h1, wrapI (by omega) (by omega), List.take_of_length_le (by omega)]
      exact ⟨_, rfl, rs', t, rfl, htk, hrok, by omega⟩
    left
    rw [if_pos (by omega), atI_nat hkl]
    simp only [Option.bind_some]
    obtain ⟨v, t2, e2, v0, v1, ht2⟩ := next_in htk 12 (by omega) (by omega)
    rw [show (⟨t.l, t.at_⟩ : Tape) = t from rfl, e2]
    simp only [Option.bind_some]
    have hpl := hp.len _ (List.getElem_mem hkl)
    have hpk : ps.take (k + 1) = ps.take k ++ [ps[k]] := by rw [List.take_add_one, List.getElem?_eq_getElem hkl]; rfl
    have hnx : nextP sz (ps.take (k + 1)) = nextP sz (ps.take k) ++ nextOf sz ps[k] := by rw [hpk, nextP, nextP, List.flatMap_append]; simp
    have hnl : (nextP sz (ps.take k)).length ≤ 100 := by
      rw [nextP_len]
      have h1 : (ps.take k).length ≤ 27 := by simp; omega
      have := Nat.mul_le_mul hs.2 h1
      omega
    by_cases hm : v = 11
    · rw [if_pos hm]
      rw [pfx_loop (p := ps[k]) (sz := sz) (X := fun n => nextG (((k + 1 : Nat) : Int), t2.l, t2.at_, rs', n)) (nextP sz (ps.take k)) (by omega) (by omega)]
      · exact ⟨_, rfl, ⟨k + 1, t2, rs', by omega, ht2, hrok, by omega, ahead_next hah, by rw [hnx]⟩, by simp only [Int.toNat_natCast]; omega⟩
      · intro s n
        simp only [law26_build_b31, h1]
        rw [wrapS (k := k) (by omega)]
    · rw [if_neg hm]
      obtain ⟨ms, t3, e3, ht3, hml, hmm⟩ := maps_in v477 v836 k (nextP sz (ps.take k)) rs' ps[k] t2 lt sz h0 hlt h1 hs ht2 (by omega) (by omega) (by omega) (by omega)
      rw [e3]
      exact ⟨_, rfl, ⟨k + 1, t3, rs' ++ [⟨ps[k], ms⟩], by omega, ht3, rowsOk_snoc hrok hpl (hp.inn _ (List.getElem_mem hkl)) (by omega) hmm (fun r hr => hah r hr k hkl (Nat.le_refl k)), by simp; omega, ahead_snoc hp hkl hah, by rw [hnx]⟩, by simp only [Int.toNat_natCast]; omega⟩
  · obtain ⟨h2, m, t', rfl, h3, h4⟩ := h
    exact ⟨m, t', h2, h3, h4⟩
theorem build_in {t : Tape} (ht : TapeOk t) : ∃ c t', law26_build t = some (c, t') ∧ Built c ∧ TapeOk t' := by
  unfold law26_build
  obtain ⟨v, t2, e2, v0, v1, ht2⟩ := next_in ht 2 (by omega) (by omega)
  rw [e2]
  simp only [Option.bind_some]
  obtain ⟨N, t3, e3, n0, n1, ht3⟩ := next_in ht2 4 (by omega) (by omega)
  rw [e3]
  simp only [Option.bind_some]
  obtain ⟨lt, hlt⟩ : ∃ lt : Nat, (lt : Int) = 1 + v := ⟨(1 + v).toNat, by omega⟩
  have hw : IntKind.i64.wrap (1 + v) = lt := by rw [wrapI (by omega) (by omega)]; omega
  refine Exists.elim (loopG_rule (b := law26_build_b4 (v, t2)) (fun s => ∃ (n : Int) (t : Tape) (szs : List Int) (rs : List CRow) (ps : List (List Int)), 0 ≤ n ∧ n + szs.length = N ∧ TapeOk t ∧ (∀ z ∈ szs, 1 ≤ z ∧ z ≤ 3) ∧ RowsOk lt szs rs ∧ PfxOk szs ps ∧ rs.length ≤ 40 * szs.length ∧ s = (n, t.l, t.at_, szs, rs, ps)) (fun s => s.1.toNat)
    (fun r => Built r.1 ∧ TapeOk r.2) ?_ LFm _ ⟨N, t3, [], [], [[]], n0, by simp, ht3, by simp, rowsOk_start _, pfxOk_start, by simp, rfl⟩ (by simp only [LFm]; omega)) fun r h => ⟨r.1, r.2, h.1, h.2.1, h.2.2⟩
  rintro _ ⟨n, t, szs, rs, ps, hn0, hn, htk, hz, hr, hp, hrl, rfl⟩
  simp only [law26_build_b4]
  by_cases hpos : 0 < n
  case neg =>
    right
    rw [if_neg hpos, hw]
    exact ⟨_, rfl, ⟨by simp only; omega, by simp only; omega, by simp only; omega, hz, hrl, hr⟩, htk⟩
  left
  rw [if_pos hpos]
  obtain ⟨z, t4, e4, z0, z1, ht4⟩ := next_in htk 3 (by omega) (by omega)
  rw [show (⟨t.l, t.at_⟩ : Tape) = t from rfl, e4]
  simp only [Option.bind_some]
  obtain ⟨sz, hsz⟩ : ∃ sz : Nat, (sz : Int) = 1 + z := ⟨(1 + z).toNat, by omega⟩
  have hwz : IntKind.i64.wrap (1 + z) = sz := by rw [wrapI (by omega) (by omega)]; omega
  rw [chk_pos _ (by unfold capOk; omega)]
  obtain ⟨rs', t5, e5, ht5, hr5, hrl5⟩ := comp_in (v, t2) (z, t4) n szs ps rs t4 lt sz hw (by omega) hwz (by omega) ht4 (by omega) (by omega) hr hp hrl
  rw [e5]
  refine ⟨_, rfl, ⟨n - 1, t5, szs ++ [(sz : Int)], rs', nextP sz ps, by omega, by simp; omega, ht5, ?_, hr5, pfxOk_next hp sz (by omega), by simp; omega, rfl⟩, by simp only; omega⟩
  intro y hy
  rcases List.mem_append.1 hy with h | h
  · exact hz y h
  · have : y = sz := by simpa using h
    omega
theorem tuple_in {t : Tape} (ht : TapeOk t) (c : Casc) (hz : ∀ z ∈ c.sizes, 1 ≤ z ∧ z ≤ 32) (hs : c.sizes.length ≤ 24) : ∃ x t', law26_tuple t c = some (x, t') ∧ tupB c.sizes x = true ∧ TapeOk t' := by
  unfold law26_tuple
  refine Exists.elim (loopG_rule (b := law26_tuple_b3 c) (fun s => ∃ (k : Nat) (t : Tape) (x : List Int), k ≤ c.sizes.length ∧ TapeOk t ∧ x.length = k ∧ (∀ i, i < k → 0 ≤ x.getD i 0 ∧ x.getD i 0 < c.sizes.getD i 0) ∧ s = ((k : Int), t.l, t.at_, x)) (fun s => c.sizes.length - s.1.toNat)
    (fun r => tupB c.sizes r.1 = true ∧ TapeOk r.2) ?_ LFm _ ⟨0, t, [], by omega, ht, rfl, fun i hi => by omega, rfl⟩ (by simp only [LFm]; omega)) fun r h => ⟨r.1, r.2, h.1, h.2.1, h.2.2⟩
  rintro _ ⟨k, t, x, hk, htk, hx, hin, rfl⟩
  simp only [law26_tuple_b3]
  by_cases hkl : k < c.sizes.length
  case neg =>
    right
    rw [if_neg (by omega)]
    refine ⟨_, rfl, ?_, htk⟩
    unfold tupB
    rw [Bool.and_eq_true, decide_eq_true_eq, inB_iff _ _ (by simp only; omega)]
    exact ⟨by simp only; omega, fun i hi => hin i (by simp only at hi; omega)⟩
  left
  have hzk := hz _ (List.getElem_mem hkl)
  rw [if_pos (by omega), atI_nat hkl]
  simp only [Option.bind_some]
  obtain ⟨v, t2, e2, v0, v1, ht2⟩ := next_in htk c.sizes[k] (by omega) (by omega)
  rw [show (⟨t.l, t.at_⟩ : Tape) = t from rfl, e2]
  simp only [Option.bind_some]
  rw [chk_pos _ (by unfold capOk; omega), wrapS (by omega)]
  refine ⟨_, rfl, ⟨k + 1, t2, x ++ [v], by omega, ht2, by simp [hx], ?_, rfl⟩, by simp only [Int.toNat_natCast]; omega⟩
  intro i hi
  by_cases e : i = k
  · subst e
    rw [getD_of_lt 0 (show i < (x ++ [v]).length by simp; omega), List.getElem_append_right (by omega), getD_of_lt 0 hkl]
    simp only [List.getElem_singleton]
    exact ⟨v0, v1⟩
  · have hi2 : i < x.length := by omega
    have := hin i (by omega)
    rw [getD_of_lt 0 hi2] at this
    rw [getD_of_lt 0 (show i < (x ++ [v]).length by simp; omega), List.getElem_append_left hi2]
    exact this
end Go.Proofs.YthalofddjlhcjaaDoor
end
section
/- What a level answers, all higher ones do. Over any program. -/
namespace Go.Proofs.YthalofddjlhcjaaDoor
set_option linter.unusedVariables false
set_option linter.unusedSimpArgs false

/-- The second knows all that the first does. -/
def Mo (C0 C1 : Contract) : Prop := ∀ f a o, C0 f a = some o → C1 f a = some o
section
variable {P : Program} {C0 C1 : Contract}

theorem callF_mo (hMo : Mo C0 C1) {wio : FuncId → Nat → Bool} {fr fr' : Fr} {f : FuncId} {args : List E} {dst : Option Nat} (h : callF C0 wio fr f args dst = some fr') : Ev fun m => callF C1 wio fr f args dst = some fr' := by
  unfold callF at h ⊢
  split at h
  · cases h
  · rename_i ts deps io ha
    split at h
    · cases h
    · rename_i r outs hc
      refine ⟨0, fun m _ => ?_⟩
      show (match C1 f ts with | none => none | some (r, outs) => _) = _
      rw [hMo _ _ _ hc]
      exact h

theorem opF_mo (hMo : Mo C0 C1) {wio : FuncId → Nat → Bool} {fr fr' : Fr} {o : Oper} (h : opF P C0 wio fr o = some fr') : Ev fun m => opF P C1 wio fr o = some fr' := by
  unfold opF at h ⊢
  split at h
  · exact .pure fun _ => h
  · split at h
    · exact callF_mo hMo h
    · cases h
  · exact .pure fun _ => h
  · exact .pure fun _ => h
theorem calmF_mo (hMo : Mo C0 C1) {wio : FuncId → Nat → Bool} {fr fr' : Fr} {o : Oper} (h : calmF P C0 wio fr o = some fr') : Ev fun m => calmF P C1 wio fr o = some fr' := by
  unfold calmF at h ⊢
  split at h
  · split at h
    · split at h
      · exact callF_mo hMo h
      · cases h
    · cases h
  · exact .pure fun _ => h
theorem wrF_mo (hMo : Mo C0 C1) {wio : FuncId → Nat → Bool} {M : Nat → Bool} {fr fr' : Fr} {o : Oper} (h : wrF C0 wio M fr o = some fr') : Ev fun m => wrF C1 wio M fr o = some fr' := by
  unfold wrF at h ⊢
  split at h
  · split at h
    · cases h
    · split at h
      · exact callF_mo hMo h
      · split at h
        · rename_i hM
          simp only [hM, if_true]
          exact callF_mo hMo h
        · cases h
      · cases h
  · cases h

theorem regF_mo (hMo : Mo C0 C1) {wio : FuncId → Nat → Bool} {ops : Array Oper} : ∀ {l : List Oper} {fr fr' : Fr}, regF P C0 wio ops l fr = some fr' → Ev fun m => regF P C1 wio ops l fr = some fr'
  | [], fr, fr', h => .pure fun _ => h
  | o :: rest, fr, fr', h => by
    simp only [regF] at h ⊢
    split at h
    · cases h
    · split at h
      · rename_i fr1 h1
        exact (opF_mo hMo h1).both (regF_mo hMo h) fun m a1 a2 => by rw [a1]; exact a2
      · cases h
    · split at h
      · rename_i fr1 h1
        exact (regF_mo hMo h)
      · cases h
theorem drawZ_mo (hMo : Mo C0 C1) {wio : FuncId → Nat → Bool} {same : Bool} {M : Nat → Bool} {ops : Array Oper} : ∀ {l : List (Nat × Oper × Nat)} {fr fr' : Fr}, drawZ P C0 wio same M ops l fr = some fr' → Ev fun m => drawZ P C1 wio same M ops l fr = some fr'
  | [], fr, fr', h => .pure fun _ => h
  | (k, o, mk) :: rest, fr, fr', h => by
    simp only [drawZ] at h ⊢
    split at h
    · cases h
    · split at h
      · exact drawZ_mo hMo h
      · cases h
    · split at h
      · rename_i hm
        simp only [if_pos hm]
        split at h
        · split at h
          · exact drawZ_mo hMo h
          · cases h
        · cases h
      · rename_i hm
        simp only [if_neg hm]
        split at h
        · rename_i fr1 h1
          have h2 : Ev fun m => (if mk = 2 then opF P C1 wio fr o else if same = true then calmF P C1 wio fr o else wrF C1 wio M fr o) = some fr1 := by
            by_cases e : mk = 2
            · simp only [if_pos e] at h1 ⊢; exact opF_mo hMo h1
            · simp only [if_neg e] at h1 ⊢
              by_cases e2 : same = true
              · simp only [if_pos e2] at h1 ⊢; exact calmF_mo hMo h1
              · simp only [if_neg e2] at h1 ⊢; exact wrF_mo hMo h1
          exact h2.both (drawZ_mo hMo h) fun m a1 a2 => by rw [a1]; exact a2
        · cases h

theorem drawT_mo (hMo : Mo C0 C1) {wio : FuncId → Nat → Bool} {same : Bool} {M : Nat → Bool} {ops : Array Oper} : ∀ {l : SchT} {fr fr' : Fr}, drawT P C0 wio same M ops l fr = some fr' → Ev fun m => drawT P C1 wio same M ops l fr = some fr'
  | .nil, fr, fr', h => .pure fun _ => h
  | .alt x y, fr, fr', h => by
    simp only [drawT] at h ⊢
    split at h
    · rename_i f1 f2 h1 h2
      split at h
      · rename_i hs
        cases h
        exact (drawT_mo hMo h1).both (drawT_mo hMo h2) fun m a1 a2 => by rw [a1, a2]; exact if_pos hs
      · cases h
    · cases h
  | .op k mk rest, fr, fr', h => by
    simp only [drawT] at h ⊢
    split at h
    · cases h
    rename_i o ho
    try simp only [ho]
    split at h
    · cases h
    · split at h
      · exact drawT_mo hMo h
      · cases h
    · split at h
      · rename_i hm
        simp only [if_pos hm]
        split at h
        · split at h
          · exact drawT_mo hMo h
          · cases h
        · cases h
      · rename_i hm
        simp only [if_neg hm]
        split at h
        · rename_i fr1 h1
          have h2 : Ev fun m => (if mk = 2 then opF P C1 wio fr o else if same = true then calmF P C1 wio fr o else wrF C1 wio M fr o) = some fr1 := by
            by_cases e : mk = 2
            · simp only [if_pos e] at h1 ⊢; exact opF_mo hMo h1
            · simp only [if_neg e] at h1 ⊢
              by_cases e2 : same = true
              · simp only [if_pos e2] at h1 ⊢; exact calmF_mo hMo h1
              · simp only [if_neg e2] at h1 ⊢; exact wrF_mo hMo h1
          exact h2.both (drawT_mo hMo h) fun m a1 a2 => by rw [a1]; exact a2
        · cases h
theorem drawAny_mo (hMo : Mo C0 C1) {c : Cfg} {id : Nat} {ops : Array Oper} {fr fr' : Fr} (h : drawAny P C0 c id ops fr = some fr') : Ev fun m => drawAny P C1 c id ops fr = some fr' := by
  unfold drawAny at h ⊢
  split at h
  · exact drawT_mo hMo h
  · split at h
    · exact drawZ_mo hMo h
    · cases h

theorem iterF_mo (hMo : Mo C0 C1) {B : Contract → Fr → Option (X × Fr)} {cn : Fr → Fr} (hB : ∀ fr o, B C0 fr = some o → Ev fun m => B C1 fr = some o) : ∀ {n : Nat} {fr : Fr} {o : X × Fr}, iterF (B C0) cn n fr = some o → Ev fun m => iterF (B C1) cn n fr = some o
  | 0, fr, o, h => by cases h
  | n + 1, fr, o, h => by
    simp only [iterF] at h ⊢
    split at h
    · rename_i fr1 h1
      exact (hB _ _ h1).both (iterF_mo hMo hB h) fun m a1 a2 => by rw [a1]; exact a2
    · rename_i x fr1 hne h1
      refine (hB _ _ h1).imp fun m a1 => ?_
      rw [a1]
      cases x with
      | n => exact absurd rfl hne
      | x i => exact h
      | r => exact h
    · cases h

theorem codeF_mo (hMo : Mo C0 C1) {c : Cfg} {LF : Nat} : ∀ (b : Code) {fr : Fr} {o : X × Fr}, codeF P C0 c LF b fr = some o → Ev fun m => codeF P C1 c LF b fr = some o := by
  intro b
  induction b with
  | skip => intro fr o h; exact .pure fun _ => h
  | label l => intro fr o h; exact .pure fun _ => h
  | exit id => intro fr o h; exact .pure fun _ => h
  | ret => intro fr o h; exact .pure fun _ => h
  | goto l => intro fr o h; cases h
  | scope c ih => intro fr o h; simp only [codeF] at h ⊢; exact ih h
  | refuse s => intro fr o h; cases h
  | rangeFunc => intro fr o h; cases h
  | region id ops draw =>
    intro fr o h
    simp only [codeF] at h ⊢
    split at h
    · rename_i hd
      simp only [hd, if_true]
      split at h
      · rename_i fr1 h1
        exact (drawAny_mo hMo h1).imp fun m a1 => by rw [a1]; exact h
      · cases h
    · rename_i hd
      simp only [hd, Bool.false_eq_true, if_false]
      split at h
      · rename_i fr1 h1
        exact (regF_mo hMo h1).imp fun m a1 => by rw [a1]; exact h
      · cases h
  | seq a b ih1 ih2 =>
    intro fr o h
    simp only [codeF] at h ⊢
    split at h
    · rename_i fr1 h1
      exact (ih1 h1).both (ih2 h) fun m a1 a2 => by rw [a1]; exact a2
    · rename_i hne
      refine (ih1 h).imp fun m a1 => ?_
      rw [a1]
      obtain ⟨x, fr1⟩ := o
      cases x with
      | n => exact absurd h (hne _)
      | x i => rfl
      | r => rfl
  | cond c x y ih1 ih2 =>
    intro fr o h
    simp only [codeF] at h ⊢
    split at h
    · exact ih1 h
    · exact ih2 h
    · cases h
  | block id c ih =>
    intro fr o h
    simp only [codeF] at h ⊢
    split at h
    · rename_i i fr1 h1
      exact (ih h1).imp fun m a1 => by rw [a1]; exact h
    · rename_i hne
      refine (ih h).imp fun m a1 => ?_
      rw [a1]
      obtain ⟨x, fr1⟩ := o
      cases x with
      | n => rfl
      | x i => exact absurd h (hne _ _)
      | r => rfl
  | loop b ih =>
    intro fr o h
    simp only [codeF] at h ⊢
    exact iterF_mo hMo (B := fun C fr => codeF P C c LF b fr) (fun fr o h => ih h) h

theorem runF_mo (hMo : Mo C0 C1) {c : Cfg} {LF : Nat} {fn : Func} {args : List T} {o : T × List T} (h : runF P C0 c LF fn args = some o) : Ev fun m => runF P C1 c LF fn args = some o := by
  unfold runF at h ⊢
  split at h
  · rename_i hc
    simp only [if_pos hc]
    split at h
    · cases h
    · rename_i b hb
      split at h
      · rename_i fr h1
        exact (codeF_mo hMo _ h1).imp fun m a1 => by rw [a1]; exact h
      · rename_i fr h1
        exact (codeF_mo hMo _ h1).imp fun m a1 => by rw [a1]; exact h
      · cases h
  · cases h

end
theorem level_le {P : Program} {X : Contract} {cf : FuncId → Option Cfg} : ∀ n, Mo (level P X cf n) (level P X cf (n + 1))
  | 0 => fun f a o h => by
    simp only [level] at h ⊢
    split at h
    · cases h
    · rename_i hc
      first
        | exact h
        | (rw [hc]; exact h)
  | n + 1 => fun f a o h => by
    simp only [level] at h
    split at h
    · rename_i c hc
      split at h
      · rename_i fn hfn
        obtain ⟨k, hk⟩ := runF_mo (level_le n) h
        exact level_run hc hfn (hk k (Nat.le_refl _))
      · cases h
    · rename_i hc
      simp only [level, hc]
      exact h
/-- One level's answer. -/
theorem lim_at {P : Program} {X : Contract} {cf : FuncId → Option Cfg} (n : Nat) {f : FuncId} {a : List T} {o : T × List T} (h : level P X cf n f a = some o) : Lim P X cf f a = some o := by
  refine lim_of (d := n) fun m hm => ?_
  obtain ⟨k, rfl⟩ := Nat.exists_eq_add_of_le hm
  clear hm
  induction k with
  | zero => exact h
  | succ k ih => exact level_le (n + k) f a o ih
end Go.Proofs.YthalofddjlhcjaaDoor
end
section
/- The chapter's example: program, by the kernel. -/
namespace Go.Proofs.YthalofddjlhcjaaDoor
open Go
set_option maxRecDepth 100000
set_option linter.unusedVariables false

theorem c18l : level Tryd.prog xt cfAll 12 18 [] = some (.sc (.bool true), []) := by kernel_rfl
theorem c18 : L 18 [] = some (.sc (.bool true), []) := lim_at 12 c18l
def xKnown : Option Bool := some true
theorem xKnown_ok {r : Bool} (h : xKnown = some r) : L 18 [] = some (.sc (.bool r), []) := by cases h; exact c18
end Go.Proofs.YthalofddjlhcjaaDoor
end
