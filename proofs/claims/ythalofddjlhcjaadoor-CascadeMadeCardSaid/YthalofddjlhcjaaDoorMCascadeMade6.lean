/- Proved here: the law CascadeMade returns true for every input, and its arguments read afterwards as before; the row's listed tables are tied to the program's text by the given tie. No other condition. -/
import Derived.Test.YthalofddjlhcjaaDoorMCascadeMade5
import Derived.Shelf.Small.Wraps
import Derived.Shelf.Utf8.RuneCount
import Derived.Shelf.Strconv.Itoa0
import Derived.Shelf.Strconv.Itoa1
import Derived.Shelf.LaysM
import Derived.Shelf.Strconv.Itoa2
import Derived.Shelf.Strings.Search1
import Derived.Shelf.Strings.Search2
import Derived.Shelf.Strings.Search3
import Derived.Shelf.Strings.Cut
import Derived.Shelf.Strings.Count
import Derived.Shelf.Strings.Shaped
import Derived.Shelf.Strconv.AppendUint10
import Derived.Shelf.Strconv.AppendInt10
import Derived.Shelf.Strconv.AppendIntPublic10
import Derived.Shelf.Strings.Split
import Derived.Shelf.Strings.SplitShaped
import Derived.Shelf.Unicode.Decode
import Derived.Shelf.Strings.RuneCount
import Derived.Shelf.Strings.Explode
import Derived.Shelf.Unicode.DecodeSlow
import Derived.Shelf.Unicode.DecodeAny
import Derived.Ground.Names2Prog
import Derived.Shelf.Slices.Clone
import Derived.Shelf.Slices.SearchI
import Derived.Test.YthalofddjlhcjaaDoorProg
import Derived.ChangeOld
import Derived.ChangeReads
import Derived.Below
import Derived.ChangeSlices
import Derived.Deep.Grids
import Derived.WideShapes
import Derived.WalkKit
import Derived.ProofKit
import Derived.Test.YthalofddjlhcjaaDoorCards
import Derived.Test.YthalofddjlhcjaaDoorTie
import Derived.OpenShut
import Derived.ShutString
import Derived.Deep.DeepHandedRow
set_option linter.unusedVariables false
set_option linter.unusedSimpArgs false
section
/- Plain: the flat form of the program is that of the reference; both exist. -/
namespace Go.Proofs.YthalofddjlhcjaaDoor
open Go
set_option linter.unusedVariables false
set_option linter.unusedSimpArgs false
set_option maxHeartbeats 1000000

theorem rep_set (xs : List Int) (m : Nat) (v : Int) : (xs ++ List.replicate (m + 1) 0).set xs.length v = (xs ++ [v]) ++ List.replicate m 0 := by
  rw [List.set_append_right _ _ (Nat.le_refl _), Nat.sub_self, List.replicate_succ, List.set_cons_zero]; simp
/-- A row of the flat form: the reference's. -/
def flRowR (c : Casc) (n : Nat) (i : Nat) (s : Int × List (List Int) × List (ByteArray × Int) × List Int) (t : Int × List (List Int) × List Int) : Prop :=
  ∃ (k : Nat) (ts : List (List Int)) (row : List Int), k ≤ n ∧ row.length = k ∧ i < ts.length ∧ FlOk c ts ∧ s = ((k : Int), ts, tabF 0 ts, row ++ List.replicate (n - k) 0) ∧ t = ((k : Int), ts, row)
def flAllR (c : Casc) (s : Int × List (List Int) × List (ByteArray × Int) × List (List Int)) (t : Int × List (List Int) × List (List Int)) : Prop :=
  ∃ (i : Nat) (ts next : List (List Int)), next.length = i ∧ FlOk c ts ∧ i ≤ ts.length ∧ s = ((i : Int), ts, tabF 0 ts, next) ∧ t = ((i : Int), ts, next)
theorem flat_row {c : Casc} (hv : Valid c) (e : Int) (i : Nat) (next : List (List Int)) (hn : next.length = i) (n : Nat) (hl : c.letters = n) (s : Int × List (List Int) × List (ByteArray × Int) × List Int) (t : Int × List (List Int) × List Int) (h : flRowR c n i s t) :
    RndR (flRowR c n i) (SumR (flAllR c) (· = ·)) (cascade_Flat_b14 c (⟨c⟩, e) (i : Int) next s) (ref26_Flat_b13 c (i : Int) next t) := by
  obtain ⟨k, ts, row, hk, hrow, hi, hok, rfl, rfl⟩ := h
  have hsz : ∀ i, i < c.sizes.length → c.sizes.getD i 0 ≤ 32 := fun i hi => (hv.sz i hi).2
  have hl2 := hv.l2
  have hs1 := hv.s1
  have htl := hok.len
  simp only [cascade_Flat_b14, ref26_Flat_b13]
  by_cases hkl : (k : Int) < c.letters
  case neg =>
    rw [if_neg hkl, if_neg hkl]
    refine rnd_exit ?_
    rw [chk_pos _ (by unfold capOk; omega), chk_pos _ (by unfold capOk; omega), wrapS (by omega)]
    have : n - k = 0 := by omega
    rw [this]
    refine rnd_next ⟨i + 1, ts, next ++ [row], by simp [hn], hok, by omega, ?_, rfl⟩
    simp
  rw [if_pos hkl, if_pos hkl, atI_nat hi]
  simp only [Option.bind_some]
  have hti := hok.tup _ (List.getElem_mem hi)
  have htl2 : ts[i].length = c.sizes.length := by
    have : ts[i].length = c.sizes.length ∧ inB c.sizes ts[i] = true := by simpa [tupB] using hti
    exact this.1
  rw [Runner_Step_eq c hv _ _ (by omega), step_eq c hv _ _ hti (by omega) hkl]
  simp only [Option.bind_some]
  by_cases h0 : (stepG c ts[i] k).2 = 0
  case neg => rw [if_neg h0, if_neg h0]; exact rnd_exit (rnd_exit (optR_rfl _))
  rw [if_pos h0, if_pos h0]
  have hy := stepG_tup hv h0
  generalize (stepG c ts[i] k).1 = y at *
  have hyl : y.length = c.sizes.length ∧ inB c.sizes y = true := by simpa [tupB] using hy
  rw [key_eq _ (by omega), Find_eq _ _ (by omega) (by omega)]
  simp only [Option.bind_some]
  rw [tabF_get hsz hy ts 0 hok.tup]
  have hfi : findI (fun z => decide (y = z)) ts = match tupIx ts y with | some k => (k : Int) | none => -1 := rfl
  rw [hfi]
  obtain ⟨m, hm⟩ : ∃ m, n - k = m + 1 := ⟨n - k - 1, by omega⟩
  have hy2 : k < (row ++ List.replicate (n - k) 0).length := by simp; omega
  cases hx : tupIx ts y with
  | some j =>
    have hj := tupIx_lt hx
    simp only [Option.map_some, Option.isSome_some, if_true, Option.getD_some, Nat.zero_add]
    rw [if_neg (by omega), atI_nat hy2, chk_pos _ (by unfold capOk; omega), wrapS (by omega)]
    simp only [Option.bind_some]
    refine rnd_next ⟨k + 1, ts, row ++ [(j : Int)], by omega, by simp [hrow], hi, hok, ?_, rfl⟩
    rw [hm, Int.toNat_natCast, ← hrow, rep_set, hrow, show n - (k + 1) = m by omega]
  | none =>
    simp only [Option.map_none, Option.isSome_none, Bool.false_eq_true, if_false, if_true]
    by_cases hfull : ts.length = 2000
    · rw [if_pos (by omega), chk_pos _ (by unfold capOk; omega), if_pos (by omega)]
      exact rnd_exit (rnd_exit (optR_rfl _))
    · rw [if_neg (by omega), chk_pos _ (by unfold capOk; omega), chk_pos _ (by unfold capOk; omega), if_neg (by omega), atI_nat hy2, chk_pos _ (by unfold capOk; omega), wrapS (by omega)]
      simp only [Option.bind_some]
      refine rnd_next ⟨k + 1, ts ++ [y], row ++ [(ts.length : Int)], by omega, by simp [hrow], by simp; omega, ⟨?_, by simp; omega⟩, ?_, rfl⟩
      · intro t ht
        rcases List.mem_append.1 ht with ht | ht
        · exact hok.tup t ht
        · have : t = y := by simpa using ht
          rw [this]; exact hy
      · have := tabF_set hsz hy ts 0 hok.tup hx
        rw [Nat.zero_add] at this
        rw [hm, Int.toNat_natCast, ← hrow, rep_set, hrow, show n - (k + 1) = m by omega, this]
theorem flat_all {c : Casc} (hv : Valid c) (e : Int) (s : Int × List (List Int) × List (ByteArray × Int) × List (List Int)) (t : Int × List (List Int) × List (List Int)) (h : flAllR c s t) :
    RndR (flAllR c) (· = ·) (cascade_Flat_b10 c (⟨c⟩, e) s) (ref26_Flat_b9 c t) := by
  obtain ⟨i, ts, next, hn, hok, hi, rfl, rfl⟩ := h
  have hl1 := hv.l1
  have hl2 := hv.l2
  simp only [cascade_Flat_b10, ref26_Flat_b9]
  by_cases hlt : i < ts.length
  · rw [if_pos (by omega), if_pos (by omega), chk_pos _ (by unfold makeOk; omega)]
    obtain ⟨n, hn2⟩ := Int.eq_ofNat_of_zero_le (show 0 ≤ c.letters by omega)
    refine loop_sim (flRowR c n i) _ (flat_row hv e i next hn n hn2) LFm _ _ ⟨0, ts, [], by omega, rfl, hlt, hok, ?_, rfl⟩
    rw [hn2]
    simp
  · rw [if_neg (by omega), if_neg (by omega)]
    exact rnd_exit (optR_rfl _)
theorem Flat_eq (c : Casc) (x : List Int) (h : CB c) (hx : x.length < 1000000) : cascade_Flat c x = ref26_Flat c x := by
  unfold cascade_Flat ref26_Flat cascade_NewRunner
  rw [Validate_eq c h, refValidate_eq c h]
  simp only [Option.bind_some]
  by_cases hv : validE c = 0
  case neg => rw [if_neg hv, if_neg hv]; simp only [Option.bind_some]; rw [if_neg hv]
  rw [if_pos hv, if_pos hv]
  simp only [Option.bind_some, if_true]
  rw [isTuple_eq _ _ (by omega), IsTuple_eq _ _ (by omega)]
  simp only [Option.bind_some]
  by_cases ht : tupB c.sizes x = true
  case neg => rw [if_neg ht, if_neg ht]
  have hV := valid_of c hv
  rw [if_pos ht, if_pos ht, key_eq _ (by omega)]
  simp only [Option.bind_some]
  rw [chk_pos _ (by unfold capOk; omega), chk_pos _ (by unfold capOk; omega)]
  refine optR_eq (loop_sim (flAllR c) (· = ·) (flat_all hV 0) LFm _ _ ⟨0, [x], [], rfl, ⟨?_, by simp⟩, by simp, rfl, rfl⟩)
  intro t h
  have : t = x := by simpa using h
  rw [this]; exact ht
/-- The reference's flat form exists. -/
theorem refFlat_some (c : Casc) (x : List Int) (h : CB c) (hx : x.length < 1000000) : ∃ r, ref26_Flat c x = some r ∧ short r.1 ∧ short r.2.1 := by
  unfold ref26_Flat
  rw [refValidate_eq c h]
  simp only [Option.bind_some]
  have hsh : short [] := ⟨by simp, by simp⟩
  by_cases hv : validE c = 0
  case neg => rw [if_neg hv]; exact ⟨_, rfl, hsh, hsh⟩
  rw [if_pos hv, IsTuple_eq _ _ (by omega)]
  simp only [Option.bind_some]
  by_cases ht : tupB c.sizes x = true
  case neg => rw [if_neg ht]; exact ⟨_, rfl, hsh, hsh⟩
  have hV := valid_of c hv
  have hl1 := hV.l1
  have hl2 := hV.l2
  have hs1 := hV.s1
  rw [if_pos ht, chk_pos _ (by unfold capOk; omega)]
  have htl : ∀ {ts : List (List Int)}, FlOk c ts → short ts := fun {ts} hok => ⟨by have := hok.len; omega, fun m hm => by
    have h1 := hok.tup m hm
    have : m.length = c.sizes.length ∧ inB c.sizes m = true := by simpa [tupB] using h1
    omega⟩
  obtain ⟨n, hn2⟩ := Int.eq_ofNat_of_zero_le (show 0 ≤ c.letters by omega)
  refine loopG_rule (fun s => ∃ (i : Nat) (ts next : List (List Int)), next.length = i ∧ FlOk c ts ∧ i ≤ ts.length ∧ (∀ r ∈ next, r.length ≤ n) ∧ s = ((i : Int), ts, next)) (fun s => 2000 - s.1.toNat) _ ?_ LFm _ ⟨0, [x], [], rfl, ⟨fun t h => (by rw [List.mem_singleton.1 h]; exact ht), by simp⟩, by simp, by simp, rfl⟩ (by simp only [LFm]; omega)
  rintro _ ⟨i, ts, next, hn, hok, hi, hr, rfl⟩
  simp only [ref26_Flat_b9]
  by_cases hlt : i < ts.length
  case neg =>
    right
    rw [if_neg (by omega)]
    exact ⟨_, rfl, htl hok, ⟨by have := hok.len; show next.length < _; omega, fun m hm => by have := hr m hm; omega⟩⟩
  rw [if_pos (by omega)]
  have hlen := hok.len
  have key : ∃ o, loopG (ref26_Flat_b13 c (i : Int) next) LFm (0, ts, []) = some o ∧ (match o with | .inl s => ∃ (ts' : List (List Int)) (row : List Int), FlOk c ts' ∧ i < ts'.length ∧ row.length = n ∧ s = (((i + 1 : Nat) : Int), ts', next ++ [row]) | .inr r => short r.1 ∧ short r.2.1) := by
    refine loopG_rule (b := ref26_Flat_b13 c (i : Int) next) (fun s => ∃ (k : Nat) (ts : List (List Int)) (row : List Int), k ≤ n ∧ row.length = k ∧ i < ts.length ∧ FlOk c ts ∧ s = ((k : Int), ts, row)) (fun s => n - s.1.toNat) _ ?_ LFm (0, ts, []) ⟨0, ts, [], by omega, rfl, hlt, hok, rfl⟩ (by simp only [LFm]; omega)
    rintro _ ⟨k, ts, row, hk, hrow, hi, hok, rfl⟩
    have hlen := hok.len
    simp only [ref26_Flat_b13]
    by_cases hkl : (k : Int) < c.letters
    case neg =>
      right
      rw [if_neg hkl, chk_pos _ (by unfold capOk; omega), wrapS (by omega)]
      exact ⟨_, rfl, ts, row, hok, hi, by omega, rfl⟩
    rw [if_pos hkl, atI_nat hi]
    simp only [Option.bind_some]
    have hti := hok.tup _ (List.getElem_mem hi)
    rw [step_eq c hV _ _ hti (by omega) hkl]
    simp only [Option.bind_some]
    by_cases h0 : (stepG c ts[i] k).2 = 0
    case neg => rw [if_neg h0]; right; exact ⟨_, rfl, hsh, hsh⟩
    rw [if_pos h0]
    have hy := stepG_tup hV h0
    generalize (stepG c ts[i] k).1 = y at *
    have hyl : y.length = c.sizes.length ∧ inB c.sizes y = true := by simpa [tupB] using hy
    rw [Find_eq _ _ (by omega) (by omega)]
    simp only [Option.bind_some]
    have hfi : findI (fun z => decide (y = z)) ts = match tupIx ts y with | some k => (k : Int) | none => -1 := rfl
    rw [hfi]
    cases hx : tupIx ts y with
    | some j =>
      simp only
      rw [if_neg (by omega), chk_pos _ (by unfold capOk; omega), wrapS (by omega)]
      left
      exact ⟨_, rfl, ⟨k + 1, ts, row ++ [(j : Int)], by omega, by simp [hrow], hi, hok, rfl⟩, by simp only [Int.toNat_natCast]; omega⟩
    | none =>
      simp only [if_true]
      rw [chk_pos _ (by unfold capOk; omega)]
      by_cases hfull : ts.length = 2000
      · rw [if_pos (by omega)]; right; exact ⟨_, rfl, hsh, hsh⟩
      · rw [if_neg (by omega), chk_pos _ (by unfold capOk; omega), wrapS (by omega)]
        left
        refine ⟨_, rfl, ⟨k + 1, ts ++ [y], row ++ [(ts.length : Int)], by omega, by simp [hrow], by simp; omega, ⟨?_, by simp; omega⟩, rfl⟩, by simp only [Int.toNat_natCast]; omega⟩
        intro t ht
        rcases List.mem_append.1 ht with ht | ht
        · exact hok.tup t ht
        · have : t = y := by simpa using ht
          rw [this]; exact hy
  obtain ⟨o, ho, hP⟩ := key
  rw [ho]
  cases o with
  | inl s =>
    left
    obtain ⟨ts', row, h1, h2, h3, rfl⟩ := hP
    refine ⟨_, rfl, ⟨i + 1, ts', next ++ [row], by simp [hn], h1, by omega, ?_, rfl⟩, ?_⟩
    · intro r hrm
      rcases List.mem_append.1 hrm with h | h
      · exact hr r h
      · have : r = row := by simpa using h
        rw [this, h3]; exact Nat.le_refl _
    · have := h1.len
      simp only [Int.toNat_natCast]
      omega
  | inr r => right; exact ⟨r, rfl, hP⟩
end Go.Proofs.YthalofddjlhcjaaDoor
end
section
/- Plain: reading numbers. -/
namespace Go.Proofs.YthalofddjlhcjaaDoor
open Go
set_option linter.unusedVariables false
set_option linter.unusedSimpArgs false

/-- Digits read on. -/
def numG : List UInt8 → Int → Option Int
  | [], n => some n
  | b :: l, n => if 48 ≤ b.toNat ∧ b.toNat ≤ 57 then numG l (10 * n + ((b.toNat : Int) - 48)) else none
/-- A number from 0 to 10^9 without leading zeros. -/
def numV (s : ByteArray) : Option Int :=
  match s.data.toList with
  | [] => none
  | b :: l => if 10 < s.size then none else if b.toNat = 48 ∧ l ≠ [] then none else (numG (b :: l) 0).bind fun n => if n ≤ 1000000000 then some n else none
theorem numG_pos : ∀ {l : List UInt8} {n m : Int}, 0 ≤ n → numG l n = some m → 0 ≤ m
  | [], n, m, h, e => by cases e; exact h
  | b :: l, n, m, h, e => by
    simp only [numG] at e
    split at e
    · exact numG_pos (by omega) e
    · cases e
theorem numV_in {s : ByteArray} {n : Int} (h : numV s = some n) : 0 ≤ n ∧ n ≤ 1000000000 := by
  unfold numV at h
  split at h
  · cases h
  · split at h
    · cases h
    · split at h
      · cases h
      · rw [Option.bind_eq_some_iff] at h
        obtain ⟨m, h1, h2⟩ := h
        split at h2
        · cases h2
          exact ⟨numG_pos (by omega) h1, by assumption⟩
        · cases h2
theorem toList_len (s : ByteArray) : s.data.toList.length = s.size := by simp
theorem toList_drop (s : ByteArray) {k : Nat} (h : k < s.size) : s.data.toList.drop k = s[k] :: s.data.toList.drop (k + 1) := by
  rw [List.drop_eq_getElem_cons (by rw [toList_len]; exact h)]
  rfl
theorem pow_bound {k : Nat} (h : k ≤ 10) : (10 : Int) ^ k ≤ 10000000000 := by
  rcases (by omega : k = 0 ∨ k = 1 ∨ k = 2 ∨ k = 3 ∨ k = 4 ∨ k = 5 ∨ k = 6 ∨ k = 7 ∨ k = 8 ∨ k = 9 ∨ k = 10) with rfl | rfl | rfl | rfl | rfl | rfl | rfl | rfl | rfl | rfl | rfl <;> decide
/-- The loop of both. -/
theorem num_loop {ρ : Type} {b : Int × Int → Option ((Int × Int) ⊕ ρ)} (s : ByteArray) (hs : s.size ≤ 10) (bad : ρ) (fin : Int → ρ)
    (hb : ∀ n k, b (n, k) = if k < (s.size : Int) then (byteI s k).bind fun v => if v < 48 then exitG (some bad) else if 57 < v then exitG (some bad) else nextG (IntKind.i64.wrap ((IntKind.i64.wrap (10 * n)) + (IntKind.i64.wrap (IntKind.u8.wrap (v - 48)))), IntKind.i64.wrap (k + 1)) else exitG (some (fin n))) :
    loopG b LFm (0, 0) = some (match numG s.data.toList 0 with | some n => fin n | none => bad) := by
  refine loopG_eq (fun st => ∃ k : Nat, ∃ n : Int, k ≤ s.size ∧ st = (n, (k : Int)) ∧ 0 ≤ n ∧ n < 10 ^ k ∧ numG (s.data.toList.drop k) n = numG s.data.toList 0) (fun st => s.size - st.2.toNat) ⟨0, 0, by omega, rfl, by omega, by simp, rfl⟩ (by simp only [LFm]; omega) ?_
  rintro _ ⟨k, n, hk, rfl, n0, n1, he⟩
  rw [hb]
  by_cases hlt : k < s.size
  · rw [toList_drop s hlt] at he
    simp only [numG] at he
    rw [if_pos (by omega), byteI_nat hlt, Option.bind_some]
    have hB := s[k].toNat_lt
    generalize s[k] = c at he hB
    by_cases h1 : (c.toNat : Int) < 48
    · rw [if_pos h1]
      rw [if_neg (by omega)] at he
      right; rw [← he]
    · rw [if_neg h1]
      by_cases h2 : 57 < (c.toNat : Int)
      · rw [if_pos h2]
        rw [if_neg (by omega)] at he
        right; rw [← he]
      · rw [if_neg h2]
        rw [if_pos (by omega)] at he
        have hp := pow_bound (k := k) (by omega)
        have hp2 : (10 : Int) ^ (k + 1) = 10 * 10 ^ k := by rw [Int.pow_succ]; omega
        left
        refine ⟨_, rfl, ⟨k + 1, 10 * n + ((c.toNat : Int) - 48), by omega, ?_, by omega, by omega, he⟩, ?_⟩
        · rw [wrapI (x := 10 * n) (by omega) (by omega), wrap8 (by omega) (by omega), wrapI (x := (c.toNat : Int) - 48) (by omega) (by omega), wrapI (by omega) (by omega), wrapS (by omega)]
        · simp only
          rw [wrapS (by omega)]
          omega
  · right
    have : k = s.size := by omega
    subst this
    rw [List.drop_of_length_le (by rw [toList_len]; omega)] at he
    simp only [numG] at he
    rw [if_neg (by omega), ← he]
theorem empty_iff (s : ByteArray) : s = ByteArray.empty ↔ s.data.toList = [] := by
  constructor
  · rintro rfl; rfl
  · intro h
    obtain ⟨d⟩ := s
    simp only [Array.toList_eq_nil_iff] at h
    subst h; rfl
theorem parseNumber_b (s : ByteArray) : cascade_parseNumber_b5a s = cascade_parseNumber_b5 s := by
  funext x; obtain ⟨a, b⟩ := x; rfl
theorem number_b (s : ByteArray) : ref26_number_b5a s = ref26_number_b5 s := by
  funext x; obtain ⟨a, b⟩ := x; rfl
theorem parseNumber_eq (s : ByteArray) : ∃ v, cascade_parseNumber s = some (v, (numV s).isSome) ∧ (∀ n, numV s = some n → v = n) := by
  unfold cascade_parseNumber
  by_cases h0 : s = ByteArray.empty
  · rw [if_pos h0]
    have : numV s = none := by unfold numV; rw [(empty_iff s).1 h0]
    rw [this]
    exact ⟨0, rfl, by simp⟩
  rw [if_neg h0]
  have hl : s.data.toList ≠ [] := fun h => h0 ((empty_iff s).2 h)
  obtain ⟨c, l, hc⟩ := List.exists_cons_of_ne_nil hl
  have hlen := toList_len s
  have hg : s.size = l.length + 1 := by rw [← hlen, hc]; rfl
  have hk : (0 : Nat) < s.size := by omega
  have hcc : s[0] = c := by
    have := toList_drop s hk
    rw [List.drop_zero, hc] at this
    injection this with a b
    exact a.symm
  have hV : numV s = if 10 < s.size then none else if c.toNat = 48 ∧ l ≠ [] then none else (numG (c :: l) 0).bind fun n => if n ≤ 1000000000 then some n else none := by unfold numV; rw [hc]
  by_cases h1 : 10 < s.size
  · rw [if_pos (by omega), hV, if_pos h1]
    exact ⟨0, rfl, by simp⟩
  rw [if_neg (by omega)]
  rw [if_neg h1] at hV
  have e := byteI_nat hk
  rw [hcc] at e
  rw [show byteI s 0 = some (c.toNat : Int) from e, Option.bind_some, parseNumber_b]
  have hL := num_loop (b := cascade_parseNumber_b5 s) s (by omega) (0, false) (fun n => (n, decide (n ≤ 1000000000))) (fun n k => by simp only [cascade_parseNumber_b5])
  have fin : c.toNat = 48 ∧ l ≠ [] → False ∨ True := fun _ => .inr trivial
  have go : ¬ (c.toNat = 48 ∧ l ≠ []) → ∃ v, loopG (cascade_parseNumber_b5 s) LFm (0, 0) = some (v, (numV s).isSome) ∧ (∀ n, numV s = some n → v = n) := by
    intro hn
    rw [if_neg hn] at hV
    rw [hL, hV, hc]
    cases hN : numG (c :: l) 0 with
    | none => exact ⟨0, rfl, by simp⟩
    | some n =>
      simp only [Option.bind_some]
      by_cases hle : n ≤ 1000000000
      · rw [if_pos hle, decide_eq_true hle]; exact ⟨n, rfl, by simp⟩
      · rw [if_neg hle, decide_eq_false hle]; exact ⟨n, rfl, by simp⟩
  by_cases h2 : (c.toNat : Int) = 48
  · rw [if_pos h2]
    by_cases h3 : 1 < s.size
    · rw [if_pos (by omega), hV, if_pos ⟨by omega, by intro hh; rw [hh] at hg; simp at hg; omega⟩]
      exact ⟨0, rfl, by simp⟩
    · rw [if_neg (by omega)]
      refine go ?_
      rintro ⟨-, hh⟩
      exact hh (List.eq_nil_of_length_eq_zero (by omega))
  · rw [if_neg h2]
    exact go (by omega)
theorem number_eq (s : ByteArray) : ref26_number s = some ((numV s).getD (-1)) := by
  unfold ref26_number
  by_cases h0 : s = ByteArray.empty
  · rw [if_pos h0]
    have : numV s = none := by unfold numV; rw [(empty_iff s).1 h0]
    rw [this]
    rfl
  rw [if_neg h0]
  have hl : s.data.toList ≠ [] := fun h => h0 ((empty_iff s).2 h)
  obtain ⟨c, l, hc⟩ := List.exists_cons_of_ne_nil hl
  have hlen := toList_len s
  have hg : s.size = l.length + 1 := by rw [← hlen, hc]; rfl
  have hk : (0 : Nat) < s.size := by omega
  have hcc : s[0] = c := by
    have := toList_drop s hk
    rw [List.drop_zero, hc] at this
    injection this with a b
    exact a.symm
  have hV : numV s = if 10 < s.size then none else if c.toNat = 48 ∧ l ≠ [] then none else (numG (c :: l) 0).bind fun n => if n ≤ 1000000000 then some n else none := by unfold numV; rw [hc]
  by_cases h1 : 10 < s.size
  · rw [if_pos (by omega), hV, if_pos h1]
    rfl
  rw [if_neg (by omega)]
  rw [if_neg h1] at hV
  have e := byteI_nat hk
  rw [hcc] at e
  have hL := num_loop (b := ref26_number_b5 s) s (by omega) (-1) (fun n => if 1000000000 < n then -1 else n) (fun n k => by
    simp only [ref26_number_b5]
    split
    · rfl
    · congr 1; split <;> rfl)
  have go : ¬ (c.toNat = 48 ∧ l ≠ []) → loopG (ref26_number_b5 s) LFm (0, 0) = some ((numV s).getD (-1)) := by
    intro hn
    rw [if_neg hn] at hV
    rw [hL, hV, hc]
    cases hN : numG (c :: l) 0 with
    | none => rfl
    | some n =>
      simp only [Option.bind_some]
      by_cases hle : n ≤ 1000000000
      · rw [if_pos hle, if_neg (by omega)]; rfl
      · rw [if_neg hle, if_pos (by omega)]; rfl
  have no : (c.toNat = 48 ∧ l ≠ []) → (numV s).getD (-1) = -1 := by intro hn; rw [hV, if_pos hn]; rfl
  have e' : byteI s 0 = some (c.toNat : Int) := e
  by_cases h3 : 1 < s.size
  · rw [if_pos (by omega), e', Option.bind_some]
    have hne : l ≠ [] := by intro hh; rw [hh] at hg; simp at hg; omega
    by_cases h2 : (c.toNat : Int) = 48
    · rw [if_pos h2, no ⟨by omega, hne⟩]
    · rw [if_neg h2]; exact go (by omega)
  · rw [if_neg (by omega), number_b]
    refine go ?_
    rintro ⟨-, hh⟩
    exact hh (List.eq_nil_of_length_eq_zero (by omega))
end Go.Proofs.YthalofddjlhcjaaDoor
end
section
/- Plain: all functions of one cascade are what the reference says. -/
namespace Go.Proofs.YthalofddjlhcjaaDoor
open Go
set_option linter.unusedVariables false
set_option linter.unusedSimpArgs false
set_option maxHeartbeats 1000000

def okL (m : Int) (b : UInt8) : Bool := decide (97 ≤ (b.toNat : Int) ∧ (b.toNat : Int) - 97 < m)
def wordB (m : Int) (w : ByteArray) : Bool := w.data.toList.all (okL m)
theorem valid_loop (w : ByteArray) (m : Int) (hw : w.size ≤ 2048) (hm : m ≤ 6) : loopG (ref01_Valid_b4 w m) LFm 0 = some (wordB m w) := by
  refine loopG_eq (fun st : Int => ∃ k : Nat, k ≤ w.size ∧ st = (k : Int) ∧ (w.data.toList.drop k).all (okL m) = wordB m w) (fun st => w.size - st.toNat) (s := 0) ⟨0, by omega, rfl, rfl⟩ (by simp only [LFm]; omega) ?_
  rintro _ ⟨k, hk, rfl, he⟩
  simp only [ref01_Valid_b4]
  by_cases hlt : k < w.size
  · rw [toList_drop w hlt, List.all_cons] at he
    rw [if_pos (by omega), byteI_nat hlt, Option.bind_some]
    have hB := w[k].toNat_lt
    by_cases h1 : (w[k].toNat : Int) < 97
    · right
      rw [if_pos h1, ← he]
      have : okL m w[k] = false := by unfold okL; simp; omega
      rw [this]
      all_goals rfl
    · rw [if_neg h1, wrap8 (by omega) (by omega), wrapI (by omega) (by omega)]
      by_cases h2 : m ≤ (w[k].toNat : Int) - 97
      · right
        rw [if_pos h2, ← he]
        have : okL m w[k] = false := by unfold okL; simp; omega
        rw [this]
        all_goals rfl
      · left
        rw [if_neg h2, wrapS (by omega)]
        have : okL m w[k] = true := by unfold okL; simp; omega
        rw [this, Bool.true_and] at he
        exact ⟨_, rfl, ⟨k + 1, by omega, rfl, he⟩, by omega⟩
  · right
    have : k = w.size := by omega
    subst this
    rw [if_neg (by omega)]
    rw [List.drop_of_length_le (by rw [toList_len]; exact Nat.le_refl _)] at he
    rw [← he]
    all_goals rfl
theorem refValid_eq (w : ByteArray) (m : Int) (h1 : 1 ≤ m) (h2 : m ≤ 6) : ref01_Valid w m = some (decide (w.size ≤ 2048) && wordB m w) := by
  unfold ref01_Valid ref01_MayLetters
  rw [if_pos h1, Option.bind_some, if_pos (by simpa using h2)]
  by_cases hw : 2048 < w.size
  · rw [if_pos (by omega)]
    have : ¬ w.size ≤ 2048 := by omega
    simp [this]
  · rw [if_neg (by omega), valid_loop w m (by omega) h2]
    have : w.size ≤ 2048 := by omega
    simp [this]
theorem wordValid_eq (w : ByteArray) (m : Int) (h1 : 1 ≤ m) (h2 : m ≤ 6) : word_Valid w m = some (decide (w.size ≤ 2048) && wordB m w) := by
  unfold word_Valid
  rw [if_neg (by omega), if_neg (by omega)]
  by_cases hw : 2048 < w.size
  · rw [if_pos (by omega)]
    have : ¬ w.size ≤ 2048 := by omega
    simp [this]
  · rw [if_neg (by omega), show word_Valid_b4 w m = ref01_Valid_b4 w m from rfl, valid_loop w m (by omega) h2]
    have : w.size ≤ 2048 := by omega
    simp [this]
def runS (c : Casc) : List Int → List Int → List Int × Int
  | x, [] => (x, 0)
  | x, l :: ls => if (stepG c x l).2 = 0 then runS c (stepG c x l).1 ls else ([], (stepG c x l).2)
def lets (w : ByteArray) : List Int := w.data.toList.map fun b => (b.toNat : Int) - 97
theorem stepG_len (c : Casc) (x : List Int) (l : Int) : (stepG c x l).1.length ≤ x.length := by
  unfold stepG
  split
  · split
    · simp [stV]
    · simp
  · simp
theorem runS_len (c : Casc) : ∀ (ls x : List Int), (runS c x ls).1.length ≤ x.length
  | [], x => Nat.le_refl _
  | l :: ls, x => by
    simp only [runS]
    split
    · exact Nat.le_trans (runS_len c ls _) (stepG_len c x l)
    · simp
def stepW (c : Casc) (x : List Int) (l : Int) : List Int × Int := if validE c = 0 then stepG c x l else ([], validE c)
theorem Step_eq (c : Casc) (h : CB c) (x : List Int) (l : Int) (hx : x.length < 1000000) : cascade_Step c x l = some (stepW c x l) := by
  unfold cascade_Step cascade_NewRunner stepW
  rw [Validate_eq c h]
  simp only [Option.bind_some]
  by_cases hv : validE c = 0
  · rw [if_pos hv, if_pos hv]
    simp only [Option.bind_some, if_true]
    have hV := valid_of c hv
    have := Runner_Step_eq c hV x l (by omega)
    rw [this]
    all_goals rfl
  · rw [if_neg hv, if_neg hv]
    simp only [Option.bind_some]
    rw [if_neg hv]
theorem refStep_eq (c : Casc) (h : CB c) (x : List Int) (l : Int) (hx : x.length < 1000000) : ref26_Step c x l = some (stepW c x l) := by
  unfold ref26_Step stepW
  rw [refValidate_eq c h]
  simp only [Option.bind_some]
  by_cases hv : validE c = 0
  · rw [if_pos hv, if_pos hv, IsTuple_eq _ _ (by omega)]
    simp only [Option.bind_some]
    have hV := valid_of c hv
    by_cases ht : tupB c.sizes x = true
    · rw [if_pos ht]
      by_cases h1 : l < 0
      · rw [if_pos h1]
        unfold stepG
        rw [if_neg (by omega)]
      · rw [if_neg h1]
        by_cases h2 : c.letters ≤ l
        · rw [if_pos h2]
          unfold stepG
          rw [if_neg (by omega)]
        · rw [if_neg h2, step_eq c hV x l ht (by omega) (by omega)]
          all_goals rfl
    · rw [if_neg ht]
      unfold stepG
      rw [if_neg (fun e => ht e.1)]
  · rw [if_neg hv, if_neg hv]
theorem tupB_len {sz x : List Int} (h : tupB sz x = true) : x.length = sz.length := by
  have : x.length = sz.length ∧ inB sz x = true := by simpa [tupB] using h
  exact this.1
theorem letter_at {w : ByteArray} {k : Nat} (hk : k < w.size) : (lets w).drop k = ((w[k].toNat : Int) - 97) :: (lets w).drop (k + 1) := by
  unfold lets
  rw [← List.map_drop, toList_drop w hk, List.map_cons, List.map_drop]
theorem ok_at {w : ByteArray} {m : Int} (h : wordB m w = true) {k : Nat} (hk : k < w.size) : 97 ≤ (w[k].toNat : Int) ∧ (w[k].toNat : Int) - 97 < m := by
  unfold wordB at h
  rw [List.all_eq_true] at h
  have := h w[k] (by
    have h2 := toList_drop w hk
    exact List.mem_of_mem_drop (i := k) (by rw [h2]; exact List.mem_cons_self))
  unfold okL at this
  simpa using this
theorem run_loop (c : Casc) (hV : Valid c) (w : ByteArray) (x : List Int) (hx : tupB c.sizes x = true) (hw : wordB c.letters w = true) (hs : w.size ≤ 2048) :
    loopG (cascade_Run_b8 w (⟨c⟩, 0)) LFm (0, x) = some (runS c x (lets w)) ∧ loopG (ref26_Run_b8 c w) LFm (0, x) = some (runS c x (lets w)) := by
  have hs1 := hV.s1
  have hl2 := hV.l2
  have endL : (lets w).drop w.size = [] := by
    apply List.drop_of_length_le
    unfold lets
    rw [List.length_map, toList_len]
    exact Nat.le_refl _
  constructor
  · refine loopG_eq (fun st : Int × List Int => ∃ k : Nat, k ≤ w.size ∧ st.1 = (k : Int) ∧ tupB c.sizes st.2 = true ∧ runS c st.2 ((lets w).drop k) = runS c x (lets w)) (fun st => w.size - st.1.toNat) (s := (0, x)) ⟨0, by omega, rfl, hx, rfl⟩ (by simp only [LFm]; omega) ?_
    rintro ⟨_, y⟩ ⟨k, hk, h1, h2, h3⟩
    simp only at h1 h2 h3
    subst h1
    simp only [cascade_Run_b8]
    by_cases hlt : k < w.size
    · obtain ⟨o1, o2⟩ := ok_at hw hlt
      have hB := w[k].toNat_lt
      rw [letter_at hlt] at h3
      simp only [runS] at h3
      have hyl := tupB_len h2
      rw [if_pos (by omega), byteI_nat hlt, Option.bind_some, wrap8 (by omega) (by omega), wrapI (by omega) (by omega), Runner_Step_eq c hV y _ (by omega), Option.bind_some, wrapS (by omega)]
      by_cases h0 : (stepG c y ((w[k].toNat : Int) - 97)).2 = 0
      · left
        rw [if_pos h0]
        rw [if_pos h0] at h3
        exact ⟨_, rfl, ⟨k + 1, by omega, rfl, stepG_tup hV h0, h3⟩, by simp only; omega⟩
      · right
        rw [if_neg h0]
        rw [if_neg h0] at h3
        rw [h3]
    · right
      have : k = w.size := by omega
      subst this
      rw [if_neg (by omega)]
      rw [endL] at h3
      rw [← h3]
      all_goals rfl
  · refine loopG_eq (fun st : Int × List Int => ∃ k : Nat, k ≤ w.size ∧ st.1 = (k : Int) ∧ tupB c.sizes st.2 = true ∧ runS c st.2 ((lets w).drop k) = runS c x (lets w)) (fun st => w.size - st.1.toNat) (s := (0, x)) ⟨0, by omega, rfl, hx, rfl⟩ (by simp only [LFm]; omega) ?_
    rintro ⟨_, y⟩ ⟨k, hk, h1, h2, h3⟩
    simp only at h1 h2 h3
    subst h1
    simp only [ref26_Run_b8]
    by_cases hlt : k < w.size
    · obtain ⟨o1, o2⟩ := ok_at hw hlt
      have hB := w[k].toNat_lt
      rw [letter_at hlt] at h3
      simp only [runS] at h3
      have hyl := tupB_len h2
      rw [if_pos (by omega), byteI_nat hlt, Option.bind_some, wrap8 (by omega) (by omega), wrapI (by omega) (by omega), step_eq c hV y _ h2 (by omega) o2, Option.bind_some, wrapS (by omega)]
      by_cases h0 : (stepG c y ((w[k].toNat : Int) - 97)).2 = 0
      · left
        rw [if_pos h0]
        rw [if_pos h0] at h3
        exact ⟨_, rfl, ⟨k + 1, by omega, rfl, stepG_tup hV h0, h3⟩, by simp only; omega⟩
      · right
        rw [if_neg h0]
        rw [if_neg h0] at h3
        rw [h3]
    · right
      have : k = w.size := by omega
      subst this
      rw [if_neg (by omega)]
      rw [endL] at h3
      rw [← h3]
      all_goals rfl
def runW (c : Casc) (x : List Int) (w : ByteArray) : List Int × Int := if validE c = 0 then (if tupB c.sizes x = true then (if (decide (w.size ≤ 2048) && wordB c.letters w) = true then runS c x (lets w) else ([], 1)) else ([], 1)) else ([], validE c)
theorem Run_eq (c : Casc) (h : CB c) (x : List Int) (w : ByteArray) (hx : x.length < 1000000) : cascade_Run c x w = some (runW c x w) := by
  unfold cascade_Run cascade_NewRunner runW
  rw [Validate_eq c h]
  simp only [Option.bind_some]
  by_cases hv : validE c = 0
  · rw [if_pos hv, if_pos hv]
    simp only [Option.bind_some, if_true]
    have hV := valid_of c hv
    rw [isTuple_eq _ _ (by omega), Option.bind_some]
    by_cases ht : tupB c.sizes x = true
    · rw [if_pos ht, if_pos ht, wordValid_eq w _ hV.l1 hV.l2, Option.bind_some]
      by_cases hw : (decide (w.size ≤ 2048) && wordB c.letters w) = true
      · rw [if_pos hw, if_pos hw]
        have hcl : vClone x = some x := by
          unfold vClone
          rw [if_pos (by omega)]
        rw [hcl, Option.bind_some]
        simp only [Bool.and_eq_true, decide_eq_true_eq] at hw
        exact (run_loop c hV w x ht hw.2 hw.1).1
      · rw [if_neg hw, if_neg hw]
    · rw [if_neg ht, if_neg ht]
  · rw [if_neg hv, if_neg hv]
    simp only [Option.bind_some]
    rw [if_neg hv]
theorem refRun_eq (c : Casc) (h : CB c) (x : List Int) (w : ByteArray) (hx : x.length < 1000000) : ref26_Run c x w = some (runW c x w) := by
  unfold ref26_Run runW
  rw [refValidate_eq c h]
  simp only [Option.bind_some]
  by_cases hv : validE c = 0
  · rw [if_pos hv, if_pos hv, IsTuple_eq _ _ (by omega)]
    simp only [Option.bind_some]
    have hV := valid_of c hv
    by_cases ht : tupB c.sizes x = true
    · rw [if_pos ht, if_pos ht, refValid_eq w _ hV.l1 hV.l2, Option.bind_some]
      by_cases hw : (decide (w.size ≤ 2048) && wordB c.letters w) = true
      · rw [if_pos hw, if_pos hw, chk_pos _ (by unfold capOk; omega)]
        simp only [Bool.and_eq_true, decide_eq_true_eq] at hw
        exact (run_loop c hV w x ht hw.2 hw.1).2
      · rw [if_neg hw, if_neg hw]
    · rw [if_neg ht, if_neg ht]
  · rw [if_neg hv, if_neg hv]
theorem all_true (c : Casc) (h : CB c) (x : List Int) (l : Int) (w : ByteArray) (hx : x.length < 1000000) : law26_all c x l w = some true := by
  unfold law26_all
  have k1 : (kindsV c).length < 4611686018427387904 := by
    unfold kindsV
    have := h.sz
    split <;> simp <;> omega
  have s1 : (stepW c x l).1.length < 4611686018427387904 := by
    unfold stepW
    have := stepG_len c x l
    split
    · omega
    · simp
  have r1 : (runW c x w).1.length < 4611686018427387904 := by
    unfold runW
    have := runS_len c (lets w) x
    split
    · split
      · split
        · omega
        · simp
      · simp
    · simp
  rw [Validate_eq c h, refValidate_eq c h]
  simp only [Option.bind_some]
  rw [if_pos trivial, Kinds_eq c h, refKinds_eq c h]
  simp only [Option.bind_some]
  rw [Same_eq _ _ k1]
  simp only [Option.bind_some]
  rw [if_pos (by simp), Step_eq c h x l hx, refStep_eq c h x l hx, Run_eq c h x w hx, refRun_eq c h x w hx, Format_eq c h, refFormat_eq c h]
  simp only [Option.bind_some]
  rw [if_pos trivial, Same_eq _ _ s1]
  simp only [Option.bind_some]
  rw [if_pos (by simp), if_pos trivial, Same_eq _ _ r1]
  simp
end Go.Proofs.YthalofddjlhcjaaDoor
end
section
/- Plain facts on the prefixes and rows that law26.build makes. No program. -/
namespace Go.Proofs.YthalofddjlhcjaaDoor
set_option linter.unusedVariables false
set_option linter.unusedSimpArgs false

theorem cmpL_snoc : ∀ (p q : List Int) (s t : Int), p.length = q.length → cmpL p q < 0 → cmpL (p ++ [s]) (q ++ [t]) < 0
  | [], [], s, t, _, h => by simp [cmpL] at h
  | [], _ :: _, s, t, hl, h => by simp at hl
  | _ :: _, [], s, t, hl, h => by simp at hl
  | a :: x, b :: y, s, t, hl, h => by
    simp only [List.cons_append, cmpL] at h ⊢
    split at h
    · rename_i h1; rw [if_pos h1]; decide
    · rename_i h1
      rw [if_neg h1]
      split at h
      · omega
      · rename_i h2
        rw [if_neg h2]
        exact cmpL_snoc x y s t (by simpa using hl) h
theorem cmpL_last : ∀ (p : List Int) (s t : Int), s < t → cmpL (p ++ [s]) (p ++ [t]) < 0
  | [], s, t, h => by simp [cmpL, h]
  | a :: x, s, t, h => by
    simp only [List.cons_append, cmpL]
    rw [if_neg (by omega), if_neg (by omega)]
    exact cmpL_last x s t h

theorem cmpR_short {a b : List Int} (h : a.length < b.length) : cmpR a b < 0 := by simp [cmpR, h]
theorem cmpR_same {a b : List Int} (h : a.length = b.length) : cmpR a b = cmpL a b := by simp [cmpR, h]

/-- The prefixes with one state more. -/
def nextOf (size : Nat) (p : List Int) : List (List Int) := (List.range size).map fun s : Nat => p ++ [(s : Int)]
def nextP (size : Nat) (pfx : List (List Int)) : List (List Int) := pfx.flatMap (nextOf size)

theorem nextOf_mem {size : Nat} {p q : List Int} (h : q ∈ nextOf size p) : ∃ s : Nat, s < size ∧ q = p ++ [(s : Int)] := by
  simp only [nextOf, List.mem_map, List.mem_range] at h
  obtain ⟨s, hs, rfl⟩ := h
  exact ⟨s, hs, rfl⟩

/-- The list of the prefixes of a length. -/
structure PfxOk (sizes : List Int) (pfx : List (List Int)) : Prop where
  len : ∀ p ∈ pfx, p.length = sizes.length
  inn : ∀ p ∈ pfx, inB sizes p = true
  up : pfx.Pairwise fun a b => cmpL a b < 0
  cnt : pfx.length ≤ 3 ^ sizes.length

theorem pfxOk_start : PfxOk [] [[]] := ⟨by simp, by simp [inB], by simp, by simp⟩

theorem inB_snoc {sizes p : List Int} {n s : Int} (hl : p.length = sizes.length) (h : inB sizes p = true) (h0 : 0 ≤ s) (h1 : s < n) : inB (sizes ++ [n]) (p ++ [s]) = true := by
  unfold inB at h ⊢
  rw [List.zip_append hl, List.all_append, h]
  simp [h0, h1]
theorem inB_more {sizes p : List Int} {n : Int} (hl : p.length ≤ sizes.length) (h : inB sizes p = true) : inB (sizes ++ [n]) p = true := by
  rw [inB_iff _ _ (by simp; omega)]
  intro i hi
  have := (inB_iff _ _ hl).1 h i hi
  rw [show (sizes ++ [n]).getD i 0 = sizes.getD i 0 by rw [List.getD_eq_getElem?_getD, List.getD_eq_getElem?_getD, List.getElem?_append_left (by omega)]]
  exact this

theorem nextP_len (size : Nat) (pfx : List (List Int)) : (nextP size pfx).length = size * pfx.length := by
  induction pfx with
  | nil => simp [nextP]
  | cons p l ih =>
    simp only [nextP] at ih ⊢
    rw [List.flatMap_cons, List.length_append, ih]
    simp [nextOf, Nat.mul_add, Nat.add_comm]

theorem nextP_up (size : Nat) : ∀ (pfx : List (List Int)) (n : Nat), (∀ p ∈ pfx, p.length = n) → (pfx.Pairwise fun a b => cmpL a b < 0) → (nextP size pfx).Pairwise fun a b => cmpL a b < 0
  | [], _, _, _ => by simp [nextP]
  | p :: l, n, hl, hu => by
    obtain ⟨h1, h2⟩ := List.pairwise_cons.1 hu
    have ih := nextP_up size l n (fun q hq => hl q (by simp [hq])) h2
    rw [nextP, List.flatMap_cons, List.pairwise_append]
    refine ⟨?_, ih, ?_⟩
    · rw [nextOf, List.pairwise_map]
      exact List.Pairwise.imp (R := fun a b : Nat => a < b) (fun {a b} (h : a < b) => cmpL_last p (a : Int) (b : Int) (by omega)) List.pairwise_lt_range
    · intro a ha b hb
      obtain ⟨s, hs, rfl⟩ := nextOf_mem ha
      obtain ⟨q, hq, hb⟩ := List.mem_flatMap.1 hb
      obtain ⟨t, ht, rfl⟩ := nextOf_mem hb
      exact cmpL_snoc p q _ _ (by rw [hl p (by simp), hl q (by simp [hq])]) (h1 q hq)

theorem pfxOk_next {sizes : List Int} {pfx : List (List Int)} (h : PfxOk sizes pfx) (size : Nat) (h3 : size ≤ 3) : PfxOk (sizes ++ [(size : Int)]) (nextP size pfx) := by
  refine ⟨?_, ?_, nextP_up size pfx _ h.len h.up, ?_⟩
  · intro q hq
    obtain ⟨p, hp, hq⟩ := List.mem_flatMap.1 hq
    obtain ⟨s, hs, rfl⟩ := nextOf_mem hq
    simp [h.len p hp]
  · intro q hq
    obtain ⟨p, hp, hq⟩ := List.mem_flatMap.1 hq
    obtain ⟨s, hs, rfl⟩ := nextOf_mem hq
    exact inB_snoc (h.len p hp) (h.inn p hp) (by omega) (by omega)
  · rw [nextP_len]
    simp only [List.length_append, List.length_cons, List.length_nil, Nat.zero_add, Nat.pow_succ]
    have := Nat.mul_le_mul h3 h.cnt
    omega

/-- The rows so far. -/
structure RowsOk (letters : Int) (sizes : List Int) (rows : List CRow) : Prop where
  row : ∀ r ∈ rows, rowB ⟨letters, sizes, []⟩ r = true
  up : rows.Pairwise fun a b => cmpR a.pre b.pre < 0

theorem rowsOk_start (letters : Int) : RowsOk letters [] [] := ⟨by simp, by simp⟩

theorem rowsOk_size {letters : Int} {sizes : List Int} {rows : List CRow} (h : RowsOk letters sizes rows) (n : Int) : RowsOk letters (sizes ++ [n]) rows := by
  refine ⟨fun r hr => ?_, h.up⟩
  have hl : r.pre.length < sizes.length := by
    have := h.row r hr
    simp only [rowB, Bool.and_eq_true, decide_eq_true_eq] at this
    exact this.1.1.1
  have := h.row r hr
  simp only [rowB, Bool.and_eq_true, decide_eq_true_eq] at this ⊢
  refine ⟨⟨⟨by simp; omega, inB_more (by omega) this.1.1.2⟩, this.1.2⟩, ?_⟩
  rw [show (sizes ++ [n]).getD r.pre.length 0 = sizes.getD r.pre.length 0 by rw [List.getD_eq_getElem?_getD, List.getD_eq_getElem?_getD, List.getElem?_append_left hl]]
  exact this.2

theorem rowsOk_short {letters : Int} {sizes : List Int} {rows : List CRow} (h : RowsOk letters sizes rows) : ∀ r ∈ rows, r.pre.length < sizes.length := fun r hr => by
  have := h.row r hr
  simp only [rowB, Bool.and_eq_true, decide_eq_true_eq] at this
  exact this.1.1.1

/-- One row more. -/
theorem rowsOk_snoc {letters : Int} {sizes : List Int} {n : Int} {rows : List CRow} {p : List Int} {maps : List (List Int)} (h : RowsOk letters (sizes ++ [n]) rows) (hp : p.length = sizes.length) (hin : inB sizes p = true)
    (hm : (maps.length : Int) = letters) (hmm : ∀ m ∈ maps, mapB n m = true) (hlt : ∀ r ∈ rows, cmpR r.pre p < 0) : RowsOk letters (sizes ++ [n]) (rows ++ [⟨p, maps⟩]) := by
  refine ⟨fun r hr => ?_, ?_⟩
  · rcases List.mem_append.1 hr with hr | hr
    · exact h.row r hr
    · obtain rfl : r = ⟨p, maps⟩ := by simpa using hr
      simp only [rowB, Bool.and_eq_true, decide_eq_true_eq, List.all_eq_true]
      refine ⟨⟨⟨by simp; omega, inB_more (by omega) hin⟩, hm⟩, ?_⟩
      rw [hp, show (sizes ++ [n]).getD sizes.length 0 = n by rw [List.getD_eq_getElem?_getD, List.getElem?_append_right (by omega)]; simp]
      exact hmm
  · rw [List.pairwise_append]
    exact ⟨h.up, by simp, fun a ha b hb => by
      have e : b = ⟨p, maps⟩ := by simpa using hb
      subst e
      exact hlt a ha⟩

theorem valid_build {letters : Int} {sizes : List Int} {rows : List CRow} (h : RowsOk letters sizes rows) (hl : 1 ≤ letters ∧ letters ≤ 6) (hs : sizes.length ≤ 24) (hs2 : ∀ n ∈ sizes, 1 ≤ n ∧ n ≤ 32) (hr : rows.length ≤ 48000) : validE ⟨letters, sizes, rows⟩ = 0 := by
  unfold validE
  simp only []
  rw [if_neg (by omega), if_neg (by omega), if_pos]
  rw [Bool.and_eq_true]
  refine ⟨?_, ?_⟩
  · simp only [List.all_eq_true, Bool.and_eq_true, decide_eq_true_eq]; exact hs2
  · simp only [rowsUpB, List.all_eq_true, List.mem_range, Bool.and_eq_true, Bool.or_eq_true, decide_eq_true_eq]
    intro i hi
    rw [getD_of_lt _ hi]
    refine ⟨h.row _ (List.getElem_mem _), ?_⟩
    by_cases h0 : i = 0
    · exact .inl h0
    · right
      rw [getD_of_lt _ (by omega)]
      exact List.pairwise_iff_getElem.1 h.up (i - 1) i (by omega) hi (by omega)
end Go.Proofs.YthalofddjlhcjaaDoor
end
section
/- Plain: the cascades that the tape gives. -/
namespace Go.Proofs.YthalofddjlhcjaaDoor
open Go
set_option linter.unusedVariables false
set_option linter.unusedSimpArgs false
set_option maxHeartbeats 1000000

/-- What is known of a built cascade. -/
structure Built (c : Casc) : Prop where
  l1 : 1 ≤ c.letters
  l2 : c.letters ≤ 2
  s1 : c.sizes.length ≤ 3
  sz : ∀ z ∈ c.sizes, 1 ≤ z ∧ z ≤ 3
  rl : c.rows.length ≤ 40 * c.sizes.length
  rok : RowsOk c.letters c.sizes c.rows
theorem built_valid {c : Casc} (h : Built c) : validE c = 0 := valid_build h.rok ⟨h.l1, by have := h.l2; omega⟩ (by have := h.s1; omega) (fun n hn => by have := h.sz n hn; omega) (by have := h.rl; have := h.s1; omega)
/-- The rows so far come before the prefixes from k on. -/
def Ahead (rs : List CRow) (ps : List (List Int)) (k : Nat) : Prop := ∀ r ∈ rs, ∀ j, (h : j < ps.length) → k ≤ j → cmpR r.pre ps[j] < 0
theorem ahead_next {rs : List CRow} {ps : List (List Int)} {k : Nat} (h : Ahead rs ps k) : Ahead rs ps (k + 1) := fun r hr j hj hk => h r hr j hj (by omega)
theorem ahead_snoc {szs : List Int} {rs : List CRow} {ps : List (List Int)} {k : Nat} {ms : List (List Int)} (hp : PfxOk szs ps) (hk : k < ps.length) (h : Ahead rs ps k) : Ahead (rs ++ [⟨ps[k], ms⟩]) ps (k + 1) := fun r hr j hj hkj => by
  rcases List.mem_append.1 hr with hr | hr
  · exact h r hr j hj (by omega)
  · obtain rfl : r = ⟨ps[k], ms⟩ := by simpa using hr
    rw [cmpR_same (by rw [hp.len _ (List.getElem_mem _), hp.len _ (List.getElem_mem _)])]
    exact List.pairwise_iff_getElem.1 hp.up k j hk hj (by omega)
theorem ahead_first {lt : Int} {szs : List Int} {rs : List CRow} {ps : List (List Int)} (hr : RowsOk lt szs rs) (hp : PfxOk szs ps) : Ahead rs ps 0 := fun r h j hj _ => cmpR_short (by rw [hp.len _ (List.getElem_mem _)]; exact rowsOk_short hr r h)
theorem pow3_le {n : Nat} (h : n ≤ 3) : 3 ^ n ≤ 27 := by
  match n, h with
  | 0, _ => decide
  | 1, _ => decide
  | 2, _ => decide
  | 3, _ => decide
theorem pfx_loop {ρ : Type} {b : Int × List (List Int) → Option ((Int × List (List Int)) ⊕ ρ)} {p : List Int} {sz : Nat} {X : List (List Int) → Option ρ} (nx : List (List Int)) (hp : p.length ≤ 100) (hn : nx.length + sz ≤ 1000000)
    (hb : ∀ s n, b (s, n) = if s < (sz : Int) then (chk (capOk 8 p.length) <| chk (capOk 8 (p.length + 1)) <| chk (capOk 24 (n.length + 1)) <| nextG (IntKind.i64.wrap (s + 1), n ++ [p ++ [s]])) else exitG (X n)) : loopG b LFm (0, nx) = X (nx ++ nextOf sz p) := by
  refine loop_to sz (fun k => ((k : Int), nx ++ nextOf k p)) (by simp [nextOf]) (by simp only [LFm]; omega) (fun k hk => ?_) ?_
  · have : (nextOf k p).length = k := by simp [nextOf]
    rw [hb, if_pos (by omega), chk_pos _ (by unfold capOk; omega), chk_pos _ (by unfold capOk; omega), chk_pos _ (by unfold capOk; simp only [List.length_append]; omega), wrapS (by omega)]
    congr 2
    rw [List.append_assoc]
    congr 1
    simp [nextOf, List.range_succ]
  · rw [hb, if_neg (by omega)]
/-- A map's cells. -/
theorem cells_in (v836 v943 : Int × Tape) (w929 : Int) (w932 : List (List Int)) (v942 : Int × Tape) (sz : Nat) (h1 : IntKind.i64.wrap (1 + v836.1) = sz) (hs : 1 ≤ sz ∧ sz ≤ 3) (hv : 0 ≤ v943.1 ∧ v943.1 < sz) (ht : TapeOk v943.2) (hl : w932.length ≤ 100) (hw : 0 ≤ w929 ∧ w929 < 100) :
    ∃ m t', loopG (law26_build_b20 v836 w929 w932 v942 v943) LFm (0, v943.2.l, v943.2.at_, []) = some (.inl (w929 + 1, t'.l, t'.at_, w932 ++ [m])) ∧ TapeOk t' ∧ mapB sz m = true := by
  refine Exists.elim (loopG_rule (b := law26_build_b20 v836 w929 w932 v942 v943) (fun s => ∃ (k : Nat) (t : Tape) (m : List Int), k ≤ sz ∧ TapeOk t ∧ m.length = k ∧ (∀ x ∈ m, 0 ≤ x ∧ x < sz) ∧ s = ((k : Int), t.l, t.at_, m)) (fun s => sz - s.1.toNat)
    (fun o => ∃ m t', o = .inl (w929 + 1, t'.l, t'.at_, w932 ++ [m]) ∧ TapeOk t' ∧ mapB sz m = true) ?_ LFm _ ⟨0, v943.2, [], by omega, ht, rfl, by simp, rfl⟩ (by simp only [LFm]; omega)) fun r h => ?_
  · rintro _ ⟨k, t, m, hk, htk, hm, hin, rfl⟩
    simp only [law26_build_b20, h1]
    by_cases hlt : k < sz
    case neg =>
      right
      rw [if_neg (by omega), chk_pos _ (by unfold capOk; omega), wrapI (by omega) (by omega)]
      refine ⟨_, rfl, m, t, rfl, htk, ?_⟩
      unfold mapB
      rw [Bool.and_eq_true, decide_eq_true_eq]
      refine ⟨by omega, ?_⟩
      simp only [List.all_eq_true, Bool.and_eq_true, decide_eq_true_eq]
      exact hin
    left
    have more : ∀ (t' : Tape) (x : Int), TapeOk t' → 0 ≤ x ∧ x < sz → (∃ s', nextG (IntKind.i64.wrap ((k : Int) + 1), t'.l, t'.at_, m ++ [x]) = some (Sum.inl (β := (Int × List Int × Int × List (List Int)) ⊕ ((Int × List Int × Int × List CRow × List (List Int)) ⊕ ((Int × List Int × Int × List Int × List CRow × List (List Int)) ⊕ (Casc × Tape)))) s') ∧ (∃ (k : Nat) (t : Tape) (m : List Int), k ≤ sz ∧ TapeOk t ∧ m.length = k ∧ (∀ x ∈ m, 0 ≤ x ∧ x < sz) ∧ s' = ((k : Int), t.l, t.at_, m)) ∧ sz - s'.1.toNat < sz - ((k : Int)).toNat) := fun t' x ht' hx => by
      rw [wrapS (by omega)]
      refine ⟨_, rfl, ⟨k + 1, t', m ++ [x], by omega, ht', by simp [hm], ?_, rfl⟩, by simp only [Int.toNat_natCast]; omega⟩
      intro y hy
      rcases List.mem_append.1 hy with h | h
      · exact hin y h
      · have : y = x := by simpa using h
        rw [this]; exact hx
    rw [if_pos (by omega)]
    by_cases h0 : v942.1 = 0
    · rw [if_pos h0, chk_pos _ (by omega), chk_pos _ (by unfold capOk; omega), wrapI (x := (k : Int) + v943.1) (by omega) (by omega)]
      have e1 : 0 ≤ Int.tmod ((k : Int) + v943.1) sz := Int.tmod_nonneg _ (by omega)
      have e2 : Int.tmod ((k : Int) + v943.1) sz < sz := Int.tmod_lt_of_pos _ (by omega)
      exact more t _ htk ⟨e1, e2⟩
    · rw [if_neg h0]
      by_cases h1 : v942.1 = 1
      · rw [if_pos h1, chk_pos _ (by unfold capOk; omega)]
        exact more t _ htk hv
      · rw [if_neg h1]
        obtain ⟨v, t2, e2, v0, v1, ht2⟩ := next_in htk sz (by omega) (by omega)
        rw [show (⟨t.l, t.at_⟩ : Tape) = t from rfl, e2]
        simp only [Option.bind_some]
        rw [chk_pos _ (by unfold capOk; omega)]
        exact more t2 v ht2 ⟨v0, v1⟩
  · obtain ⟨h2, m, t', rfl, h3, h4⟩ := h
    exact ⟨m, t', h2, h3, h4⟩
end Go.Proofs.YthalofddjlhcjaaDoor
end
section
/- Plain: the cascades that the tape gives, whole; its tuples. -/
namespace Go.Proofs.YthalofddjlhcjaaDoor
open Go
set_option linter.unusedVariables false
set_option linter.unusedSimpArgs false
set_option maxHeartbeats 1000000

/-- The maps of a row, and the prefixes behind it. -/
theorem maps_in (v477 v836 : Int × Tape) (w874 : Nat) (nx : List (List Int)) (rs : List CRow) (p : List Int) (t : Tape) (lt : Nat) (sz : Nat) (h0 : IntKind.i64.wrap (1 + v477.1) = lt) (hlt : 1 ≤ lt ∧ lt ≤ 2) (h1 : IntKind.i64.wrap (1 + v836.1) = sz) (hs : 1 ≤ sz ∧ sz ≤ 3) (ht : TapeOk t)
    (hr : rs.length ≤ 1000) (hp : p.length ≤ 100) (hn : nx.length ≤ 1000) (hw : w874 ≤ 1000) :
    ∃ (ms : List (List Int)) (t' : Tape), loopG (law26_build_b15 v477 v836 (w874 : Int) nx rs p) LFm (0, t.l, t.at_, []) = some (.inl (((w874 + 1 : Nat) : Int), t'.l, t'.at_, rs ++ [⟨p, ms⟩], nx ++ nextOf sz p)) ∧ TapeOk t' ∧ ms.length = lt ∧ ∀ m ∈ ms, mapB sz m = true := by
  refine Exists.elim (loopG_rule (b := law26_build_b15 v477 v836 (w874 : Int) nx rs p) (fun s => ∃ (k : Nat) (t : Tape) (ms : List (List Int)), k ≤ lt ∧ TapeOk t ∧ ms.length = k ∧ (∀ m ∈ ms, mapB sz m = true) ∧ s = ((k : Int), t.l, t.at_, ms)) (fun s => lt - s.1.toNat)
    (fun o => ∃ (ms : List (List Int)) (t' : Tape), o = .inl (((w874 + 1 : Nat) : Int), t'.l, t'.at_, rs ++ [⟨p, ms⟩], nx ++ nextOf sz p) ∧ TapeOk t' ∧ ms.length = lt ∧ ∀ m ∈ ms, mapB sz m = true) ?_ LFm _ ⟨0, t, [], by omega, ht, rfl, by simp, rfl⟩ (by simp only [LFm]; omega)) fun r h => ?_
  · rintro _ ⟨k, t, ms, hk, htk, hm, hin, rfl⟩
    simp only [law26_build_b15, h0]
    by_cases hkl : k < lt
    case neg =>
      right
      rw [if_neg (by omega), chk_pos _ (by unfold capOk; omega)]
      rw [pfx_loop (p := p) (sz := sz) (X := fun n => nextG (((w874 + 1 : Nat) : Int), t.l, t.at_, rs ++ [⟨p, ms⟩], n)) nx hp (by omega)]
      · exact ⟨_, rfl, ms, t, rfl, htk, by omega, hin⟩
      · intro s n
        simp only [law26_build_b31a, h1]
        rw [wrapS (k := w874) (by omega)]
    left
    rw [if_pos (by omega)]
    obtain ⟨v, t2, e2, v0, v1, ht2⟩ := next_in htk 3 (by omega) (by omega)
    rw [show (⟨t.l, t.at_⟩ : Tape) = t from rfl, e2]
    simp only [Option.bind_some]
    obtain ⟨u, t3, e3, u0, u1, ht3⟩ := next_in ht2 sz (by omega) (by omega)
    rw [h1, e3]
    simp only [Option.bind_some]
    obtain ⟨m, t4, e4, ht4, hmb⟩ := cells_in v836 (u, t3) (k : Int) ms (v, t2) sz h1 hs ⟨u0, u1⟩ ht3 (by omega) (by omega)
    rw [e4]
    refine ⟨_, rfl, ⟨k + 1, t4, ms ++ [m], by omega, ht4, by simp [hm], ?_, by simp⟩, by simp only; omega⟩
    intro y hy
    rcases List.mem_append.1 hy with h | h
    · exact hin y h
    · have : y = m := by simpa using h
      rw [this]; exact hmb
  · obtain ⟨h2, m, t', rfl, h3, h4⟩ := h
    exact ⟨m, t', h2, h3, h4⟩
/-- A component: its rows and the next prefixes. -/
theorem comp_in (v477 v836 : Int × Tape) (n : Int) (szs : List Int) (ps : List (List Int)) (rs : List CRow) (t : Tape) (lt : Nat) (sz : Nat) (h0 : IntKind.i64.wrap (1 + v477.1) = lt) (hlt : 1 ≤ lt ∧ lt ≤ 2) (h1 : IntKind.i64.wrap (1 + v836.1) = sz) (hs : 1 ≤ sz ∧ sz ≤ 3) (ht : TapeOk t)
    (hn : 0 < n ∧ n ≤ 3) (hz : szs.length ≤ 2) (hr : RowsOk lt szs rs) (hp : PfxOk szs ps) (hrl : rs.length ≤ 40 * szs.length) :
    ∃ (rs' : List CRow) (t' : Tape), loopG (law26_build_b10 v477 n szs ps v836) LFm (0, t.l, t.at_, rs, []) = some (.inl (n - 1, t'.l, t'.at_, szs ++ [(sz : Int)], rs', nextP sz ps)) ∧ TapeOk t' ∧ RowsOk lt (szs ++ [(sz : Int)]) rs' ∧ rs'.length ≤ 40 * (szs.length + 1) := by
  have hpc : ps.length ≤ 27 := Nat.le_trans hp.cnt (pow3_le (by omega))
  refine Exists.elim (loopG_rule (b := law26_build_b10 v477 n szs ps v836) (fun s => ∃ (k : Nat) (t : Tape) (rs' : List CRow), k ≤ ps.length ∧ TapeOk t ∧ RowsOk lt (szs ++ [(sz : Int)]) rs' ∧ rs'.length ≤ 40 * szs.length + k ∧ Ahead rs' ps k ∧ s = ((k : Int), t.l, t.at_, rs', nextP sz (ps.take k))) (fun s => ps.length - s.1.toNat)
    (fun o => ∃ (rs' : List CRow) (t' : Tape), o = .inl (n - 1, t'.l, t'.at_, szs ++ [(sz : Int)], rs', nextP sz ps) ∧ TapeOk t' ∧ RowsOk lt (szs ++ [(sz : Int)]) rs' ∧ rs'.length ≤ 40 * (szs.length + 1)) ?_ LFm (0, t.l, t.at_, rs, [])
    ⟨0, t, rs, by omega, ht, rowsOk_size hr _, by omega, ahead_first hr hp, by simp [nextP]⟩ (by simp only [LFm]; omega)) fun r h => ?_
  · rintro _ ⟨k, t, rs', hk, htk, hrok, hrl', hah, rfl⟩
    simp only [law26_build_b10]
    by_cases hkl : k < ps.length
    case neg =>
      right
      rw [if_neg (by omega), h1, wrapI (by omega) (by omega), List.take_of_length_le (by omega)]
      exact ⟨_, rfl, rs', t, rfl, htk, hrok, by omega⟩
    left
    rw [if_pos (by omega), atI_nat hkl]
    simp only [Option.bind_some]
    obtain ⟨v, t2, e2, v0, v1, ht2⟩ := next_in htk 12 (by omega) (by omega)
    rw [show (⟨t.l, t.at_⟩ : Tape) = t from rfl, e2]
    simp only [Option.bind_some]
    have hpl := hp.len _ (List.getElem_mem hkl)
    have hpk : ps.take (k + 1) = ps.take k ++ [ps[k]] := by rw [List.take_add_one, List.getElem?_eq_getElem hkl]; rfl
    have hnx : nextP sz (ps.take (k + 1)) = nextP sz (ps.take k) ++ nextOf sz ps[k] := by rw [hpk, nextP, nextP, List.flatMap_append]; simp
    have hnl : (nextP sz (ps.take k)).length ≤ 100 := by
      rw [nextP_len]
      have h1 : (ps.take k).length ≤ 27 := by simp; omega
      have := Nat.mul_le_mul hs.2 h1
      omega
    by_cases hm : v = 11
    · rw [if_pos hm]
      rw [pfx_loop (p := ps[k]) (sz := sz) (X := fun n => nextG (((k + 1 : Nat) : Int), t2.l, t2.at_, rs', n)) (nextP sz (ps.take k)) (by omega) (by omega)]
      · exact ⟨_, rfl, ⟨k + 1, t2, rs', by omega, ht2, hrok, by omega, ahead_next hah, by rw [hnx]⟩, by simp only [Int.toNat_natCast]; omega⟩
      · intro s n
        simp only [law26_build_b31, h1]
        rw [wrapS (k := k) (by omega)]
    · rw [if_neg hm]
      obtain ⟨ms, t3, e3, ht3, hml, hmm⟩ := maps_in v477 v836 k (nextP sz (ps.take k)) rs' ps[k] t2 lt sz h0 hlt h1 hs ht2 (by omega) (by omega) (by omega) (by omega)
      rw [e3]
      exact ⟨_, rfl, ⟨k + 1, t3, rs' ++ [⟨ps[k], ms⟩], by omega, ht3, rowsOk_snoc hrok hpl (hp.inn _ (List.getElem_mem hkl)) (by omega) hmm (fun r hr => hah r hr k hkl (Nat.le_refl k)), by simp; omega, ahead_snoc hp hkl hah, by rw [hnx]⟩, by simp only [Int.toNat_natCast]; omega⟩
  · obtain ⟨h2, m, t', rfl, h3, h4⟩ := h
    exact ⟨m, t', h2, h3, h4⟩
theorem build_in {t : Tape} (ht : TapeOk t) : ∃ c t', law26_build t = some (c, t') ∧ Built c ∧ TapeOk t' := by
  unfold law26_build
  obtain ⟨v, t2, e2, v0, v1, ht2⟩ := next_in ht 2 (by omega) (by omega)
  rw [e2]
  simp only [Option.bind_some]
  obtain ⟨N, t3, e3, n0, n1, ht3⟩ := next_in ht2 4 (by omega) (by omega)
  rw [e3]
  simp only [Option.bind_some]
  obtain ⟨lt, hlt⟩ : ∃ lt : Nat, (lt : Int) = 1 + v := ⟨(1 + v).toNat, by omega⟩
  have hw : IntKind.i64.wrap (1 + v) = lt := by rw [wrapI (by omega) (by omega)]; omega
  refine Exists.elim (loopG_rule (b := law26_build_b4 (v, t2)) (fun s => ∃ (n : Int) (t : Tape) (szs : List Int) (rs : List CRow) (ps : List (List Int)), 0 ≤ n ∧ n + szs.length = N ∧ TapeOk t ∧ (∀ z ∈ szs, 1 ≤ z ∧ z ≤ 3) ∧ RowsOk lt szs rs ∧ PfxOk szs ps ∧ rs.length ≤ 40 * szs.length ∧ s = (n, t.l, t.at_, szs, rs, ps)) (fun s => s.1.toNat)
    (fun r => Built r.1 ∧ TapeOk r.2) ?_ LFm _ ⟨N, t3, [], [], [[]], n0, by simp, ht3, by simp, rowsOk_start _, pfxOk_start, by simp, rfl⟩ (by simp only [LFm]; omega)) fun r h => ⟨r.1, r.2, h.1, h.2.1, h.2.2⟩
  rintro _ ⟨n, t, szs, rs, ps, hn0, hn, htk, hz, hr, hp, hrl, rfl⟩
  simp only [law26_build_b4]
  by_cases hpos : 0 < n
  case neg =>
    right
    rw [if_neg hpos, hw]
    exact ⟨_, rfl, ⟨by simp only; omega, by simp only; omega, by simp only; omega, hz, hrl, hr⟩, htk⟩
  left
  rw [if_pos hpos]
  obtain ⟨z, t4, e4, z0, z1, ht4⟩ := next_in htk 3 (by omega) (by omega)
  rw [show (⟨t.l, t.at_⟩ : Tape) = t from rfl, e4]
  simp only [Option.bind_some]
  obtain ⟨sz, hsz⟩ : ∃ sz : Nat, (sz : Int) = 1 + z := ⟨(1 + z).toNat, by omega⟩
  have hwz : IntKind.i64.wrap (1 + z) = sz := by rw [wrapI (by omega) (by omega)]; omega
  rw [chk_pos _ (by unfold capOk; omega)]
  obtain ⟨rs', t5, e5, ht5, hr5, hrl5⟩ := comp_in (v, t2) (z, t4) n szs ps rs t4 lt sz hw (by omega) hwz (by omega) ht4 (by omega) (by omega) hr hp hrl
  rw [e5]
  refine ⟨_, rfl, ⟨n - 1, t5, szs ++ [(sz : Int)], rs', nextP sz ps, by omega, by simp; omega, ht5, ?_, hr5, pfxOk_next hp sz (by omega), by simp; omega, rfl⟩, by simp only; omega⟩
  intro y hy
  rcases List.mem_append.1 hy with h | h
  · exact hz y h
  · have : y = sz := by simpa using h
    omega
theorem tuple_in {t : Tape} (ht : TapeOk t) (c : Casc) (hz : ∀ z ∈ c.sizes, 1 ≤ z ∧ z ≤ 32) (hs : c.sizes.length ≤ 24) : ∃ x t', law26_tuple t c = some (x, t') ∧ tupB c.sizes x = true ∧ TapeOk t' := by
  unfold law26_tuple
  refine Exists.elim (loopG_rule (b := law26_tuple_b3 c) (fun s => ∃ (k : Nat) (t : Tape) (x : List Int), k ≤ c.sizes.length ∧ TapeOk t ∧ x.length = k ∧ (∀ i, i < k → 0 ≤ x.getD i 0 ∧ x.getD i 0 < c.sizes.getD i 0) ∧ s = ((k : Int), t.l, t.at_, x)) (fun s => c.sizes.length - s.1.toNat)
    (fun r => tupB c.sizes r.1 = true ∧ TapeOk r.2) ?_ LFm _ ⟨0, t, [], by omega, ht, rfl, fun i hi => by omega, rfl⟩ (by simp only [LFm]; omega)) fun r h => ⟨r.1, r.2, h.1, h.2.1, h.2.2⟩
  rintro _ ⟨k, t, x, hk, htk, hx, hin, rfl⟩
  simp only [law26_tuple_b3]
  by_cases hkl : k < c.sizes.length
  case neg =>
    right
    rw [if_neg (by omega)]
    refine ⟨_, rfl, ?_, htk⟩
    unfold tupB
    rw [Bool.and_eq_true, decide_eq_true_eq, inB_iff _ _ (by simp only; omega)]
    exact ⟨by simp only; omega, fun i hi => hin i (by simp only at hi; omega)⟩
  left
  have hzk := hz _ (List.getElem_mem hkl)
  rw [if_pos (by omega), atI_nat hkl]
  simp only [Option.bind_some]
  obtain ⟨v, t2, e2, v0, v1, ht2⟩ := next_in htk c.sizes[k] (by omega) (by omega)
  rw [show (⟨t.l, t.at_⟩ : Tape) = t from rfl, e2]
  simp only [Option.bind_some]
  rw [chk_pos _ (by unfold capOk; omega), wrapS (by omega)]
  refine ⟨_, rfl, ⟨k + 1, t2, x ++ [v], by omega, ht2, by simp [hx], ?_, rfl⟩, by simp only [Int.toNat_natCast]; omega⟩
  intro i hi
  by_cases e : i = k
  · subst e
    rw [getD_of_lt 0 (show i < (x ++ [v]).length by simp; omega), List.getElem_append_right (by omega), getD_of_lt 0 hkl]
    simp only [List.getElem_singleton]
    exact ⟨v0, v1⟩
  · have hi2 : i < x.length := by omega
    have := hin i (by omega)
    rw [getD_of_lt 0 hi2] at this
    rw [getD_of_lt 0 (show i < (x ++ [v]).length by simp; omega), List.getElem_append_left hi2]
    exact this
end Go.Proofs.YthalofddjlhcjaaDoor
end
section
/- What a level answers, all higher ones do. Over any program. -/
namespace Go.Proofs.YthalofddjlhcjaaDoor
set_option linter.unusedVariables false
set_option linter.unusedSimpArgs false

/-- The second knows all that the first does. -/
def Mo (C0 C1 : Contract) : Prop := ∀ f a o, C0 f a = some o → C1 f a = some o
section
variable {P : Program} {C0 C1 : Contract}

theorem callF_mo (hMo : Mo C0 C1) {wio : FuncId → Nat → Bool} {fr fr' : Fr} {f : FuncId} {args : List E} {dst : Option Nat} (h : callF C0 wio fr f args dst = some fr') : Ev fun m => callF C1 wio fr f args dst = some fr' := by
  unfold callF at h ⊢
  split at h
  · cases h
  · rename_i ts deps io ha
    split at h
    · cases h
    · rename_i r outs hc
      refine ⟨0, fun m _ => ?_⟩
      show (match C1 f ts with | none => none | some (r, outs) => _) = _
      rw [hMo _ _ _ hc]
      exact h

theorem opF_mo (hMo : Mo C0 C1) {wio : FuncId → Nat → Bool} {fr fr' : Fr} {o : Oper} (h : opF P C0 wio fr o = some fr') : Ev fun m => opF P C1 wio fr o = some fr' := by
  unfold opF at h ⊢
  split at h
  · exact .pure fun _ => h
  · split at h
    · exact callF_mo hMo h
    · cases h
  · exact .pure fun _ => h
  · exact .pure fun _ => h
theorem calmF_mo (hMo : Mo C0 C1) {wio : FuncId → Nat → Bool} {fr fr' : Fr} {o : Oper} (h : calmF P C0 wio fr o = some fr') : Ev fun m => calmF P C1 wio fr o = some fr' := by
  unfold calmF at h ⊢
  split at h
  · split at h
    · split at h
      · exact callF_mo hMo h
      · cases h
    · cases h
  · exact .pure fun _ => h
theorem wrF_mo (hMo : Mo C0 C1) {wio : FuncId → Nat → Bool} {M : Nat → Bool} {fr fr' : Fr} {o : Oper} (h : wrF C0 wio M fr o = some fr') : Ev fun m => wrF C1 wio M fr o = some fr' := by
  unfold wrF at h ⊢
  split at h
  · split at h
    · cases h
    · split at h
      · exact callF_mo hMo h
      · split at h
        · rename_i hM
          simp only [hM, if_true]
          exact callF_mo hMo h
        · cases h
      · cases h
  · cases h

theorem regF_mo (hMo : Mo C0 C1) {wio : FuncId → Nat → Bool} {ops : Array Oper} : ∀ {l : List Oper} {fr fr' : Fr}, regF P C0 wio ops l fr = some fr' → Ev fun m => regF P C1 wio ops l fr = some fr'
  | [], fr, fr', h => .pure fun _ => h
  | o :: rest, fr, fr', h => by
    simp only [regF] at h ⊢
    split at h
    · cases h
    · split at h
      · rename_i fr1 h1
        exact (opF_mo hMo h1).both (regF_mo hMo h) fun m a1 a2 => by rw [a1]; exact a2
      · cases h
    · split at h
      · rename_i fr1 h1
        exact (regF_mo hMo h)
      · cases h
theorem drawZ_mo (hMo : Mo C0 C1) {wio : FuncId → Nat → Bool} {same : Bool} {M : Nat → Bool} {ops : Array Oper} : ∀ {l : List (Nat × Oper × Nat)} {fr fr' : Fr}, drawZ P C0 wio same M ops l fr = some fr' → Ev fun m => drawZ P C1 wio same M ops l fr = some fr'
  | [], fr, fr', h => .pure fun _ => h
  | (k, o, mk) :: rest, fr, fr', h => by
    simp only [drawZ] at h ⊢
    split at h
    · cases h
    · split at h
      · exact drawZ_mo hMo h
      · cases h
    · split at h
      · rename_i hm
        simp only [if_pos hm]
        split at h
        · split at h
          · exact drawZ_mo hMo h
          · cases h
        · cases h
      · rename_i hm
        simp only [if_neg hm]
        split at h
        · rename_i fr1 h1
          have h2 : Ev fun m => (if mk = 2 then opF P C1 wio fr o else if same = true then calmF P C1 wio fr o else wrF C1 wio M fr o) = some fr1 := by
            by_cases e : mk = 2
            · simp only [if_pos e] at h1 ⊢; exact opF_mo hMo h1
            · simp only [if_neg e] at h1 ⊢
              by_cases e2 : same = true
              · simp only [if_pos e2] at h1 ⊢; exact calmF_mo hMo h1
              · simp only [if_neg e2] at h1 ⊢; exact wrF_mo hMo h1
          exact h2.both (drawZ_mo hMo h) fun m a1 a2 => by rw [a1]; exact a2
        · cases h

theorem drawT_mo (hMo : Mo C0 C1) {wio : FuncId → Nat → Bool} {same : Bool} {M : Nat → Bool} {ops : Array Oper} : ∀ {l : SchT} {fr fr' : Fr}, drawT P C0 wio same M ops l fr = some fr' → Ev fun m => drawT P C1 wio same M ops l fr = some fr'
  | .nil, fr, fr', h => .pure fun _ => h
  | .alt x y, fr, fr', h => by
    simp only [drawT] at h ⊢
    split at h
    · rename_i f1 f2 h1 h2
      split at h
      · rename_i hs
        cases h
        exact (drawT_mo hMo h1).both (drawT_mo hMo h2) fun m a1 a2 => by rw [a1, a2]; exact if_pos hs
      · cases h
    · cases h
  | .op k mk rest, fr, fr', h => by
    simp only [drawT] at h ⊢
    split at h
    · cases h
    rename_i o ho
    try simp only [ho]
    split at h
    · cases h
    · split at h
      · exact drawT_mo hMo h
      · cases h
    · split at h
      · rename_i hm
        simp only [if_pos hm]
        split at h
        · split at h
          · exact drawT_mo hMo h
          · cases h
        · cases h
      · rename_i hm
        simp only [if_neg hm]
        split at h
        · rename_i fr1 h1
          have h2 : Ev fun m => (if mk = 2 then opF P C1 wio fr o else if same = true then calmF P C1 wio fr o else wrF C1 wio M fr o) = some fr1 := by
            by_cases e : mk = 2
            · simp only [if_pos e] at h1 ⊢; exact opF_mo hMo h1
            · simp only [if_neg e] at h1 ⊢
              by_cases e2 : same = true
              · simp only [if_pos e2] at h1 ⊢; exact calmF_mo hMo h1
              · simp only [if_neg e2] at h1 ⊢; exact wrF_mo hMo h1
          exact h2.both (drawT_mo hMo h) fun m a1 a2 => by rw [a1]; exact a2
        · cases h
theorem drawAny_mo (hMo : Mo C0 C1) {c : Cfg} {id : Nat} {ops : Array Oper} {fr fr' : Fr} (h : drawAny P C0 c id ops fr = some fr') : Ev fun m => drawAny P C1 c id ops fr = some fr' := by
  unfold drawAny at h ⊢
  split at h
  · exact drawT_mo hMo h
  · split at h
    · exact drawZ_mo hMo h
    · cases h

theorem iterF_mo (hMo : Mo C0 C1) {B : Contract → Fr → Option (X × Fr)} {cn : Fr → Fr} (hB : ∀ fr o, B C0 fr = some o → Ev fun m => B C1 fr = some o) : ∀ {n : Nat} {fr : Fr} {o : X × Fr}, iterF (B C0) cn n fr = some o → Ev fun m => iterF (B C1) cn n fr = some o
  | 0, fr, o, h => by cases h
  | n + 1, fr, o, h => by
    simp only [iterF] at h ⊢
    split at h
    · rename_i fr1 h1
      exact (hB _ _ h1).both (iterF_mo hMo hB h) fun m a1 a2 => by rw [a1]; exact a2
    · rename_i x fr1 hne h1
      refine (hB _ _ h1).imp fun m a1 => ?_
      rw [a1]
      cases x with
      | n => exact absurd rfl hne
      | x i => exact h
      | r => exact h
    · cases h

theorem codeF_mo (hMo : Mo C0 C1) {c : Cfg} {LF : Nat} : ∀ (b : Code) {fr : Fr} {o : X × Fr}, codeF P C0 c LF b fr = some o → Ev fun m => codeF P C1 c LF b fr = some o := by
  intro b
  induction b with
  | skip => intro fr o h; exact .pure fun _ => h
  | label l => intro fr o h; exact .pure fun _ => h
  | exit id => intro fr o h; exact .pure fun _ => h
  | ret => intro fr o h; exact .pure fun _ => h
  | goto l => intro fr o h; cases h
  | scope c ih => intro fr o h; simp only [codeF] at h ⊢; exact ih h
  | refuse s => intro fr o h; cases h
  | rangeFunc => intro fr o h; cases h
  | region id ops draw =>
    intro fr o h
    simp only [codeF] at h ⊢
    split at h
    · rename_i hd
      simp only [hd, if_true]
      split at h
      · rename_i fr1 h1
        exact (drawAny_mo hMo h1).imp fun m a1 => by rw [a1]; exact h
      · cases h
    · rename_i hd
      simp only [hd, Bool.false_eq_true, if_false]
      split at h
      · rename_i fr1 h1
        exact (regF_mo hMo h1).imp fun m a1 => by rw [a1]; exact h
      · cases h
  | seq a b ih1 ih2 =>
    intro fr o h
    simp only [codeF] at h ⊢
    split at h
    · rename_i fr1 h1
      exact (ih1 h1).both (ih2 h) fun m a1 a2 => by rw [a1]; exact a2
    · rename_i hne
      refine (ih1 h).imp fun m a1 => ?_
      rw [a1]
      obtain ⟨x, fr1⟩ := o
      cases x with
      | n => exact absurd h (hne _)
      | x i => rfl
      | r => rfl
  | cond c x y ih1 ih2 =>
    intro fr o h
    simp only [codeF] at h ⊢
    split at h
    · exact ih1 h
    · exact ih2 h
    · cases h
  | block id c ih =>
    intro fr o h
    simp only [codeF] at h ⊢
    split at h
    · rename_i i fr1 h1
      exact (ih h1).imp fun m a1 => by rw [a1]; exact h
    · rename_i hne
      refine (ih h).imp fun m a1 => ?_
      rw [a1]
      obtain ⟨x, fr1⟩ := o
      cases x with
      | n => rfl
      | x i => exact absurd h (hne _ _)
      | r => rfl
  | loop b ih =>
    intro fr o h
    simp only [codeF] at h ⊢
    exact iterF_mo hMo (B := fun C fr => codeF P C c LF b fr) (fun fr o h => ih h) h

theorem runF_mo (hMo : Mo C0 C1) {c : Cfg} {LF : Nat} {fn : Func} {args : List T} {o : T × List T} (h : runF P C0 c LF fn args = some o) : Ev fun m => runF P C1 c LF fn args = some o := by
  unfold runF at h ⊢
  split at h
  · rename_i hc
    simp only [if_pos hc]
    split at h
    · cases h
    · rename_i b hb
      split at h
      · rename_i fr h1
        exact (codeF_mo hMo _ h1).imp fun m a1 => by rw [a1]; exact h
      · rename_i fr h1
        exact (codeF_mo hMo _ h1).imp fun m a1 => by rw [a1]; exact h
      · cases h
  · cases h

end
theorem level_le {P : Program} {X : Contract} {cf : FuncId → Option Cfg} : ∀ n, Mo (level P X cf n) (level P X cf (n + 1))
  | 0 => fun f a o h => by
    simp only [level] at h ⊢
    split at h
    · cases h
    · rename_i hc
      first
        | exact h
        | (rw [hc]; exact h)
  | n + 1 => fun f a o h => by
    simp only [level] at h
    split at h
    · rename_i c hc
      split at h
      · rename_i fn hfn
        obtain ⟨k, hk⟩ := runF_mo (level_le n) h
        exact level_run hc hfn (hk k (Nat.le_refl _))
      · cases h
    · rename_i hc
      simp only [level, hc]
      exact h
/-- One level's answer. -/
theorem lim_at {P : Program} {X : Contract} {cf : FuncId → Option Cfg} (n : Nat) {f : FuncId} {a : List T} {o : T × List T} (h : level P X cf n f a = some o) : Lim P X cf f a = some o := by
  refine lim_of (d := n) fun m hm => ?_
  obtain ⟨k, rfl⟩ := Nat.exists_eq_add_of_le hm
  clear hm
  induction k with
  | zero => exact h
  | succ k ih => exact level_le (n + k) f a o ih
end Go.Proofs.YthalofddjlhcjaaDoor
end
section
/- The chapter's example: program, by the kernel. -/
namespace Go.Proofs.YthalofddjlhcjaaDoor
open Go
set_option maxRecDepth 100000
set_option linter.unusedVariables false

theorem c18l : level Tryd.prog xt cfAll 12 18 [] = some (.sc (.bool true), []) := by kernel_rfl
theorem c18 : L 18 [] = some (.sc (.bool true), []) := lim_at 12 c18l
def xKnown : Option Bool := some true
theorem xKnown_ok {r : Bool} (h : xKnown = some r) : L 18 [] = some (.sc (.bool r), []) := by cases h; exact c18
end Go.Proofs.YthalofddjlhcjaaDoor
end
section
/- Functions by value: program. -/
namespace Go.Proofs.YthalofddjlhcjaaDoor
open Go
set_option maxRecDepth 100000
set_option maxHeartbeats 1000000
set_option linter.unusedVariables false
set_option linter.unusedSimpArgs false



-- semigroup/semigrouplaw26.CascadeMade
def law26_CascadeMade (a0 : List Int) (a1 : Int) : Option (Bool) :=
  (made_New a0).bind fun v8 =>
  (law26_build v8).bind fun v9 =>
  (law26_tuple v9.2 v9.1).bind fun v10 =>
  (made_Mod a1 3).bind fun v11 =>
  (made_Tape_Word v10.2 v9.1.letters 8).bind fun v12 =>
  (law26_all v9.1 v10.1 v11 v12.1).bind fun v13 =>
  if v13 = true then
    (xKnown).bind fun v14 =>
    some v14
  else
    some false
theorem law26_CascadeMade_ok {a0 : List Int} {a1 : Int} {r : Bool} (h0 : law26_CascadeMade a0 a1 = some r) : L 7 [.sl a0.length (a0.map fun x0 => .sc (.int .i64 x0)), .sc (.int .i64 a1)] = some (.sc (.bool r), [.dead, .dead]) := by
  simp only [law26_CascadeMade] at h0
  refine L_run cfn7 fn7 (runF_of bd7 ⟨of_decide_eq_true rfl, of_decide_eq_true rfl⟩ ?_)
  simp only [entryF, entryT, entryO, entryE, isIo]
  refine zq rfl (zr rfl rfl rfl (by simp; rfl) ?_)
  refine thenC_n (zq rfl ?_)
  obtain ⟨v8, f9, h1⟩ := bnd_some h0
  have f9k := made_New_ok f9
  try simp at f9k
  refine zr rfl rfl rfl (by simp [f9k]; rfl) ?_
  refine thenC_n (zq rfl ?_)
  obtain ⟨v9, f10, h2⟩ := bnd_some h1
  have f10k := law26_build_ok f10
  try simp at f10k
  refine zr rfl rfl rfl (by simp [f10k]; rfl) ?_
  refine thenC_n (zq rfl ?_)
  obtain ⟨v10, f11, h3⟩ := bnd_some h2
  have f11k := law26_tuple_ok f11
  try simp at f11k
  obtain ⟨v11, f12, h4⟩ := bnd_some h3
  have f12k := made_Mod_ok f12
  try simp at f12k
  obtain ⟨v12, f13, h5⟩ := bnd_some h4
  have f13k := made_Tape_Word_ok f13
  try simp at f13k
  obtain ⟨v13, f14, h6⟩ := bnd_some h5
  have f14k := law26_all_ok f14
  try simp at f14k
  by_cases c15 : v13 = true
  · rw [if_pos c15] at h6
    obtain ⟨v14, f16, h7⟩ := bnd_some h6
    have f16k := xKnown_ok f16
    try simp at f16k
    refine q_drawW rfl rfl rfl rfl ?_; repeat' (first | (refine q_drawW_op rfl rfl fun Q' hQ => ?_; simp [f11k, f12k, f13k, f14k, c15, f16k]; refine hQ.out _ ?_; clear hQ; clear Q') | (refine q_drawW_guard rfl rfl fun Q1 Q2 h1 h2 => ?_; simp [f11k, f12k, f13k, f14k, c15, f16k, twoB_some]; (first | refine h1.out ?_ | refine h2.out ?_); clear h1 h2; clear Q1 Q2; intro Q' hQ; simp [f11k, f12k, f13k, f14k, c15, f16k]; refine hQ.out _ ?_; clear hQ; clear Q') | (refine q_drawW_nil rfl fun Q' hQ => ?_; simp [f11k, f12k, f13k, f14k, c15, f16k]; refine hQ.out _ ?_; clear hQ; clear Q'))
    refine thenC_n (q_ret rfl ?_)
    cases h7
    simp [c15]
  · rw [if_neg c15] at h6
    refine q_drawW rfl rfl rfl rfl ?_; repeat' (first | (refine q_drawW_op rfl rfl fun Q' hQ => ?_; simp [f11k, f12k, f13k, f14k, c15]; refine hQ.out _ ?_; clear hQ; clear Q') | (refine q_drawW_guard rfl rfl fun Q1 Q2 h1 h2 => ?_; simp [f11k, f12k, f13k, f14k, c15, twoB_some]; (first | refine h1.out ?_ | refine h2.out ?_); clear h1 h2; clear Q1 Q2; intro Q' hQ; simp [f11k, f12k, f13k, f14k, c15]; refine hQ.out _ ?_; clear hQ; clear Q') | (refine q_drawW_nil rfl fun Q' hQ => ?_; simp [f11k, f12k, f13k, f14k, c15]; refine hQ.out _ ?_; clear hQ; clear Q'))
    refine thenC_n (q_ret rfl ?_)
    cases h6
    simp [c15]
end Go.Proofs.YthalofddjlhcjaaDoor
end
section
/- Plain: CascadeMade holds. -/
namespace Go.Proofs.YthalofddjlhcjaaDoor
open Go
set_option linter.unusedVariables false
set_option linter.unusedSimpArgs false

theorem made_law (l : List Int) (a : Int) : law26_CascadeMade l a = some true := by
  unfold law26_CascadeMade
  obtain ⟨t, e1, ht⟩ := new_in l
  rw [e1]
  simp only [Option.bind_some]
  obtain ⟨c, t2, e2, hB, ht2⟩ := build_in ht
  rw [e2]
  simp only [Option.bind_some]
  have hv := valid_of c (built_valid hB)
  have hcb := CB.of hv
  have hs := hB.s1
  have h1 := hB.l1
  have h2 := hB.l2
  obtain ⟨x, t3, e3, hx, ht3⟩ := tuple_in ht2 c (fun z hz => by have := hB.sz z hz; omega) (by omega)
  rw [e3]
  simp only [Option.bind_some]
  obtain ⟨v, e4, v0, v1⟩ := made_Mod_in a 3 (by omega) (by omega)
  rw [e4]
  simp only [Option.bind_some]
  obtain ⟨w, t4, e5, hw, hwl, ht4⟩ := word_in ht3 c.letters 8 (by omega) (by omega)
  rw [e5]
  simp only [Option.bind_some]
  have hxl := tupB_len hx
  rw [all_true c hcb x v w (by omega)]
  simp [xKnown]
theorem law7 (l : List Int) (_ : l.length ≤ maxLen) (_ : ∀ x ∈ l, (Lit.int .i64 x).wf = true) (a : Int) (_ : (Lit.int .i64 a).wf = true) : ∃ outs, L 7 [ints l, .sc (.int .i64 a)] = some (bT true, outs) := ⟨_, law26_CascadeMade_ok (made_law l a)⟩
end Go.Proofs.YthalofddjlhcjaaDoor
end
section
/-
  DERIVED: THE SHELF's CONTRACTS AT THIS DUMP, IN PLAIN WORDS (tools/lay-plain.mjs out of 'TrydShelf.lean', which tools/lay-shelf.mjs wrote): THE SAME DECLARATIONS UNDER THE SAME NAMES: 'import', 'namespace', 'open', 'def', 'theorem' AND NOTHING ELSE: no command of the shelf's: FOR A HAND-IN. Each laying: the table of numbers ('.._ren') and one theorem, a field a fact of the dump's own or the kernel's comparison; each contract: ONE APPLICATION.
-/
namespace Go.Proofs
open Go.Shelf
def Tryd.lays215_ren : Go.Shelf.Ren := ⟨fun | 215 => 81 | n => n, fun | 3 => 3 | 4 => 4 | n => n, fun | n => n⟩
theorem Tryd.lays215 : Go.Proofs.Lays.n215 Tryd.prog Tryd.lays215_ren := {
  mixed := by kernel_rfl
  f215 := Tryd.func81.trans (congrArg some (by kernel_rfl))
  t3 := Tryd.underlying3
  a3 := Tryd.isAgg3
  z3 := Tryd.sizeOf3
  v3 := Tryd.zeroValue3
  t4 := Tryd.underlying4
  a4 := Tryd.isAgg4
  z4 := Tryd.sizeOf4
  v4 := Tryd.zeroValue4 }
open Go.RowKit in
/-- cmp.isNaN at int: 'x != x': false. (LAID: no walk: one application.) -/
theorem Tryd.cmp_isNaN_int (x : Int) (w : World) :
    Calls Tryd.prog 81 #[.int .i64 x] w fun e w' => e = .returned (.bool false) ∧ w' = w := Any.cmp_isNaN_int Tryd.lays215 x w
def Tryd.lays122_ren : Go.Shelf.Ren := ⟨fun | 122 => 72 | 215 => 81 | n => n, fun | 3 => 3 | 4 => 4 | n => n, fun | n => n⟩
theorem Tryd.lays122 : Go.Proofs.Lays.n122 Tryd.prog Tryd.lays122_ren := {
  mixed := by kernel_rfl
  f122 := Tryd.func72.trans (congrArg some (by kernel_rfl))
  f215 := Tryd.func81.trans (congrArg some (by kernel_rfl))
  t3 := Tryd.underlying3
  a3 := Tryd.isAgg3
  z3 := Tryd.sizeOf3
  v3 := Tryd.zeroValue3
  t4 := Tryd.underlying4
  a4 := Tryd.isAgg4
  z4 := Tryd.sizeOf4
  v4 := Tryd.zeroValue4 }
open Go.RowKit in
/-- cmp.Compare at int: "Compare returns -1 if x is less than y, 0 if x equals y, +1 if x is greater than y.": IT RETURNS 'Lib.compareInt x y'; the world is as it was. (LAID: no walk: one application.) -/
theorem Tryd.cmp_Compare_int (x y : Int) (w : World) :
    Calls Tryd.prog 72 #[.int .i64 x, .int .i64 y] w fun e w' => e = .returned (.int .i64 (Lib.compareInt x y)) ∧ w' = w := Any.cmp_Compare_int Tryd.lays122 x y w
def Tryd.lays195_ren : Go.Shelf.Ren := ⟨fun | 195 => 86 | n => n, fun | 9 => 9 | 3 => 3 | 0 => 0 | 4 => 4 | n => n, fun | n => n⟩
theorem Tryd.lays195 : Go.Proofs.Lays.n195 Tryd.prog Tryd.lays195_ren := {
  mixed := by kernel_rfl
  f195 := Tryd.func86.trans (congrArg some (by kernel_rfl))
  t0 := Tryd.underlying0
  a0 := Tryd.isAgg0
  z0 := Tryd.sizeOf0
  v0 := Tryd.zeroValue0
  t3 := Tryd.underlying3
  a3 := Tryd.isAgg3
  z3 := Tryd.sizeOf3
  v3 := Tryd.zeroValue3
  t4 := Tryd.underlying4
  a4 := Tryd.isAgg4
  z4 := Tryd.sizeOf4
  v4 := Tryd.zeroValue4
  t9 := Tryd.underlying9
  a9 := Tryd.isAgg9
  z9 := Tryd.sizeOf9
  v9 := Tryd.zeroValue9 }
open Go.RowKit in
/-- unicode/utf8.RuneCountInString: "RuneCountInString is like RuneCount but its input is a string." ("RuneCount returns the number of runes in p. Erroneous and short encodings are treated as single runes of width 1 byte."): EVERY STRING, valid UTF-8 or not: 'Lib.runeCount s' (plain Lean over the model's own 'Utf8.decode'; 'Lib.runeCount_le': at most len(s); 'Lib.runeCount_ascii': on ASCII: len(s)). THE ONE CONDITION: len(s) below 2^63 - 1 (the counter does not wrap): the form's reach pays it. THE WORLD BEHIND THE CALL: ONE BLOCK MORE: the model's iterator over s, at its end: all else as it was. (LAID: no walk: one application.) -/
theorem Tryd.utf8_RuneCountInString (s : ByteArray) (w : World) (hs : s.size < 9223372036854775807) :
    Calls Tryd.prog 86 #[.string s] w fun e w' => e = .returned (.int .i64 (Lib.runeCount s)) ∧ ∃ pos, w' = w.iter s pos := Any.utf8_RuneCountInString Tryd.lays195 s w hs
def Tryd.lays129_ren : Go.Shelf.Ren := ⟨fun | 129 => 98 | n => n, fun | 53 => 112 | 3 => 3 | 4 => 4 | 46 => 102 | 5 => 5 | 9 => 9 | n => n, fun | n => n⟩
theorem Tryd.lays129 : Go.Proofs.Lays.n129 Tryd.prog Tryd.lays129_ren := {
  mixed := by kernel_rfl
  f129 := Tryd.func98.trans (congrArg some (by kernel_rfl))
  t3 := Tryd.underlying3
  a3 := Tryd.isAgg3
  z3 := Tryd.sizeOf3
  v3 := Tryd.zeroValue3
  t4 := Tryd.underlying4
  a4 := Tryd.isAgg4
  z4 := Tryd.sizeOf4
  v4 := Tryd.zeroValue4
  t5 := Tryd.underlying5
  a5 := Tryd.isAgg5
  z5 := Tryd.sizeOf5
  v5 := Tryd.zeroValue5
  t9 := Tryd.underlying9
  a9 := Tryd.isAgg9
  z9 := Tryd.sizeOf9
  v9 := Tryd.zeroValue9
  t46 := Tryd.underlying102
  a46 := Tryd.isAgg102
  z46 := Tryd.sizeOf102
  v46 := Tryd.zeroValue102
  t53 := Tryd.underlying112
  a53 := Tryd.isAgg112
  z53 := Tryd.sizeOf112
  v53 := Tryd.zeroValue112 }
/-- bits.Len64: "Len64 returns the minimum number of bits required to represent x; the result is 0 for x == 0.": IT RETURNS 'Lib.bitLen x'; the world is as it was. ('h0', 'h1': x is a uint64.) (LAID: no walk: one application.) -/
theorem Tryd.bits_Len64 (x : Int) (w : World) (h0 : 0 ≤ x) (h1 : x ≤ 18446744073709551615) :
    Calls Tryd.prog 98 #[.int .u64 x] w fun e w' => e = .returned (.int .i64 (Lib.bitLen x.toNat)) ∧ w' = w := Any.bits_Len64 Tryd.lays129 x w h0 h1
def Tryd.lays317_ren : Go.Shelf.Ren := ⟨fun | 317 => 97 | n => n, fun | 3 => 3 | 46 => 102 | n => n, fun | n => n⟩
theorem Tryd.lays317 : Go.Proofs.Lays.n317 Tryd.prog Tryd.lays317_ren := {
  mixed := by kernel_rfl
  f317 := Tryd.func97.trans (congrArg some (by kernel_rfl))
  t3 := Tryd.underlying3
  a3 := Tryd.isAgg3
  z3 := Tryd.sizeOf3
  v3 := Tryd.zeroValue3
  t46 := Tryd.underlying102
  a46 := Tryd.isAgg102
  z46 := Tryd.sizeOf102
  v46 := Tryd.zeroValue102 }
open Go.Lib in
/-- internal/strconv.log10Pow2: "log10Pow2(x) returns ⌊log₁₀ 2**x⌋ = ⌊x * log₁₀ 2⌋.": '(x * 78913) >> 18', at an x up to 64 (a length in bits). The world is as it was. (LAID: no walk: one application.) -/
theorem Tryd.internal_strconv_log10Pow2 (x : Nat) (h : x ≤ 64) (w : World) :
    Calls Tryd.prog 97 #[.int .i64 x] w fun e w' => e = .returned (.int .i64 (Lib.l10 x)) ∧ w' = w := Any.internal_strconv_log10Pow2 Tryd.lays317 x h w
def Tryd.lays318_ren : Go.Shelf.Ren := ⟨fun | 318 => 99 | n => n, fun | 3 => 3 | 4 => 4 | n => n, fun | n => n⟩
theorem Tryd.lays318 : Go.Proofs.Lays.n318 Tryd.prog Tryd.lays318_ren := {
  mixed := by kernel_rfl
  f318 := Tryd.func99.trans (congrArg some (by kernel_rfl))
  t3 := Tryd.underlying3
  a3 := Tryd.isAgg3
  z3 := Tryd.sizeOf3
  v3 := Tryd.zeroValue3
  t4 := Tryd.underlying4
  a4 := Tryd.isAgg4
  z4 := Tryd.sizeOf4
  v4 := Tryd.zeroValue4 }
open Go.Lib in
/-- internal/strconv.bool2: "bool2 converts b to an integer: 1 for true, 0 for false." The world is as it was. (LAID: no walk: one application.) -/
theorem Tryd.internal_strconv_bool2_int (b : Bool) (w : World) :
    Calls Tryd.prog 99 #[.bool b] w fun e w' => e = .returned (.int .i64 (if b then 1 else 0)) ∧ w' = w := Any.internal_strconv_bool2_int Tryd.lays318 b w
def Tryd.lays283_ren : Go.Shelf.Ren := ⟨fun | 283 => 93 | n => n, fun | 3 => 3 | 9 => 9 | 4 => 4 | n => n, fun | n => n⟩
theorem Tryd.lays283 : Go.Proofs.Lays.n283 Tryd.prog Tryd.lays283_ren := {
  mixed := by kernel_rfl
  f283 := Tryd.func93.trans (congrArg some (by kernel_rfl))
  t3 := Tryd.underlying3
  a3 := Tryd.isAgg3
  z3 := Tryd.sizeOf3
  v3 := Tryd.zeroValue3
  t4 := Tryd.underlying4
  a4 := Tryd.isAgg4
  z4 := Tryd.sizeOf4
  v4 := Tryd.zeroValue4
  t9 := Tryd.underlying9
  a9 := Tryd.isAgg9
  z9 := Tryd.sizeOf9
  v9 := Tryd.zeroValue9 }
open Go.Lib in
/-- internal/strconv.small: "small returns the string for an i with 0 <= i < nSmalls.": i's decimal numeral. The world is as it was. (LAID: no walk: one application.) -/
theorem Tryd.internal_strconv_small (i : Nat) (h : i < 100) (w : World) :
    Calls Tryd.prog 93 #[.int .i64 i] w fun e w' => e = .returned (.string ⟨(Lib.decDigits i).toArray⟩) ∧ w' = w := Any.internal_strconv_small Tryd.lays283 i h w
def Tryd.laysM284_ren : Go.Shelf.Ren := ⟨fun | 284 => 94 | 129 => 98 | 317 => 97 | 318 => 99 | n => n, fun | 53 => 112 | 3 => 3 | 212 => 127 | 0 => 0 | 4 => 4 | 46 => 102 | 5 => 5 | 9 => 9 | n => n, fun | 17 => 3 | n => n⟩
theorem Tryd.laysM284 : Go.Proofs.LaysM.n284 Tryd.prog Tryd.laysM284_ren := {
  mixed := by kernel_rfl
  f129 := Tryd.func98.trans (congrArg some (by kernel_rfl))
  f284 := Tryd.func94.trans (congrArg some (by kernel_rfl))
  f317 := Tryd.func97.trans (congrArg some (by kernel_rfl))
  f318 := Tryd.func99.trans (congrArg some (by kernel_rfl))
  t0 := Tryd.underlying0
  a0 := Tryd.isAgg0
  z0 := Tryd.sizeOf0
  v0 := Tryd.zeroValue0
  t3 := Tryd.underlying3
  a3 := Tryd.isAgg3
  z3 := Tryd.sizeOf3
  v3 := Tryd.zeroValue3
  t4 := Tryd.underlying4
  a4 := Tryd.isAgg4
  z4 := Tryd.sizeOf4
  v4 := Tryd.zeroValue4
  t5 := Tryd.underlying5
  a5 := Tryd.isAgg5
  z5 := Tryd.sizeOf5
  v5 := Tryd.zeroValue5
  t9 := Tryd.underlying9
  a9 := Tryd.isAgg9
  z9 := Tryd.sizeOf9
  v9 := Tryd.zeroValue9
  t46 := Tryd.underlying102
  a46 := Tryd.isAgg102
  z46 := Tryd.sizeOf102
  v46 := Tryd.zeroValue102
  t53 := Tryd.underlying112
  a53 := Tryd.isAgg112
  z53 := Tryd.sizeOf112
  v53 := Tryd.zeroValue112
  t212 := Tryd.underlying127
  a212 := Tryd.isAgg127
  z212 := Tryd.sizeOf127
  v212 := Tryd.zeroValue127
  g17 := by kernel_rfl
  i0 := by kernel_rfl
  i3 := by kernel_rfl
  i4 := by kernel_rfl
  i5 := by kernel_rfl
  i9 := by kernel_rfl
  i46 := by kernel_rfl
  i53 := by kernel_rfl
  i212 := by kernel_rfl
  m17 := by kernel_rfl }
open Go.Lib in
/-- internal/strconv.numDigits, at a d that is not 0: THE NUMBER OF d's DECIMAL DIGITS. The world is as it was. (LAID: no walk: one application.) -/
theorem Tryd.internal_strconv_numDigits (u : Nat) (h1 : 1 ≤ u) (h2 : u < 18446744073709551616) (w : World) (htab : Lib.TabIs Tryd.prog w "internal/strconv.uint64pow10" .u64 Lib.pow10Tab) :
    Calls Tryd.prog 94 #[.int .u64 u] w fun e w' => e = .returned (.int .i64 (Lib.nDigits u)) ∧ w' = w := Any.internal_strconv_numDigits Tryd.laysM284 u h1 h2 w htab
def Tryd.lays285_ren : Go.Shelf.Ren := ⟨fun | 285 => 95 | n => n, fun | 37 => 54 | 53 => 112 | 3 => 3 | 4 => 4 | 51 => 114 | 9 => 9 | 5 => 5 | 0 => 0 | n => n, fun | n => n⟩
theorem Tryd.lays285 : Go.Proofs.Lays.n285 Tryd.prog Tryd.lays285_ren := {
  mixed := by kernel_rfl
  f285 := Tryd.func95.trans (congrArg some (by kernel_rfl))
  t0 := Tryd.underlying0
  a0 := Tryd.isAgg0
  z0 := Tryd.sizeOf0
  v0 := Tryd.zeroValue0
  t3 := Tryd.underlying3
  a3 := Tryd.isAgg3
  z3 := Tryd.sizeOf3
  v3 := Tryd.zeroValue3
  t4 := Tryd.underlying4
  a4 := Tryd.isAgg4
  z4 := Tryd.sizeOf4
  v4 := Tryd.zeroValue4
  t5 := Tryd.underlying5
  a5 := Tryd.isAgg5
  z5 := Tryd.sizeOf5
  v5 := Tryd.zeroValue5
  t9 := Tryd.underlying9
  a9 := Tryd.isAgg9
  z9 := Tryd.sizeOf9
  v9 := Tryd.zeroValue9
  t37 := Tryd.underlying54
  a37 := Tryd.isAgg54
  z37 := Tryd.sizeOf54
  v37 := Tryd.zeroValue54
  t51 := Tryd.underlying114
  a51 := Tryd.isAgg114
  z51 := Tryd.sizeOf114
  v51 := Tryd.zeroValue114
  t53 := Tryd.underlying112
  a53 := Tryd.isAgg112
  z53 := Tryd.sizeOf112
  v53 := Tryd.zeroValue112 }
open Go.RowKit Go.Sort Go.Lib in
/-- internal/strconv.formatBase10: "formatBase10 formats the decimal representation of u into a. The caller is responsible for ensuring that a is big enough to hold u. If a is too big, leading zeros will be filled in as needed.": THE ROW HOLDS u's DIGITS ('FmtInv .. 0 ..': every place t holds 'dg u (len - 1 - t)'); all else is as it was but for the count of draws. (LAID: no walk: one application.) -/
theorem Tryd.internal_strconv_formatBase10 (blk off cap : Nat) (u : Nat) (d : Array UInt8) (w : World) (hH : Holds (fun (b : UInt8) => Value.int .u8 (b.toNat : Int)) w blk off d) (hu : u < 10 ^ d.size) (hu64 : u < 18446744073709551616) (hsz : d.size < 4611686018427387904) :
    Calls Tryd.prog 95 #[.slice (some ⟨blk, off, none⟩) d.size cap, .int .u64 u] w fun e w' =>
      e = .returned (.tuple #[]) ∧ ∃ (n v' : Nat) (dk : Array UInt8), w' = (putRow (fun (b : UInt8) => Value.int .u8 (b.toNat : Int)) w blk off dk).drewN n ∧ FmtInv d.size u 0 v' dk := Any.internal_strconv_formatBase10 Tryd.lays285 blk off cap u d w hH hu hu64 hsz
def Tryd.lays217_ren : Go.Shelf.Ren := ⟨fun | 217 => 82 | 266 => 90 | n => n, fun | 9 => 9 | 5 => 5 | 3 => 3 | n => n, fun | n => n⟩
theorem Tryd.lays217 : Go.Proofs.Lays.n217 Tryd.prog Tryd.lays217_ren := {
  mixed := by kernel_rfl
  f217 := Tryd.func82.trans (congrArg some (by kernel_rfl))
  f266 := Tryd.func90.trans (congrArg some (by kernel_rfl))
  t3 := Tryd.underlying3
  a3 := Tryd.isAgg3
  z3 := Tryd.sizeOf3
  v3 := Tryd.zeroValue3
  t5 := Tryd.underlying5
  a5 := Tryd.isAgg5
  z5 := Tryd.sizeOf5
  v5 := Tryd.zeroValue5
  t9 := Tryd.underlying9
  a9 := Tryd.isAgg9
  z9 := Tryd.sizeOf9
  v9 := Tryd.zeroValue9 }
open Go.RowKit Go.Lib in
/-- internal/stringslite.IndexByte (what strings.IndexByte calls): IT RETURNS 'Lib.indexByte s c'; the world is as it was. (LAID: no walk: one application.) -/
theorem Tryd.stringslite_IndexByte (s : ByteArray) (c : Int) (w : World) :
    Calls Tryd.prog 82 #[.string s, .int .u8 c] w fun e w' => e = .returned (.int .i64 (Lib.indexByte s.data.toList c.toNat.toUInt8)) ∧ w' = w := Any.stringslite_IndexByte Tryd.lays217 s c w
def Tryd.lays224_ren : Go.Shelf.Ren := ⟨fun | 224 => 84 | n => n, fun | 3 => 3 | n => n, fun | n => n⟩
theorem Tryd.lays224 : Go.Proofs.Lays.n224 Tryd.prog Tryd.lays224_ren := {
  mixed := by kernel_rfl
  f224 := Tryd.func84.trans (congrArg some (by kernel_rfl))
  t3 := Tryd.underlying3
  a3 := Tryd.isAgg3
  z3 := Tryd.sizeOf3
  v3 := Tryd.zeroValue3 }
open Go.RowKit Go.Lib in
/-- internal/bytealg.Cutover: "Cutover reports the number of failures of IndexByte we should tolerate before switching over to Index. n is the number of bytes processed so far.": on amd64: (n + 16) / 8. (LAID: no walk: one application.) -/
theorem Tryd.bytealg_Cutover (n : Int) (h0 : 0 ≤ n) (h1 : n < 4611686018427387904) (w : World) :
    Calls Tryd.prog 84 #[.int .i64 n] w fun e w' => e = .returned (.int .i64 ((n + 16) / 8)) ∧ w' = w := Any.bytealg_Cutover Tryd.lays224 n h0 h1 w
def Tryd.lays314_ren : Go.Shelf.Ren := ⟨fun | 314 => 91 | n => n, fun | 9 => 9 | 51 => 114 | 3 => 3 | 4 => 4 | 5 => 5 | 46 => 102 | n => n, fun | n => n⟩
theorem Tryd.lays314 : Go.Proofs.Lays.n314 Tryd.prog Tryd.lays314_ren := {
  mixed := by kernel_rfl
  f314 := Tryd.func91.trans (congrArg some (by kernel_rfl))
  t3 := Tryd.underlying3
  a3 := Tryd.isAgg3
  z3 := Tryd.sizeOf3
  v3 := Tryd.zeroValue3
  t4 := Tryd.underlying4
  a4 := Tryd.isAgg4
  z4 := Tryd.sizeOf4
  v4 := Tryd.zeroValue4
  t5 := Tryd.underlying5
  a5 := Tryd.isAgg5
  z5 := Tryd.sizeOf5
  v5 := Tryd.zeroValue5
  t9 := Tryd.underlying9
  a9 := Tryd.isAgg9
  z9 := Tryd.sizeOf9
  v9 := Tryd.zeroValue9
  t46 := Tryd.underlying102
  a46 := Tryd.isAgg102
  z46 := Tryd.sizeOf102
  v46 := Tryd.zeroValue102
  t51 := Tryd.underlying114
  a51 := Tryd.isAgg114
  z51 := Tryd.sizeOf114
  v51 := Tryd.zeroValue114 }
open Go.RowKit Go.Lib in
/-- hashStr: "returns the hash and the appropriate multiplicative factor for use in Rabin-Karp algorithm": THE HASH OF ALL OF sep, AND 16777619 ^ len(sep), both in uint32. (LAID: no walk: one application.) -/
theorem Tryd.bytealg_hashStr (sep : ByteArray) (hs : sep.size < 4294967281) (w : World) :
    Calls Tryd.prog 91 #[.string sep] w fun e w' => e = .returned (.tuple #[.int .u32 (RK.H sep.data.toList % 4294967296), .int .u32 (16777619 ^ sep.size % 4294967296)]) ∧ w' = w := Any.bytealg_hashStr Tryd.lays314 sep hs w
def Tryd.lays267_ren : Go.Shelf.Ren := ⟨fun | 267 => 85 | 314 => 91 | n => n, fun | 9 => 9 | 3 => 3 | 146 => 115 | 51 => 114 | 4 => 4 | 5 => 5 | 46 => 102 | n => n, fun | n => n⟩
theorem Tryd.lays267 : Go.Proofs.Lays.n267 Tryd.prog Tryd.lays267_ren := {
  mixed := by kernel_rfl
  f267 := Tryd.func85.trans (congrArg some (by kernel_rfl))
  f314 := Tryd.func91.trans (congrArg some (by kernel_rfl))
  t3 := Tryd.underlying3
  a3 := Tryd.isAgg3
  z3 := Tryd.sizeOf3
  v3 := Tryd.zeroValue3
  t4 := Tryd.underlying4
  a4 := Tryd.isAgg4
  z4 := Tryd.sizeOf4
  v4 := Tryd.zeroValue4
  t5 := Tryd.underlying5
  a5 := Tryd.isAgg5
  z5 := Tryd.sizeOf5
  v5 := Tryd.zeroValue5
  t9 := Tryd.underlying9
  a9 := Tryd.isAgg9
  z9 := Tryd.sizeOf9
  v9 := Tryd.zeroValue9
  t46 := Tryd.underlying102
  a46 := Tryd.isAgg102
  z46 := Tryd.sizeOf102
  v46 := Tryd.zeroValue102
  t51 := Tryd.underlying114
  a51 := Tryd.isAgg114
  z51 := Tryd.sizeOf114
  v51 := Tryd.zeroValue114
  t146 := Tryd.underlying115
  a146 := Tryd.isAgg115
  z146 := Tryd.sizeOf115
  v146 := Tryd.zeroValue115 }
open Go.RowKit Go.Lib in
theorem Tryd.bytealg_IndexRabinKarp (s sep : ByteArray) (h1 : 1 ≤ sep.size) (h2 : sep.size ≤ s.size) (hs : s.size < 4294967281) (w : World) :
    Calls Tryd.prog 85 #[.string s, .string sep] w fun e w' => e = .returned (.int .i64 (Lib.index s.data.toList sep.data.toList)) ∧ w' = w := Any.bytealg_IndexRabinKarp Tryd.lays267 s sep h1 h2 hs w
def Tryd.lays219_ren : Go.Shelf.Ren := ⟨fun | 219 => 76 | 217 => 82 | 225 => 83 | 224 => 84 | 267 => 85 | 266 => 90 | 314 => 91 | n => n, fun | 9 => 9 | 3 => 3 | 4 => 4 | 5 => 5 | 46 => 102 | 146 => 115 | 51 => 114 | n => n, fun | 1 => 0 | n => n⟩
theorem Tryd.lays219 : Go.Proofs.Lays.n219 Tryd.prog Tryd.lays219_ren := {
  mixed := by kernel_rfl
  f217 := Tryd.func82.trans (congrArg some (by kernel_rfl))
  f219 := Tryd.func76.trans (congrArg some (by kernel_rfl))
  f224 := Tryd.func84.trans (congrArg some (by kernel_rfl))
  f225 := Tryd.func83.trans (congrArg some (by kernel_rfl))
  f266 := Tryd.func90.trans (congrArg some (by kernel_rfl))
  f267 := Tryd.func85.trans (congrArg some (by kernel_rfl))
  f314 := Tryd.func91.trans (congrArg some (by kernel_rfl))
  t3 := Tryd.underlying3
  a3 := Tryd.isAgg3
  z3 := Tryd.sizeOf3
  v3 := Tryd.zeroValue3
  t4 := Tryd.underlying4
  a4 := Tryd.isAgg4
  z4 := Tryd.sizeOf4
  v4 := Tryd.zeroValue4
  t5 := Tryd.underlying5
  a5 := Tryd.isAgg5
  z5 := Tryd.sizeOf5
  v5 := Tryd.zeroValue5
  t9 := Tryd.underlying9
  a9 := Tryd.isAgg9
  z9 := Tryd.sizeOf9
  v9 := Tryd.zeroValue9
  t46 := Tryd.underlying102
  a46 := Tryd.isAgg102
  z46 := Tryd.sizeOf102
  v46 := Tryd.zeroValue102
  t51 := Tryd.underlying114
  a51 := Tryd.isAgg114
  z51 := Tryd.sizeOf114
  v51 := Tryd.zeroValue114
  t146 := Tryd.underlying115
  a146 := Tryd.isAgg115
  z146 := Tryd.sizeOf115
  v146 := Tryd.zeroValue115
  g1 := by kernel_rfl }
open Go.RowKit Go.Lib in
/-- internal/stringslite.Index (what strings.Index calls) AT A substr OF ONE BYTE c: IT RETURNS 'Lib.indexByte s c'; the world is as it was. (LAID: no walk: one application.) -/
theorem Tryd.stringslite_Index_one (s : ByteArray) (c : UInt8) (w : World) :
    Calls Tryd.prog 76 #[.string s, .string ⟨#[c]⟩] w fun e w' => e = .returned (.int .i64 (Lib.indexByte s.data.toList c)) ∧ w' = w := Any.stringslite_Index_one Tryd.lays219 s c w
open Go.RowKit Go.Lib in
/-- internal/stringslite.Index (what strings.Index calls) AT A substr OF WHATEVER LENGTH: IT RETURNS 'Lib.index s substr'; the world is as it was. 'm': what internal/bytealg.MaxLen holds: whatever. (LAID: no walk: one application.) -/
theorem Tryd.stringslite_Index (s sub : ByteArray) (m : Int) (w : World) (hs : s.size < 4294967281) (hm : w.cell? ⟨0, 0, none⟩ = some (.int .i64 m)) :
    Calls Tryd.prog 76 #[.string s, .string sub] w fun e w' => e = .returned (.int .i64 (Lib.index s.data.toList sub.data.toList)) ∧ w' = w := Any.stringslite_Index Tryd.lays219 s sub m w hs hm
def Tryd.lays143_ren : Go.Shelf.Ren := ⟨fun | 143 => 79 | 219 => 76 | 217 => 82 | 225 => 83 | 224 => 84 | 267 => 85 | 266 => 90 | 314 => 91 | n => n, fun | 9 => 9 | 3 => 3 | 4 => 4 | 5 => 5 | 46 => 102 | 146 => 115 | 51 => 114 | n => n, fun | 1 => 0 | n => n⟩
theorem Tryd.lays143 : Go.Proofs.Lays.n143 Tryd.prog Tryd.lays143_ren := {
  mixed := by kernel_rfl
  f143 := Tryd.func79.trans (congrArg some (by kernel_rfl))
  f217 := Tryd.func82.trans (congrArg some (by kernel_rfl))
  f219 := Tryd.func76.trans (congrArg some (by kernel_rfl))
  f224 := Tryd.func84.trans (congrArg some (by kernel_rfl))
  f225 := Tryd.func83.trans (congrArg some (by kernel_rfl))
  f266 := Tryd.func90.trans (congrArg some (by kernel_rfl))
  f267 := Tryd.func85.trans (congrArg some (by kernel_rfl))
  f314 := Tryd.func91.trans (congrArg some (by kernel_rfl))
  t3 := Tryd.underlying3
  a3 := Tryd.isAgg3
  z3 := Tryd.sizeOf3
  v3 := Tryd.zeroValue3
  t4 := Tryd.underlying4
  a4 := Tryd.isAgg4
  z4 := Tryd.sizeOf4
  v4 := Tryd.zeroValue4
  t5 := Tryd.underlying5
  a5 := Tryd.isAgg5
  z5 := Tryd.sizeOf5
  v5 := Tryd.zeroValue5
  t9 := Tryd.underlying9
  a9 := Tryd.isAgg9
  z9 := Tryd.sizeOf9
  v9 := Tryd.zeroValue9
  t46 := Tryd.underlying102
  a46 := Tryd.isAgg102
  z46 := Tryd.sizeOf102
  v46 := Tryd.zeroValue102
  t51 := Tryd.underlying114
  a51 := Tryd.isAgg114
  z51 := Tryd.sizeOf114
  v51 := Tryd.zeroValue114
  t146 := Tryd.underlying115
  a146 := Tryd.isAgg115
  z146 := Tryd.sizeOf115
  v146 := Tryd.zeroValue115
  g1 := by kernel_rfl }
open Go.RowKit Go.Lib in
/-- strings.Index: "Index returns the index of the first instance of substr in s, or -1 if substr is not present in s.": AT A substr OF ONE BYTE c: IT RETURNS 'Lib.indexByte s c'; the world is as it was. (LAID: no walk: one application.) -/
theorem Tryd.strings_Index_one (s : ByteArray) (c : UInt8) (w : World) :
    Calls Tryd.prog 79 #[.string s, .string ⟨#[c]⟩] w fun e w' => e = .returned (.int .i64 (Lib.indexByte s.data.toList c)) ∧ w' = w := Any.strings_Index_one Tryd.lays143 s c w
open Go.RowKit Go.Lib in
/-- strings.Index: "Index returns the index of the first instance of substr in s, or -1 if substr is not present in s.": IT RETURNS 'Lib.index s substr'; the world is as it was. (LAID: no walk: one application.) -/
theorem Tryd.strings_Index (s sub : ByteArray) (m : Int) (w : World) (hs : s.size < 4294967281) (hm : w.cell? ⟨0, 0, none⟩ = some (.int .i64 m)) :
    Calls Tryd.prog 79 #[.string s, .string sub] w fun e w' => e = .returned (.int .i64 (Lib.index s.data.toList sub.data.toList)) ∧ w' = w := Any.strings_Index Tryd.lays143 s sub m w hs hm
def Tryd.lays220_ren : Go.Shelf.Ren := ⟨fun | 220 => 67 | 219 => 76 | 217 => 82 | 225 => 83 | 224 => 84 | 267 => 85 | 266 => 90 | 314 => 91 | n => n, fun | 9 => 9 | 4 => 4 | 3 => 3 | 5 => 5 | 46 => 102 | 146 => 115 | 51 => 114 | n => n, fun | 1 => 0 | n => n⟩
theorem Tryd.lays220 : Go.Proofs.Lays.n220 Tryd.prog Tryd.lays220_ren := {
  mixed := by kernel_rfl
  f217 := Tryd.func82.trans (congrArg some (by kernel_rfl))
  f219 := Tryd.func76.trans (congrArg some (by kernel_rfl))
  f220 := Tryd.func67.trans (congrArg some (by kernel_rfl))
  f224 := Tryd.func84.trans (congrArg some (by kernel_rfl))
  f225 := Tryd.func83.trans (congrArg some (by kernel_rfl))
  f266 := Tryd.func90.trans (congrArg some (by kernel_rfl))
  f267 := Tryd.func85.trans (congrArg some (by kernel_rfl))
  f314 := Tryd.func91.trans (congrArg some (by kernel_rfl))
  t3 := Tryd.underlying3
  a3 := Tryd.isAgg3
  z3 := Tryd.sizeOf3
  v3 := Tryd.zeroValue3
  t4 := Tryd.underlying4
  a4 := Tryd.isAgg4
  z4 := Tryd.sizeOf4
  v4 := Tryd.zeroValue4
  t5 := Tryd.underlying5
  a5 := Tryd.isAgg5
  z5 := Tryd.sizeOf5
  v5 := Tryd.zeroValue5
  t9 := Tryd.underlying9
  a9 := Tryd.isAgg9
  z9 := Tryd.sizeOf9
  v9 := Tryd.zeroValue9
  t46 := Tryd.underlying102
  a46 := Tryd.isAgg102
  z46 := Tryd.sizeOf102
  v46 := Tryd.zeroValue102
  t51 := Tryd.underlying114
  a51 := Tryd.isAgg114
  z51 := Tryd.sizeOf114
  v51 := Tryd.zeroValue114
  t146 := Tryd.underlying115
  a146 := Tryd.isAgg115
  z146 := Tryd.sizeOf115
  v146 := Tryd.zeroValue115
  g1 := by kernel_rfl }
open Go.RowKit Go.Lib in
/-- internal/stringslite.Cut (what strings.Cut calls): IT RETURNS 'Lib.cut s sep'; the world is as it was but for the count of draws. (LAID: no walk: one application.) -/
theorem Tryd.stringslite_Cut (s sep : ByteArray) (m : Int) (w : World) (hs : s.size < 4294967281) (hm : w.cell? ⟨0, 0, none⟩ = some (.int .i64 m)) :
    Calls Tryd.prog 67 #[.string s, .string sep] w fun e w' => e = .returned (.tuple #[.string ⟨(Lib.cut s.data.toList sep.data.toList).1.toArray⟩, .string ⟨(Lib.cut s.data.toList sep.data.toList).2.1.toArray⟩, .bool (Lib.cut s.data.toList sep.data.toList).2.2]) ∧ ∃ n, w' = w.drewN n := Any.stringslite_Cut Tryd.lays220 s sep m w hs hm
def Tryd.lays145_ren : Go.Shelf.Ren := ⟨fun | 145 => 48 | 220 => 67 | 219 => 76 | 217 => 82 | 225 => 83 | 224 => 84 | 267 => 85 | 266 => 90 | 314 => 91 | n => n, fun | 9 => 9 | 4 => 4 | 59 => 75 | 3 => 3 | 5 => 5 | 46 => 102 | 146 => 115 | 51 => 114 | n => n, fun | 1 => 0 | n => n⟩
theorem Tryd.lays145 : Go.Proofs.Lays.n145 Tryd.prog Tryd.lays145_ren := {
  mixed := by kernel_rfl
  f145 := Tryd.func48.trans (congrArg some (by kernel_rfl))
  f217 := Tryd.func82.trans (congrArg some (by kernel_rfl))
  f219 := Tryd.func76.trans (congrArg some (by kernel_rfl))
  f220 := Tryd.func67.trans (congrArg some (by kernel_rfl))
  f224 := Tryd.func84.trans (congrArg some (by kernel_rfl))
  f225 := Tryd.func83.trans (congrArg some (by kernel_rfl))
  f266 := Tryd.func90.trans (congrArg some (by kernel_rfl))
  f267 := Tryd.func85.trans (congrArg some (by kernel_rfl))
  f314 := Tryd.func91.trans (congrArg some (by kernel_rfl))
  t3 := Tryd.underlying3
  a3 := Tryd.isAgg3
  z3 := Tryd.sizeOf3
  v3 := Tryd.zeroValue3
  t4 := Tryd.underlying4
  a4 := Tryd.isAgg4
  z4 := Tryd.sizeOf4
  v4 := Tryd.zeroValue4
  t5 := Tryd.underlying5
  a5 := Tryd.isAgg5
  z5 := Tryd.sizeOf5
  v5 := Tryd.zeroValue5
  t9 := Tryd.underlying9
  a9 := Tryd.isAgg9
  z9 := Tryd.sizeOf9
  v9 := Tryd.zeroValue9
  t46 := Tryd.underlying102
  a46 := Tryd.isAgg102
  z46 := Tryd.sizeOf102
  v46 := Tryd.zeroValue102
  t51 := Tryd.underlying114
  a51 := Tryd.isAgg114
  z51 := Tryd.sizeOf114
  v51 := Tryd.zeroValue114
  t59 := Tryd.underlying75
  a59 := Tryd.isAgg75
  z59 := Tryd.sizeOf75
  v59 := Tryd.zeroValue75
  t146 := Tryd.underlying115
  a146 := Tryd.isAgg115
  z146 := Tryd.sizeOf115
  v146 := Tryd.zeroValue115
  g1 := by kernel_rfl }
open Go.RowKit Go.Lib in
/-- strings.Cut: "Cut slices s around the first instance of sep, returning the text before and after sep. The found result reports whether sep appears in s. If sep does not appear in s, cut returns s, "", false.": IT RETURNS 'Lib.cut s sep'; the world is as it was but for the count of draws. (LAID: no walk: one application.) -/
theorem Tryd.strings_Cut (s sep : ByteArray) (m : Int) (w : World) (hs : s.size < 4294967281) (hm : w.cell? ⟨0, 0, none⟩ = some (.int .i64 m)) :
    Calls Tryd.prog 48 #[.string s, .string sep] w fun e w' => e = .returned (.tuple #[.string ⟨(Lib.cut s.data.toList sep.data.toList).1.toArray⟩, .string ⟨(Lib.cut s.data.toList sep.data.toList).2.1.toArray⟩, .bool (Lib.cut s.data.toList sep.data.toList).2.2]) ∧ ∃ n, w' = w.drewN n := Any.strings_Cut Tryd.lays145 s sep m w hs hm
def Tryd.lays138_ren : Go.Shelf.Ren := ⟨fun | 138 => 78 | 195 => 86 | 218 => 88 | 143 => 79 | 219 => 76 | 217 => 82 | 225 => 83 | 224 => 84 | 267 => 85 | 266 => 90 | 314 => 91 | n => n, fun | 9 => 9 | 3 => 3 | 4 => 4 | 5 => 5 | 0 => 0 | 46 => 102 | 146 => 115 | 51 => 114 | n => n, fun | 1 => 0 | n => n⟩
theorem Tryd.lays138 : Go.Proofs.Lays.n138 Tryd.prog Tryd.lays138_ren := {
  mixed := by kernel_rfl
  f138 := Tryd.func78.trans (congrArg some (by kernel_rfl))
  f143 := Tryd.func79.trans (congrArg some (by kernel_rfl))
  f195 := Tryd.func86.trans (congrArg some (by kernel_rfl))
  f217 := Tryd.func82.trans (congrArg some (by kernel_rfl))
  f218 := Tryd.func88.trans (congrArg some (by kernel_rfl))
  f219 := Tryd.func76.trans (congrArg some (by kernel_rfl))
  f224 := Tryd.func84.trans (congrArg some (by kernel_rfl))
  f225 := Tryd.func83.trans (congrArg some (by kernel_rfl))
  f266 := Tryd.func90.trans (congrArg some (by kernel_rfl))
  f267 := Tryd.func85.trans (congrArg some (by kernel_rfl))
  f314 := Tryd.func91.trans (congrArg some (by kernel_rfl))
  t0 := Tryd.underlying0
  a0 := Tryd.isAgg0
  z0 := Tryd.sizeOf0
  v0 := Tryd.zeroValue0
  t3 := Tryd.underlying3
  a3 := Tryd.isAgg3
  z3 := Tryd.sizeOf3
  v3 := Tryd.zeroValue3
  t4 := Tryd.underlying4
  a4 := Tryd.isAgg4
  z4 := Tryd.sizeOf4
  v4 := Tryd.zeroValue4
  t5 := Tryd.underlying5
  a5 := Tryd.isAgg5
  z5 := Tryd.sizeOf5
  v5 := Tryd.zeroValue5
  t9 := Tryd.underlying9
  a9 := Tryd.isAgg9
  z9 := Tryd.sizeOf9
  v9 := Tryd.zeroValue9
  t46 := Tryd.underlying102
  a46 := Tryd.isAgg102
  z46 := Tryd.sizeOf102
  v46 := Tryd.zeroValue102
  t51 := Tryd.underlying114
  a51 := Tryd.isAgg114
  z51 := Tryd.sizeOf114
  v51 := Tryd.zeroValue114
  t146 := Tryd.underlying115
  a146 := Tryd.isAgg115
  z146 := Tryd.sizeOf115
  v146 := Tryd.zeroValue115
  g1 := by kernel_rfl }
open Go.RowKit Go.Lib in
/-- strings.Count AT A substr OF ONE BYTE ('hp'): "Count counts the number of non-overlapping instances of substr in s.": IT RETURNS 'Lib.countByte s (that byte)'; the world is as it was. ✋ NO CONTRACT HERE YET at an empty substr (utf8.RuneCountInString) or at a longer one (a loop over strings.Index). (LAID: no walk: one application.) -/
theorem Tryd.strings_Count_one (s : ByteArray) (c : UInt8) (w : World) :
    Calls Tryd.prog 78 #[.string s, .string ⟨#[c]⟩] w fun e w' => e = .returned (.int .i64 (Lib.countByte s.data.toList c)) ∧ w' = w := Any.strings_Count_one Tryd.lays138 s c w
open Go.RowKit Go.Lib in
/-- strings.Count AT A substr OF TWO BYTES OR MORE: "Count counts the number of non-overlapping instances of substr in s.": IT RETURNS 'Lib.count s substr'; the world is as it was. (LAID: no walk: one application.) -/
theorem Tryd.strings_Count (s sub : ByteArray) (m : Int) (w : World) (hs : s.size < 4294967281) (hm : w.cell? ⟨0, 0, none⟩ = some (.int .i64 m)) (h2 : 2 ≤ sub.size) :
    Calls Tryd.prog 78 #[.string s, .string sub] w fun e w' => e = .returned (.int .i64 (Lib.countB s sub)) ∧ w' = w := Any.strings_Count Tryd.lays138 s sub m w hs hm h2
def Tryd.laysM219_ren : Go.Shelf.Ren := ⟨fun | 219 => 76 | 217 => 82 | 225 => 83 | 224 => 84 | 267 => 85 | 266 => 90 | 314 => 91 | n => n, fun | 9 => 9 | 3 => 3 | 4 => 4 | 5 => 5 | 46 => 102 | 146 => 115 | 51 => 114 | n => n, fun | 1 => 0 | n => n⟩
theorem Tryd.laysM219 : Go.Proofs.LaysM.n219 Tryd.prog Tryd.laysM219_ren := {
  mixed := by kernel_rfl
  f217 := Tryd.func82.trans (congrArg some (by kernel_rfl))
  f219 := Tryd.func76.trans (congrArg some (by kernel_rfl))
  f224 := Tryd.func84.trans (congrArg some (by kernel_rfl))
  f225 := Tryd.func83.trans (congrArg some (by kernel_rfl))
  f266 := Tryd.func90.trans (congrArg some (by kernel_rfl))
  f267 := Tryd.func85.trans (congrArg some (by kernel_rfl))
  f314 := Tryd.func91.trans (congrArg some (by kernel_rfl))
  t3 := Tryd.underlying3
  a3 := Tryd.isAgg3
  z3 := Tryd.sizeOf3
  v3 := Tryd.zeroValue3
  t4 := Tryd.underlying4
  a4 := Tryd.isAgg4
  z4 := Tryd.sizeOf4
  v4 := Tryd.zeroValue4
  t5 := Tryd.underlying5
  a5 := Tryd.isAgg5
  z5 := Tryd.sizeOf5
  v5 := Tryd.zeroValue5
  t9 := Tryd.underlying9
  a9 := Tryd.isAgg9
  z9 := Tryd.sizeOf9
  v9 := Tryd.zeroValue9
  t46 := Tryd.underlying102
  a46 := Tryd.isAgg102
  z46 := Tryd.sizeOf102
  v46 := Tryd.zeroValue102
  t51 := Tryd.underlying114
  a51 := Tryd.isAgg114
  z51 := Tryd.sizeOf114
  v51 := Tryd.zeroValue114
  t146 := Tryd.underlying115
  a146 := Tryd.isAgg115
  z146 := Tryd.sizeOf115
  v146 := Tryd.zeroValue115
  g1 := by kernel_rfl
  i3 := by kernel_rfl
  i4 := by kernel_rfl
  i5 := by kernel_rfl
  i9 := by kernel_rfl
  i46 := by kernel_rfl
  i51 := by kernel_rfl
  i146 := by kernel_rfl
  m1 := by kernel_rfl
  s1_3 := fun w h => Go.Proofs.cell_of_shapedOpen_int (zero := #[.int .i64 0]) (t := 3) h (of_decide_eq_true (by kernel_rfl)) (by kernel_rfl) rfl (by kernel_rfl) (by kernel_rfl) Tryd.underlying3 }
open Go.RowKit Go.Lib in
theorem Tryd.stringslite_Index_shaped (s sub : ByteArray) (w : World) (h : w.ShapedOpen Tryd.prog) (hs : s.size < 4294967281) :
    Calls Tryd.prog 76 #[.string s, .string sub] w fun e w' => e = .returned (.int .i64 (Lib.index s.data.toList sub.data.toList)) ∧ w' = w := Any.stringslite_Index_shaped Tryd.laysM219 s sub w h hs
def Tryd.laysM143_ren : Go.Shelf.Ren := ⟨fun | 143 => 79 | 219 => 76 | 217 => 82 | 225 => 83 | 224 => 84 | 267 => 85 | 266 => 90 | 314 => 91 | n => n, fun | 9 => 9 | 3 => 3 | 4 => 4 | 5 => 5 | 46 => 102 | 146 => 115 | 51 => 114 | n => n, fun | 1 => 0 | n => n⟩
theorem Tryd.laysM143 : Go.Proofs.LaysM.n143 Tryd.prog Tryd.laysM143_ren := {
  mixed := by kernel_rfl
  f143 := Tryd.func79.trans (congrArg some (by kernel_rfl))
  f217 := Tryd.func82.trans (congrArg some (by kernel_rfl))
  f219 := Tryd.func76.trans (congrArg some (by kernel_rfl))
  f224 := Tryd.func84.trans (congrArg some (by kernel_rfl))
  f225 := Tryd.func83.trans (congrArg some (by kernel_rfl))
  f266 := Tryd.func90.trans (congrArg some (by kernel_rfl))
  f267 := Tryd.func85.trans (congrArg some (by kernel_rfl))
  f314 := Tryd.func91.trans (congrArg some (by kernel_rfl))
  t3 := Tryd.underlying3
  a3 := Tryd.isAgg3
  z3 := Tryd.sizeOf3
  v3 := Tryd.zeroValue3
  t4 := Tryd.underlying4
  a4 := Tryd.isAgg4
  z4 := Tryd.sizeOf4
  v4 := Tryd.zeroValue4
  t5 := Tryd.underlying5
  a5 := Tryd.isAgg5
  z5 := Tryd.sizeOf5
  v5 := Tryd.zeroValue5
  t9 := Tryd.underlying9
  a9 := Tryd.isAgg9
  z9 := Tryd.sizeOf9
  v9 := Tryd.zeroValue9
  t46 := Tryd.underlying102
  a46 := Tryd.isAgg102
  z46 := Tryd.sizeOf102
  v46 := Tryd.zeroValue102
  t51 := Tryd.underlying114
  a51 := Tryd.isAgg114
  z51 := Tryd.sizeOf114
  v51 := Tryd.zeroValue114
  t146 := Tryd.underlying115
  a146 := Tryd.isAgg115
  z146 := Tryd.sizeOf115
  v146 := Tryd.zeroValue115
  g1 := by kernel_rfl
  i3 := by kernel_rfl
  i4 := by kernel_rfl
  i5 := by kernel_rfl
  i9 := by kernel_rfl
  i46 := by kernel_rfl
  i51 := by kernel_rfl
  i146 := by kernel_rfl
  m1 := by kernel_rfl
  s1_3 := fun w h => Go.Proofs.cell_of_shapedOpen_int (zero := #[.int .i64 0]) (t := 3) h (of_decide_eq_true (by kernel_rfl)) (by kernel_rfl) rfl (by kernel_rfl) (by kernel_rfl) Tryd.underlying3 }
open Go.RowKit Go.Lib in
theorem Tryd.strings_Index_shaped (s sub : ByteArray) (w : World) (h : w.ShapedOpen Tryd.prog) (hs : s.size < 4294967281) :
    Calls Tryd.prog 79 #[.string s, .string sub] w fun e w' => e = .returned (.int .i64 (Lib.index s.data.toList sub.data.toList)) ∧ w' = w := Any.strings_Index_shaped Tryd.laysM143 s sub w h hs
def Tryd.laysM220_ren : Go.Shelf.Ren := ⟨fun | 220 => 67 | 219 => 76 | 217 => 82 | 225 => 83 | 224 => 84 | 267 => 85 | 266 => 90 | 314 => 91 | n => n, fun | 9 => 9 | 4 => 4 | 3 => 3 | 5 => 5 | 46 => 102 | 146 => 115 | 51 => 114 | n => n, fun | 1 => 0 | n => n⟩
theorem Tryd.laysM220 : Go.Proofs.LaysM.n220 Tryd.prog Tryd.laysM220_ren := {
  mixed := by kernel_rfl
  f217 := Tryd.func82.trans (congrArg some (by kernel_rfl))
  f219 := Tryd.func76.trans (congrArg some (by kernel_rfl))
  f220 := Tryd.func67.trans (congrArg some (by kernel_rfl))
  f224 := Tryd.func84.trans (congrArg some (by kernel_rfl))
  f225 := Tryd.func83.trans (congrArg some (by kernel_rfl))
  f266 := Tryd.func90.trans (congrArg some (by kernel_rfl))
  f267 := Tryd.func85.trans (congrArg some (by kernel_rfl))
  f314 := Tryd.func91.trans (congrArg some (by kernel_rfl))
  t3 := Tryd.underlying3
  a3 := Tryd.isAgg3
  z3 := Tryd.sizeOf3
  v3 := Tryd.zeroValue3
  t4 := Tryd.underlying4
  a4 := Tryd.isAgg4
  z4 := Tryd.sizeOf4
  v4 := Tryd.zeroValue4
  t5 := Tryd.underlying5
  a5 := Tryd.isAgg5
  z5 := Tryd.sizeOf5
  v5 := Tryd.zeroValue5
  t9 := Tryd.underlying9
  a9 := Tryd.isAgg9
  z9 := Tryd.sizeOf9
  v9 := Tryd.zeroValue9
  t46 := Tryd.underlying102
  a46 := Tryd.isAgg102
  z46 := Tryd.sizeOf102
  v46 := Tryd.zeroValue102
  t51 := Tryd.underlying114
  a51 := Tryd.isAgg114
  z51 := Tryd.sizeOf114
  v51 := Tryd.zeroValue114
  t146 := Tryd.underlying115
  a146 := Tryd.isAgg115
  z146 := Tryd.sizeOf115
  v146 := Tryd.zeroValue115
  g1 := by kernel_rfl
  i3 := by kernel_rfl
  i4 := by kernel_rfl
  i5 := by kernel_rfl
  i9 := by kernel_rfl
  i46 := by kernel_rfl
  i51 := by kernel_rfl
  i146 := by kernel_rfl
  m1 := by kernel_rfl
  s1_3 := fun w h => Go.Proofs.cell_of_shapedOpen_int (zero := #[.int .i64 0]) (t := 3) h (of_decide_eq_true (by kernel_rfl)) (by kernel_rfl) rfl (by kernel_rfl) (by kernel_rfl) Tryd.underlying3 }
open Go.RowKit Go.Lib in
theorem Tryd.stringslite_Cut_shaped (s sep : ByteArray) (w : World) (h : w.ShapedOpen Tryd.prog) (hs : s.size < 4294967281) :
    Calls Tryd.prog 67 #[.string s, .string sep] w fun e w' => e = .returned (.tuple #[.string ⟨(Lib.cut s.data.toList sep.data.toList).1.toArray⟩, .string ⟨(Lib.cut s.data.toList sep.data.toList).2.1.toArray⟩, .bool (Lib.cut s.data.toList sep.data.toList).2.2]) ∧ ∃ n, w' = w.drewN n := Any.stringslite_Cut_shaped Tryd.laysM220 s sep w h hs
def Tryd.laysM145_ren : Go.Shelf.Ren := ⟨fun | 145 => 48 | 220 => 67 | 219 => 76 | 217 => 82 | 225 => 83 | 224 => 84 | 267 => 85 | 266 => 90 | 314 => 91 | n => n, fun | 9 => 9 | 4 => 4 | 59 => 75 | 3 => 3 | 5 => 5 | 46 => 102 | 146 => 115 | 51 => 114 | n => n, fun | 1 => 0 | n => n⟩
theorem Tryd.laysM145 : Go.Proofs.LaysM.n145 Tryd.prog Tryd.laysM145_ren := {
  mixed := by kernel_rfl
  f145 := Tryd.func48.trans (congrArg some (by kernel_rfl))
  f217 := Tryd.func82.trans (congrArg some (by kernel_rfl))
  f219 := Tryd.func76.trans (congrArg some (by kernel_rfl))
  f220 := Tryd.func67.trans (congrArg some (by kernel_rfl))
  f224 := Tryd.func84.trans (congrArg some (by kernel_rfl))
  f225 := Tryd.func83.trans (congrArg some (by kernel_rfl))
  f266 := Tryd.func90.trans (congrArg some (by kernel_rfl))
  f267 := Tryd.func85.trans (congrArg some (by kernel_rfl))
  f314 := Tryd.func91.trans (congrArg some (by kernel_rfl))
  t3 := Tryd.underlying3
  a3 := Tryd.isAgg3
  z3 := Tryd.sizeOf3
  v3 := Tryd.zeroValue3
  t4 := Tryd.underlying4
  a4 := Tryd.isAgg4
  z4 := Tryd.sizeOf4
  v4 := Tryd.zeroValue4
  t5 := Tryd.underlying5
  a5 := Tryd.isAgg5
  z5 := Tryd.sizeOf5
  v5 := Tryd.zeroValue5
  t9 := Tryd.underlying9
  a9 := Tryd.isAgg9
  z9 := Tryd.sizeOf9
  v9 := Tryd.zeroValue9
  t46 := Tryd.underlying102
  a46 := Tryd.isAgg102
  z46 := Tryd.sizeOf102
  v46 := Tryd.zeroValue102
  t51 := Tryd.underlying114
  a51 := Tryd.isAgg114
  z51 := Tryd.sizeOf114
  v51 := Tryd.zeroValue114
  t59 := Tryd.underlying75
  a59 := Tryd.isAgg75
  z59 := Tryd.sizeOf75
  v59 := Tryd.zeroValue75
  t146 := Tryd.underlying115
  a146 := Tryd.isAgg115
  z146 := Tryd.sizeOf115
  v146 := Tryd.zeroValue115
  g1 := by kernel_rfl
  i3 := by kernel_rfl
  i4 := by kernel_rfl
  i5 := by kernel_rfl
  i9 := by kernel_rfl
  i46 := by kernel_rfl
  i51 := by kernel_rfl
  i59 := by kernel_rfl
  i146 := by kernel_rfl
  m1 := by kernel_rfl
  s1_3 := fun w h => Go.Proofs.cell_of_shapedOpen_int (zero := #[.int .i64 0]) (t := 3) h (of_decide_eq_true (by kernel_rfl)) (by kernel_rfl) rfl (by kernel_rfl) (by kernel_rfl) Tryd.underlying3 }
open Go.RowKit Go.Lib in
theorem Tryd.strings_Cut_shaped (s sep : ByteArray) (w : World) (h : w.ShapedOpen Tryd.prog) (hs : s.size < 4294967281) :
    Calls Tryd.prog 48 #[.string s, .string sep] w fun e w' => e = .returned (.tuple #[.string ⟨(Lib.cut s.data.toList sep.data.toList).1.toArray⟩, .string ⟨(Lib.cut s.data.toList sep.data.toList).2.1.toArray⟩, .bool (Lib.cut s.data.toList sep.data.toList).2.2]) ∧ ∃ n, w' = w.drewN n := Any.strings_Cut_shaped Tryd.laysM145 s sep w h hs
def Tryd.laysM138_ren : Go.Shelf.Ren := ⟨fun | 138 => 78 | 195 => 86 | 218 => 88 | 143 => 79 | 219 => 76 | 217 => 82 | 225 => 83 | 224 => 84 | 267 => 85 | 266 => 90 | 314 => 91 | n => n, fun | 9 => 9 | 3 => 3 | 4 => 4 | 5 => 5 | 0 => 0 | 46 => 102 | 146 => 115 | 51 => 114 | n => n, fun | 1 => 0 | n => n⟩
theorem Tryd.laysM138 : Go.Proofs.LaysM.n138 Tryd.prog Tryd.laysM138_ren := {
  mixed := by kernel_rfl
  f138 := Tryd.func78.trans (congrArg some (by kernel_rfl))
  f143 := Tryd.func79.trans (congrArg some (by kernel_rfl))
  f195 := Tryd.func86.trans (congrArg some (by kernel_rfl))
  f217 := Tryd.func82.trans (congrArg some (by kernel_rfl))
  f218 := Tryd.func88.trans (congrArg some (by kernel_rfl))
  f219 := Tryd.func76.trans (congrArg some (by kernel_rfl))
  f224 := Tryd.func84.trans (congrArg some (by kernel_rfl))
  f225 := Tryd.func83.trans (congrArg some (by kernel_rfl))
  f266 := Tryd.func90.trans (congrArg some (by kernel_rfl))
  f267 := Tryd.func85.trans (congrArg some (by kernel_rfl))
  f314 := Tryd.func91.trans (congrArg some (by kernel_rfl))
  t0 := Tryd.underlying0
  a0 := Tryd.isAgg0
  z0 := Tryd.sizeOf0
  v0 := Tryd.zeroValue0
  t3 := Tryd.underlying3
  a3 := Tryd.isAgg3
  z3 := Tryd.sizeOf3
  v3 := Tryd.zeroValue3
  t4 := Tryd.underlying4
  a4 := Tryd.isAgg4
  z4 := Tryd.sizeOf4
  v4 := Tryd.zeroValue4
  t5 := Tryd.underlying5
  a5 := Tryd.isAgg5
  z5 := Tryd.sizeOf5
  v5 := Tryd.zeroValue5
  t9 := Tryd.underlying9
  a9 := Tryd.isAgg9
  z9 := Tryd.sizeOf9
  v9 := Tryd.zeroValue9
  t46 := Tryd.underlying102
  a46 := Tryd.isAgg102
  z46 := Tryd.sizeOf102
  v46 := Tryd.zeroValue102
  t51 := Tryd.underlying114
  a51 := Tryd.isAgg114
  z51 := Tryd.sizeOf114
  v51 := Tryd.zeroValue114
  t146 := Tryd.underlying115
  a146 := Tryd.isAgg115
  z146 := Tryd.sizeOf115
  v146 := Tryd.zeroValue115
  g1 := by kernel_rfl
  i0 := by kernel_rfl
  i3 := by kernel_rfl
  i4 := by kernel_rfl
  i5 := by kernel_rfl
  i9 := by kernel_rfl
  i46 := by kernel_rfl
  i51 := by kernel_rfl
  i146 := by kernel_rfl
  m1 := by kernel_rfl
  s1_3 := fun w h => Go.Proofs.cell_of_shapedOpen_int (zero := #[.int .i64 0]) (t := 3) h (of_decide_eq_true (by kernel_rfl)) (by kernel_rfl) rfl (by kernel_rfl) (by kernel_rfl) Tryd.underlying3 }
open Go.RowKit Go.Lib in
theorem Tryd.strings_Count_shaped (s sub : ByteArray) (w : World) (h : w.ShapedOpen Tryd.prog) (hs : s.size < 4294967281) (h2 : 2 ≤ sub.size) :
    Calls Tryd.prog 78 #[.string s, .string sub] w fun e w' => e = .returned (.int .i64 (Lib.countB s sub)) ∧ w' = w := Any.strings_Count_shaped Tryd.laysM138 s sub w h hs h2
def Tryd.laysM288_ren : Go.Shelf.Ren := ⟨fun | 288 => 89 | 283 => 93 | 284 => 94 | 285 => 95 | 286 => 96 | 129 => 98 | 317 => 97 | 318 => 99 | 319 => 100 | 320 => 101 | 337 => 102 | 338 => 103 | n => n, fun | 37 => 54 | 53 => 112 | 3 => 3 | 4 => 4 | 9 => 9 | 171 => 117 | 0 => 0 | 173 => 120 | 212 => 127 | 51 => 114 | 5 => 5 | 20 => 20 | 213 => 128 | 46 => 102 | 232 => 131 | 233 => 132 | n => n, fun | 17 => 3 | 18 => 4 | 19 => 5 | n => n⟩
theorem Tryd.laysM288 : Go.Proofs.LaysM.n288 Tryd.prog Tryd.laysM288_ren := {
  mixed := by kernel_rfl
  f129 := Tryd.func98.trans (congrArg some (by kernel_rfl))
  f283 := Tryd.func93.trans (congrArg some (by kernel_rfl))
  f284 := Tryd.func94.trans (congrArg some (by kernel_rfl))
  f285 := Tryd.func95.trans (congrArg some (by kernel_rfl))
  f286 := Tryd.func96.trans (congrArg some (by kernel_rfl))
  f288 := Tryd.func89.trans (congrArg some (by kernel_rfl))
  f317 := Tryd.func97.trans (congrArg some (by kernel_rfl))
  f318 := Tryd.func99.trans (congrArg some (by kernel_rfl))
  f319 := Tryd.func100.trans (congrArg some (by kernel_rfl))
  f320 := Tryd.func101.trans (congrArg some (by kernel_rfl))
  f337 := Tryd.func102.trans (congrArg some (by kernel_rfl))
  f338 := Tryd.func103.trans (congrArg some (by kernel_rfl))
  t0 := Tryd.underlying0
  a0 := Tryd.isAgg0
  z0 := Tryd.sizeOf0
  v0 := Tryd.zeroValue0
  t3 := Tryd.underlying3
  a3 := Tryd.isAgg3
  z3 := Tryd.sizeOf3
  v3 := Tryd.zeroValue3
  t4 := Tryd.underlying4
  a4 := Tryd.isAgg4
  z4 := Tryd.sizeOf4
  v4 := Tryd.zeroValue4
  t5 := Tryd.underlying5
  a5 := Tryd.isAgg5
  z5 := Tryd.sizeOf5
  v5 := Tryd.zeroValue5
  t9 := Tryd.underlying9
  a9 := Tryd.isAgg9
  z9 := Tryd.sizeOf9
  v9 := Tryd.zeroValue9
  t20 := Tryd.underlying20
  a20 := Tryd.isAgg20
  z20 := Tryd.sizeOf20
  v20 := Tryd.zeroValue20
  t37 := Tryd.underlying54
  a37 := Tryd.isAgg54
  z37 := Tryd.sizeOf54
  v37 := Tryd.zeroValue54
  t46 := Tryd.underlying102
  a46 := Tryd.isAgg102
  z46 := Tryd.sizeOf102
  v46 := Tryd.zeroValue102
  t51 := Tryd.underlying114
  a51 := Tryd.isAgg114
  z51 := Tryd.sizeOf114
  v51 := Tryd.zeroValue114
  t53 := Tryd.underlying112
  a53 := Tryd.isAgg112
  z53 := Tryd.sizeOf112
  v53 := Tryd.zeroValue112
  t171 := Tryd.underlying117
  a171 := Tryd.isAgg117
  z171 := Tryd.sizeOf117
  v171 := Tryd.zeroValue117
  t173 := Tryd.underlying120
  a173 := Tryd.isAgg120
  z173 := Tryd.sizeOf120
  v173 := Tryd.zeroValue120
  t212 := Tryd.underlying127
  a212 := Tryd.isAgg127
  z212 := Tryd.sizeOf127
  v212 := Tryd.zeroValue127
  t213 := Tryd.underlying128
  a213 := Tryd.isAgg128
  z213 := Tryd.sizeOf128
  t232 := Tryd.underlying131
  a232 := Tryd.isAgg131
  z232 := Tryd.sizeOf131
  v232 := Tryd.zeroValue131
  t233 := Tryd.underlying132
  a233 := Tryd.isAgg132
  z233 := Tryd.sizeOf132
  v233 := Tryd.zeroValue132
  g17 := by kernel_rfl
  g18 := by kernel_rfl
  g19 := by kernel_rfl
  i0 := by kernel_rfl
  i3 := by kernel_rfl
  i4 := by kernel_rfl
  i5 := by kernel_rfl
  i9 := by kernel_rfl
  i20 := by kernel_rfl
  i37 := by kernel_rfl
  i46 := by kernel_rfl
  i51 := by kernel_rfl
  i53 := by kernel_rfl
  i171 := by kernel_rfl
  i173 := by kernel_rfl
  i212 := by kernel_rfl
  i232 := by kernel_rfl
  i233 := by kernel_rfl
  m17 := by kernel_rfl
  m18 := by kernel_rfl
  m19 := by kernel_rfl }
open Go.RowKit Go.Sort Go.Lib in
/-- internal/strconv.AppendUint(dst, i, 10), i BELOW 100: WHAT COMES BACK OWNS dst's CELLS AND, BEHIND THEM, i's DECIMAL NUMERAL. No table is read. Below the call's own blocks nothing has turned. (LAID: no walk: one application.) -/
theorem Tryd.internal_strconv_AppendUint_10_small (B n u : Nat) (hu : u < 100) (sv : Value) (xs : List Value) (w : World) (hown : w.ownsRow B 5 1 sv n xs) (hBw : B ≤ w.heap.size) (hlim : n + 20 ≤ 140737488355328) :
    Calls Tryd.prog 89 #[sv, .int .u64 u, .int .i64 10] w fun e w' => ∃ v', e = .returned v' ∧ w'.ownsRow B 5 1 v' (n + (Lib.decDigits u).length) (xs ++ Lib.byteCells (Lib.decDigits u)) ∧ Below B w w' ∧ Lib.OthersKept 5 none w w' := Any.internal_strconv_AppendUint_10_small Tryd.laysM288 B n u hu sv xs w hown hBw hlim
open Go.RowKit Go.Sort Go.Lib in
/-- internal/strconv.AppendUint(dst, i, 10), i FROM 100 ON: likewise; the digits are laid in an array of the call's own and appended. (LAID: no walk: one application.) -/
theorem Tryd.internal_strconv_AppendUint_10_big (B n u : Nat) (hu : 100 ≤ u) (hu64 : u < 18446744073709551616) (sv : Value) (xs : List Value) (w : World) (hown : w.ownsRow B 5 1 sv n xs) (hBw : B ≤ w.heap.size) (hlim : n + 20 ≤ 140737488355328) (htab : Lib.TabIs Tryd.prog w "internal/strconv.uint64pow10" .u64 Lib.pow10Tab) :
    Calls Tryd.prog 89 #[sv, .int .u64 u, .int .i64 10] w fun e w' => ∃ v', e = .returned v' ∧ w'.ownsRow B 5 1 v' (n + (Lib.decDigits u).length) (xs ++ Lib.byteCells (Lib.decDigits u)) ∧ Below B w w' ∧ Lib.OthersKept 5 none w w' := Any.internal_strconv_AppendUint_10_big Tryd.laysM288 B n u hu hu64 sv xs w hown hBw hlim htab
open Go.RowKit Go.Sort Go.Lib in
/-- internal/strconv.AppendUint(dst, i, 10): the two contracts as one. NO WALK. (LAID: no walk: one application.) -/
theorem Tryd.internal_strconv_AppendUint_10 (B n u : Nat) (hu64 : u < 18446744073709551616) (sv : Value) (xs : List Value) (w : World) (hown : w.ownsRow B 5 1 sv n xs) (hBw : B ≤ w.heap.size) (hlim : n + 20 ≤ 140737488355328) (htab : Lib.TabIs Tryd.prog w "internal/strconv.uint64pow10" .u64 Lib.pow10Tab) :
    Calls Tryd.prog 89 #[sv, .int .u64 u, .int .i64 10] w fun e w' => ∃ v', e = .returned v' ∧ w'.ownsRow B 5 1 v' (n + (Lib.decDigits u).length) (xs ++ Lib.byteCells (Lib.decDigits u)) ∧ Below B w w' ∧ Lib.OthersKept 5 none w w' := Any.internal_strconv_AppendUint_10 Tryd.laysM288 B n u hu64 sv xs w hown hBw hlim htab
def Tryd.laysM249_ren : Go.Shelf.Ren := ⟨fun | 249 => 80 | 288 => 89 | 283 => 93 | 284 => 94 | 285 => 95 | 286 => 96 | 129 => 98 | 317 => 97 | 318 => 99 | 319 => 100 | 320 => 101 | 337 => 102 | 338 => 103 | n => n, fun | 37 => 54 | 2 => 2 | 3 => 3 | 53 => 112 | 4 => 4 | 9 => 9 | 171 => 117 | 0 => 0 | 173 => 120 | 212 => 127 | 51 => 114 | 5 => 5 | 20 => 20 | 213 => 128 | 46 => 102 | 232 => 131 | 233 => 132 | n => n, fun | 17 => 3 | 18 => 4 | 19 => 5 | n => n⟩
theorem Tryd.laysM249 : Go.Proofs.LaysM.n249 Tryd.prog Tryd.laysM249_ren := {
  mixed := by kernel_rfl
  f129 := Tryd.func98.trans (congrArg some (by kernel_rfl))
  f249 := Tryd.func80.trans (congrArg some (by kernel_rfl))
  f283 := Tryd.func93.trans (congrArg some (by kernel_rfl))
  f284 := Tryd.func94.trans (congrArg some (by kernel_rfl))
  f285 := Tryd.func95.trans (congrArg some (by kernel_rfl))
  f286 := Tryd.func96.trans (congrArg some (by kernel_rfl))
  f288 := Tryd.func89.trans (congrArg some (by kernel_rfl))
  f317 := Tryd.func97.trans (congrArg some (by kernel_rfl))
  f318 := Tryd.func99.trans (congrArg some (by kernel_rfl))
  f319 := Tryd.func100.trans (congrArg some (by kernel_rfl))
  f320 := Tryd.func101.trans (congrArg some (by kernel_rfl))
  f337 := Tryd.func102.trans (congrArg some (by kernel_rfl))
  f338 := Tryd.func103.trans (congrArg some (by kernel_rfl))
  t0 := Tryd.underlying0
  a0 := Tryd.isAgg0
  z0 := Tryd.sizeOf0
  v0 := Tryd.zeroValue0
  t2 := Tryd.underlying2
  a2 := Tryd.isAgg2
  z2 := Tryd.sizeOf2
  v2 := Tryd.zeroValue2
  t3 := Tryd.underlying3
  a3 := Tryd.isAgg3
  z3 := Tryd.sizeOf3
  v3 := Tryd.zeroValue3
  t4 := Tryd.underlying4
  a4 := Tryd.isAgg4
  z4 := Tryd.sizeOf4
  v4 := Tryd.zeroValue4
  t5 := Tryd.underlying5
  a5 := Tryd.isAgg5
  z5 := Tryd.sizeOf5
  v5 := Tryd.zeroValue5
  t9 := Tryd.underlying9
  a9 := Tryd.isAgg9
  z9 := Tryd.sizeOf9
  v9 := Tryd.zeroValue9
  t20 := Tryd.underlying20
  a20 := Tryd.isAgg20
  z20 := Tryd.sizeOf20
  v20 := Tryd.zeroValue20
  t37 := Tryd.underlying54
  a37 := Tryd.isAgg54
  z37 := Tryd.sizeOf54
  v37 := Tryd.zeroValue54
  t46 := Tryd.underlying102
  a46 := Tryd.isAgg102
  z46 := Tryd.sizeOf102
  v46 := Tryd.zeroValue102
  t51 := Tryd.underlying114
  a51 := Tryd.isAgg114
  z51 := Tryd.sizeOf114
  v51 := Tryd.zeroValue114
  t53 := Tryd.underlying112
  a53 := Tryd.isAgg112
  z53 := Tryd.sizeOf112
  v53 := Tryd.zeroValue112
  t171 := Tryd.underlying117
  a171 := Tryd.isAgg117
  z171 := Tryd.sizeOf117
  v171 := Tryd.zeroValue117
  t173 := Tryd.underlying120
  a173 := Tryd.isAgg120
  z173 := Tryd.sizeOf120
  v173 := Tryd.zeroValue120
  t212 := Tryd.underlying127
  a212 := Tryd.isAgg127
  z212 := Tryd.sizeOf127
  v212 := Tryd.zeroValue127
  t213 := Tryd.underlying128
  a213 := Tryd.isAgg128
  z213 := Tryd.sizeOf128
  t232 := Tryd.underlying131
  a232 := Tryd.isAgg131
  z232 := Tryd.sizeOf131
  v232 := Tryd.zeroValue131
  t233 := Tryd.underlying132
  a233 := Tryd.isAgg132
  z233 := Tryd.sizeOf132
  v233 := Tryd.zeroValue132
  g17 := by kernel_rfl
  g18 := by kernel_rfl
  g19 := by kernel_rfl
  i0 := by kernel_rfl
  i2 := by kernel_rfl
  i3 := by kernel_rfl
  i4 := by kernel_rfl
  i5 := by kernel_rfl
  i9 := by kernel_rfl
  i20 := by kernel_rfl
  i37 := by kernel_rfl
  i46 := by kernel_rfl
  i51 := by kernel_rfl
  i53 := by kernel_rfl
  i171 := by kernel_rfl
  i173 := by kernel_rfl
  i212 := by kernel_rfl
  i232 := by kernel_rfl
  i233 := by kernel_rfl
  m17 := by kernel_rfl
  m18 := by kernel_rfl
  m19 := by kernel_rfl }
open Go.RowKit Go.Sort Go.Lib in
/-- internal/strconv.AppendInt: "AppendInt appends the string form of the integer i, as generated by FormatInt, to dst and returns the extended buffer.": AT BASE 10: WHAT COMES BACK OWNS dst's CELLS AND, BEHIND THEM, i's DECIMAL NUMERAL ('Lib.itoa i': at most 20 bytes), for every int64. Below the call's own blocks nothing has turned. (LAID: no walk: one application.) -/
theorem Tryd.internal_strconv_AppendInt_10 (B n : Nat) (i : Int) (h0 : -9223372036854775808 ≤ i) (h1 : i ≤ 9223372036854775807) (sv : Value) (xs : List Value) (w : World) (hown : w.ownsRow B 5 1 sv n xs) (hBw : B ≤ w.heap.size) (hlim : n + 21 ≤ 140737488355328) (htab : Lib.TabBelow Tryd.prog B w "internal/strconv.uint64pow10" .u64 Lib.pow10Tab) :
    Calls Tryd.prog 80 #[sv, .int .i64 i, .int .i64 10] w fun e w' => ∃ v', e = .returned v' ∧ w'.ownsRow B 5 1 v' (n + (Lib.itoa i).length) (xs ++ Lib.byteCells (Lib.itoa i)) ∧ Below B w w' ∧ Lib.OthersKept 5 none w w' := Any.internal_strconv_AppendInt_10 Tryd.laysM249 B n i h0 h1 sv xs w hown hBw hlim htab
def Tryd.laysM176_ren : Go.Shelf.Ren := ⟨fun | 176 => 70 | 249 => 80 | 288 => 89 | 283 => 93 | 284 => 94 | 285 => 95 | 286 => 96 | 129 => 98 | 317 => 97 | 318 => 99 | 319 => 100 | 320 => 101 | 337 => 102 | 338 => 103 | n => n, fun | 37 => 54 | 2 => 2 | 3 => 3 | 53 => 112 | 4 => 4 | 9 => 9 | 171 => 117 | 0 => 0 | 173 => 120 | 212 => 127 | 51 => 114 | 5 => 5 | 20 => 20 | 213 => 128 | 46 => 102 | 232 => 131 | 233 => 132 | n => n, fun | 17 => 3 | 18 => 4 | 19 => 5 | n => n⟩
theorem Tryd.laysM176 : Go.Proofs.LaysM.n176 Tryd.prog Tryd.laysM176_ren := {
  mixed := by kernel_rfl
  f129 := Tryd.func98.trans (congrArg some (by kernel_rfl))
  f176 := Tryd.func70.trans (congrArg some (by kernel_rfl))
  f249 := Tryd.func80.trans (congrArg some (by kernel_rfl))
  f283 := Tryd.func93.trans (congrArg some (by kernel_rfl))
  f284 := Tryd.func94.trans (congrArg some (by kernel_rfl))
  f285 := Tryd.func95.trans (congrArg some (by kernel_rfl))
  f286 := Tryd.func96.trans (congrArg some (by kernel_rfl))
  f288 := Tryd.func89.trans (congrArg some (by kernel_rfl))
  f317 := Tryd.func97.trans (congrArg some (by kernel_rfl))
  f318 := Tryd.func99.trans (congrArg some (by kernel_rfl))
  f319 := Tryd.func100.trans (congrArg some (by kernel_rfl))
  f320 := Tryd.func101.trans (congrArg some (by kernel_rfl))
  f337 := Tryd.func102.trans (congrArg some (by kernel_rfl))
  f338 := Tryd.func103.trans (congrArg some (by kernel_rfl))
  t0 := Tryd.underlying0
  a0 := Tryd.isAgg0
  z0 := Tryd.sizeOf0
  v0 := Tryd.zeroValue0
  t2 := Tryd.underlying2
  a2 := Tryd.isAgg2
  z2 := Tryd.sizeOf2
  v2 := Tryd.zeroValue2
  t3 := Tryd.underlying3
  a3 := Tryd.isAgg3
  z3 := Tryd.sizeOf3
  v3 := Tryd.zeroValue3
  t4 := Tryd.underlying4
  a4 := Tryd.isAgg4
  z4 := Tryd.sizeOf4
  v4 := Tryd.zeroValue4
  t5 := Tryd.underlying5
  a5 := Tryd.isAgg5
  z5 := Tryd.sizeOf5
  v5 := Tryd.zeroValue5
  t9 := Tryd.underlying9
  a9 := Tryd.isAgg9
  z9 := Tryd.sizeOf9
  v9 := Tryd.zeroValue9
  t20 := Tryd.underlying20
  a20 := Tryd.isAgg20
  z20 := Tryd.sizeOf20
  v20 := Tryd.zeroValue20
  t37 := Tryd.underlying54
  a37 := Tryd.isAgg54
  z37 := Tryd.sizeOf54
  v37 := Tryd.zeroValue54
  t46 := Tryd.underlying102
  a46 := Tryd.isAgg102
  z46 := Tryd.sizeOf102
  v46 := Tryd.zeroValue102
  t51 := Tryd.underlying114
  a51 := Tryd.isAgg114
  z51 := Tryd.sizeOf114
  v51 := Tryd.zeroValue114
  t53 := Tryd.underlying112
  a53 := Tryd.isAgg112
  z53 := Tryd.sizeOf112
  v53 := Tryd.zeroValue112
  t171 := Tryd.underlying117
  a171 := Tryd.isAgg117
  z171 := Tryd.sizeOf117
  v171 := Tryd.zeroValue117
  t173 := Tryd.underlying120
  a173 := Tryd.isAgg120
  z173 := Tryd.sizeOf120
  v173 := Tryd.zeroValue120
  t212 := Tryd.underlying127
  a212 := Tryd.isAgg127
  z212 := Tryd.sizeOf127
  v212 := Tryd.zeroValue127
  t213 := Tryd.underlying128
  a213 := Tryd.isAgg128
  z213 := Tryd.sizeOf128
  t232 := Tryd.underlying131
  a232 := Tryd.isAgg131
  z232 := Tryd.sizeOf131
  v232 := Tryd.zeroValue131
  t233 := Tryd.underlying132
  a233 := Tryd.isAgg132
  z233 := Tryd.sizeOf132
  v233 := Tryd.zeroValue132
  g17 := by kernel_rfl
  g18 := by kernel_rfl
  g19 := by kernel_rfl
  i0 := by kernel_rfl
  i2 := by kernel_rfl
  i3 := by kernel_rfl
  i4 := by kernel_rfl
  i5 := by kernel_rfl
  i9 := by kernel_rfl
  i20 := by kernel_rfl
  i37 := by kernel_rfl
  i46 := by kernel_rfl
  i51 := by kernel_rfl
  i53 := by kernel_rfl
  i171 := by kernel_rfl
  i173 := by kernel_rfl
  i212 := by kernel_rfl
  i232 := by kernel_rfl
  i233 := by kernel_rfl
  m17 := by kernel_rfl
  m18 := by kernel_rfl
  m19 := by kernel_rfl }
open Go.RowKit Go.Sort Go.Lib in
/-- strconv.AppendInt: "AppendInt appends the string form of the integer i, as generated by FormatInt, to dst and returns the extended buffer.": AT BASE 10: WHAT COMES BACK OWNS dst's CELLS AND, BEHIND THEM, i's DECIMAL NUMERAL ('Lib.itoa i': at most 20 bytes), for every int64. Below the call's own blocks nothing has turned. (LAID: no walk: one application.) -/
theorem Tryd.strconv_AppendInt_10 (B n : Nat) (i : Int) (h0 : -9223372036854775808 ≤ i) (h1 : i ≤ 9223372036854775807) (sv : Value) (xs : List Value) (w : World) (hown : w.ownsRow B 5 1 sv n xs) (hBw : B ≤ w.heap.size) (hlim : n + 21 ≤ 140737488355328) (htab : Lib.TabBelow Tryd.prog B w "internal/strconv.uint64pow10" .u64 Lib.pow10Tab) :
    Calls Tryd.prog 70 #[sv, .int .i64 i, .int .i64 10] w fun e w' => ∃ v', e = .returned v' ∧ w'.ownsRow B 5 1 v' (n + (Lib.itoa i).length) (xs ++ Lib.byteCells (Lib.itoa i)) ∧ Below B w w' ∧ Lib.OthersKept 5 none w w' := Any.strconv_AppendInt_10 Tryd.laysM176 B n i h0 h1 sv xs w hown hBw hlim htab
open Go.RowKit Go.Lib in
/-- strings.Count at whatever sep that is not empty: the two roads under one statement. (LAID: no walk: one application.) -/
theorem Tryd.strings_Count_any (s sep : ByteArray) (m : Int) (w : World) (hs : s.size < 4294967281) (hm : w.cell? ⟨0, 0, none⟩ = some (.int .i64 m)) (h1 : 1 ≤ sep.size) :
    Calls Tryd.prog 78 #[.string s, .string sep] w fun e w' => e = .returned (.int .i64 (Lib.countB s sep)) ∧ w' = w := Any.strings_Count_any Tryd.lays138 s sep m w hs hm h1
def Tryd.lays221_ren : Go.Shelf.Ren := ⟨fun | 221 => 68 | 268 => 77 | 138 => 78 | 143 => 79 | 195 => 86 | 197 => 87 | 218 => 88 | 219 => 76 | 260 => 92 | 217 => 82 | 225 => 83 | 224 => 84 | 267 => 85 | 266 => 90 | 314 => 91 | n => n, fun | 9 => 9 | 3 => 3 | 31 => 77 | 4 => 4 | 0 => 0 | 105 => 110 | 21 => 21 | 5 => 5 | 46 => 102 | 119 => 122 | 139 => 125 | 138 => 124 | 146 => 115 | 51 => 114 | n => n, fun | 1 => 0 | 3 => 1 | 4 => 2 | n => n⟩
theorem Tryd.lays221 : Go.Proofs.Lays.n221 Tryd.prog Tryd.lays221_ren := {
  mixed := by kernel_rfl
  f138 := Tryd.func78.trans (congrArg some (by kernel_rfl))
  f143 := Tryd.func79.trans (congrArg some (by kernel_rfl))
  f195 := Tryd.func86.trans (congrArg some (by kernel_rfl))
  f197 := Tryd.func87.trans (congrArg some (by kernel_rfl))
  f217 := Tryd.func82.trans (congrArg some (by kernel_rfl))
  f218 := Tryd.func88.trans (congrArg some (by kernel_rfl))
  f219 := Tryd.func76.trans (congrArg some (by kernel_rfl))
  f221 := Tryd.func68.trans (congrArg some (by kernel_rfl))
  f224 := Tryd.func84.trans (congrArg some (by kernel_rfl))
  f225 := Tryd.func83.trans (congrArg some (by kernel_rfl))
  f260 := Tryd.func92.trans (congrArg some (by kernel_rfl))
  f266 := Tryd.func90.trans (congrArg some (by kernel_rfl))
  f267 := Tryd.func85.trans (congrArg some (by kernel_rfl))
  f268 := Tryd.func77.trans (congrArg some (by kernel_rfl))
  f314 := Tryd.func91.trans (congrArg some (by kernel_rfl))
  t0 := Tryd.underlying0
  a0 := Tryd.isAgg0
  z0 := Tryd.sizeOf0
  v0 := Tryd.zeroValue0
  t3 := Tryd.underlying3
  a3 := Tryd.isAgg3
  z3 := Tryd.sizeOf3
  v3 := Tryd.zeroValue3
  t4 := Tryd.underlying4
  a4 := Tryd.isAgg4
  z4 := Tryd.sizeOf4
  v4 := Tryd.zeroValue4
  t5 := Tryd.underlying5
  a5 := Tryd.isAgg5
  z5 := Tryd.sizeOf5
  v5 := Tryd.zeroValue5
  t9 := Tryd.underlying9
  a9 := Tryd.isAgg9
  z9 := Tryd.sizeOf9
  v9 := Tryd.zeroValue9
  t21 := Tryd.underlying21
  a21 := Tryd.isAgg21
  z21 := Tryd.sizeOf21
  v21 := Tryd.zeroValue21
  t31 := Tryd.underlying77
  a31 := Tryd.isAgg77
  z31 := Tryd.sizeOf77
  v31 := Tryd.zeroValue77
  t46 := Tryd.underlying102
  a46 := Tryd.isAgg102
  z46 := Tryd.sizeOf102
  v46 := Tryd.zeroValue102
  t51 := Tryd.underlying114
  a51 := Tryd.isAgg114
  z51 := Tryd.sizeOf114
  v51 := Tryd.zeroValue114
  t105 := Tryd.underlying110
  a105 := Tryd.isAgg110
  z105 := Tryd.sizeOf110
  v105 := Tryd.zeroValue110
  t119 := Tryd.underlying122
  a119 := Tryd.isAgg122
  z119 := Tryd.sizeOf122
  t138 := Tryd.underlying124
  a138 := Tryd.isAgg124
  z138 := Tryd.sizeOf124
  v138 := Tryd.zeroValue124
  t139 := Tryd.underlying125
  a139 := Tryd.isAgg125
  z139 := Tryd.sizeOf125
  v139 := Tryd.zeroValue125
  t146 := Tryd.underlying115
  a146 := Tryd.isAgg115
  z146 := Tryd.sizeOf115
  v146 := Tryd.zeroValue115
  g1 := by kernel_rfl
  g3 := by kernel_rfl
  g4 := by kernel_rfl }
open Go.RowKit Go.Lib in
theorem Tryd.strings_genSplit (s sep : ByteArray) (sv : Nat) (n : Int) (N : Nat) (m : Int) (w : World) (hs : s.size < 4294967281) (hm : w.cell? ⟨0, 0, none⟩ = some (.int .i64 m)) (h1 : 1 ≤ sep.size) (hsv : sv ≤ sep.size) (hn0 : n ≠ 0) (hn63 : n ≤ 9223372036854775807) (hN : (N : Int) = min (if n < 0 then (Lib.countB s sep : Int) + 1 else n) ((s.size : Int) + 1)) :
    Calls Tryd.prog 68 #[.string s, .string sep, .int .i64 sv, .int .i64 n] w fun e w' =>
      e = .returned (.slice (some ⟨w.heap.size, 0, none⟩) (Lib.splitB sep sv (N - 1) s).length N) ∧ w' = w.alloc (.cells (Lib.cellsOf (Lib.splitB sep sv (N - 1) s) N) 9) := Any.strings_genSplit Tryd.lays221 (by kernel_rfl) s sep sv n N m w hs hm h1 hsv hn0 hn63 hN
def Tryd.lays146_ren : Go.Shelf.Ren := ⟨fun | 146 => 49 | 221 => 68 | 268 => 77 | 138 => 78 | 143 => 79 | 195 => 86 | 197 => 87 | 218 => 88 | 219 => 76 | 260 => 92 | 217 => 82 | 225 => 83 | 224 => 84 | 267 => 85 | 266 => 90 | 314 => 91 | n => n, fun | 9 => 9 | 31 => 77 | 3 => 3 | 4 => 4 | 0 => 0 | 105 => 110 | 21 => 21 | 5 => 5 | 46 => 102 | 119 => 122 | 139 => 125 | 138 => 124 | 146 => 115 | 51 => 114 | n => n, fun | 1 => 0 | 3 => 1 | 4 => 2 | n => n⟩
theorem Tryd.lays146 : Go.Proofs.Lays.n146 Tryd.prog Tryd.lays146_ren := {
  mixed := by kernel_rfl
  f138 := Tryd.func78.trans (congrArg some (by kernel_rfl))
  f143 := Tryd.func79.trans (congrArg some (by kernel_rfl))
  f146 := Tryd.func49.trans (congrArg some (by kernel_rfl))
  f195 := Tryd.func86.trans (congrArg some (by kernel_rfl))
  f197 := Tryd.func87.trans (congrArg some (by kernel_rfl))
  f217 := Tryd.func82.trans (congrArg some (by kernel_rfl))
  f218 := Tryd.func88.trans (congrArg some (by kernel_rfl))
  f219 := Tryd.func76.trans (congrArg some (by kernel_rfl))
  f221 := Tryd.func68.trans (congrArg some (by kernel_rfl))
  f224 := Tryd.func84.trans (congrArg some (by kernel_rfl))
  f225 := Tryd.func83.trans (congrArg some (by kernel_rfl))
  f260 := Tryd.func92.trans (congrArg some (by kernel_rfl))
  f266 := Tryd.func90.trans (congrArg some (by kernel_rfl))
  f267 := Tryd.func85.trans (congrArg some (by kernel_rfl))
  f268 := Tryd.func77.trans (congrArg some (by kernel_rfl))
  f314 := Tryd.func91.trans (congrArg some (by kernel_rfl))
  t0 := Tryd.underlying0
  a0 := Tryd.isAgg0
  z0 := Tryd.sizeOf0
  v0 := Tryd.zeroValue0
  t3 := Tryd.underlying3
  a3 := Tryd.isAgg3
  z3 := Tryd.sizeOf3
  v3 := Tryd.zeroValue3
  t4 := Tryd.underlying4
  a4 := Tryd.isAgg4
  z4 := Tryd.sizeOf4
  v4 := Tryd.zeroValue4
  t5 := Tryd.underlying5
  a5 := Tryd.isAgg5
  z5 := Tryd.sizeOf5
  v5 := Tryd.zeroValue5
  t9 := Tryd.underlying9
  a9 := Tryd.isAgg9
  z9 := Tryd.sizeOf9
  v9 := Tryd.zeroValue9
  t21 := Tryd.underlying21
  a21 := Tryd.isAgg21
  z21 := Tryd.sizeOf21
  v21 := Tryd.zeroValue21
  t31 := Tryd.underlying77
  a31 := Tryd.isAgg77
  z31 := Tryd.sizeOf77
  v31 := Tryd.zeroValue77
  t46 := Tryd.underlying102
  a46 := Tryd.isAgg102
  z46 := Tryd.sizeOf102
  v46 := Tryd.zeroValue102
  t51 := Tryd.underlying114
  a51 := Tryd.isAgg114
  z51 := Tryd.sizeOf114
  v51 := Tryd.zeroValue114
  t105 := Tryd.underlying110
  a105 := Tryd.isAgg110
  z105 := Tryd.sizeOf110
  v105 := Tryd.zeroValue110
  t119 := Tryd.underlying122
  a119 := Tryd.isAgg122
  z119 := Tryd.sizeOf122
  t138 := Tryd.underlying124
  a138 := Tryd.isAgg124
  z138 := Tryd.sizeOf124
  v138 := Tryd.zeroValue124
  t139 := Tryd.underlying125
  a139 := Tryd.isAgg125
  z139 := Tryd.sizeOf125
  v139 := Tryd.zeroValue125
  t146 := Tryd.underlying115
  a146 := Tryd.isAgg115
  z146 := Tryd.sizeOf115
  v146 := Tryd.zeroValue115
  g1 := by kernel_rfl
  g3 := by kernel_rfl
  g4 := by kernel_rfl }
open Go.RowKit Go.Lib in
/-- strings.Split. (LAID: no walk: one application.) -/
theorem Tryd.strings_Split (s sep : ByteArray) (m : Int) (w : World) (hs : s.size < 4294967281) (hm : w.cell? ⟨0, 0, none⟩ = some (.int .i64 m)) (h1 : 1 ≤ sep.size) :
    Calls Tryd.prog 49 #[.string s, .string sep] w fun e w' =>
      e = .returned (.slice (some ⟨w.heap.size, 0, none⟩) (Lib.countB s sep + 1) (Lib.countB s sep + 1)) ∧ w' = w.alloc (.cells ((Lib.splitB sep 0 (Lib.countB s sep) s).map Value.string).toArray 9) := Any.strings_Split Tryd.lays146 (by kernel_rfl) s sep m w hs hm h1
def Tryd.laysM146_ren : Go.Shelf.Ren := ⟨fun | 146 => 49 | 221 => 68 | 268 => 77 | 138 => 78 | 143 => 79 | 195 => 86 | 197 => 87 | 218 => 88 | 219 => 76 | 260 => 92 | 217 => 82 | 225 => 83 | 224 => 84 | 267 => 85 | 266 => 90 | 314 => 91 | n => n, fun | 9 => 9 | 31 => 77 | 3 => 3 | 4 => 4 | 0 => 0 | 105 => 110 | 21 => 21 | 5 => 5 | 46 => 102 | 119 => 122 | 139 => 125 | 138 => 124 | 146 => 115 | 51 => 114 | n => n, fun | 1 => 0 | 3 => 1 | 4 => 2 | n => n⟩
theorem Tryd.laysM146 : Go.Proofs.LaysM.n146 Tryd.prog Tryd.laysM146_ren := {
  mixed := by kernel_rfl
  f138 := Tryd.func78.trans (congrArg some (by kernel_rfl))
  f143 := Tryd.func79.trans (congrArg some (by kernel_rfl))
  f146 := Tryd.func49.trans (congrArg some (by kernel_rfl))
  f195 := Tryd.func86.trans (congrArg some (by kernel_rfl))
  f197 := Tryd.func87.trans (congrArg some (by kernel_rfl))
  f217 := Tryd.func82.trans (congrArg some (by kernel_rfl))
  f218 := Tryd.func88.trans (congrArg some (by kernel_rfl))
  f219 := Tryd.func76.trans (congrArg some (by kernel_rfl))
  f221 := Tryd.func68.trans (congrArg some (by kernel_rfl))
  f224 := Tryd.func84.trans (congrArg some (by kernel_rfl))
  f225 := Tryd.func83.trans (congrArg some (by kernel_rfl))
  f260 := Tryd.func92.trans (congrArg some (by kernel_rfl))
  f266 := Tryd.func90.trans (congrArg some (by kernel_rfl))
  f267 := Tryd.func85.trans (congrArg some (by kernel_rfl))
  f268 := Tryd.func77.trans (congrArg some (by kernel_rfl))
  f314 := Tryd.func91.trans (congrArg some (by kernel_rfl))
  t0 := Tryd.underlying0
  a0 := Tryd.isAgg0
  z0 := Tryd.sizeOf0
  v0 := Tryd.zeroValue0
  t3 := Tryd.underlying3
  a3 := Tryd.isAgg3
  z3 := Tryd.sizeOf3
  v3 := Tryd.zeroValue3
  t4 := Tryd.underlying4
  a4 := Tryd.isAgg4
  z4 := Tryd.sizeOf4
  v4 := Tryd.zeroValue4
  t5 := Tryd.underlying5
  a5 := Tryd.isAgg5
  z5 := Tryd.sizeOf5
  v5 := Tryd.zeroValue5
  t9 := Tryd.underlying9
  a9 := Tryd.isAgg9
  z9 := Tryd.sizeOf9
  v9 := Tryd.zeroValue9
  t21 := Tryd.underlying21
  a21 := Tryd.isAgg21
  z21 := Tryd.sizeOf21
  v21 := Tryd.zeroValue21
  t31 := Tryd.underlying77
  a31 := Tryd.isAgg77
  z31 := Tryd.sizeOf77
  v31 := Tryd.zeroValue77
  t46 := Tryd.underlying102
  a46 := Tryd.isAgg102
  z46 := Tryd.sizeOf102
  v46 := Tryd.zeroValue102
  t51 := Tryd.underlying114
  a51 := Tryd.isAgg114
  z51 := Tryd.sizeOf114
  v51 := Tryd.zeroValue114
  t105 := Tryd.underlying110
  a105 := Tryd.isAgg110
  z105 := Tryd.sizeOf110
  v105 := Tryd.zeroValue110
  t119 := Tryd.underlying122
  a119 := Tryd.isAgg122
  z119 := Tryd.sizeOf122
  t138 := Tryd.underlying124
  a138 := Tryd.isAgg124
  z138 := Tryd.sizeOf124
  v138 := Tryd.zeroValue124
  t139 := Tryd.underlying125
  a139 := Tryd.isAgg125
  z139 := Tryd.sizeOf125
  v139 := Tryd.zeroValue125
  t146 := Tryd.underlying115
  a146 := Tryd.isAgg115
  z146 := Tryd.sizeOf115
  v146 := Tryd.zeroValue115
  g1 := by kernel_rfl
  g3 := by kernel_rfl
  g4 := by kernel_rfl
  i0 := by kernel_rfl
  i3 := by kernel_rfl
  i4 := by kernel_rfl
  i5 := by kernel_rfl
  i9 := by kernel_rfl
  i21 := by kernel_rfl
  i31 := by kernel_rfl
  i46 := by kernel_rfl
  i51 := by kernel_rfl
  i105 := by kernel_rfl
  i138 := by kernel_rfl
  i139 := by kernel_rfl
  i146 := by kernel_rfl
  m1 := by kernel_rfl
  s1_3 := fun w h => Go.Proofs.cell_of_shapedOpen_int (zero := #[.int .i64 0]) (t := 3) h (of_decide_eq_true (by kernel_rfl)) (by kernel_rfl) rfl (by kernel_rfl) (by kernel_rfl) Tryd.underlying3
  m3 := by kernel_rfl
  m4 := by kernel_rfl }
open Go.RowKit Go.Lib in
/-- strings.Split, sep not empty. (LAID: no walk: one application.) -/
theorem Tryd.strings_Split_shaped (s sep : ByteArray) (w : World) (h : w.ShapedOpen Tryd.prog) (hs : s.size < 4294967281) (h1 : 1 ≤ sep.size) :
    Calls Tryd.prog 49 #[.string s, .string sep] w fun e w' =>
      e = .returned (.slice (some ⟨w.heap.size, 0, none⟩) (Lib.countB s sep + 1) (Lib.countB s sep + 1)) ∧ w' = w.alloc (.cells ((Lib.splitB sep 0 (Lib.countB s sep) s).map Value.string).toArray 9) := Any.strings_Split_shaped Tryd.laysM146 s sep w h hs h1
def Tryd.lays197_ren : Go.Shelf.Ren := ⟨fun | 197 => 87 | 260 => 92 | n => n, fun | 9 => 9 | 21 => 21 | 3 => 3 | 4 => 4 | 5 => 5 | 105 => 110 | 119 => 122 | 0 => 0 | 46 => 102 | 139 => 125 | 138 => 124 | n => n, fun | 3 => 1 | 4 => 2 | n => n⟩
theorem Tryd.lays197 : Go.Proofs.Lays.n197 Tryd.prog Tryd.lays197_ren := {
  mixed := by kernel_rfl
  f197 := Tryd.func87.trans (congrArg some (by kernel_rfl))
  f260 := Tryd.func92.trans (congrArg some (by kernel_rfl))
  t0 := Tryd.underlying0
  a0 := Tryd.isAgg0
  z0 := Tryd.sizeOf0
  v0 := Tryd.zeroValue0
  t3 := Tryd.underlying3
  a3 := Tryd.isAgg3
  z3 := Tryd.sizeOf3
  v3 := Tryd.zeroValue3
  t4 := Tryd.underlying4
  a4 := Tryd.isAgg4
  z4 := Tryd.sizeOf4
  v4 := Tryd.zeroValue4
  t5 := Tryd.underlying5
  a5 := Tryd.isAgg5
  z5 := Tryd.sizeOf5
  v5 := Tryd.zeroValue5
  t9 := Tryd.underlying9
  a9 := Tryd.isAgg9
  z9 := Tryd.sizeOf9
  v9 := Tryd.zeroValue9
  t21 := Tryd.underlying21
  a21 := Tryd.isAgg21
  z21 := Tryd.sizeOf21
  v21 := Tryd.zeroValue21
  t46 := Tryd.underlying102
  a46 := Tryd.isAgg102
  z46 := Tryd.sizeOf102
  v46 := Tryd.zeroValue102
  t105 := Tryd.underlying110
  a105 := Tryd.isAgg110
  z105 := Tryd.sizeOf110
  v105 := Tryd.zeroValue110
  t119 := Tryd.underlying122
  a119 := Tryd.isAgg122
  z119 := Tryd.sizeOf122
  t138 := Tryd.underlying124
  a138 := Tryd.isAgg124
  z138 := Tryd.sizeOf124
  v138 := Tryd.zeroValue124
  t139 := Tryd.underlying125
  a139 := Tryd.isAgg125
  z139 := Tryd.sizeOf125
  v139 := Tryd.zeroValue125
  g3 := by kernel_rfl
  g4 := by kernel_rfl }
open Go.RowKit Go.Lib in
/-- unicode/utf8.DecodeRuneInString: "DecodeRuneInString is like DecodeRune but its input is a string.": ("DecodeRune unpacks the first UTF-8 encoding in p and returns the rune and its width in bytes."): WHERE s BEGINS WITH AN ASCII BYTE x: (x, 1). (LAID: no walk: one application.) -/
theorem Tryd.utf8_DecodeRuneInString_ascii (s : ByteArray) (x : UInt8) (w : World) (h0 : s.data.toList[0]? = some x) (hx : x.toNat < 128) :
    Calls Tryd.prog 87 #[.string s] w fun e w' => e = .returned (.tuple #[.int .i32 x.toNat, .int .i64 1]) ∧ w' = w := Any.utf8_DecodeRuneInString_ascii Tryd.lays197 s x w h0 hx
open Go.RowKit Go.Lib in
theorem Tryd.utf8_RuneCountInString_ascii (s : ByteArray) (w : World) (hs : s.size < 4294967281) (hascii : ∀ (j : Nat) b, s.data.toList[j]? = some b → b.toNat < 128) :
    Calls Tryd.prog 86 #[.string s] w fun e w' => e = .returned (.int .i64 s.size) ∧ w' = w.iter s s.size := Any.utf8_RuneCountInString_ascii Tryd.lays195 s w hs hascii
def Tryd.lays268_ren : Go.Shelf.Ren := ⟨fun | 268 => 77 | 195 => 86 | 197 => 87 | 260 => 92 | n => n, fun | 9 => 9 | 3 => 3 | 31 => 77 | 4 => 4 | 105 => 110 | 21 => 21 | 0 => 0 | 5 => 5 | 119 => 122 | 46 => 102 | 139 => 125 | 138 => 124 | n => n, fun | 3 => 1 | 4 => 2 | n => n⟩
theorem Tryd.lays268 : Go.Proofs.Lays.n268 Tryd.prog Tryd.lays268_ren := {
  mixed := by kernel_rfl
  f195 := Tryd.func86.trans (congrArg some (by kernel_rfl))
  f197 := Tryd.func87.trans (congrArg some (by kernel_rfl))
  f260 := Tryd.func92.trans (congrArg some (by kernel_rfl))
  f268 := Tryd.func77.trans (congrArg some (by kernel_rfl))
  t0 := Tryd.underlying0
  a0 := Tryd.isAgg0
  z0 := Tryd.sizeOf0
  v0 := Tryd.zeroValue0
  t3 := Tryd.underlying3
  a3 := Tryd.isAgg3
  z3 := Tryd.sizeOf3
  v3 := Tryd.zeroValue3
  t4 := Tryd.underlying4
  a4 := Tryd.isAgg4
  z4 := Tryd.sizeOf4
  v4 := Tryd.zeroValue4
  t5 := Tryd.underlying5
  a5 := Tryd.isAgg5
  z5 := Tryd.sizeOf5
  v5 := Tryd.zeroValue5
  t9 := Tryd.underlying9
  a9 := Tryd.isAgg9
  z9 := Tryd.sizeOf9
  v9 := Tryd.zeroValue9
  t21 := Tryd.underlying21
  a21 := Tryd.isAgg21
  z21 := Tryd.sizeOf21
  v21 := Tryd.zeroValue21
  t31 := Tryd.underlying77
  a31 := Tryd.isAgg77
  z31 := Tryd.sizeOf77
  v31 := Tryd.zeroValue77
  t46 := Tryd.underlying102
  a46 := Tryd.isAgg102
  z46 := Tryd.sizeOf102
  v46 := Tryd.zeroValue102
  t105 := Tryd.underlying110
  a105 := Tryd.isAgg110
  z105 := Tryd.sizeOf110
  v105 := Tryd.zeroValue110
  t119 := Tryd.underlying122
  a119 := Tryd.isAgg122
  z119 := Tryd.sizeOf122
  t138 := Tryd.underlying124
  a138 := Tryd.isAgg124
  z138 := Tryd.sizeOf124
  v138 := Tryd.zeroValue124
  t139 := Tryd.underlying125
  a139 := Tryd.isAgg125
  z139 := Tryd.sizeOf125
  v139 := Tryd.zeroValue125
  g3 := by kernel_rfl
  g4 := by kernel_rfl }
open Go.RowKit Go.Lib in
theorem Tryd.strings_explode_all (s : ByteArray) (n : Int) (w : World) (hn : n < 0) (hs : s.size < 4294967281) (hascii : ∀ (j : Nat) b, s.data.toList[j]? = some b → b.toNat < 128) :
    Calls Tryd.prog 77 #[.string s, .int .i64 n] w fun e w' =>
      e = .returned (.slice (some ⟨(w.iter s s.size).heap.size, 0, none⟩) s.size s.size) ∧ w' = (w.iter s s.size).alloc (.cells ((Lib.charsB s).map Value.string).toArray 9) := Any.strings_explode_all Tryd.lays268 (by kernel_rfl) s n w hn hs hascii
open Go.RowKit Go.Lib in
/-- strings.genSplit at sep == "", n < 0: 'return explode(s, n)'. (LAID: no walk: one application.) -/
theorem Tryd.strings_genSplit_chars (s sep : ByteArray) (sv n : Int) (w : World) (h0 : sep.size = 0) (hn : n < 0) (hs : s.size < 4294967281) (hascii : ∀ (j : Nat) b, s.data.toList[j]? = some b → b.toNat < 128) :
    Calls Tryd.prog 68 #[.string s, .string sep, .int .i64 sv, .int .i64 n] w fun e w' =>
      e = .returned (.slice (some ⟨(w.iter s s.size).heap.size, 0, none⟩) s.size s.size) ∧ w' = (w.iter s s.size).alloc (.cells ((Lib.charsB s).map Value.string).toArray 9) := Any.strings_genSplit_chars Tryd.lays221 (by kernel_rfl) s sep sv n w h0 hn hs hascii
open Go.RowKit Go.Lib in
/-- strings.Split(s, ""), s ASCII: a piece a byte. (LAID: no walk: one application.) -/
theorem Tryd.strings_Split_chars (s sep : ByteArray) (w : World) (h0 : sep.size = 0) (hs : s.size < 4294967281) (hascii : ∀ (j : Nat) b, s.data.toList[j]? = some b → b.toNat < 128) :
    Calls Tryd.prog 49 #[.string s, .string sep] w fun e w' =>
      e = .returned (.slice (some ⟨(w.iter s s.size).heap.size, 0, none⟩) s.size s.size) ∧ w' = (w.iter s s.size).alloc (.cells ((Lib.charsB s).map Value.string).toArray 9) := Any.strings_Split_chars Tryd.lays146 (by kernel_rfl) s sep w h0 hs hascii
def Tryd.lays260_ren : Go.Shelf.Ren := ⟨fun | 260 => 92 | n => n, fun | 9 => 9 | 21 => 21 | 3 => 3 | 4 => 4 | 5 => 5 | 119 => 122 | 0 => 0 | 46 => 102 | 139 => 125 | 138 => 124 | n => n, fun | 3 => 1 | 4 => 2 | n => n⟩
theorem Tryd.lays260 : Go.Proofs.Lays.n260 Tryd.prog Tryd.lays260_ren := {
  mixed := by kernel_rfl
  f260 := Tryd.func92.trans (congrArg some (by kernel_rfl))
  t0 := Tryd.underlying0
  a0 := Tryd.isAgg0
  z0 := Tryd.sizeOf0
  v0 := Tryd.zeroValue0
  t3 := Tryd.underlying3
  a3 := Tryd.isAgg3
  z3 := Tryd.sizeOf3
  v3 := Tryd.zeroValue3
  t4 := Tryd.underlying4
  a4 := Tryd.isAgg4
  z4 := Tryd.sizeOf4
  v4 := Tryd.zeroValue4
  t5 := Tryd.underlying5
  a5 := Tryd.isAgg5
  z5 := Tryd.sizeOf5
  v5 := Tryd.zeroValue5
  t9 := Tryd.underlying9
  a9 := Tryd.isAgg9
  z9 := Tryd.sizeOf9
  v9 := Tryd.zeroValue9
  t21 := Tryd.underlying21
  a21 := Tryd.isAgg21
  z21 := Tryd.sizeOf21
  v21 := Tryd.zeroValue21
  t46 := Tryd.underlying102
  a46 := Tryd.isAgg102
  z46 := Tryd.sizeOf102
  v46 := Tryd.zeroValue102
  t119 := Tryd.underlying122
  a119 := Tryd.isAgg122
  z119 := Tryd.sizeOf122
  t138 := Tryd.underlying124
  a138 := Tryd.isAgg124
  z138 := Tryd.sizeOf124
  v138 := Tryd.zeroValue124
  t139 := Tryd.underlying125
  a139 := Tryd.isAgg125
  z139 := Tryd.sizeOf125
  v139 := Tryd.zeroValue125
  g3 := by kernel_rfl
  g4 := by kernel_rfl }
open Go.RowKit Go.Lib in
theorem Tryd.utf8_decodeRuneInStringSlow (s : ByteArray) (w : World) (hT : Lib.Utf8Tabs 1 2 w) :
    Calls Tryd.prog 92 #[.string s] w fun e w' => e = .returned (.tuple #[.int .i32 (Lib.decodeGo s).1, .int .i64 (Lib.decodeGo s).2]) ∧ Below w.heap.size w w' := Any.utf8_decodeRuneInStringSlow Tryd.lays260 s w hT
open Go.RowKit Go.Lib in
/-- **unicode/utf8.DecodeRuneInString AT EVERY STRING.** (LAID: no walk: one application.) -/
theorem Tryd.utf8_DecodeRuneInString (s : ByteArray) (w : World) (hT : Lib.Utf8Tabs 1 2 w) :
    Calls Tryd.prog 87 #[.string s] w fun e w' => e = .returned (.tuple #[.int .i32 (Lib.decodeGo s).1, .int .i64 (Lib.decodeGo s).2]) ∧ Below w.heap.size w w' := Any.utf8_DecodeRuneInString Tryd.lays197 s w hT
def Tryd.laysNm215_ren : Go.Shelf.Ren := ⟨fun | 15 => 33 | n => n, fun | 22 => 22 | 3 => 3 | 4 => 4 | n => n, fun | n => n⟩
theorem Tryd.laysNm215 : Go.Proofs.Lays2.n15 Tryd.prog Tryd.laysNm215_ren := {
  mixed := by kernel_rfl
  f15 := Tryd.func33.trans (congrArg some (by kernel_rfl))
  t3 := Tryd.underlying3
  a3 := Tryd.isAgg3
  z3 := Tryd.sizeOf3
  v3 := Tryd.zeroValue3
  t4 := Tryd.underlying4
  a4 := Tryd.isAgg4
  z4 := Tryd.sizeOf4
  v4 := Tryd.zeroValue4
  t22 := Tryd.underlying22
  a22 := Tryd.isAgg22
  z22 := Tryd.sizeOf22
  v22 := Tryd.zeroValue22
  i3 := by kernel_rfl }
open Go.RowKit Go.Lib in
/-- slices.Clone at []int: "Clone returns a copy of the slice. The elements are copied using assignment, so this is a shallow clone. The result may have additional unused capacity. The result preserves the nilness of s.": OF A SLICE THAT IS NOT nil IT RETURNS A SLICE THAT IS NOT nil, OF THE SAME ELEMENTS, IN MEMORY OF THE CALL's OWN: in the how-to's words (6f): 'w'.ownsRow B e 1 v' n cells': v' begins at the head of a row among the blocks from B on (B: the heap's size at the call), not frozen, whose first cells are the elements · 'Below B w w'': below B all is as it was. The capacity is whatever the run-time gives. 'zs': what the cells behind the slice's address hold; 'zs.take n': its elements. (LAID: no walk: one application.) -/
theorem Tryd.slices_Clone_int (b off n c : Nat) (zs : List Int) (w : World) (hz : n ≤ zs.length) (hbig : n * 8 ≤ 140737488355328) (hc : ∀ j, j < zs.length → w.cell? ⟨b, off + j, none⟩ = some (.int .i64 (zs.getD j 0))) :
    Calls Tryd.prog 33 #[.slice (some ⟨b, off, none⟩) n c] w fun e w' => ∃ v', e = .returned v' ∧ w'.ownsRow w.heap.size 3 1 v' n ((zs.take n).map (Value.int .i64)) ∧ v' ≠ .slice none 0 0 ∧ Below w.heap.size w w' := Any.slices_Clone_int Tryd.laysNm215 b off n c zs w hz hbig hc
open Go.RowKit Go.Lib in
/-- The same at nil: nil comes back; the world is as it was. (LAID: no walk: one application.) -/
theorem Tryd.slices_Clone_int_nil (n c : Nat) (w : World) :
    Calls Tryd.prog 33 #[.slice none n c] w fun e w' => e = .returned (.slice none 0 0) ∧ w' = w := Any.slices_Clone_int_nil Tryd.laysNm215 n c w
open Go.RowKit Go.Lib in
/-- The same at a slice of length 0 that is not nil, WHATEVER ITS ADDRESS (no cell is asked for): a slice that is not nil and owns nothing comes back. (LAID: no walk: one application.) -/
theorem Tryd.slices_Clone_int_zero (a : Addr) (c : Nat) (w : World) :
    Calls Tryd.prog 33 #[.slice (some a) 0 c] w fun e w' => ∃ v', e = .returned v' ∧ w'.ownsRow w.heap.size 3 1 v' 0 [] ∧ v' ≠ .slice none 0 0 ∧ Below w.heap.size w w' := Any.slices_Clone_int_zero Tryd.laysNm215 a c w
def Tryd.laysNm237_ren : Go.Shelf.Ren := ⟨fun | 37 => 81 | n => n, fun | 3 => 3 | 4 => 4 | n => n, fun | n => n⟩
theorem Tryd.laysNm237 : Go.Proofs.Lays2.n37 Tryd.prog Tryd.laysNm237_ren := {
  mixed := by kernel_rfl
  f37 := Tryd.func81.trans (congrArg some (by kernel_rfl))
  t3 := Tryd.underlying3
  a3 := Tryd.isAgg3
  z3 := Tryd.sizeOf3
  v3 := Tryd.zeroValue3
  t4 := Tryd.underlying4
  a4 := Tryd.isAgg4
  z4 := Tryd.sizeOf4
  v4 := Tryd.zeroValue4 }
open Go.RowKit Go.Lib in
/-- cmp.isNaN[int]: 'x != x': false. (LAID: no walk: one application.) -/
theorem Tryd.cmp_isNaN_int2 (x : Int) (w : World) :
    Calls Tryd.prog 81 #[.int .i64 x] w fun e w' => e = .returned (.bool false) ∧ w' = w := Any.cmp_isNaN_int2 Tryd.laysNm237 x w
end Go.Proofs
end
section
/- slices.Clone of numbers keeps its promise. -/
namespace Go.Proofs.YthalofddjlhcjaaDoor
open Go Go.RowKit
set_option maxRecDepth 100000
set_option maxHeartbeats 4000000
set_option linter.unusedVariables false
set_option linter.unusedSimpArgs false

theorem intsI_inv : ∀ {cs : List T} {xs : List Int}, intsI cs = some xs → cs = xs.map fun x => .sc (.int .i64 x)
  | [], xs, h => by simp [intsI] at h; subst h; rfl
  | c :: cs, xs, h => by
    unfold intsI at h
    split at h
    · rename_i he; cases he
    · rename_i x l he
      cases he
      simp only [Option.map_eq_some_iff] at h
      obtain ⟨ys, hy, rfl⟩ := h
      simp [← intsI_inv hy]
    · cases h

/-- New blocks are the result's. -/
def newK (B : Nat) (K : Nat → Color) (b : Nat) : Color := if B ≤ b then [0] else K b
theorem below_step {w w' : World} {K : Nat → Color} (h : Below w.heap.size w w') : Step w K w' (newK w.heap.size K) :=
  ⟨h.os, h.tape, h.output, h.size, fun b hb _ => ⟨by unfold newK; rw [if_neg (by omega)], h.block b hb⟩, .olds fun b hb => h.block b hb⟩
theorem own_row {w : World} {K : Nat → Color} {B : Nat} {e : TypeId} {v : Value} {n : Nat} {xs : List Int} (hn : xs.length = n) (h : w.ownsRow B e 1 v n (xs.map (Value.int .i64))) : TRep w (newK B K) [0] v (ointsT xs) := by
  obtain ⟨h1, h2⟩ := h
  subst hn
  rcases h2 with ⟨rfl, h0⟩ | ⟨g, cap, cur, rfl, hb, hg, hc1, hc2, hs, ht⟩
  · have : xs = [] := List.eq_nil_of_length_eq_zero h0
    subst this
    exact .nil _ _
  · refine .own [0] g xs.length cap 1 _ cur e (0, 0) (fun j => .int .i64 (xs.getD j 0)) (fun i _ => by simp) (by simp) (by unfold newK; rw [if_pos hb]) hg hs (by simp) (by omega) hc1 hc2 (fun j hj => ?_) (fun j t ht => ?_)
    · have hj' : j < xs.length := by simpa using hj
      have h3 : (cur.toList.take (xs.length * 1))[j]? = (xs.map (Value.int .i64))[j]? := by rw [ht]
      rw [List.getElem?_take_of_lt (by omega), List.getElem?_map, List.getElem?_eq_getElem hj'] at h3
      simp only [Option.map_some, Array.getElem?_toList] at h3
      rw [h3, List.getD, List.getElem?_eq_getElem hj']
      rfl
    · simp only [List.getElem?_map, Option.map_eq_some_iff] at ht
      obtain ⟨x, hx, rfl⟩ := ht
      simp only [List.getD, hx]
      exact .sc _ _ rfl

theorem index_sound {I : World → (Nat → Color) → Prop} {f : FuncId} {fn : Func} (hf : Tryd.prog.funcs[f]? = some fn) (hb : ∃ c, fn.body = some c) (hn : fn.name ≠ "runtime.NumGoroutine") {g : ByteArray → UInt8 → Int}
    (hc : ∀ (s : ByteArray) (c : UInt8) (w : World), Calls Tryd.prog f #[.string s, .string ⟨#[c]⟩] w fun e w' => e = .returned (.int .i64 (g s c)) ∧ w' = w) (s b : ByteArray) (c : UInt8) (h : b.data.toList = [c]) :
    CallOk Tryd.prog I f [.sc (.string s), .sc (.string b)] (.sc (.int .i64 (g s c))) [.dead, .dead] := by
  obtain ⟨cd, hb⟩ := hb
  have eb : b = ⟨#[c]⟩ := by
    obtain ⟨d⟩ := b
    congr 1
    exact Array.toList_inj.1 (by simpa using h)
  subst eb
  refine ⟨fun vals w => ?_, fun w K vals hs ha hI => ?_⟩
  · simp [callFunc, program, Sem.run, hf, hn, hb]
  · obtain ⟨v, u, rfl⟩ : ∃ v u, vals = #[v, u] := by
      obtain ⟨l⟩ := vals
      match l, hs with
      | [v, u], _ => exact ⟨v, u, rfl⟩
    have h1 : TRep w K [] v (.sc (.string s)) := ha 0 _ rfl
    have h2 : TRep w K [] u (.sc (.string ⟨#[c]⟩)) := ha 1 _ rfl
    rw [h1.sc_eq, h2.sc_eq]
    refine (hc s c w).mono fun e w' ⟨he, hw⟩ => ?_
    subst hw
    refine ⟨_, K, he, .sc _ _ rfl, fun i t hi hio => ?_, Step.refl _ _⟩
    match i, hi with
    | 0, hi => cases hi; cases hio
    | 1, hi => cases hi; cases hio
theorem xtC_sound {I : World → (Nat → Color) → Prop} : Sound Tryd.prog I xtC := by
  intro f args r outs h
  unfold xtC at h
  split at h
  case isFalse =>
    split at h
    · rename_i hf
      unfold xIndex at h
      split at h
      case h_2 => cases h
      rename_i s b
      split at h
      case h_2 => cases h
      rename_i c hcc
      cases h
      rcases hf with rfl | rfl
      · exact index_sound (g := fun s c => Lib.indexByte s.data.toList c) (fn := Tryd.f76) Tryd.func76 ⟨_, rfl⟩ (by decide) (fun s c w => Tryd.stringslite_Index_one s c w) s b c hcc
      · exact index_sound (g := fun s c => Lib.indexByte s.data.toList c) (fn := Tryd.f79) Tryd.func79 ⟨_, rfl⟩ (by decide) (fun s c w => Tryd.strings_Index_one s c w) s b c hcc
    · split at h
      case isFalse => cases h
      rename_i hf
      subst hf
      unfold xCount at h
      split at h
      case h_2 => cases h
      rename_i s b
      split at h
      case h_2 => cases h
      rename_i c hcc
      cases h
      exact index_sound (g := fun s c => ((Lib.countByte s.data.toList c : Nat) : Int)) (fn := Tryd.f78) Tryd.func78 ⟨_, rfl⟩ (by decide) (fun s c w => Tryd.strings_Count_one s c w) s b c hcc
  rename_i hf
  subst hf
  unfold xClone at h
  split at h
  case h_2 => cases h
  rename_i n cs
  split at h
  case h_2 => cases h
  rename_i xs hxs
  split at h
  case isFalse => cases h
  rename_i hc
  obtain ⟨hl, hb⟩ := hc
  obtain ⟨rfl, rfl⟩ : ointsT xs = r ∧ [T.dead] = outs := by simpa using h
  have hcs := intsI_inv hxs
  subst hcs
  clear hxs h
  subst hl
  refine ⟨fun vals w => ?_, fun w K vals hs ha hI => ?_⟩
  · have hb : ∃ c, Tryd.f33.body = some c := ⟨_, rfl⟩
    obtain ⟨c, hb⟩ := hb
    have hname : Tryd.f33.name ≠ "runtime.NumGoroutine" := by decide
    simp [callFunc, program, Sem.run, Tryd.func33, hname, hb]
  · obtain ⟨v, rfl⟩ : ∃ v, vals = #[v] := by
      obtain ⟨l⟩ := vals
      match l, hs with
      | [v], _ => exact ⟨v, rfl⟩
    have hv := ha 0 _ rfl
    have hv : TRep w K [] v (ints xs) := hv
    have fin : ∀ e w', (∃ v', e = Ending.returned v' ∧ w'.ownsRow w.heap.size 3 1 v' xs.length (xs.map (Value.int .i64)) ∧ Below w.heap.size w w') → ∃ v' K', e = Ending.returned v' ∧ TRep w' K' [0] v' (ointsT xs) ∧ (∀ i t, [ints xs][i]? = some t → isIo t = true → ∃ t', [T.dead][i]? = some t' ∧ TRep w' K' (col i) (#[v].getD i undef) t') ∧ Step w K w' K' := by
      rintro e w' ⟨v', he, ho, hbl⟩
      refine ⟨v', newK w.heap.size K, he, own_row rfl ho, fun i t hi hio => ?_, below_step hbl⟩
      match i, hi with
      | 0, hi => cases hi; cases hio
    generalize hT : ints xs = t at hv
    cases hv with
    | emp c a cap hcap =>
      have : xs = [] := by
        have : xs.length = 0 := by injection hT
        exact List.eq_nil_of_length_eq_zero this
      subst this
      cases a with
      | none => exact (Tryd.slices_Clone_int_nil 0 cap w).mono fun e w' ⟨he, hw⟩ => fin e w' ⟨_, he, ⟨by simp, .inl ⟨rfl, rfl⟩⟩, hw ▸ Below.refl _ _⟩
      | some a => exact (Tryd.slices_Clone_int_zero a cap w).mono fun e w' ⟨v', he, ho, _, hb⟩ => fin e w' ⟨v', he, ho, hb⟩
    | fro c g o n cap cs F hK hg hn hcap hF hh =>
      injection hT with e1 e2
      subst e1
      subst e2
      refine (Tryd.slices_Clone_int g o xs.length cap xs w (Nat.le_refl _) hb (fun j hj => ?_)).mono fun e w' ⟨v', he, ho, _, hbl⟩ => fin e w' ⟨v', he, ?_, hbl⟩
      · have h1 := hF j (by simpa using hj)
        rw [h1]
        have h2 := hh j (.sc (.int .i64 (xs.getD j 0))) (by simp [List.getD, hj])
        rw [h2.sc_eq]
      · rw [List.take_of_length_le (Nat.le_refl _)] at ho
        exact ho
    | _ => cases hT
end Go.Proofs.YthalofddjlhcjaaDoor
end
section
/- The schedules are orders. -/
namespace Go.Proofs.YthalofddjlhcjaaDoor
open Go
set_option maxRecDepth 100000

theorem cok3 : okFn Tryd.prog 3 cf3 = true := by kernel_rfl
theorem cok4 : okFn Tryd.prog 4 cf4 = true := by kernel_rfl
theorem cok5 : okFn Tryd.prog 5 cf5 = true := by kernel_rfl
theorem cok6 : okFn Tryd.prog 6 cf6 = true := by kernel_rfl
theorem cok7 : okFn Tryd.prog 7 cf7 = true := by kernel_rfl
theorem cok8 : okFn Tryd.prog 8 cf8 = true := by kernel_rfl
theorem cok9 : okFn Tryd.prog 9 cf9 = true := by kernel_rfl
theorem cok10 : okFn Tryd.prog 10 cf10 = true := by kernel_rfl
theorem cok11 : okFn Tryd.prog 11 cf11 = true := by kernel_rfl
theorem cok12 : okFn Tryd.prog 12 cf12 = true := by kernel_rfl
theorem cok13 : okFn Tryd.prog 13 cf13 = true := by kernel_rfl
theorem cok14 : okFn Tryd.prog 14 cf14 = true := by kernel_rfl
theorem cok15 : okFn Tryd.prog 15 cf15 = true := by kernel_rfl
theorem cok16 : okFn Tryd.prog 16 cf16 = true := by kernel_rfl
theorem cok17 : okFn Tryd.prog 17 cf17 = true := by kernel_rfl
theorem cok18 : okFn Tryd.prog 18 cf18 = true := by kernel_rfl
theorem cok19 : okFn Tryd.prog 19 cf19 = true := by kernel_rfl
theorem cok20 : okFn Tryd.prog 20 cf20 = true := by kernel_rfl
theorem cok21 : okFn Tryd.prog 21 cf21 = true := by kernel_rfl
theorem cok22 : okFn Tryd.prog 22 cf22 = true := by kernel_rfl
theorem cok23 : okFn Tryd.prog 23 cf23 = true := by kernel_rfl
theorem cok24 : okFn Tryd.prog 24 cf24 = true := by kernel_rfl
theorem cok25 : okFn Tryd.prog 25 cf25 = true := by kernel_rfl
theorem cok26 : okFn Tryd.prog 26 cf26 = true := by kernel_rfl
theorem cok27 : okFn Tryd.prog 27 cf27 = true := by kernel_rfl
theorem cok28 : okFn Tryd.prog 28 cf28 = true := by kernel_rfl
theorem cok29 : okFn Tryd.prog 29 cf29 = true := by kernel_rfl
theorem cok30 : okFn Tryd.prog 30 cf30 = true := by kernel_rfl
theorem cok31 : okFn Tryd.prog 31 cf31 = true := by kernel_rfl
theorem cok32 : okFn Tryd.prog 32 cf32 = true := by kernel_rfl
theorem cok34 : okFn Tryd.prog 34 cf34 = true := by kernel_rfl
theorem cok35 : okFn Tryd.prog 35 cf35 = true := by kernel_rfl
theorem cok36 : okFn Tryd.prog 36 cf36 = true := by kernel_rfl
theorem cok37 : okFn Tryd.prog 37 cf37 = true := by kernel_rfl
theorem cok38 : okFn Tryd.prog 38 cf38 = true := by kernel_rfl
theorem cok39 : okFn Tryd.prog 39 cf39 = true := by kernel_rfl
theorem cok40 : okFn Tryd.prog 40 cf40 = true := by kernel_rfl
theorem cok41 : okFn Tryd.prog 41 cf41 = true := by kernel_rfl
theorem cok42 : okFn Tryd.prog 42 cf42 = true := by kernel_rfl
theorem cok43 : okFn Tryd.prog 43 cf43 = true := by kernel_rfl
theorem cok44 : okFn Tryd.prog 44 cf44 = true := by kernel_rfl
theorem cok45 : okFn Tryd.prog 45 cf45 = true := by kernel_rfl
theorem cok46 : okFn Tryd.prog 46 cf46 = true := by kernel_rfl
theorem cok47 : okFn Tryd.prog 47 cf47 = true := by kernel_rfl
theorem cok48 : okFn Tryd.prog 48 cf48 = true := by kernel_rfl
theorem cok49 : okFn Tryd.prog 49 cf49 = true := by kernel_rfl
theorem cok50 : okFn Tryd.prog 50 cf50 = true := by kernel_rfl
theorem cok51 : okFn Tryd.prog 51 cf51 = true := by kernel_rfl
theorem cok52 : okFn Tryd.prog 52 cf52 = true := by kernel_rfl
theorem cok53 : okFn Tryd.prog 53 cf53 = true := by kernel_rfl
theorem cok54 : okFn Tryd.prog 54 cf54 = true := by kernel_rfl
theorem cok55 : okFn Tryd.prog 55 cf55 = true := by kernel_rfl
theorem cok56 : okFn Tryd.prog 56 cf56 = true := by kernel_rfl
theorem cok57 : okFn Tryd.prog 57 cf57 = true := by kernel_rfl
theorem cok58 : okFn Tryd.prog 58 cf58 = true := by kernel_rfl
theorem cok59 : okFn Tryd.prog 59 cf59 = true := by kernel_rfl
theorem cok60 : okFn Tryd.prog 60 cf60 = true := by kernel_rfl
theorem cok61 : okFn Tryd.prog 61 cf61 = true := by kernel_rfl
theorem cok62 : okFn Tryd.prog 62 cf62 = true := by kernel_rfl
theorem cok63 : okFn Tryd.prog 63 cf63 = true := by kernel_rfl
theorem cok64 : okFn Tryd.prog 64 cf64 = true := by kernel_rfl
theorem cok65 : okFn Tryd.prog 65 cf65 = true := by kernel_rfl
theorem cok66 : okFn Tryd.prog 66 cf66 = true := by kernel_rfl
theorem cok67 : okFn Tryd.prog 67 cf67 = true := by kernel_rfl
theorem cok68 : okFn Tryd.prog 68 cf68 = true := by kernel_rfl
theorem cok69 : okFn Tryd.prog 69 cf69 = true := by kernel_rfl
theorem cok70 : okFn Tryd.prog 70 cf70 = true := by kernel_rfl
theorem cok71 : okFn Tryd.prog 71 cf71 = true := by kernel_rfl
theorem cok72 : okFn Tryd.prog 72 cf72 = true := by kernel_rfl
theorem cok73 : okFn Tryd.prog 73 cf73 = true := by kernel_rfl
theorem cok74 : okFn Tryd.prog 74 cf74 = true := by kernel_rfl
theorem cok75 : okFn Tryd.prog 75 cf75 = true := by kernel_rfl
theorem cok80 : okFn Tryd.prog 80 cf80 = true := by kernel_rfl
theorem cok81 : okFn Tryd.prog 81 cf81 = true := by kernel_rfl
theorem cok89 : okFn Tryd.prog 89 cf89 = true := by kernel_rfl
theorem cok93 : okFn Tryd.prog 93 cf93 = true := by kernel_rfl
theorem if_ok {p : Prop} [Decidable p] {a c : Cfg} {r : Option Cfg} {G : Prop} (h : (if p then some a else r) = some c) (h1 : p → a = c → G) (h2 : r = some c → G) : G := by
  split at h
  · rename_i hp; exact h1 hp (Option.some.inj h)
  · exact h2 h
theorem cfOk : ∀ f c, cfAll f = some c → okFn Tryd.prog f c = true := by
  intro f c h
  unfold cfAll at h
  refine if_ok h (fun e h => by rw [e, ← h]; exact cok3) fun h => ?_
  refine if_ok h (fun e h => by rw [e, ← h]; exact cok4) fun h => ?_
  refine if_ok h (fun e h => by rw [e, ← h]; exact cok5) fun h => ?_
  refine if_ok h (fun e h => by rw [e, ← h]; exact cok6) fun h => ?_
  refine if_ok h (fun e h => by rw [e, ← h]; exact cok7) fun h => ?_
  refine if_ok h (fun e h => by rw [e, ← h]; exact cok8) fun h => ?_
  refine if_ok h (fun e h => by rw [e, ← h]; exact cok9) fun h => ?_
  refine if_ok h (fun e h => by rw [e, ← h]; exact cok10) fun h => ?_
  refine if_ok h (fun e h => by rw [e, ← h]; exact cok11) fun h => ?_
  refine if_ok h (fun e h => by rw [e, ← h]; exact cok12) fun h => ?_
  refine if_ok h (fun e h => by rw [e, ← h]; exact cok13) fun h => ?_
  refine if_ok h (fun e h => by rw [e, ← h]; exact cok14) fun h => ?_
  refine if_ok h (fun e h => by rw [e, ← h]; exact cok15) fun h => ?_
  refine if_ok h (fun e h => by rw [e, ← h]; exact cok16) fun h => ?_
  refine if_ok h (fun e h => by rw [e, ← h]; exact cok17) fun h => ?_
  refine if_ok h (fun e h => by rw [e, ← h]; exact cok18) fun h => ?_
  refine if_ok h (fun e h => by rw [e, ← h]; exact cok19) fun h => ?_
  refine if_ok h (fun e h => by rw [e, ← h]; exact cok20) fun h => ?_
  refine if_ok h (fun e h => by rw [e, ← h]; exact cok21) fun h => ?_
  refine if_ok h (fun e h => by rw [e, ← h]; exact cok22) fun h => ?_
  refine if_ok h (fun e h => by rw [e, ← h]; exact cok23) fun h => ?_
  refine if_ok h (fun e h => by rw [e, ← h]; exact cok24) fun h => ?_
  refine if_ok h (fun e h => by rw [e, ← h]; exact cok25) fun h => ?_
  refine if_ok h (fun e h => by rw [e, ← h]; exact cok26) fun h => ?_
  refine if_ok h (fun e h => by rw [e, ← h]; exact cok27) fun h => ?_
  refine if_ok h (fun e h => by rw [e, ← h]; exact cok28) fun h => ?_
  refine if_ok h (fun e h => by rw [e, ← h]; exact cok29) fun h => ?_
  refine if_ok h (fun e h => by rw [e, ← h]; exact cok30) fun h => ?_
  refine if_ok h (fun e h => by rw [e, ← h]; exact cok31) fun h => ?_
  refine if_ok h (fun e h => by rw [e, ← h]; exact cok32) fun h => ?_
  refine if_ok h (fun e h => by rw [e, ← h]; exact cok34) fun h => ?_
  refine if_ok h (fun e h => by rw [e, ← h]; exact cok35) fun h => ?_
  refine if_ok h (fun e h => by rw [e, ← h]; exact cok36) fun h => ?_
  refine if_ok h (fun e h => by rw [e, ← h]; exact cok37) fun h => ?_
  refine if_ok h (fun e h => by rw [e, ← h]; exact cok38) fun h => ?_
  refine if_ok h (fun e h => by rw [e, ← h]; exact cok39) fun h => ?_
  refine if_ok h (fun e h => by rw [e, ← h]; exact cok40) fun h => ?_
  refine if_ok h (fun e h => by rw [e, ← h]; exact cok41) fun h => ?_
  refine if_ok h (fun e h => by rw [e, ← h]; exact cok42) fun h => ?_
  refine if_ok h (fun e h => by rw [e, ← h]; exact cok43) fun h => ?_
  refine if_ok h (fun e h => by rw [e, ← h]; exact cok44) fun h => ?_
  refine if_ok h (fun e h => by rw [e, ← h]; exact cok45) fun h => ?_
  refine if_ok h (fun e h => by rw [e, ← h]; exact cok46) fun h => ?_
  refine if_ok h (fun e h => by rw [e, ← h]; exact cok47) fun h => ?_
  refine if_ok h (fun e h => by rw [e, ← h]; exact cok48) fun h => ?_
  refine if_ok h (fun e h => by rw [e, ← h]; exact cok49) fun h => ?_
  refine if_ok h (fun e h => by rw [e, ← h]; exact cok50) fun h => ?_
  refine if_ok h (fun e h => by rw [e, ← h]; exact cok51) fun h => ?_
  refine if_ok h (fun e h => by rw [e, ← h]; exact cok52) fun h => ?_
  refine if_ok h (fun e h => by rw [e, ← h]; exact cok53) fun h => ?_
  refine if_ok h (fun e h => by rw [e, ← h]; exact cok54) fun h => ?_
  refine if_ok h (fun e h => by rw [e, ← h]; exact cok55) fun h => ?_
  refine if_ok h (fun e h => by rw [e, ← h]; exact cok56) fun h => ?_
  refine if_ok h (fun e h => by rw [e, ← h]; exact cok57) fun h => ?_
  refine if_ok h (fun e h => by rw [e, ← h]; exact cok58) fun h => ?_
  refine if_ok h (fun e h => by rw [e, ← h]; exact cok59) fun h => ?_
  refine if_ok h (fun e h => by rw [e, ← h]; exact cok60) fun h => ?_
  refine if_ok h (fun e h => by rw [e, ← h]; exact cok61) fun h => ?_
  refine if_ok h (fun e h => by rw [e, ← h]; exact cok62) fun h => ?_
  refine if_ok h (fun e h => by rw [e, ← h]; exact cok63) fun h => ?_
  refine if_ok h (fun e h => by rw [e, ← h]; exact cok64) fun h => ?_
  refine if_ok h (fun e h => by rw [e, ← h]; exact cok65) fun h => ?_
  refine if_ok h (fun e h => by rw [e, ← h]; exact cok66) fun h => ?_
  refine if_ok h (fun e h => by rw [e, ← h]; exact cok67) fun h => ?_
  refine if_ok h (fun e h => by rw [e, ← h]; exact cok68) fun h => ?_
  refine if_ok h (fun e h => by rw [e, ← h]; exact cok69) fun h => ?_
  refine if_ok h (fun e h => by rw [e, ← h]; exact cok70) fun h => ?_
  refine if_ok h (fun e h => by rw [e, ← h]; exact cok71) fun h => ?_
  refine if_ok h (fun e h => by rw [e, ← h]; exact cok72) fun h => ?_
  refine if_ok h (fun e h => by rw [e, ← h]; exact cok73) fun h => ?_
  refine if_ok h (fun e h => by rw [e, ← h]; exact cok74) fun h => ?_
  refine if_ok h (fun e h => by rw [e, ← h]; exact cok75) fun h => ?_
  refine if_ok h (fun e h => by rw [e, ← h]; exact cok80) fun h => ?_
  refine if_ok h (fun e h => by rw [e, ← h]; exact cok81) fun h => ?_
  refine if_ok h (fun e h => by rw [e, ← h]; exact cok89) fun h => ?_
  refine if_ok h (fun e h => by rw [e, ← h]; exact cok93) fun h => ?_
  cases h
end Go.Proofs.YthalofddjlhcjaaDoor
end
section
/- What was read before a call that keeps all old blocks is read behind it. Over any program. -/
namespace Go.Proofs.YthalofddjlhcjaaDoor
set_option linter.unusedVariables false
set_option linter.unusedSimpArgs false
open Go.RowKit

/-- A type none of whose parts is a slice of elements without cells. -/
def flatT (P : Program) : Nat → TypeId → Bool
  | 0, _ => false
  | m + 1, t =>
    match P.underlying t with
    | some (.slice e) => P.cellsOf e != 0 && flatT P m e
    | some (.pointer e) => flatT P m e
    | some (.struct fs) => fs.toList.all fun f => flatT P m f.type
    | some (.array _ e) => flatT P m e
    | some (.map _ e) => flatT P m e
    | _ => true

section
variable {H : Type} {enc : TypeId × Value → H} {P : Program} {w : World} {base : Nat}

theorem trodStep_spare {m : Nat} {r r' : TypeId → List Value → Option (DataW H × List MemPlace)}
    (hr : ∀ t cs x, flatT P m t = true → r t cs = some x → r' t cs = some x) {t : TypeId} {cs : List Value} {x : DataW H × List MemPlace} (hf : flatT P (m + 1) t = true)
    (h : DataW.trodStep enc P w base (fun _ => true) true r t cs = some x) : DataW.trodStep enc P w base (fun b => decide (b < w.heap.size)) true r' t cs = some x := by
  unfold DataW.trodStep at h ⊢
  unfold flatT at hf
  split at h
  case h_1 => exact h
  case h_2 => exact h
  case h_3 => exact h
  case h_4 => exact h
  case h_5 => exact h
  case h_6 e a hu =>
    rw [hu] at hf
    simp only [Option.map_eq_some_iff, Option.bind_eq_some_iff] at h ⊢
    obtain ⟨y, ⟨cs', hc, hy⟩, rfl⟩ := h
    exact ⟨y, ⟨cs', hc, hr _ _ _ hf hy⟩, rfl⟩
  case h_7 => exact h
  case h_8 e a len cap hu =>
    rw [hu] at hf
    simp only [Bool.and_eq_true, bne_iff_ne, ne_eq] at hf
    obtain ⟨hcell, hfe⟩ := hf
    simp only at h ⊢
    split at h
    · rename_i hc
      rw [if_pos hc]
      simp only [Option.map_eq_some_iff, Option.bind_eq_some_iff, if_true] at h ⊢
      obtain ⟨elems, he, rest, hrest, rfl⟩ := h
      have one : ∀ (i : Nat) (y : DataW H × List MemPlace), (w.cells? base (a.add (i * P.cellsOf e)) (P.cellsOf e)).bind (r e) = some y → (w.cells? base (a.add (i * P.cellsOf e)) (P.cellsOf e)).bind (r' e) = some y := by
        intro i y hv
        simp only [Option.bind_eq_some_iff] at hv ⊢
        obtain ⟨cs', hc', hy'⟩ := hv
        exact ⟨cs', hc', hr _ _ _ hfe hy'⟩
      refine ⟨elems, mapM_carry he (fun i y _ _ hy => one i y hy), rest, ?_, rfl⟩
      by_cases hb : a.block < w.heap.size
      · rw [if_pos (by simpa using hb)]
        exact mapM_carry hrest (fun j y _ _ hy => one (len + j) y hy)
      · rw [if_neg (by simpa using hb)]
        have hz : cap - len = 0 := by
          rcases Nat.eq_zero_or_pos (cap - len) with h0 | h0
          · exact h0
          · exfalso
            have hl : rest.length = cap - len := by simpa using mapM_some_length hrest
            have h1 := mapM_some_get hrest 0 0 (by simp [h0])
            obtain ⟨y, hy⟩ : ∃ y, rest[0]? = some y := ⟨rest[0], List.getElem?_eq_getElem (by omega)⟩
            rw [hy] at h1
            simp only [Option.bind_eq_some_iff] at h1
            obtain ⟨cs', hc', _⟩ := h1
            have h2 := World.cells?_block hc' (by omega)
            have h3 : (a.add ((len + 0) * P.cellsOf e)).block = a.block := by unfold Addr.add; split <;> rfl
            omega
        rw [hz] at hrest
        simpa using hrest
    · cases h
  case h_9 fs _ hu =>
    rw [hu] at hf
    split at h
    · rename_i hc
      rw [if_pos hc]
      simp only [Option.map_eq_some_iff] at h ⊢
      obtain ⟨xs, hx, rfl⟩ := h
      exact ⟨xs, mapM_carry hx (fun f y hin _ hv => hr _ _ _ (List.all_eq_true.1 hf f hin) hv), rfl⟩
    · cases h
  case h_10 n e _ hu =>
    rw [hu] at hf
    split at h
    · rename_i hc
      rw [if_pos hc]
      simp only [Option.map_eq_some_iff] at h ⊢
      obtain ⟨xs, hx, rfl⟩ := h
      exact ⟨xs, mapM_carry hx (fun f y _ _ hv => hr _ _ _ hf hv), rfl⟩
    · cases h
  case h_11 => exact h
  case h_12 => exact h
  case h_13 => exact h
  case h_14 k e b hu =>
    rw [hu] at hf
    split at h
    · rename_i es clock hb
      split at h
      · rename_i hc
        simp only [Option.bind_eq_some_iff] at h
        obtain ⟨entries, he, hd⟩ := h
        split at hd
        · rename_i hris
          have hx := Option.some.inj hd
          subst hx
          simp only [if_pos hc, Option.bind_eq_some_iff]
          refine ⟨entries, mapM_carry he (fun x y _ hy hv => ?_), by simp [hris]⟩
          simp only [Option.bind_eq_some_iff] at hv ⊢
          obtain ⟨key, hk, hz⟩ := hv
          refine ⟨key, hk, ?_⟩
          split at hz
          · rename_i hfm
            rw [if_pos hfm]
            simp only [Option.map_eq_some_iff] at hz ⊢
            obtain ⟨q, hq, rfl⟩ := hz
            exact ⟨q, hr _ _ _ hf hq, rfl⟩
          · cases hz
        · cases hd
      · cases h
    · cases h
  case h_15 => exact h
  case h_16 => exact h
  case h_17 => exact h
  case h_18 => exact h
  case h_19 => exact h
  case h_20 => exact h
  case h_21 => cases h

theorem trod_spare : ∀ (n m : Nat) (t : TypeId) (cs : List Value) (x : DataW H × List MemPlace), flatT P m t = true →
    DataW.trod enc P w base (fun _ => true) true n t cs = some x → DataW.trod enc P w base (fun b => decide (b < w.heap.size)) true n t cs = some x := by
  intro n
  induction n with
  | zero => intro m t cs x _ h; simp [DataW.trod] at h
  | succ n ih =>
    intro m t cs x hf h
    cases m with
    | zero => simp [flatT] at hf
    | succ m =>
      rw [DataW.trod_step] at h ⊢
      exact trodStep_spare (m := m) (fun t cs x hf hx => ih m t cs x hf hx) hf h

theorem sameAt_below {w' : World} (hb : Below w.heap.size w w') {p : MemPlace} (hp : p.block < w.heap.size) : w.sameAt w' p := by
  cases p with
  | cell b off => exact hb.cell (p := ⟨b, off, none⟩) hp
  | map b => exact hb.block b hp

theorem trodAll_below {w' : World} (m : Nat) (hb : Below w.heap.size w w') : ∀ {ts : List TypeId} {vs : List Value} {ds : List (DataW H)} {ps : List MemPlace}, (ts.all (flatT P m)) = true →
    DataW.TrodAll enc P w 0 (fun _ => true) true ts vs ds ps → DataW.TrodAll enc P w' 0 (fun b => decide (b < w.heap.size)) true ts vs ds ps
  | [], [], [], ps, _, h => h
  | t :: ts, v :: vs, d :: ds, ps, hf, ⟨p, q, ⟨n, h1⟩, h2, e⟩ => by
    simp only [List.all_cons, Bool.and_eq_true] at hf
    have h3 := trod_spare n m t _ _ hf.1 h1
    exact ⟨p, q, ⟨n, DataW.trod_carry n _ _ _ h3 (fun z hz => sameAt_below hb (DataW.trod_lt n _ _ _ h3 z hz))⟩, trodAll_below m hb hf.2 h2, e⟩
  | [], _ :: _, _, _, _, h => by cases h
  | [], [], _ :: _, _, _, h => by cases h
  | _ :: _, [], _, _, _, h => by cases h
  | _ :: _, _ :: _, [], _, _, h => by cases h
end

section
variable {H : Type} {enc : TypeId × Value → H} {P : Program} {w : World} {r : Reach} {b0 : Nat}
open Go.ChangeShapes Go.WideShapes
open Go.Deep (open_bools)

/-- What the first n cells of a slice hold. -/
def CellsAt (w : World) (n : Nat) (ga : Option Addr) (F : Nat → Value) : Prop := ∀ j, j < n → ∃ a, ga = some a ∧ w.cell? (a.add j) = some (F j) ∧ a.block < w.heap.size

theorem add_block (a : Addr) (j : Nat) : (a.add j).block = a.block := by unfold Addr.add; split <;> rfl

theorem open_boolS {t e : TypeId} {v : Value} {d : DataW H} {ps : List MemPlace} (ht : P.underlying t = some (.slice e)) (he : P.underlying e = some .bool) (hc : P.cellsOf e = 1)
    (hval : Value.okWide P w r b0 t v) (hd : DataW.Trod enc P w 0 (fun _ => true) true t v d ps) :
    ∃ ga n cap, ∃ B : Nat → Bool, v = .slice ga n cap ∧ n ≤ maxLen ∧ CellsAt w n ga (fun j => .bool (B j)) := by
  obtain ⟨ga, n, cap, rfl⟩ := okWide_slice ht hval
  obtain ⟨fuel, hf⟩ := hd
  rcases open_bools ht he hc hf with ⟨hcs, _⟩ | ⟨a, len', cap', B, hcs, _, hl, hm, _, hcell⟩
  · simp [Value.cells] at hcs
    obtain ⟨rfl, rfl, rfl⟩ := hcs
    exact ⟨_, _, _, fun _ => false, rfl, by decide, fun j hj => by omega⟩
  · simp [Value.cells] at hcs
    obtain ⟨rfl, rfl, rfl⟩ := hcs
    exact ⟨_, _, _, B, rfl, by omega, fun j hj => ⟨a, rfl, hcell j (by omega), by have := World.block_lt_of_cell? w _ (hcell j (by omega)); rwa [add_block] at this⟩⟩

theorem open_intS {t e : TypeId} {v : Value} {d : DataW H} {ps : List MemPlace} (ht : P.underlying t = some (.slice e)) (he : P.underlying e = some (.int .i64)) (hc : P.cellsOf e = 1)
    (hval : Value.okWide P w r b0 t v) (hd : DataW.Trod enc P w 0 (fun _ => true) true t v d ps) :
    ∃ ga n cap, ∃ B : List Int, v = .slice ga n cap ∧ n ≤ maxLen ∧ (B.length = n ∧ CellsAt w n ga (fun j => .int .i64 (B.getD j 0)) ∧ ∀ x ∈ B, (Lit.int .i64 x).wf = true) := by
  obtain ⟨ga, n, cap, rfl⟩ := okWide_slice ht hval
  obtain ⟨fuel, hf⟩ := hd
  rcases open_ints ht he hc hf with ⟨hcs, _⟩ | ⟨a, len', cap', zs, hcs, _, hl, hm, hz, _, hcell, hwz⟩
  · simp [Value.cells] at hcs
    obtain ⟨rfl, rfl, rfl⟩ := hcs
    exact ⟨_, _, _, [], rfl, by decide, rfl, fun j hj => by omega, fun x hx => by cases hx⟩
  · simp [Value.cells] at hcs
    obtain ⟨rfl, rfl, rfl⟩ := hcs
    simp only [if_true] at hz
    refine ⟨_, _, _, zs.take n, rfl, by omega, by simp; omega, fun j hj => ⟨a, rfl, ?_, by have := World.block_lt_of_cell? w _ (hcell j (by omega)); rwa [add_block] at this⟩, fun x hx => hwz x (List.mem_of_mem_take hx)⟩
    rw [hcell j (by omega)]
    simp [List.getD, List.getElem?_take_of_lt hj]
end
end Go.Proofs.YthalofddjlhcjaaDoor
end
section
/- From a law's run on trees to its call: every block of before is laid for good. Over any program. -/
namespace Go.Proofs.YthalofddjlhcjaaDoor
open Go.ChangeShapes Go.WideShapes Go.RowKit
set_option linter.unusedVariables false
set_option linter.unusedSimpArgs false

/-- Nothing of what was there before is the call's. -/
def KZ : Nat → Color := fun _ => []

theorem lift_true {P : Program} {Xc : Contract} {cf : FuncId → Option Cfg} {f : FuncId} {args : List T} {outs : List T} (hX : Sound P (fun _ _ => True) Xc) (hm : P.follows .mixedOrders = true) (hf : ∀ f c, cf f = some c → okFn P f c = true)
    (h : Lim P Xc cf f args = some (.sc (.bool true), outs)) (hio : args.all (fun t => !isIo t) = true) (W : World) (vals : Array Value) (hs : vals.size = args.length)
    (ha : ∀ i t, args[i]? = some t → TRep W KZ [] (vals.getD i undef) t) : Calls P f vals W fun e W' => e = .returned (.bool true) ∧ Below W.heap.size W W' := by
  have hc := lim_ok (I := fun _ _ => True) EnvS.none hX hm hf h
  refine (hc.calls W KZ vals hs (fun i t hi => ?_) trivial).mono fun e W' ⟨v, K', he, hv, _, hst⟩ => ?_
  · have h1 := List.all_eq_true.1 hio t (List.mem_of_getElem? hi)
    unfold ArgRep
    rw [if_neg (by simpa using h1)]
    exact ha i t hi
  · generalize hT : T.sc (.bool true) = t at hv
    cases hv with
    | sc c v hb => cases hT; exact ⟨he, hst.os, hst.tape, hst.output, hst.size, fun b hb => (hst.old b hb (.inl rfl)).2⟩
    | _ => cases hT

section
variable {H : Type} {enc : TypeId × Value → H} {P : Program} {w : World} {r : Reach} {b0 : Nat}
/-- A slice of integers reads as a tree. -/
theorem open_intT {t e : TypeId} {v : Value} {d : DataW H} {ps : List MemPlace} (ht : P.underlying t = some (.slice e)) (he : P.underlying e = some (.int .i64)) (hc : P.cellsOf e = 1)
    (hval : Value.okWide P w r b0 t v) (hd : DataW.Trod enc P w 0 (fun _ => true) true t v d ps) :
    ∃ xs : List Int, TRep w KZ [] v (.sl xs.length (xs.map fun x => .sc (.int .i64 x))) ∧ xs.length ≤ maxLen ∧ ∀ x ∈ xs, (Lit.int .i64 x).wf = true := by
  obtain ⟨ga, n, cap, rfl⟩ := okWide_slice ht hval
  obtain ⟨fuel, hf⟩ := hd
  rcases open_ints ht he hc hf with ⟨hcs, _⟩ | ⟨a, len', cap', zs, hcs, _, hl, hm, hz, _, hcell, hwz⟩
  · simp [Value.cells] at hcs
    obtain ⟨rfl, rfl, rfl⟩ := hcs
    exact ⟨[], .emp _ _ _ (by decide), by decide, fun x hx => by cases hx⟩
  · simp [Value.cells] at hcs
    obtain ⟨rfl, rfl, rfl⟩ := hcs
    simp only [if_true] at hz
    refine ⟨zs.take n, ?_, by simp; omega, fun x hx => hwz x (List.mem_of_mem_take hx)⟩
    have hln : (zs.take n).length = n := by simp; omega
    rw [hln]
    by_cases h0 : n = 0
    · subst h0
      simp only [List.take_zero, List.map_nil]
      exact .emp _ _ _ hm
    · have hc0 := hcell 0 (by omega)
      have hb := World.block_lt_of_cell? w _ hc0
      rw [add_block] at hb
      have hsp : a.spot = none := by
        have : a.add 0 = a := by simp [Addr.add]
        rw [this] at hc0
        unfold World.cell? at hc0
        split at hc0
        · split at hc0
          · cases hc0
          · rename_i hh
            simpa using hh
        · cases hc0
      obtain ⟨g, o, sp⟩ := a
      simp only at hsp
      subst hsp
      refine .fro [] g o n cap _ (fun j => .int .i64 (zs.getD j 0)) rfl hb hl hm (fun j hj => ?_) (fun j t hj => ?_)
      · have h1 := hcell j (by simp at hj; omega)
        have e : (⟨g, o, none⟩ : Addr).add j = ⟨g, o + j, none⟩ := by
          unfold Addr.add
          split
          · rename_i h; subst h; rfl
          · rfl
        rw [e] at h1
        exact h1
      · simp only [List.getElem?_map, Option.map_eq_some_iff] at hj
        obtain ⟨x, hx, rfl⟩ := hj
        have hjn : j < n := by
          have := (List.getElem?_eq_some_iff.1 hx).1
          simp at this; omega
        rw [List.getElem?_take_of_lt hjn] at hx
        simp only [List.getD, hx]
        exact .sc _ _ rfl
end
end Go.Proofs.YthalofddjlhcjaaDoor
end
section
/- Proved here: the law CascadeMade returns true for every input, and its arguments read afterwards as before; the row's listed tables are tied to the program's text by the given tie. No other condition. -/
namespace Go.Proofs.YthalofddjlhcjaaDoor.cascadeMade
open Go.ChangeShapes Go.WideShapes Go.ChangeAt Go.RowKit
open Go.ChangeMaps (open_string shut_string)
set_option linter.unusedVariables false
set_option linter.unusedSimpArgs false

theorem own : ownKnob Tryd.prog.godebug = none := by kernel_rfl
set_option maxRecDepth 100000 in
/-- What the call gives, for every argument. -/
theorem contract (H : Type) (enc : TypeId × Value → H) (W : World) (base : Nat) (args : Array Value) (ds gs : List (DataW H)) (before : List MemPlace)
    (hval0 : ∀ (j : Nat) t v, Tryd.f7.params[j]? = some t → args[j]? = some v → Value.okWide Tryd.prog W .any base t v)
    (hW : DataW.Whole enc Tryd.prog Tryd.f7.params.toList Rows.cascadeMadeSpec.vars false W args.toList ds gs before) :
    Calls Tryd.prog 7 args W fun e W' => ∃ v, e = .returned v ∧ Rows.cascadeMadeSpec.post enc Tryd.prog Tryd.f7 false true false false W args v W' := by
  have hW' := hW
  obtain ⟨p, q, hA0, hV, rfl, hfz, hnd⟩ := hW
  have hval := hval0
  have hA : DataW.TrodAll enc Tryd.prog W 0 (fun _ => true) true Tryd.f7.params.toList args.toList ds p := hA0
  rw [Tryd.params7] at hA hval
  obtain ⟨v0, vs0, d0, ds0, p0, q0, hargs, rfl, rfl, h0, r0⟩ := trodAll_cons hA
  obtain ⟨v1, vs1, d1, ds1, p1, q1, rfl, rfl, rfl, h1, r1⟩ := trodAll_cons r0
  obtain ⟨rfl, rfl, rfl⟩ := trodAll_nil r1
  obtain rfl : args = #[v0, v1] := by cases args; simp_all
  obtain ⟨rfl, rfl⟩ := trodVars_none hV
  obtain ⟨a0, t0, w0, z0⟩ := open_intT Tryd.underlying22 Tryd.underlying3 (by kernel_rfl) (hval 0 22 v0 rfl rfl) h0
  obtain ⟨a1, rfl, rfl, rfl, w1⟩ := open_int Tryd.underlying3 (hval 1 3 v1 rfl rfl) h1
  obtain ⟨outs, hlaw⟩ := law7 a0 w0 z0 a1 w1
  refine (lift_true xtC_sound (by kernel_rfl) cfOk hlaw rfl W _ rfl (fun i t hi => ?_)).mono fun e W' ⟨he, bel⟩ => ?_
  · match i, hi with
    | 0, hi => cases hi; exact t0
    | 1, hi => cases hi; exact .sc _ _ rfl
  · subst he
    exact ⟨_, rfl, _, _, _, [], _, [], hW', trodAll_mk1 (shut_bool Tryd.underlying4 _), trodAll_below 12 bel (by kernel_rfl) hA0, rfl, bel.frame _, fun h => by cases h⟩

/-- A world for the witness: the settled one, the listed tables laid. -/
noncomputable def laidWorld (os : Os) : World :=
  { World.holding Tryd.prog os ⟨#[], #[], []⟩ with heap := ((((World.holding Tryd.prog os ⟨#[], #[], []⟩).heap.modify 4 fun | .cells _ t frozen => .cells #[.int .u8 0, .int .u8 1, .int .u8 28, .int .u8 2, .int .u8 29, .int .u8 14, .int .u8 24, .int .u8 3, .int .u8 30, .int .u8 22, .int .u8 20, .int .u8 15, .int .u8 25, .int .u8 17, .int .u8 4, .int .u8 8, .int .u8 31, .int .u8 27, .int .u8 13, .int .u8 23, .int .u8 21, .int .u8 19, .int .u8 16, .int .u8 7, .int .u8 26, .int .u8 12, .int .u8 18, .int .u8 6, .int .u8 11, .int .u8 5, .int .u8 10, .int .u8 9] t frozen | o => o).modify 5 fun | .cells _ t frozen => .cells #[.int .u8 0, .int .u8 1, .int .u8 56, .int .u8 2, .int .u8 57, .int .u8 49, .int .u8 28, .int .u8 3, .int .u8 61, .int .u8 58, .int .u8 42, .int .u8 50, .int .u8 38, .int .u8 29, .int .u8 17, .int .u8 4, .int .u8 62, .int .u8 47, .int .u8 59, .int .u8 36, .int .u8 45, .int .u8 43, .int .u8 51, .int .u8 22, .int .u8 53, .int .u8 39, .int .u8 33, .int .u8 30, .int .u8 24, .int .u8 18, .int .u8 12, .int .u8 5, .int .u8 63, .int .u8 55, .int .u8 48, .int .u8 27, .int .u8 60, .int .u8 41, .int .u8 37, .int .u8 16, .int .u8 46, .int .u8 35, .int .u8 44, .int .u8 21, .int .u8 52, .int .u8 32, .int .u8 23, .int .u8 11, .int .u8 54, .int .u8 26, .int .u8 40, .int .u8 15, .int .u8 34, .int .u8 20, .int .u8 31, .int .u8 10, .int .u8 25, .int .u8 14, .int .u8 19, .int .u8 9, .int .u8 13, .int .u8 8, .int .u8 7, .int .u8 6] t frozen | o => o).modify 3 fun | .cells _ t frozen => .cells #[.int .u64 1, .int .u64 10, .int .u64 100, .int .u64 1000, .int .u64 10000, .int .u64 100000, .int .u64 1000000, .int .u64 10000000, .int .u64 100000000, .int .u64 1000000000, .int .u64 10000000000, .int .u64 100000000000, .int .u64 1000000000000, .int .u64 10000000000000, .int .u64 100000000000000, .int .u64 1000000000000000, .int .u64 10000000000000000, .int .u64 100000000000000000, .int .u64 1000000000000000000, .int .u64 10000000000000000000] t frozen | o => o) }
theorem laid_met (os : Os) : laidMet Tryd.prog Rows.cascadeMadeRow.laid ((laidWorld os).forCall (fun _ _ => 0) ⟨#[], #[.slice none 0 0, .int .i64 0], []⟩).memory :=
  laidMet_of_run' 8 (by kernel_rfl) (by kernel_rfl)
theorem reads (os : Os) {H : Type} (enc : TypeId × Value → H) : ∃ places, DataW.whole enc Tryd.prog ((laidWorld os).forCall (fun _ _ => 0) ⟨#[], #[.slice none 0 0, .int .i64 0], []⟩).memory Tryd.f7.params.toList Rows.cascadeMadeSpec.vars false (#[.slice none 0 0, .int .i64 0] : Array Value).toList 8 = some ([.nil, .lit (.int .i64 0)], [], places) :=
  ⟨[], by kernel_rfl⟩

set_option maxRecDepth 100000 in
theorem lifted (os : Os) (started : os.Started) (H : Type) (enc : TypeId × Value → H) (F : Stop.Interp) :
    ReturnsInHanded {} Tryd.checked os 7 .any ((OpenSpec.ofChange Rows.cascadeMadeSpec).preRow enc Tryd.prog Tryd.f7 Rows.cascadeMadeRow.domain false Rows.cascadeMadeRow.laid) (((OpenSpec.ofChange Rows.cascadeMadeSpec).at F).post enc Tryd.prog Tryd.f7 false true false false) := by
  obtain ⟨places, hx⟩ := reads os enc
  refine returnsInHanded_of_row (C := Tryd.checked) (s := (OpenSpec.ofChange Rows.cascadeMadeSpec)) own started (by kernel_rfl) Tryd.func7
    (witness_row_at (enc := enc) (C := Tryd.checked) false (laidWorld os) #[.slice none 0 0, .int .i64 0] rfl (by kernel_rfl) (by kernel_rfl) (by kernel_rfl)
      (OpenSpec.preRow_of_cond 8 hx (by kernel_rfl) (fun k hk => by cases hk) (by kernel_rfl) (laid_met os))) ?_
  intro W base args ds gs before hval hW _ _ _ hL _ _
  exact contract H enc W base args ds gs before hval hW

theorem said : Rows.CascadeMadeSaid :=
  OpenClaim.holds_of_cond 7 Tryd.f7 rfl rfl rfl rfl rfl rfl rfl ⟨rfl, rfl, rfl, rfl, rfl⟩ rfl rfl rfl rfl rfl (by kernel_rfl) Tryd.func7 (by kernel_rfl)
    (of_decide_eq_true (by kernel_rfl)) (by unfold Func.isWrapper; first | (rw [if_pos (by decide +kernel)]; kernel_rfl) | (rw [if_neg (by decide +kernel)]; exact ⟨rfl, rfl⟩))
    (fun os started H enc _ F => by rw [OpenClaim.pre_eq_preRow]; exact lifted os started H enc F)

theorem plain (f : FuncId) (fn : Func) (hf : Tryd.pinned.checked.prog.funcNamed "semigroup/semigrouplaw26.CascadeMade" = some f) (hfn : Tryd.pinned.checked.prog.funcs[f]? = some fn) :
    false = Tryd.pinned.checked.prog.looks [] ∧ ∀ (j : Nat) t, fn.params[j]? = some t → Tryd.pinned.checked.prog.wantsStandIn t = false := by
  obtain rfl : f = 7 := Option.some.inj ((show Tryd.prog.funcNamed "semigroup/semigrouplaw26.CascadeMade" = some 7 by kernel_rfl).symm.trans hf) |>.symm
  obtain rfl : fn = Tryd.f7 := (Option.some.inj (Tryd.func7.symm.trans hfn)).symm
  refine ⟨by kernel_rfl, fun j t ht => ?_⟩
  rw [Tryd.params7] at ht
  have ht2 : t = 22 ∨ t = 3 := by simpa using Array.mem_of_getElem? ht
  rcases ht2 with h | h
  · exact (congrArg (fun t => Tryd.pinned.checked.prog.wantsStandIn t) h).trans (show Tryd.pinned.checked.prog.wantsStandIn 22 = false by kernel_rfl)
  · exact (congrArg (fun t => Tryd.pinned.checked.prog.wantsStandIn t) h).trans (show Tryd.pinned.checked.prog.wantsStandIn 3 = false by kernel_rfl)

/-- The given statement. -/
theorem proved : Rows.CascadeMadeCardSaid :=
  Claim7.holds_tied_plain_at .later [] _ _ _ _ said (fun _ h => by cases h) (by kernel_rfl) (fun _ h => by cases h) cascadeMade_row_tie rfl ⟨rfl, rfl⟩ (by kernel_rfl) rfl plain (by kernel_rfl)
#print axioms proved
end Go.Proofs.YthalofddjlhcjaaDoor.cascadeMade
end
