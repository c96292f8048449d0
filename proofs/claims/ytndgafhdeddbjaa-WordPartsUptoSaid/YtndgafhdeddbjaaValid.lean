/- The walks of word.Valid and its reference. -/
import Derived.Test.YtndgafhdeddbjaaRows
import Derived.WalkKit
import Derived.WalkSpells
import Derived.WalkLawsBesides
import Derived.Lib.Hide
import Derived.BigQuiet
import Derived.Deep.QuietTactic
namespace Go.Proofs.Ytndgafhdeddbjaa
set_option linter.unusedVariables false
open Go.RowKit

theorem ret_bool {a b : Bool} (h : a = b) : Ending.returned (.bool a) = .returned (.bool b) := by rw [h]

def okLetters (n : Int) : Bool := decide (1 ≤ n) && decide (n ≤ 6)
def letterIn (n : Int) (c : UInt8) : Bool := decide (97 ≤ c.toNat) && decide ((c.toNat : Int) - 97 < n)
def validB (l : List UInt8) (n : Int) : Bool := okLetters n && decide (l.length ≤ 2048) && l.all (letterIn n)

set_option maxHeartbeats 400000 in
theorem may_any (n : Int) (w : World) :
    Calls Try.prog 51 #[.int .i64 n] w fun e w' => e = .returned (.bool (okLetters n)) ∧ w = w' := by
  by_cases h1 : 1 ≤ n <;> by_cases h2 : n ≤ 6
  all_goals
    go_enter Try.func51, Try.ntmps51
    go_wp2
    go_ret
    exact ⟨ret_bool (by simp [okLetters, h1, h2]), rfl⟩


theorem all_take_succ (p : UInt8 → Bool) (s : ByteArray) (k : Nat) (h : k < s.size) :
    (s.data.toList.take (k + 1)).all p = ((s.data.toList.take k).all p && p s[k]) := by
  rw [List.take_succ_eq_append_getElem (by simpa using h), List.all_append]
  simp; rfl

theorem all_false_of_byte (p : UInt8 → Bool) (s : ByteArray) (k : Nat) (h : k < s.size) (hp : p s[k] = false) : s.data.toList.all p = false := by
  rw [List.all_eq_false]
  exact ⟨s[k], by
    have : s[k] = s.data.toList[k]'(by simpa using h) := rfl
    rw [this]; exact List.getElem_mem _, by simp [hp]⟩

set_option maxHeartbeats 400000 in
theorem valid_any (s : ByteArray) (n : Int) (w : World) (hs : s.size ≤ maxLen) :
    Calls Try.prog 22 #[.string s, .int .i64 n] w fun e w' => e = .returned (.bool (validB s.data.toList n)) ∧ w = w' := by
  unfold maxLen at hs
  by_cases h : 1 ≤ n ∧ n ≤ 6 ∧ (s.size : Int) ≤ 2048
  case neg =>
    have hv : Hid (validB s.data.toList n = false) := by
      simp only [validB, okLetters, Hid]
      simp; omega
    go_enter Try.func22, Try.ntmps22
    go_wp2
    all_goals first
      | (go_ret; exact ⟨ret_bool hv.out.symm, rfl⟩)
      | (exfalso; omega)
  case pos =>
    obtain ⟨h1, h2, h3⟩ := h
    go_enter Try.func22, Try.ntmps22
    go_wp2
    go_loop [19, 5] (fun i _ => ∃ k : Nat, k ≤ s.size ∧ i = .int .i64 k ∧ (s.data.toList.take k).all (letterIn n) = true) (fun i _ => s.size - (intOf i).toNat)
    case atStart => exact ⟨0, Nat.zero_le _, rfl, rfl⟩
    case round =>
      obtain ⟨k, hk, rfl, hall⟩ := hrel
      have H := Lib.hid hall
      clear hall
      by_cases hlt : k < s.size
      · have hb := all_false_of_byte (letterIn n) s k hlt
        have hs' := all_take_succ (letterIn n) s k hlt
        have Hb := Lib.hid hb
        have hbyte : s[k].toNat < 256 := UInt8.toNat_lt _
        have Hs := Lib.hid hs'
        clear hb hs'
        go_wp2
        all_goals first
          | (go_round
             case rel =>
               refine ⟨k + 1, by omega, by go_num, ?_⟩
               rw [Hs.out, H.out]
               simp [letterIn]; omega
             case measure => simp [intOf]; omega)
          | (go_ret
             refine ⟨ret_bool ?_, rfl⟩
             simp only [validB]
             rw [Hb.out (by simp [letterIn]; omega)]
             simp)
      · go_wp2
        go_ret
        refine ⟨ret_bool ?_, rfl⟩
        rw [show s.data.toList.take k = s.data.toList from List.take_of_length_le (by simp; omega)] at H
        simp only [validB, okLetters, H.out]
        simp; omega

set_option maxHeartbeats 400000 in
theorem refValid_any (s : ByteArray) (n : Int) (w : World) (hs : s.size ≤ maxLen) :
    Calls Try.prog 23 #[.string s, .int .i64 n] w fun e w' => e = .returned (.bool (validB s.data.toList n)) ∧ w = w' := by
  unfold maxLen at hs
  by_cases h : okLetters n = true ∧ (s.size : Int) ≤ 2048
  case neg =>
    have hv : Hid (validB s.data.toList n = false) := by
      simp only [validB, Hid]
      cases h' : okLetters n <;> simp_all
      omega
    cases h' : okLetters n
    all_goals
      have H' := Lib.hid h'
      clear h'
      go_enter Try.func23, Try.ntmps23
      go_wp2_with (go_at_call 51; refine (may_any _ _).mono ?_; rintro e w' ⟨rfl, rfl⟩; rw [H'.out])
      all_goals first
        | (go_ret; exact ⟨ret_bool hv.out.symm, rfl⟩)
        | (exfalso; have := H'.out; simp_all <;> omega)
  case pos =>
    obtain ⟨h1, h3⟩ := h
    have H1 := Lib.hid h1
    have hn : 1 ≤ n ∧ n ≤ 6 := by simpa [okLetters] using h1
    clear h1
    obtain ⟨hn1, hn2⟩ := hn
    go_enter Try.func23, Try.ntmps23
    go_wp2_with (go_at_call 51; refine (may_any _ _).mono ?_; rintro e w' ⟨rfl, rfl⟩; rw [H1.out])
    go_loop [5] (fun i => ∃ k : Nat, k ≤ s.size ∧ i = .int .i64 k ∧ (s.data.toList.take k).all (letterIn n) = true) (fun i => s.size - (intOf i).toNat)
    case atStart => exact ⟨0, Nat.zero_le _, rfl, rfl⟩
    case round =>
      obtain ⟨k, hk, rfl, hall⟩ := hrel
      have H := Lib.hid hall
      clear hall
      by_cases hlt : k < s.size
      · have hb := all_false_of_byte (letterIn n) s k hlt
        have hs' := all_take_succ (letterIn n) s k hlt
        have Hb := Lib.hid hb
        have hbyte : s[k].toNat < 256 := UInt8.toNat_lt _
        have Hs := Lib.hid hs'
        clear hb hs'
        go_wp2
        all_goals first
          | (go_round
             case rel =>
               refine ⟨k + 1, by omega, by go_num, ?_⟩
               rw [Hs.out, H.out]
               simp [letterIn]; omega
             case measure => simp [intOf]; omega)
          | (go_ret
             refine ⟨ret_bool ?_, rfl⟩
             simp only [validB]
             rw [Hb.out (by simp [letterIn]; omega)]
             simp)
      · go_wp2
        go_ret
        refine ⟨ret_bool ?_, rfl⟩
        rw [show s.data.toList.take k = s.data.toList from List.take_of_length_le (by simp; omega)] at H
        simp only [validB, H1.out, H.out]
        simp; omega
end Go.Proofs.Ytndgafhdeddbjaa
