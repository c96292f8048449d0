/- word.Reverse and slices.Reverse at bytes. -/
import Derived.Test.YtndgafhdeddbjaaRows
import Derived.WalkKit
import Derived.WalkSpells
import Derived.WalkLawsBesides
import Derived.Lib.Hide
import Derived.BigQuiet
import Derived.Deep.QuietTactic
import Derived.Test.YtndgafhdeddbjaaWords
namespace Go.Proofs.Ytndgafhdeddbjaa
set_option linter.unusedVariables false
open Go.RowKit

abbrev byteV (c : UInt8) : Value := .int .u8 (c.toNat : Int)

/-- The n cells at block g are the bytes f and may be written. -/
def Bytes (w : World) (g n : Nat) (f : Nat → UInt8) : Prop :=
  ∀ i, i < n → w.cell? ⟨g, i, none⟩ = some (byteV (f i)) ∧ w.frozen? ⟨g, i, none⟩ = false

/-- Only block g has changed, and its shape and marks have not. -/
structure OnlyBlock (g : Nat) (w w' : World) : Prop where
  other : ∀ k, k ≠ g → w'.heap[k]? = w.heap[k]?
  size : w'.heap.size = w.heap.size
  os : w'.os = w.os
  tape : w'.tape = w.tape
  output : w'.output = w.output

theorem OnlyBlock.refl (g : Nat) (w : World) : OnlyBlock g w w := ⟨fun _ _ => rfl, rfl, rfl, rfl, rfl⟩
theorem OnlyBlock.drew {g : Nat} {w w' : World} (h : OnlyBlock g w w') : OnlyBlock g w w'.drew := ⟨h.other, h.size, h.os, h.tape, h.output⟩
theorem OnlyBlock.setCell {g : Nat} {w w' : World} (h : OnlyBlock g w w') (i : Nat) (v : Value) : OnlyBlock g w (w'.setCell ⟨g, i, none⟩ v) :=
  ⟨fun k hk => (Below.heap_setCell w' _ v k hk).trans (h.other k hk), by simp [h.size], h.os, h.tape, h.output⟩
theorem OnlyBlock.below {g : Nat} {w w' : World} (h : OnlyBlock g w w') {B : Nat} (hB : B ≤ g) : Below B w w' :=
  ⟨h.os, h.tape, h.output, by rw [h.size]; exact Nat.le_refl _, fun k hk => h.other k (by omega)⟩

theorem Bytes.set {w : World} {g n : Nat} {f : Nat → UInt8} (h : Bytes w g n f) (j : Nat) (hj : j < n) (c : UInt8) :
    Bytes (w.setCell ⟨g, j, none⟩ (byteV c)) g n (fun i => if i = j then c else f i) := by
  intro i hi
  refine ⟨?_, by rw [World.frozen?_setCell]; exact (h i hi).2⟩
  by_cases hij : i = j
  · subst hij
    rw [World.cell?_setCell_same _ _ _ (h i hi).1]; simp
  · rw [World.cell?_setCell_other _ _ _ _ (fun e => hij (by cases e; rfl)), (h i hi).1]; simp [hij]

theorem Bytes.drew {w : World} {g n : Nat} {f : Nat → UInt8} (h : Bytes w g n f) : Bytes w.drew g n f := h
theorem Bytes.congr {w : World} {g n : Nat} {f f' : Nat → UInt8} (h : Bytes w g n f) (e : ∀ i, i < n → f i = f' i) : Bytes w g n f' :=
  fun i hi => by rw [← e i hi]; exact h i hi

def turned (n k : Nat) (f : Nat → UInt8) : Nat → UInt8 := fun i => if i < k ∨ n ≤ i + k then f (n - 1 - i) else f i

set_option maxHeartbeats 400000 in
theorem srev_any (g n cap : Nat) (f : Nat → UInt8) (w : World) (h : Bytes w g n f) (hn : n ≤ maxLen) :
    Calls Try.prog 54 #[.slice (some ⟨g, 0, none⟩) n cap] w fun e w' => e = .returned (.tuple #[]) ∧ Bytes w' g n (fun i => f (n - 1 - i)) ∧ OnlyBlock g w w' := by
  unfold maxLen at hn
  have H := Lib.hid h
  clear h
  go_enter Try.func54, Try.ntmps54
  go_wp2
  go_loopw [2, 3] (fun i j wr => ∃ k : Nat, 2 * k ≤ n + 1 ∧ i = .int .i64 k ∧ j = .int .i64 ((n : Int) - 1 - k) ∧ Bytes wr g n (turned n k f) ∧ OnlyBlock g w wr) (fun i _ _ => n - (intOf i).toNat)
  case atStart => exact ⟨0, by omega, rfl, by simp, H.out.congr (fun i hi => by simp [turned]; omega), OnlyBlock.refl _ _⟩
  case round =>
    obtain ⟨k, hk, rfl, rfl, hb, ho⟩ := hrel
    by_cases hlt : (k : Int) < (n : Int) - 1 - k
    · have c1 := (hb k (by omega)).1
      have c2 := (hb (n - 1 - k) (by omega)).1
      have z1 := (hb k (by omega)).2
      have z2 := (hb (n - 1 - k) (by omega)).2
      have t1 : turned n k f k = f k := by simp [turned]; omega
      have t2 : turned n k f (n - 1 - k) = f (n - 1 - k) := by simp [turned]; omega
      rw [t1] at c1
      rw [t2] at c2
      clear t1 t2
      have HB := Lib.hid hb
      have HO := Lib.hid ho
      clear hb ho
      go_wp2
      go_region
      all_goals
        go_wp2
        go_roundw
        case rel =>
          refine ⟨k + 1, by omega, by go_num, by congr 1; omega, Bytes.drew ?_, OnlyBlock.drew ((HO.out.setCell _ _).setCell _ _)⟩
          refine ((HB.out.set k (by omega) _).set (n - 1 - k) (by omega) _).congr fun i hi => ?_
          simp only [turned]
          split
          · subst_vars; rw [if_pos (by omega)]; congr 1; omega
          · split
            · subst_vars; rw [if_pos (by omega)]
            · congr 1; simp; omega
        case measure => simp [intOf]; omega
    · go_wp2
      have e : n - 1 ≤ 2 * k := by omega
      refine bodyPost_end (results_none rfl _ _ _) rfl ?_
      exact ⟨rfl, hb.congr (fun i hi => by
        simp only [turned]
        split
        · rfl
        · congr 1; omega), ho⟩

/-- The string with these bytes. -/
abbrev strV (l : List UInt8) : Value := .string ⟨l.toArray⟩

theorem strV_toList (s : ByteArray) : strV s.data.toList = .string s := rfl

/-- What '[]byte(s)' has laid holds the bytes of s. -/
theorem Bytes.made (w : World) (s : ByteArray) (cap : Nat) (t : TypeId) :
    Bytes (w.alloc (.cells (bytesRow s cap) t ((bytesRow s cap).size, (bytesRow s cap).size + 1))).drew w.heap.size s.size (fun i => s.data.toList.getD i 0) := by
  intro i hi
  have hi' : i < s.data.size := hi
  refine ⟨?_, ?_⟩
  · rw [World.cell?_drew, World.cell?_alloc_mark, bytesRow_at s cap i hi']
    simp [List.getD, Array.getElem?_eq_getElem hi']
  · rw [World.frozen?_drew, World.frozen?_alloc_mark]
    have : i < (bytesRow s cap).size := by simp only [bytesRow, Array.size_append, Array.size_map]; omega
    simp; omega

/-- A row of bytes, made a string. -/
theorem Bytes.str {w : World} {g n : Nat} {f : Nat → UInt8} (h : Bytes w g n f) (l : List UInt8) (hl : l.length = n) (hf : ∀ i (hi : i < l.length), l[i] = f i) (cap : Nat) :
    (convert 32 9 (.slice (some ⟨g, 0, none⟩) n cap)).run Try.prog w = .ok (strV l) w := by
  subst hl
  refine run_convert_bytes_back w 32 9 5 ⟨g, 0, none⟩ cap l Try.underlying32 Try.underlying5 Try.underlying9 fun j hj => ?_
  have : (⟨g, 0, none⟩ : Addr).add j = ⟨g, j, none⟩ := by rw [Addr.add_lit]; simp
  rw [this, (h j hj).1, hf j hj]

set_option maxHeartbeats 400000 in
theorem reverse_any (s : ByteArray) (w : World) (hs : s.size ≤ maxLen) :
    Calls Try.prog 38 #[.string s] w fun e w' => e = .returned (strV s.data.toList.reverse) ∧ Below w.heap.size w w' := by
  have kc := fun w => run_bytes_of_string (P := Try.prog) w 9 32 5 s Try.underlying9 Try.underlying32 Try.underlying5
  go_enter Try.func38, Try.ntmps38
  go_wp2_with fail
  refine (srev_any _ _ _ _ _ (Bytes.made w s _ 5) hs).mono ?_
  rintro e w1 ⟨rfl, hB, hO⟩
  have kb := hB.str s.data.toList.reverse (by simp) (fun i hi => by
    simp only [List.length_reverse] at hi
    rw [List.getElem_reverse, getD_get _ _ _ (by show s.size - 1 - i < s.size; have : i < s.size := hi; omega)]; rfl) (grownCap w s.size 0 5)
  have Hw : Hid (Below w.heap.size w w1) := Below.trans (((Below.refl _ _).alloc (Nat.le_refl _) _).drew) (hO.below (Nat.le_refl _))
  clear hB hO
  go_wp2
  go_ret
  exact ⟨rfl, Hw.out⟩
end Go.Proofs.Ytndgafhdeddbjaa
