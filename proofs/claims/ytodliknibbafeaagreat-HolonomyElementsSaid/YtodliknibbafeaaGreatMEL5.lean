/- Proved here: the law HolonomyElements returns true for every input, and its arguments read afterwards as before. No condition. -/
import Derived.Test.YtodliknibbafeaaGreatMEL4
import Derived.KernelRfl
import Derived.ChangeOld
import Derived.ChangeReads
import Derived.Below
import Derived.ChangeSlices
import Derived.Deep.Grids
import Derived.WideShapes
import Derived.WalkKit
import Derived.ProofKit
import Derived.Test.YtodliknibbafeaaGreatRows
import Derived.Test.YtodliknibbafeaaGreatChecked
import Derived.OpenShut
import Derived.ShutString
import Derived.Deep.DeepHandedRow
set_option linter.unusedVariables false
set_option linter.unusedSimpArgs false
namespace Go.Proofs.YtodliknibbafeaaGreat
section
open Go
set_option maxRecDepth 100000
def exT : T := .agg [.sc (.int .i64 2), .sc (.int .i64 0), .sl 3 [.sc (.bool true), .sc (.bool false), .sc (.bool false)], .sl 3 [.sl 2 [.sc (.int .i64 1), .sc (.int .i64 0)], .sl 2 [.sc (.int .i64 2), .sc (.int .i64 0)], .sl 2 [.sc (.int .i64 0), .sc (.int .i64 2)]]]
def zej : List T := [.sc (.int .i64 7), .sc (.int .i64 3), .sc (.int .i64 5), .sc (.int .i64 6), .sc (.int .i64 1), .sc (.int .i64 2), .sc (.int .i64 4)]
def dgT : T := .agg [.sl 7 [.sc (.int .i64 7), .sc (.int .i64 3), .sc (.int .i64 5), .sc (.int .i64 6), .sc (.int .i64 1), .sc (.int .i64 2), .sc (.int .i64 4)], .sl 7 [.sl 2 [.sc (.int .i64 0), .sc (.int .i64 2)], .sl 2 [.sc (.int .i64 3), .sc (.int .i64 4)], .sl 2 [.sc (.int .i64 1), .sc (.int .i64 2)], .sl 2 [.sc (.int .i64 2), .sc (.int .i64 2)], .sl 2 [.sc (.int .i64 5), .sc (.int .i64 4)], .sl 2 [.sc (.int .i64 6), .sc (.int .i64 4)], .sl 2 [.sc (.int .i64 4), .sc (.int .i64 6)]], .sl 7 [.sl 7 [.sc (.bool true), .sc (.bool false), .sc (.bool false), .sc (.bool false), .sc (.bool false), .sc (.bool false), .sc (.bool false)], .sl 7 [.sc (.bool true), .sc (.bool true), .sc (.bool true), .sc (.bool true), .sc (.bool false), .sc (.bool false), .sc (.bool false)], .sl 7 [.sc (.bool true), .sc (.bool true), .sc (.bool true), .sc (.bool true), .sc (.bool false), .sc (.bool false), .sc (.bool false)], .sl 7 [.sc (.bool true), .sc (.bool true), .sc (.bool true), .sc (.bool true), .sc (.bool false), .sc (.bool false), .sc (.bool false)], .sl 7 [.sc (.bool true), .sc (.bool true), .sc (.bool true), .sc (.bool true), .sc (.bool true), .sc (.bool true), .sc (.bool true)], .sl 7 [.sc (.bool true), .sc (.bool true), .sc (.bool true), .sc (.bool true), .sc (.bool true), .sc (.bool true), .sc (.bool true)], .sl 7 [.sc (.bool true), .sc (.bool true), .sc (.bool true), .sc (.bool true), .sc (.bool true), .sc (.bool true), .sc (.bool true)]]]
theorem e36 : z1f Tryz.prog xt z0X 10 51 [exT] = some (.os 1 7 zej, [.dead]) := by kernel_rfl
theorem e37 : z1f Tryz.prog xt z0X 10 52 [exT, .sl 7 zej] = some (.agg [.sl 7 [.sc (.int .i64 7), .sc (.int .i64 3), .sc (.int .i64 5), .sc (.int .i64 6), .sc (.int .i64 1), .sc (.int .i64 2), .sc (.int .i64 4)], .os 1 7 [.os 1 2 [.sc (.int .i64 0), .sc (.int .i64 2)], .os 1 2 [.sc (.int .i64 3), .sc (.int .i64 4)], .os 1 2 [.sc (.int .i64 1), .sc (.int .i64 2)], .os 1 2 [.sc (.int .i64 2), .sc (.int .i64 2)], .os 1 2 [.sc (.int .i64 5), .sc (.int .i64 4)], .os 1 2 [.sc (.int .i64 6), .sc (.int .i64 4)], .os 1 2 [.sc (.int .i64 4), .sc (.int .i64 6)]], .os 1 7 [.os 1 7 [.sc (.bool true), .sc (.bool false), .sc (.bool false), .sc (.bool false), .sc (.bool false), .sc (.bool false), .sc (.bool false)], .os 1 7 [.sc (.bool true), .sc (.bool true), .sc (.bool true), .sc (.bool true), .sc (.bool false), .sc (.bool false), .sc (.bool false)], .os 1 7 [.sc (.bool true), .sc (.bool true), .sc (.bool true), .sc (.bool true), .sc (.bool false), .sc (.bool false), .sc (.bool false)], .os 1 7 [.sc (.bool true), .sc (.bool true), .sc (.bool true), .sc (.bool true), .sc (.bool false), .sc (.bool false), .sc (.bool false)], .os 1 7 [.sc (.bool true), .sc (.bool true), .sc (.bool true), .sc (.bool true), .sc (.bool true), .sc (.bool true), .sc (.bool true)], .os 1 7 [.sc (.bool true), .sc (.bool true), .sc (.bool true), .sc (.bool true), .sc (.bool true), .sc (.bool true), .sc (.bool true)], .os 1 7 [.sc (.bool true), .sc (.bool true), .sc (.bool true), .sc (.bool true), .sc (.bool true), .sc (.bool true), .sc (.bool true)]]], [.dead, .dead]) := by kernel_rfl
def sr0 : T := .tup [.os 1 7 [.sc (.int .i64 0), .sc (.int .i64 2), .sc (.int .i64 1), .sc (.int .i64 3), .sc (.int .i64 4), .sc (.int .i64 5), .sc (.int .i64 6)], .os 1 7 [.sc (.string ByteArray.empty), .sc (.string ⟨#[98, 97]⟩), .sc (.string ⟨#[98]⟩), .sc (.string ⟨#[98, 97, 97]⟩), .sc (.string ⟨#[98, 97, 98]⟩), .sc (.string ⟨#[98, 97, 98, 97]⟩), .sc (.string ⟨#[98, 97, 98, 97, 97]⟩)]]
theorem zlN : z1f Tryz.prog xt z0X 6 56 [dgT, .sc (.int .i64 0)] = some (sr0, [.dead, .dead]) := by kernel_rfl
def sr1 : T := .tup [.os 1 6 [.sc (.int .i64 1), .sc (.int .i64 3), .sc (.int .i64 4), .sc (.int .i64 2), .sc (.int .i64 5), .sc (.int .i64 6)], .os 1 7 [.sc (.string ByteArray.empty), .sc (.string ByteArray.empty), .sc (.string ⟨#[97, 97]⟩), .sc (.string ⟨#[97]⟩), .sc (.string ⟨#[98]⟩), .sc (.string ⟨#[98, 97]⟩), .sc (.string ⟨#[98, 97, 97]⟩)]]
theorem zlM : z1f Tryz.prog xt z0X 6 56 [dgT, .sc (.int .i64 1)] = some (sr1, [.dead, .dead]) := by kernel_rfl
def sr2 : T := .tup [.os 1 6 [.sc (.int .i64 2), .sc (.int .i64 1), .sc (.int .i64 3), .sc (.int .i64 4), .sc (.int .i64 5), .sc (.int .i64 6)], .os 1 7 [.sc (.string ByteArray.empty), .sc (.string ⟨#[97]⟩), .sc (.string ByteArray.empty), .sc (.string ⟨#[97, 97]⟩), .sc (.string ⟨#[97, 98]⟩), .sc (.string ⟨#[97, 98, 97]⟩), .sc (.string ⟨#[97, 98, 97, 97]⟩)]]
theorem zlL : z1f Tryz.prog xt z0X 6 56 [dgT, .sc (.int .i64 2)] = some (sr2, [.dead, .dead]) := by kernel_rfl
def sr3 : T := .tup [.os 1 6 [.sc (.int .i64 3), .sc (.int .i64 2), .sc (.int .i64 1), .sc (.int .i64 4), .sc (.int .i64 5), .sc (.int .i64 6)], .os 1 7 [.sc (.string ByteArray.empty), .sc (.string ⟨#[97, 97]⟩), .sc (.string ⟨#[97]⟩), .sc (.string ByteArray.empty), .sc (.string ⟨#[97, 97, 98]⟩), .sc (.string ⟨#[97, 97, 98, 97]⟩), .sc (.string ⟨#[97, 97, 98, 97, 97]⟩)]]
theorem zlK : z1f Tryz.prog xt z0X 6 56 [dgT, .sc (.int .i64 3)] = some (sr3, [.dead, .dead]) := by kernel_rfl
def sr4 : T := .tup [.os 1 3 [.sc (.int .i64 4), .sc (.int .i64 5), .sc (.int .i64 6)], .os 1 7 [.sc (.string ByteArray.empty), .sc (.string ByteArray.empty), .sc (.string ByteArray.empty), .sc (.string ByteArray.empty), .sc (.string ByteArray.empty), .sc (.string ⟨#[97]⟩), .sc (.string ⟨#[97, 97]⟩)]]
theorem zlJ : z1f Tryz.prog xt z0X 6 56 [dgT, .sc (.int .i64 4)] = some (sr4, [.dead, .dead]) := by kernel_rfl
def sr5 : T := .tup [.os 1 3 [.sc (.int .i64 5), .sc (.int .i64 6), .sc (.int .i64 4)], .os 1 7 [.sc (.string ByteArray.empty), .sc (.string ByteArray.empty), .sc (.string ByteArray.empty), .sc (.string ByteArray.empty), .sc (.string ⟨#[98]⟩), .sc (.string ByteArray.empty), .sc (.string ⟨#[97]⟩)]]
theorem zlI : z1f Tryz.prog xt z0X 6 56 [dgT, .sc (.int .i64 5)] = some (sr5, [.dead, .dead]) := by kernel_rfl
def sr6 : T := .tup [.os 1 3 [.sc (.int .i64 6), .sc (.int .i64 4), .sc (.int .i64 5)], .os 1 7 [.sc (.string ByteArray.empty), .sc (.string ByteArray.empty), .sc (.string ByteArray.empty), .sc (.string ByteArray.empty), .sc (.string ⟨#[97]⟩), .sc (.string ⟨#[97, 97]⟩), .sc (.string ByteArray.empty)]]
theorem zlH : z1f Tryz.prog xt z0X 6 56 [dgT, .sc (.int .i64 6)] = some (sr6, [.dead, .dead]) := by kernel_rfl
def ziA : List (FuncId × List T × T × List T) := [(51, [exT], .os 1 7 zej, [.dead]), (52, [exT, .sl 7 zej], .agg [.sl 7 [.sc (.int .i64 7), .sc (.int .i64 3), .sc (.int .i64 5), .sc (.int .i64 6), .sc (.int .i64 1), .sc (.int .i64 2), .sc (.int .i64 4)], .os 1 7 [.os 1 2 [.sc (.int .i64 0), .sc (.int .i64 2)], .os 1 2 [.sc (.int .i64 3), .sc (.int .i64 4)], .os 1 2 [.sc (.int .i64 1), .sc (.int .i64 2)], .os 1 2 [.sc (.int .i64 2), .sc (.int .i64 2)], .os 1 2 [.sc (.int .i64 5), .sc (.int .i64 4)], .os 1 2 [.sc (.int .i64 6), .sc (.int .i64 4)], .os 1 2 [.sc (.int .i64 4), .sc (.int .i64 6)]], .os 1 7 [.os 1 7 [.sc (.bool true), .sc (.bool false), .sc (.bool false), .sc (.bool false), .sc (.bool false), .sc (.bool false), .sc (.bool false)], .os 1 7 [.sc (.bool true), .sc (.bool true), .sc (.bool true), .sc (.bool true), .sc (.bool false), .sc (.bool false), .sc (.bool false)], .os 1 7 [.sc (.bool true), .sc (.bool true), .sc (.bool true), .sc (.bool true), .sc (.bool false), .sc (.bool false), .sc (.bool false)], .os 1 7 [.sc (.bool true), .sc (.bool true), .sc (.bool true), .sc (.bool true), .sc (.bool false), .sc (.bool false), .sc (.bool false)], .os 1 7 [.sc (.bool true), .sc (.bool true), .sc (.bool true), .sc (.bool true), .sc (.bool true), .sc (.bool true), .sc (.bool true)], .os 1 7 [.sc (.bool true), .sc (.bool true), .sc (.bool true), .sc (.bool true), .sc (.bool true), .sc (.bool true), .sc (.bool true)], .os 1 7 [.sc (.bool true), .sc (.bool true), .sc (.bool true), .sc (.bool true), .sc (.bool true), .sc (.bool true), .sc (.bool true)]]], [.dead, .dead]), (56, [dgT, .sc (.int .i64 0)], sr0, [.dead, .dead]), (56, [dgT, .sc (.int .i64 1)], sr1, [.dead, .dead]), (56, [dgT, .sc (.int .i64 2)], sr2, [.dead, .dead]), (56, [dgT, .sc (.int .i64 3)], sr3, [.dead, .dead]), (56, [dgT, .sc (.int .i64 4)], sr4, [.dead, .dead]), (56, [dgT, .sc (.int .i64 5)], sr5, [.dead, .dead]), (56, [dgT, .sc (.int .i64 6)], sr6, [.dead, .dead])]
theorem ziz : ∀ x ∈ ziA, L x.1 x.2.1 = some x.2.2 := by
  simp only [ziA, List.forall_mem_cons]
  exact ⟨z6v 10 e36, z6v 10 e37, z6v 6 zlN, z6v 6 zlM, z6v 6 zlL, z6v 6 zlK, z6v 6 zlJ, z6v 6 zlI, z6v 6 zlH, fun x h => by cases h⟩
theorem cKl : zcd Tryz.prog xt z0X (tab ziA) 14 12 [] = some (.sc (.bool true), []) := by kernel_rfl
theorem cK : L 12 [] = some (.sc (.bool true), []) := zjy ziA 14 cKl ziz
def ziP : Option Bool := some true
instance : Ok ziP (fun r => L 12 [] = some (.sc (.bool r), [])) := ⟨fun r h => by cases h; exact cK⟩
end
section
open Go
noncomputable section
set_option maxRecDepth 100000
set_option maxHeartbeats 6000000
attribute [local simp] znr zlo
abbrev z1P (a0 : List (List Int)) (a1 : List (List Int)) : Int -> Option (Int ⊕ Bool)
  | w14 =>
  if w14 < (a0.length : Int) then
    (atI a0 w14).bind fun v18 =>
    (atI a1 w14).bind fun v19 =>
    (z2Y v18 v19).bind fun v20 =>
    if v20 = true then
      z0y (IntKind.i64.wrap (w14 + 1))
    else
      z0k <|
      some false
  else
    z0k <|
    some true
instance {a0 : List (List Int)} {a1 : List (List Int)} : Hd (z1P a0 a1) := ⟨fun w14 => ([(13, xI w14)], [])⟩
def z2a (a0 : List (List Int)) (a1 : List (List Int)) : Option (Bool) :=
  if (a0.length : Int) = (a1.length : Int) then
    z0z (z1P a0 a1) LFm 0
  else
    some false
instance ref03_SameRows_ok {a0 : List (List Int)} {a1 : List (List Int)} : Ok (z2a a0 a1) (fun r => L 11 [.sl a0.length (a0.map fun x0 => .sl x0.length (x0.map fun x1 => .sc (.int .i64 x1))), .sl a1.length (a1.map fun x0 => .sl x0.length (x0.map fun x1 => .sc (.int .i64 x1)))] = some (.sc (.bool r), [.dead, .dead])) := ⟨fun r h => by have h := z5x h; unfold z2a at h; exact z7A zne zox zpD⟩
abbrev z0q (v38 : DFA × Tape) (w49 : Int) (w50 : List (List Int)) : Int × List Int -> Option ((Int × List Int) ⊕ ((Int × List (List Int)) ⊕ Bool))
  | (w61, w62) =>
  if w61 < (v38.1.next.length : Int) then
    (atI v38.1.next w61).bind fun v65 =>
    (atI v65 w49).bind fun v66 =>
    chk (z1c 8 (w62.length + 1)) <|
    z0y (IntKind.i64.wrap (w61 + 1), w62 ++ [v66])
  else
    z0k <|
    chk (z1c 24 (w50.length + 1)) <|
    z0y (IntKind.i64.wrap (w49 + 1), w50 ++ [w62])
instance {v38 : DFA × Tape} {w49 : Int} {w50 : List (List Int)} : Hd (z0q v38 w49 w50) := ⟨fun (w61, w62) => ([(44, xI w61)], [(8, .os 1 w62.length (w62.map fun x0 => .sc (.int .i64 x0)))])⟩
abbrev z0H (v38 : DFA × Tape) (w40 : List Int) : Int × List (List Int) -> Option ((Int × List (List Int)) ⊕ Bool)
  | (w49, w50) =>
  if w49 < v38.1.letters then
    z0z (z0q v38 w49 w50) LFm (0, [])
  else
    z0k <|
    (z0Y (⟨1, w40, [], w50⟩ : Hol)).bind fun v67 =>
    (z1w (⟨1, w40, [], w50⟩ : Hol)).bind fun v68 =>
    if v67.2 = v68.2 then
      (z2a v67.1 v68.1).bind fun v69 =>
      if v69 = true then
        (ziP).bind fun v70 =>
        some v70
      else
        some false
    else
      some false
instance {v38 : DFA × Tape} {w40 : List Int} : Hd (z0H v38 w40) := ⟨fun (w49, w50) => ([(7, xI w49)], [(5, .vr [.sc (.int .i64 1), .os 1 w40.length (w40.map fun x0 => .sc (.int .i64 x0)), .os 1 0 [], .os 1 w50.length (w50.map fun x0 => .os 1 x0.length (x0.map fun x1 => .sc (.int .i64 x1)))])])⟩
abbrev z0P (v38 : DFA × Tape) : Int × List Int -> Option ((Int × List Int) ⊕ Bool)
  | (w39, w40) =>
  if w39 < (v38.1.final.length : Int) then
    chk (z1c 8 (w40.length + 1)) <|
    z0y (IntKind.i64.wrap (w39 + 1), w40 ++ [w39])
  else
    z0k <|
    z0z (z0H v38 w40) LFm (0, [])
instance {v38 : DFA × Tape} : Hd (z0P v38) := ⟨fun (w39, w40) => ([(25, xI w39)], [(5, .vr [.sc (.int .i64 1), .os 1 w40.length (w40.map fun x0 => .sc (.int .i64 x0)), .os 1 0 [], .os 1 0 []])])⟩
def z1d (a0 : List Int) : Option (Bool) :=
  (z6t a0).bind fun v36 =>
  (z0O v36 3).bind fun v37 =>
  (z0t v37.2 (IntKind.i64.wrap (1 + v37.1)) 5).bind fun v38 =>
  z0z (z0P v38) LFm (0, [])
theorem z3E {a0 : List Int} {r : Bool} (h : z1d a0 = some r) : L 3 [.sl a0.length (a0.map fun x0 => .sc (.int .i64 x0))] = some (.sc (.bool r), [.dead]) := by
  have h := z5x h; unfold z1d at h; exact z7A zoK fn3 bd3
end
end
section
open Go
noncomputable section
set_option maxRecDepth 100000
set_option maxHeartbeats 6000000
end
end
section
open Go
set_option maxRecDepth 100000
end
section
open Go
set_option maxRecDepth 100000
end
section
open Go
set_option maxRecDepth 100000
def hL (N : Nat) (h : Nat -> Nat) : List Int := (List.range N).map fun i => ((h i : Nat) : Int)
structure RndH (N : Nat) (b : Nat -> Nat -> Bool) (z : Nat -> Bool) (h0 : Nat -> Nat) (ch : Bool) (h : Nat -> Nat) : Prop where
  lo : ∀ i, i < N -> h0 i <= h i
  hi : ∀ i, i < N -> h i <= znw N b z i
  no : ch = false -> ∀ i, i < N -> h i = h0 i
  yes : ch = true -> ∃ i, i < N /\ h0 i < h i
section
variable {d : DFA} {m n : Nat} {S : List Nat} (hd : DfaOk d m n) (hn : n <= 7) (hS : SetsP d m n S) (hpos : ∀ x ∈ S, x ≠ 0)
include hd hn hS hpos
end
end
section
open Go
set_option maxRecDepth 100000
section
variable {d : DFA} {m n : Nat} {S : List Nat} (hd : DfaOk d m n) (hn : n <= 7) (hS : SetsP d m n S) (hpos : ∀ x ∈ S, x ≠ 0)
include hd hn hS hpos
end
end
section
open Go
set_option maxRecDepth 100000
def hC (d : DFA) (m n : Nat) (S : List Nat) (c : Nat) : Nat := zlC d m n S (zl9 d m n S c)
def zpH (d : DFA) (m n : Nat) (S : List Nat) : Prop := ∀ i, i < S.length -> zlC d m n S i = zlC d m n S (zlD d m n S i)
section
variable {d : DFA} {m n : Nat} {S : List Nat} (hd : DfaOk d m n) (hn : n <= 7) (hS : SetsP d m n S) (hH : zpH d m n S)
include hd hn hS hH
end
end
section
open Go
set_option maxRecDepth 100000
section
variable {d : DFA} {m n : Nat} {S : List Nat} (hd : DfaOk d m n) (hn : n <= 7) (hS : SetsP d m n S)
include hd hn hS
end
end
section
open Go
set_option maxRecDepth 100000
section
variable {d : DFA} {m n : Nat} {S : List Nat} (hd : DfaOk d m n) (hn : n <= 7) (hS : SetsP d m n S)
include hd hn hS
end
end
section
open Go
set_option maxRecDepth 100000
section
variable {d : DFA} {m n : Nat} {S : List Nat} (hd : DfaOk d m n) (hn : n <= 7) (hS : SetsP d m n S)
include hd hn hS
end
end
section
open Go
set_option maxRecDepth 100000
end
section
open Go
noncomputable section
set_option maxRecDepth 100000
set_option maxHeartbeats 6000000
end
end
section
open Go
noncomputable section
set_option maxRecDepth 100000
set_option maxHeartbeats 6000000
end
end
section
open Go
set_option maxRecDepth 100000
section
variable {d : DFA} {m n : Nat} {S : List Nat} (hd : DfaOk d m n) (hn : n <= 7) (hS : SetsP d m n S)
include hd hn hS
end
end
section
open Go
set_option maxRecDepth 100000
def zno (n : Nat) (s : Int) : Bool := decide (0 <= s /\ s < ((2 ^ n : Nat) : Int))
section
variable {d : DFA} {m n : Nat} (hd : DfaOk d m n) (hn : n <= 12) {h : Hol} (hs : zno n h.set = true) (hT : h.tiles.all (zno n) = true) (hl : h.tiles.length <= 32)
include hd hn hs hT hl
end
end
section
open Go
set_option maxRecDepth 100000
section
variable {d : DFA} {m n : Nat} (hd : DfaOk d m n) (hn : n <= 12) {h : Hol} (hw : h.words.length < 2 ^ 61) (hp : h.perms.length < 2 ^ 61)
include hd hn hw hp
end
end
section
open Go
set_option maxRecDepth 100000
end
section
open Go
set_option maxRecDepth 100000
def zoz : List (List Int) := [[1, 2], [3, 4], [5, 6], [3, 4], [5, 6], [3, 4], [5, 6]]
end
section
open Go
set_option maxRecDepth 100000
structure HolOk (m n : Nat) (h : Hol) : Prop where
  t1 : 1 <= h.tiles.length
  t2 : h.tiles.length <= 32
  wp : h.words.length = h.perms.length
  wl : h.words.length <= 1000
  wb : ∀ w ∈ h.words, w.size <= 257
  pl : ∀ p ∈ h.perms, p.length = h.tiles.length
section
variable {d : DFA} {m n : Nat} {S : List Nat} (hd : DfaOk d m n) (hn : n <= 7) (hS : SetsP d m n S)
include hd hn hS
end
end
section
open Go
set_option maxRecDepth 100000
def zfJ (n : Nat) : List Nat -> Nat
  | [] => 0
  | x :: l => x + n * zfJ n l
theorem zhs {n : Nat} : ∀ {l : List Nat}, (∀ x ∈ l, x < n) -> zfJ n l < n ^ l.length
  | [], _ => by simp [zfJ]
  | x :: l, h => by
    have h1 := h x (List.mem_cons_self ..)
    have h2 := zhs (l := l) (fun y hy => h y (List.mem_cons_of_mem _ hy))
    rw [zfJ, List.length_cons, Nat.pow_succ]
    have : n * zfJ n l + n <= n ^ l.length * n := by
      have := Nat.mul_le_mul_left n h2
      rw [Nat.mul_succ] at this
      rwa [Nat.mul_comm (n ^ l.length)]
    omega
theorem zel {n : Nat} : ∀ {l r : List Nat}, (∀ x ∈ l, x < n) -> (∀ x ∈ r, x < n) -> l.length = r.length -> zfJ n l = zfJ n r -> l = r
  | [], [], _, _, _, _ => rfl
  | [], _ :: _, _, _, h, _ => by simp at h
  | _ :: _, [], _, _, h, _ => by simp at h
  | x :: l, y :: r, hl, hr, hlen, h => by
    have h1 := hl x (List.mem_cons_self ..)
    have h2 := hr y (List.mem_cons_self ..)
    rw [zfJ, zfJ] at h
    have e1 : x = y := by
      have := congrArg (· % n) h
      simpa [Nat.add_mul_mod_self_left, Nat.mod_eq_of_lt h1, Nat.mod_eq_of_lt h2] using this
    subst e1
    have e2 : zfJ n l = zfJ n r := Nat.eq_of_mul_eq_mul_left (show 0 < n by omega) (by omega)
    rw [zel (fun z hz => hl z (List.mem_cons_of_mem _ hz)) (fun z hz => hr z (List.mem_cons_of_mem _ hz)) (by simpa using hlen) e2]
section
variable {d : DFA} {m n : Nat} {S : List Nat} (hd : DfaOk d m n) (hn : n <= 7) (hS : SetsP d m n S)
include hd hn hS
end
section
variable {d : DFA} (hd : DfaOk d 2 7) (hT : d.next = zoz)
include hd hT
end
end
section
open Go
set_option maxRecDepth 100000
theorem zgO {L : Nat} {p q : List Nat} (hp : PermL (L + 1) p) (hq : PermL (L + 1) q) (h : p.take L = q.take L) : p = q := by
  have hpl := hp.len
  have hql := hq.len
  have e1 : p = p.take L ++ [p.getD L 0] := by
    refine List.ext_getElem (by simp; omega) fun i i1 i2 => ?_
    by_cases hi : i < L
    · rw [List.getElem_append_left (by rw [List.length_take]; omega), List.getElem_take]
    · have : i = L := by omega
      subst this
      rw [List.getElem_append_right (by rw [List.length_take]; omega)]
      simp [List.getD, i1]
  have e2 : q = q.take L ++ [q.getD L 0] := by
    refine List.ext_getElem (by simp; omega) fun i i1 i2 => ?_
    by_cases hi : i < L
    · rw [List.getElem_append_left (by rw [List.length_take]; omega), List.getElem_take]
    · have : i = L := by omega
      subst this
      rw [List.getElem_append_right (by rw [List.length_take]; omega)]
      simp [List.getD, i1]
  have hmp : q.getD L 0 ∈ p := by
    have hy : q.getD L 0 < L + 1 := hq.lt _ (z5k (by omega))
    refine Classical.byContradiction fun hn => ?_
    have := zc8 (l := q.getD L 0 :: p) (N := L + 1) (List.nodup_cons.2 ⟨hn, hp.nd⟩) fun x hx => by
      rcases List.mem_cons.1 hx with rfl | hx
      · exact hy
      · exact hp.lt x hx
    rw [List.length_cons] at this
    omega
  rw [e1, List.mem_append] at hmp
  rcases hmp with hm | hm
  · exfalso
    have hnd := hq.nd
    rw [e2, List.nodup_append] at hnd
    rw [h] at hm
    exact hnd.2.2 _ hm _ (List.mem_singleton.2 rfl) rfl
  · rw [e1, e2, h, List.mem_singleton.1 hm]
theorem znz {L : Nat} (h1 : 1 <= L) (h5 : L <= 5) {l : List (List Nat)} (hl : l.Nodup) (hP : ∀ p ∈ l, PermL L p) : l.length <= 2000 := by
  obtain ⟨M, rfl⟩ : ∃ M, L = M + 1 := ⟨L - 1, by omega⟩
  have hlt : ∀ p ∈ l, ∀ x ∈ p.take M, x < M + 1 := fun p hp x hx => (hP p hp).lt x (List.mem_of_mem_take hx)
  have hlen : ∀ p ∈ l, (p.take M).length = M := fun p hp => by rw [List.length_take, (hP p hp).len]; omega
  have hnd : (l.map fun p => zfJ (M + 1) (p.take M)).Nodup := z8L hl fun x hx y hy e =>
    zgO (hP x hx) (hP y hy) (zel (hlt x hx) (hlt y hy) (by rw [hlen x hx, hlen y hy]) e)
  have h2 := zc8 hnd (N := (M + 1) ^ M) fun x hx => by
    obtain ⟨p, hp, rfl⟩ := List.mem_map.1 hx
    have := zhs (hlt p hp)
    rwa [hlen p hp] at this
  rw [List.length_map] at h2
  have h3 : (M + 1) ^ M <= 5 ^ 4 := Nat.le_trans (Nat.pow_le_pow_left (by omega) M) (Nat.pow_le_pow_right (by omega) (by omega))
  omega
theorem zbR {L : Nat} {P : List (List Int)} (h : P.all (z3q L) = true) : ∃ Q : List (List Nat), P = Q.map toI /\ ∀ g ∈ Q, PermL L g := by
  refine ⟨P.map fun x => x.map Int.toNat, ?_, fun g hg => ?_⟩
  · rw [List.map_map]
    refine ((List.map_congr_left fun x hx => ?_).trans (List.map_id' _)).symm
    obtain ⟨_, p2, _⟩ := z4i.1 (List.all_eq_true.1 h x hx)
    show toI (x.map Int.toNat) = x
    unfold toI
    rw [List.map_map]
    refine (List.map_congr_left fun y hy => ?_).trans (List.map_id' _)
    have := p2 y hy
    show ((y.toNat : Nat) : Int) = y
    omega
  · obtain ⟨x, hx, rfl⟩ := List.mem_map.1 hg
    obtain ⟨p1, p2, p3⟩ := z4i.1 (List.all_eq_true.1 h x hx)
    refine ⟨by rw [List.length_map]; exact p1, ?_, fun y hy => ?_⟩
    · refine z8L p3 fun a ha b hb e => ?_
      have := p2 a ha
      have := p2 b hb
      omega
    · obtain ⟨z, hz, rfl⟩ := List.mem_map.1 hy
      have := p2 z hz
      omega
theorem zao {S : List (List Int)} (hl : S.length <= 100000) (h : ∀ x ∈ S, x.length <= 100000) : z2a S S = some true := by
  unfold z2a
  rw [if_pos rfl]
  refine z1G (s := (0 : Int)) S.length (fun k => (k : Int)) rfl (by simp only [LFm]; omega) (fun k hk => ?_) ?_
  · simp only [z1P]
    rw [if_pos (by omega), z0p hk, Option.bind_some, Option.bind_some, zdP (h _ (List.getElem_mem hk)), decide_eq_true rfl, Option.bind_some, if_pos rfl, z1J (by omega)]
  · simp only [z1P]
    rw [if_neg (by omega)]
theorem zaP {n : Nat} {P : List (List Int)} (h1 : 1 <= n) (h5 : n <= 5) (hne : P ≠ []) (hl : P.length <= 1000) :
    ∃ S e, z0Y ⟨1, toI (List.range n), [], P⟩ = some (S, e) /\ z1w ⟨1, toI (List.range n), [], P⟩ = some (S, e) /\ S.length <= 100000 /\ ∀ x ∈ S, x.length <= 100000 := by
  have et : (toI (List.range n)).length = n := by rw [z0r, List.length_range]
  have e0 : toI (List.range n) = (List.range n).map fun k : Nat => (k : Int) := rfl
  have hpos := List.length_pos_iff.2 hne
  have href : ∀ w : List Int, z0z (z0T ⟨1, toI (List.range n), [], P⟩ w) LFm 0 = if P.all (z3q n) = true then ((z0J ([w] ++ P)).bind fun v24 => if v24.2 = 0 then some (v24.1, 0) else some ([], 3)) else some ([], 4) := fun w => by
    rw [z8Q (b := z0T ⟨1, toI (List.range n), [], P⟩ w) (l := P) [] (z3q n) (A := some ([], 4)) (B := chk (z1c 24 (P.length + 1)) <| (z0J ([w] ++ P)).bind fun v24 => if v24.2 = 0 then some (v24.1, 0) else some ([], 3)) (by omega) ?_ ?_]
    · rw [z0B _ (by unfold z1c; omega)]
    · intro k hk
      have hg : P.getD k [] = P[k] := by rw [List.getD, List.getElem?_eq_getElem hk, Option.getD_some]
      simp only [z0T]
      rw [if_pos (by omega), z0p hk, Option.bind_some, hg, et]
      generalize P[k] = p
      by_cases c1 : (p.length : Int) = (n : Int)
      · have c2 : p.length = n := by omega
        rw [if_pos c1, zcj (by omega) (by omega), c2, Option.bind_some, z1J (by omega)]
      · have : z3q n p = false := by
          cases hb : z3q n p with
          | false => rfl
          | true => exact absurd (by have := (z4i.1 hb).1; omega) c1
        rw [if_neg c1, this, if_neg (by simp)]
    · simp only [z0T]
      rw [if_neg (by omega)]
  have hR : z1w ⟨1, toI (List.range n), [], P⟩ = if P.all (z3q n) = true then ((z0J ([toI (List.range n)] ++ P)).bind fun v24 => if v24.2 = 0 then some (v24.1, 0) else some ([], 3)) else some ([], 4) := by
    unfold z1w
    simp only
    rw [et, if_neg (by omega), if_neg (by omega), z0B _ (by unfold z1v; omega), Int.toNat_natCast]
    refine z1G (s := ((0 : Int), List.replicate n (0 : Int))) n (fun k => ((k : Int), zax n (fun k => (k : Int)) (fun _ => 0) k)) (by rw [zcY]; congr 1; exact (List.ext_getElem (by simp) fun i h1 h2 => by simp)) (by simp only [LFm]; omega) (fun k hk => ?_) ?_
    · simp only [z1N]
      rw [et, if_pos (by omega), z8N hk, Option.bind_some, z1J (by omega), Int.toNat_natCast, z5R (f := fun k => (k : Int)) hk]
    · simp only [z1N]
      rw [et, if_neg (by omega), zf2, ← e0, href]
  have hH : z0Y ⟨1, toI (List.range n), [], P⟩ = if P.all (z3q n) = true then (z1o P).bind fun v => some (v.1, v.2) else some ([], 4) := by
    unfold z0Y
    simp only
    rw [et, if_neg (by omega), if_neg (by omega), zin (by omega) (by omega), Option.bind_some]
    by_cases hp : P.all (z3q n) = true
    · rw [if_pos hp, if_pos hp, z0B _ (by unfold z1v; omega), Int.toNat_natCast]
      refine z1G (s := ((0 : Int), List.replicate n (0 : Int))) n (fun k => ((k : Int), zax n (fun k => (k : Int)) (fun _ => 0) k)) (by rw [zcY]; congr 1; exact (List.ext_getElem (by simp) fun i h1 h2 => by simp)) (by simp only [LFm]; omega) (fun k hk => ?_) ?_
      · simp only [z1r]
        rw [et, if_pos (by omega), z8N hk, Option.bind_some, z1J (by omega), Int.toNat_natCast, z5R (f := fun k => (k : Int)) hk]
      · simp only [z1r]
        rw [et, if_neg (by omega), if_neg (by omega)]
    · rw [if_neg hp, if_neg hp]
  rw [hR, hH]
  by_cases hp : P.all (z3q n) = true
  · rw [if_pos hp, if_pos hp]
    obtain ⟨Q, rfl, hQ⟩ := zbR hp
    rw [List.length_map] at hl hpos
    have hP' : ∀ g ∈ List.range n :: Q, PermL n g := fun g hg => by
      rcases List.mem_cons.1 hg with rfl | hg
      · exact z9P n
      · exact hQ g hg
    have hB : ∀ l : List (List Nat), l.Nodup -> (∀ e ∈ l, RchG n (List.range n :: Q) e) -> l.length <= 2000 := fun l hl he => znz h1 h5 hl fun p hp => z1t hP' (he p hp)
    obtain ⟨S, s1, s2⟩ := zix hP' h1 (by omega) hB (by simp) (by rw [List.length_cons]; omega)
    obtain ⟨S', s3, s4, s5⟩ := zec hP' h1 (by omega) hB (by simp) (by rw [List.length_cons]; omega)
    rw [s1] at s3
    cases s3
    have hg := s2 Q (List.length_pos_iff.1 hpos) (by omega) (fun g hg => List.mem_cons_of_mem _ hg) fun g hg => (List.mem_cons.1 hg).elim .inr .inl
    have e1 : [toI (List.range n)] ++ Q.map toI = (List.range n :: Q).map toI := rfl
    rw [e1, s1, hg]
    have hpm : S.all (z3q n) = true := List.all_eq_true.2 fun z hz => by
      obtain ⟨e, he, rfl⟩ := (s5 z).1 hz
      have hp := z1t hP' he
      refine z4i.2 ⟨by rw [z0r, hp.len], fun y hy => ?_, zbz hp.nd⟩
      obtain ⟨x, hx, rfl⟩ := List.mem_map.1 hy
      have := hp.lt x hx
      omega
    obtain ⟨R, hR1, hR2⟩ := zbR hpm
    have hSn : S.Nodup := s4.imp fun {a b} h => by
      rintro rfl
      rw [(z3p a a).2 rfl] at h; omega
    rw [hR1] at hSn
    have hRn : R.Nodup := List.Pairwise.of_map toI (fun a b (h : toI a ≠ toI b) e => h (by rw [e])) hSn
    have hRl := znz h1 h5 hRn hR2
    refine ⟨S, 0, rfl, rfl, by rw [hR1, List.length_map]; omega, fun x hx => ?_⟩
    rw [(z4i.1 (List.all_eq_true.1 hpm x hx)).1]; omega
  · rw [if_neg hp, if_neg hp]
    exact ⟨[], 4, rfl, rfl, by simp, by simp⟩
end
section
open Go
set_option maxRecDepth 100000
def zjb (d : DFA) (a : Nat) (k : Nat) : List Int := (List.range k).map fun q => (d.next.getD q []).getD a 0
theorem zjO {l : List Int} : z1d l = some true := by
  obtain ⟨t, e0, ht⟩ := zky l
  obtain ⟨v, t1, e1, v1, v2, ht1⟩ := z8M ht 3 (by omega) (by omega)
  have hw : IntKind.i64.wrap (1 + v) = ((1 + v.toNat : Nat) : Int) := by rw [z7B (by omega) (by omega)]; omega
  obtain ⟨d, t2, n, e2, hd, hn, _⟩ := zim ht1 (1 + v.toNat) 5 (by omega) (by omega)
  have e2 : z0t t1 ((1 + v.toNat : Nat) : Int) 5 = some (d, t2) := e2
  have hm := hd.lt
  have hn1 := hd.n1
  unfold z1d
  rw [e0, Option.bind_some, e1, Option.bind_some]
  simp only
  rw [hw, e2, Option.bind_some]
  generalize 1 + v.toNat = m at *
  have hm1 := hd.m1
  have hm6 := hd.m6
  have hf := hd.fin
  have hnl := hd.nl
  have hcol : ∀ (a : Nat) (W : List (List Int)), a < m -> W.length <= 100 -> z0z (z0q (d, t2) (a : Int) W) LFm (0, []) = z0y (((a + 1 : Nat) : Int), W ++ [zjb d a n]) := fun a W ha hW => by
    refine z1G (s := ((0 : Int), ([] : List Int))) n (fun k => ((k : Int), zjb d a k)) rfl (by simp only [LFm]; omega) (fun k hk => ?_) ?_
    · have hk2 : k < d.next.length := by omega
      have hr := hd.row _ (List.getElem_mem hk2)
      have hra : a < (d.next[k]).length := by rw [hr.1]; exact ha
      simp only [z0q]
      rw [if_pos (by omega), z0p hk2, Option.bind_some, z0p hra, Option.bind_some, z0B _ (by unfold z1c zjb; rw [List.length_map, List.length_range]; omega), z1J (by omega)]
      have : zjb d a (k + 1) = zjb d a k ++ [d.next[k][a]] := by
        unfold zjb
        rw [List.range_succ, List.map_append]
        simp [List.getD, hk2, hra]
      rw [this]
    · simp only [z0q]
      rw [if_neg (by omega), z0B _ (by unfold z1c; omega), z1J (by omega)]
  refine z1G (s := ((0 : Int), ([] : List Int))) n (fun k => ((k : Int), toI (List.range k))) rfl (by simp only [LFm]; omega) (fun k hk => ?_) ?_
  · simp only [z0P]
    rw [if_pos (by omega), z0B _ (by unfold z1c; rw [z0r, List.length_range]; omega), z1J (by omega), List.range_succ]
    simp [toI]
  · simp only [z0P]
    rw [if_neg (by omega)]
    congr 1
    refine z1G (s := ((0 : Int), ([] : List (List Int)))) m (fun a => ((a : Int), (List.range a).map fun a => zjb d a n)) rfl (by simp only [LFm]; omega) (fun a ha => ?_) ?_
    · simp only [z0H]
      rw [if_pos (by omega), hcol a _ ha (by rw [List.length_map, List.length_range]; omega), List.range_succ, List.map_append]
      rfl
    · simp only [z0H]
      rw [if_neg (by omega)]
      congr 1
      obtain ⟨S, e, s1, s2, s3, s4⟩ := zaP (P := (List.range m).map fun a => zjb d a n) hn1 hn (fun h => by
        have := congrArg List.length h
        rw [List.length_map, List.length_range, List.length_nil] at this; omega) (by rw [List.length_map, List.length_range]; omega)
      rw [s1, Option.bind_some, s2, Option.bind_some, if_pos rfl, zao s3 s4, Option.bind_some, if_pos rfl]
      rfl
theorem zkE (l : List Int) (w0 : l.length <= maxLen) (z0 : ∀ x ∈ l, (Lit.int .i64 x).wf = true) : ∃ outs, L 3 [.sl l.length (l.map fun x => .sc (.int .i64 x))] = some (.sc (.bool true), outs) := ⟨_, z3E zjO⟩
end
section
open Go Go.RowKit Go.Sort
set_option maxRecDepth 100000
set_option maxHeartbeats 4000000
def zfI (x : Fin 128) : Value := .int .i64 ((x.val : Nat) : Int)
def cfS (p r : Fin 128) : Int := if Lib.compareInt (szN r.val) (szN p.val) ≠ 0 then Lib.compareInt (szN r.val) (szN p.val) else Lib.compareInt (p.val : Nat) (r.val : Nat)
theorem zls (k : Nat) (W : World) (hk : k < 128) : Calls Tryz.prog 114 #[.int .u64 (k : Int)] W fun e w' => e = .returned (.int .i64 (szN k)) /\ w' = W := by
  have h0 : (0 : Int) <= (k : Int) := by omega
  have h1 : (k : Int) < 128 := by omega
  go_enter Tryz.func114, Tryz.ntmps114
  go_wp2
  all_goals go_ret
  all_goals refine ⟨congrArg Ending.returned (congrArg (Value.int IntKind.i64) ?_), rfl⟩
  clear h0 h1
  revert k
  decide +kernel
theorem zkt (k : Nat) (W : World) (hk : k < 128) : Calls Tryz.prog 97 #[.int .u64 (k : Int)] W fun e w' => e = .returned (.int .i64 (szN k)) /\ w' = W := by
  go_enter Tryz.func97, Tryz.ntmps97
  go_wp2_with (go_at_call 114; refine (zls k _ hk).mono ?_; rintro e w' ⟨rfl, rfl⟩)
  go_ret
  exact ⟨rfl, rfl⟩
theorem ziU (k : Nat) (W : World) (hk : k < 128) : Calls Tryz.prog 78 #[.int .i64 (k : Int)] W fun e w' => e = .returned (.int .i64 (szN k)) /\ w' = W := by
  have hw : IntKind.u64.wrap (k : Int) = (k : Int) := by rw [IntKind.wrap_u64]; omega
  go_enter Tryz.func78, Tryz.ntmps78
  go_wp2_with (go_at_call 97; refine (zkt k _ hk).mono ?_; rintro e w' ⟨rfl, rfl⟩)
  go_ret
  exact ⟨rfl, rfl⟩
theorem or2 (a b : Int) (g : Nat) (W : World) (ha : W.cell? ⟨g, 0, none⟩ = some (.int .i64 a)) (hb : W.cell? ⟨g, 1, none⟩ = some (.int .i64 b)) : Calls Tryz.prog 77 #[.slice (some ⟨g, 0, none⟩) 2 2] W fun e w' => e = .returned (.int .i64 (if a ≠ 0 then a else b)) /\ w' = W := by
  go_enter Tryz.func77, Tryz.ntmps77
  go_wp2
  go_loop [8] (fun vi => ∃ k : Nat, k <= 2 /\ vi = .int .i64 k /\ (0 < k -> a = 0) /\ (1 < k -> b = 0)) (fun vi => 2 - (intOf vi).toNat)
  case atStart => exact ⟨0, by omega, rfl, by omega, by omega⟩
  case round =>
    obtain ⟨k, hk, rfl, h1, h2⟩ := hrel
    rcases (by omega : k = 0 ∨ k = 1 ∨ k = 2) with rfl | rfl | rfl
    · clear h1 h2
      by_cases h : a = 0
      · subst h
        go_wp2
        go_round
        case rel => exact ⟨1, by omega, by go_num, by simp, by simp⟩
        case measure => simp [intOf]
      · go_wp2
        go_ret
        simp [h]
    · have h1 := h1 (by omega)
      clear h2
      subst h1
      by_cases h : b = 0
      · subst h
        go_wp2
        go_round
        case rel => exact ⟨2, by omega, by go_num, by simp, by simp⟩
        case measure => simp [intOf]
      · go_wp2
        go_ret
        simp
    · have h1 := h1 (by omega)
      have h2 := h2 (by omega)
      subst h1 h2
      go_wp2
      go_ret
      simp
theorem zmP (x y : Fin 128) (W : World) : Calls Tryz.prog 76 #[zfI x, zfI y] W fun e w' => e = .returned (.int .i64 (cfS x y)) /\ ∃ q os', w' = grow (W.drewN q) os' := by
  obtain ⟨x, hx⟩ := x
  obtain ⟨y, hy⟩ := y
  unfold cfS zfI
  simp only
  generalize hc1 : Lib.compareInt (szN y) (szN x) = c1
  generalize hc2 : Lib.compareInt (x : Int) (y : Int) = c2
  have H1 := Lib.hid hc1
  have H2 := Lib.hid hc2
  clear hc1 hc2
  go_enter Tryz.func76, Tryz.ntmps76
  go_wp2_with (first | (go_at_call 78; first | (refine (ziU y _ hy).mono ?_; rintro e w' ⟨rfl, rfl⟩) | (refine (ziU x _ hx).mono ?_; rintro e w' ⟨rfl, rfl⟩)) | (go_at_call 59; refine (Tryz.cmp_Compare_int _ _ _).mono ?_; rintro e w' ⟨rfl, rfl⟩; first | rw [H1.out] | rw [H2.out]) | (go_at_call 77; refine (or2 c1 c2 _ _ ?_ ?_).mono ?_))
  · simp
  · simp
  all_goals go_ret
  all_goals exact ⟨rfl, 0, #[_], alloc_eq_grow _ _⟩
theorem zhw (a b : Int) : Lib.compareInt a b < 0 ↔ a < b := by unfold Lib.compareInt; split <;> (try split) <;> omega
theorem zjc (a b : Int) : Lib.compareInt a b = 0 ↔ a = b := by unfold Lib.compareInt; split <;> (try split) <;> omega
theorem zj7 (p r : Fin 128) : ltOf cfS p r = true ↔ (szN r.val < szN p.val ∨ (szN r.val = szN p.val /\ p.val < r.val)) := by
  unfold ltOf cfS
  rw [decide_eq_true_iff]
  split
  · rename_i h
    have := (not_congr (zjc (szN r.val) (szN p.val))).1 h
    rw [zhw]
    omega
  · rename_i h
    have := (zjc (szN r.val) (szN p.val)).1 (by simpa using h)
    rw [zhw]
    omega
theorem zgX (p r : Fin 128) : ltOf cfS p r = false ↔ ¬ (szN r.val < szN p.val ∨ (szN r.val = szN p.val /\ p.val < r.val)) := by
  rw [← zj7]; simp
theorem znH : SWO (ltOf cfS) where
  irrefl x := by rw [zgX]; omega
  trans x y z h1 h2 := by rw [zj7] at *; omega
  ntrans x y z h1 h2 := by rw [zgX] at *; omega
theorem zaC (a b : Int) : leI a b = true ↔ (szN b.toNat < szN a.toNat ∨ (szN a.toNat = szN b.toNat /\ a.toNat <= b.toNat)) := by
  unfold leI znk; simp
theorem z8X (x : Int) : ∀ l : List Int, (zjD x l).Perm (x :: l)
  | [] => .refl _
  | y :: l => by
    unfold zjD
    split
    · exact .refl _
    · exact ((z8X x l).cons y).trans (.swap x y l)
theorem z6V : ∀ l : List Int, (z7E l).Perm l
  | [] => .refl _
  | x :: l => (z8X x (z7E l)).trans ((z6V l).cons x)
theorem z8W (x : Int) : ∀ l : List Int, l.Pairwise (fun a b => leI a b = true) -> (zjD x l).Pairwise (fun a b => leI a b = true)
  | [], _ => by simp [zjD]
  | y :: l, h => by
    unfold zjD
    rw [List.pairwise_cons] at h
    split
    · rename_i hxy
      refine List.pairwise_cons.2 ⟨fun z hz => ?_, List.pairwise_cons.2 h⟩
      rcases List.mem_cons.1 hz with rfl | hz
      · exact hxy
      · have := h.1 z hz
        rw [zaC] at *
        omega
    · rename_i hxy
      refine List.pairwise_cons.2 ⟨fun z hz => ?_, z8W x l h.2⟩
      rcases List.mem_cons.1 ((z8X x l).mem_iff.1 hz) with rfl | hz
      · rw [zaC] at *
        omega
      · exact h.1 z hz
theorem z7p : ∀ l : List Int, (z7E l).Pairwise (fun a b => leI a b = true)
  | [] => by simp [z7E]
  | x :: l => z8W x _ (z7p l)
theorem z5w : ∀ {l1 l2 : List Int}, l1.Perm l2 -> (∀ x ∈ l1, 0 <= x) -> l1.Pairwise (fun a b => leI a b = true) -> l2.Pairwise (fun a b => leI a b = true) -> l1 = l2
  | [], l2, h, _, _, _ => by rw [List.nil_perm] at h; exact h.symm
  | a :: l1, [], h, _, _, _ => by simp at h
  | a :: l1, b :: l2, h, h0, h1, h2 => by
    have hab : a = b := by
      rcases List.mem_cons.1 (h.mem_iff.1 (List.mem_cons_self ..)) with e | ha
      · exact e
      · rcases List.mem_cons.1 (h.mem_iff.2 (List.mem_cons_self ..)) with e | hb
        · exact e.symm
        · have e1 := (List.pairwise_cons.1 h2).1 a ha
          have e2 := (List.pairwise_cons.1 h1).1 b hb
          have p1 := h0 a (List.mem_cons_self ..)
          have p2 := h0 b (h.mem_iff.2 (List.mem_cons_self ..))
          rw [zaC] at e1 e2
          omega
    subst hab
    rw [z5w (List.perm_cons a |>.1 h) (fun x hx => h0 x (List.mem_cons_of_mem _ hx)) (List.pairwise_cons.1 h1).2 (List.pairwise_cons.1 h2).2]
def toF (x : Int) : Fin 128 := ⟨x.toNat % 128, Nat.mod_lt _ (by decide)⟩
def ofF (f : Fin 128) : Int := (f.val : Int)
theorem ziR {x : Int} (h : 0 <= x /\ x < 128) : ofF (toF x) = x := by simp only [ofF, toF]; omega
def zlt (B : Nat) (K : Nat -> z0a) (b : Nat) : z0a := if B <= b then [0] else K b
theorem zcP {xs : List Int} (hx : ∀ x ∈ xs, 0 <= x /\ x < 128) {d' : Array (Fin 128)} (hp : PermIn 0 (xs.map toF).toArray.size (xs.map toF).toArray d') (hs : SortedIn (ltOf cfS) 0 (xs.map toF).toArray.size d') : d'.toList.map ofF = z7E xs := by
  obtain ⟨h1, _, h3⟩ := hp
  have hsz : d'.size = xs.length := by simpa using h1
  have e1 : (xs.map toF).map ofF = xs := by
    rw [List.map_map]
    conv => rhs; rw [← List.map_id xs]
    exact List.map_congr_left fun x hxm => ziR (hx x hxm)
  have hp2 : d'.toList.Perm (xs.map toF) := by
    have : (d'.extract 0 (xs.map toF).toArray.size).toList = d'.toList := by
      rw [← h1]; simp
    rw [this] at h3
    simp at h3
    rwa [List.take_of_length_le (by simp)] at h3
  have hp3 : (d'.toList.map ofF).Perm xs := by
    have := hp2.map ofF
    rwa [e1] at this
  refine z5w (hp3.trans (z6V xs).symm) (fun x hxm => (hx x (hp3.mem_iff.1 hxm)).1) ?_ (z7p xs)
  rw [List.pairwise_iff_getElem]
  intro i j hi hj hij
  simp only [List.length_map, Array.length_toList] at hi hj
  have := hs i j (by omega) hij (by simp; omega)
  rw [zgX, getElem!_pos d' i hi, getElem!_pos d' j hj] at this
  rw [zaC]
  simp only [List.getElem_map, Array.getElem_toList, ofF, Int.toNat_natCast]
  omega
theorem ze6 {w : World} {g n : Nat} {os : Array Obj} {cur : Array Value} {e : TypeId} {fr : Nat × Nat} (d : Array (Fin 128)) (hb : w.heap[g]? = some (.cells cur e fr)) : (sortWorld zfI w g 0 n d os).heap[g]? = some (.cells (putCells zfI 0 d cur) e fr) := by
  unfold sortWorld
  rw [heap_grow_old _ _ (by rw [size_putRow]; exact z0s hb)]
  simp [putRow, mapBlock, Sort.ahead, Array.getElem?_modify, hb, onCells]
theorem z9V {w : World} {g n : Nat} {os : Array Obj} (d : Array (Fin 128)) {b : Nat} (hb : b < w.heap.size) (hne : b ≠ g) : (sortWorld zfI w g 0 n d os).heap[b]? = w.heap[b]? := by
  unfold sortWorld
  rw [heap_grow_old _ _ (by rw [size_putRow]; exact hb)]
  simp [putRow, mapBlock, Sort.ahead, Array.getElem?_modify, Ne.symm hne]
theorem zia {w : World} {g n : Nat} {os : Array Obj} (d : Array (Fin 128)) : w.heap.size <= (sortWorld zfI w g 0 n d os).heap.size := by
  unfold sortWorld
  rw [size_grow, size_putRow]
  show w.heap.size <= w.heap.size + _
  omega
theorem zcF {I : World -> (Nat -> z0a) -> Prop} {args : List T} {r : T} {outs : List T} (h : zhR 76 args = some (r, outs)) : CallOk Tryz.prog I 75 args r outs := by
  unfold zhR at h
  split at h
  case h_2 => cases h
  rename_i n cs f fs gs
  split at h
  case isFalse => cases h
  rename_i hfg
  obtain ⟨rfl, hfs, hgs⟩ := hfg
  simp only [Array.isEmpty_iff] at hfs hgs
  subst hfs hgs
  split at h
  case h_2 => cases h
  rename_i xs hxs
  split at h
  case isFalse => cases h
  rename_i hn
  subst hn
  unfold zhW at h
  split at h
  case isFalse => cases h
  rename_i hc
  obtain ⟨hne, hlen, hall⟩ := hc
  have hx : ∀ x ∈ xs, 0 <= x /\ x < 128 := by simpa using hall
  obtain ⟨rfl, rfl⟩ : T.tup [] = r /\ [T.os 1 (z7E xs).length ((z7E xs).map fun x => .sc (.int .i64 x)), .dead] = outs := by simpa using h
  have hcs := z4K hxs
  subst hcs
  clear h hxs hall
  refine ⟨fun vals w => ?_, fun w K vals hs ha hI => ?_⟩
  · have hb : ∃ c, Tryz.f75.body = some c := ⟨_, rfl⟩
    obtain ⟨c, hb⟩ := hb
    have hname : Tryz.f75.name ≠ "runtime.NumGoroutine" := by decide
    simp [callFunc, program, Sem.run, Tryz.func75, hname, hb]
  · obtain ⟨v, u, rfl⟩ : ∃ v u, vals = #[v, u] := by
      obtain ⟨l⟩ := vals
      match l, hs with
      | [v, u], _ => exact ⟨v, u, rfl⟩
    have hv : TRep w K (col 0) v (.os 1 xs.length (xs.map fun x => .sc (.int .i64 x))) := ha 0 _ rfl
    have hu : TRep w K [] u (.sc (.func (.func 76) #[] #[])) := ha 1 _ rfl
    rw [hu.sc_eq]
    clear hu ha
    have hl0 : 0 < xs.length := List.length_pos_iff.2 hne
    generalize hT : T.os 1 xs.length (xs.map fun x => T.sc (.int .i64 x)) = t at hv
    cases hv with
    | nil => injection hT with _ e _; omega
    | own c g n cap size cs arr e fz F hfz hc0 hK hg hsz hl hz hn hcap hF hh =>
      injection hT with e1 e2 e3
      subst e1 e2 e3
      have hcell : ∀ j (hj : j < xs.length), arr[j]? = some (.int .i64 xs[j]) := fun j hj => by
        rw [hF j (by simpa using hj)]
        have := hh j (.sc (.int .i64 xs[j])) (by simp [hj])
        rw [this.sc_eq]
      have hH : Holds zfI w g 0 (xs.map toF).toArray := fun j hj => by
        have hj' : j < xs.length := by simpa using hj
        constructor
        · rw [Nat.zero_add, z1p hg, hcell j hj', getElem!_pos _ j hj]
          simp only [zfI, List.getElem_toArray, List.getElem_map]
          have := ziR (hx _ (List.getElem_mem hj'))
          unfold ofF at this
          rw [this]
        · unfold World.frozen?
          rw [Nat.zero_add]
          simp only [hg]
          have := hfz j (by omega)
          obtain ⟨lo, hi⟩ := fz
          simp only at this ⊢
          simp only [Bool.and_eq_false_iff, decide_eq_false_iff_not]
          omega
      have eg : ∀ args w, (callFunc 76 args).run Tryz.prog w = .ok (.enter 76 args) w := enters_of Tryz.func76 (by kernel_rfl) rfl
      have hcmp : CmpLays1 Tryz.prog 76 #[] zfI cfS g 0 (xs.map toF).toArray.size w := fun m os dk _ x y => zmP x y _
      have hcon := Tryz.slices_SortFunc_f75 zfI (fun _ => rfl) cfS znH 76 #[] g 0 cap (xs.map toF).toArray w eg hcmp hH (z0s hg) (by simpa using hlen)
      have hsize : (xs.map toF).toArray.size = xs.length := by simp
      rw [hsize] at hcon
      refine hcon.mono fun e' w' ⟨he, d', m, os, hp, hso, hw⟩ => ?_
      subst hw
      have hsort := zcP hx (by rw [hsize]; exact hp) (by rw [hsize]; exact hso)
      have hd : d'.size = xs.length := by have := hp.1; simpa using this
      have hys : (z7E xs).length = xs.length := (z6V xs).length_eq
      refine ⟨.tuple #[], zlt w.heap.size K, he, ?_, fun i t hi hio => ?_, rfl, rfl, rfl, zia d', fun b hb hcb => ⟨by unfold zlt; rw [if_neg (by omega)], z9V d' hb ?_⟩, ?_⟩
      · exact .tup _ #[] [] (fun _ => undef) rfl (fun j hj => by simp at hj) (fun j t ht => by simp at ht)
      · match i, hi with
        | 0, hi =>
          refine ⟨_, rfl, ?_⟩
          show TRep _ _ (col 0) (.slice (some ⟨g, 0, none⟩) xs.length cap) _
          rw [← hys]
          refine .own (col 0) g _ cap 1 _ (putCells zfI 0 d' arr) e fz (fun j => .int .i64 ((z7E xs).getD j 0)) (fun i hi => hfz i (by simpa [putCells] using hi)) (by simp [col]) (by unfold zlt; rw [if_neg (by have := z0s hg; omega)]; exact hK) (ze6 d' hg) (by simpa [putCells] using hsz) (by simp) (by omega) (by omega) hcap (fun j hj => ?_) (fun j t ht => ?_)
          · have hj' : j < xs.length := by simpa [hys] using hj
            have hja : j < arr.size := (Array.getElem?_eq_some_iff.1 (hcell j hj')).1
            have hjd : j < d'.size := by omega
            simp only [putCells, Array.getElem?_mapIdx, hcell j hj', Option.map_some]
            rw [if_pos (by omega), Nat.sub_zero, getElem!_pos d' j hjd]
            have : (z7E xs).getD j 0 = ofF d'[j] := by
              rw [← hsort]; simp [List.getD, hjd]
            rw [this]; rfl
          · simp only [List.getElem?_map, Option.map_eq_some_iff] at ht
            obtain ⟨x, hx', rfl⟩ := ht
            simp only [List.getD, hx']
            exact .sc _ _ rfl
        | 1, hi => cases hi; cases hio
      · rintro rfl
        rw [hK] at hcb
        simp [col] at hcb
      · intro b arr0 e0 fz0 hb0
        by_cases hbg : b = g
        · subst hbg
          rw [hg] at hb0
          cases hb0
          exact ⟨_, _, _, ze6 d' hg, by simp [putCells]⟩
        · exact ⟨_, _, _, (z9V d' (z0s hb0) hbg).trans hb0, rfl⟩
    | _ => cases hT
theorem zfN {I : World -> (Nat -> z0a) -> Prop} : z5X Tryz.prog I xtC := by
  intro f args r outs h
  unfold xtC at h
  split at h
  case isTrue hf => subst hf; exact zcF h
  split at h
  case isTrue hf => subst hf; exact zcG h
  split at h
  case isTrue hf => subst hf; exact zb0 h
  split at h
  case isTrue hf => subst hf; exact zb1 h
  cases h
end
section
structure StOk (ops : Array Oper) (t : SchT) (L : Array Bool) (d : Nat) (ns : List Nat) : Prop where
  ord : z1q .any ops true t L = true
  dep : t.depth = d
  nx : ∀ z ∈ t.nexts, z ∈ ns
structure BrOk (ops : Array Oper) (t : SchT) (L : Array Bool) (d : Nat) (ns hs : List Nat) : Prop where
  ord : z1q .any ops false t L = true
  dep : t.depth = d
  nx : ∀ z ∈ t.nexts, z ∈ ns
  hd : ∀ i ∈ hs, i ∈ t.heads
theorem ziT {ops : Array Oper} {L : Array Bool} (h : decide (Region.ready .any ops L = []) = true) : StOk ops .nil L 0 [] := ⟨by simp only [z1q, h, Bool.and_true], rfl, fun z hz => by simp [SchT.nexts] at hz⟩
theorem znJ {ops : Array Oper} {k m : Nat} {rest : SchT} {L L' : Array Bool} {d : Nat} {ns : List Nat} (h : StOk ops rest L' d ns) (hL : L.setIfInBounds k true = L')
    (hc : ((m == 0 || m == 3) && (Region.ready .any ops L).contains k && Region.free .any ops L k && !(ns.contains k) && (m == 3 || ns.all fun z => (zk0 .any ops ops.size [z]).contains k)) = true) : StOk ops (.op k m rest) L (d + 1) ns := by
  simp only [Bool.and_eq_true, Bool.or_eq_true, Bool.not_eq_true', beq_iff_eq] at hc
  obtain ⟨⟨⟨⟨h1, h2⟩, h3⟩, h4⟩, h5⟩ := hc
  have hm2 : ¬ m = 2 := by omega
  have hk : k ∉ ns := by simpa using h4
  refine ⟨?_, by simp only [SchT.depth, h.dep], fun z hz => h.nx z (by simpa only [SchT.nexts, if_neg hm2] using hz)⟩
  simp only [z1q]
  rw [if_pos (by simpa using h1), hL, h.ord, h2, h3]
  have h6 : rest.nexts.contains k = false := by
    rw [Bool.eq_false_iff]
    intro hh
    exact hk (h.nx k (by simpa using hh))
  rw [h6]
  simp only [Bool.not_false, Bool.and_self, Bool.true_and, Bool.and_true, Bool.or_eq_true, beq_iff_eq]
  rcases h5 with h5 | h5
  · exact .inl h5
  · exact .inr (List.all_eq_true.2 fun z hz => List.all_eq_true.1 h5 z (h.nx z hz))
theorem znK {ops : Array Oper} {k m : Nat} {rest : SchT} {L L' : Array Bool} {d : Nat} {ns ns' : List Nat} (h : StOk ops rest L' d ns) (hL : L.setIfInBounds k true = L')
    (hc : ((m == 1 || m == 2) && decide (Region.ready .any ops L = [k])) = true) (hn : (if m = 2 then [k] else ns) = ns') : StOk ops (.op k m rest) L (d + 1) ns' := by
  subst hn
  simp only [Bool.and_eq_true, Bool.or_eq_true, beq_iff_eq] at hc
  obtain ⟨h1, h2⟩ := hc
  refine ⟨?_, by simp only [SchT.depth, h.dep], fun z hz => ?_⟩
  · simp only [z1q]
    rw [if_neg (by omega), hL, h.ord, h2]
    simp [h1]
  · simp only [SchT.nexts] at hz
    split at hz
    · rename_i e; rw [if_pos e]; exact hz
    · rename_i e; rw [if_neg e]; exact h.nx z hz
theorem zpc {ops : Array Oper} {k m : Nat} {rest : SchT} {L L' : Array Bool} {d : Nat} {ns ns' : List Nat} (h : StOk ops rest L' d ns) (hL : L.setIfInBounds k true = L')
    (hc : ((m == 1 || m == 2) && (Region.ready .any ops L).contains k) = true) (hn : (if m = 2 then [k] else ns) = ns') : BrOk ops (.op k m rest) L (d + 1) ns' [k] := by
  subst hn
  simp only [Bool.and_eq_true, Bool.or_eq_true, beq_iff_eq] at hc
  obtain ⟨h1, h2⟩ := hc
  refine ⟨?_, by simp only [SchT.depth, h.dep], fun z hz => ?_, fun i hi => by simpa [SchT.heads] using hi⟩
  · simp only [z1q]
    rw [if_neg (by simp), hL, h.ord, h2]
    simp [h1]
  · simp only [SchT.nexts] at hz
    split at hz
    · rename_i e; rw [if_pos e]; exact hz
    · rename_i e; rw [if_neg e]; exact h.nx z hz
theorem z0c {ops : Array Oper} {a b : SchT} {L : Array Bool} {d : Nat} {n1 n2 h1 h2 : List Nat} (ha : BrOk ops a L d n1 h1) (hb : BrOk ops b L d n2 h2) : BrOk ops (.alt a b) L d (n1 ++ n2) (h1 ++ h2) := by
  refine ⟨?_, by simp only [SchT.depth, ha.dep], fun z hz => ?_, fun i hi => ?_⟩
  · simp only [z1q, ha.ord, hb.ord, ha.dep, hb.dep]; simp
  · simp only [SchT.nexts, List.mem_append] at hz ⊢
    exact hz.imp (ha.nx z) (hb.nx z)
  · simp only [SchT.heads, List.mem_append] at hi ⊢
    exact hi.imp (ha.hd i) (hb.hd i)
theorem zki {ops : Array Oper} {a b : SchT} {L : Array Bool} {d : Nat} {ns ns' hs : List Nat} (h : BrOk ops (.alt a b) L d ns hs) (hc : ((Region.ready .any ops L).all fun i => hs.contains i) = true) (hn : (ns.all fun z => ns'.contains z) = true) : StOk ops (.alt a b) L d ns' := by
  refine ⟨?_, h.dep, fun z hz => by simpa using List.all_eq_true.1 hn z (h.nx z hz)⟩
  have := h.ord
  simp only [z1q, Bool.and_eq_true, decide_eq_true_eq] at this ⊢
  obtain ⟨⟨⟨h1, h2⟩, h3⟩, h4⟩ := this
  refine ⟨⟨⟨?_, h2⟩, h3⟩, h4⟩
  simp only [Bool.not_true, Bool.false_or, decide_eq_true_eq]
  intro i hi
  have := List.all_eq_true.1 hc i hi
  exact h.hd i (by simpa using this)
def z9j : Nat -> Nat -> List Bool
  | 0, _ => []
  | n + 1, k => (k % 2 == 1) :: z9j n (k / 2)
def mB (n k : Nat) : Array Bool := ⟨z9j n k⟩
theorem zet : ∀ n k, (z9j n k).length = n
  | 0, _ => rfl
  | n + 1, k => by simp [z9j, zet n]
theorem zaT : ∀ n k i (h : i < (z9j n k).length), (z9j n k)[i] = k.testBit i
  | 0, k, i, h => by simp [z9j] at h
  | n + 1, k, 0, h => by simp only [z9j, List.getElem_cons_zero, Nat.testBit_zero]; rfl
  | n + 1, k, i + 1, h => by
    simp only [z9j, List.getElem_cons_succ]
    rw [zaT n (k / 2) i, Nat.testBit_succ]
theorem zgA {n a k : Nat} : (mB n a).setIfInBounds k true = mB n (a ||| 2 ^ k) := by
  apply Array.ext
  · simp [mB, zet]
  · intro i h1 h2
    have e1 : i < (z9j n a).length := by simpa [mB] using h1
    have e2 : i < (z9j n (a ||| 2 ^ k)).length := by simpa [mB] using h2
    have b1 := zaT n a i e1
    have b2 := zaT n (a ||| 2 ^ k) i e2
    rw [Array.getElem_setIfInBounds]
    simp only [mB, List.getElem_toArray] at b1 b2 ⊢
    rw [b1, b2, Nat.testBit_or, Nat.testBit_two_pow]
    · by_cases h : k = i
      · simp [h]
      · simp [h]
    · simpa [mB] using e1
theorem sq {ops : Array Oper} {k m n a : Nat} {rest : SchT} {d : Nat} {ns : List Nat} (h : StOk ops rest (mB n (a ||| 2 ^ k)) d ns)
    (hc : ((m == 0 || m == 3) && (Region.ready .any ops (mB n a)).contains k && Region.free .any ops (mB n a) k && !(ns.contains k) && (m == 3 || ns.all fun z => (zk0 .any ops ops.size [z]).contains k)) = true := by kernel_rfl) : StOk ops (.op k m rest) (mB n a) (d + 1) ns := znJ h zgA hc
theorem se {ops : Array Oper} {k m n a : Nat} {rest : SchT} {d : Nat} {ns ns' : List Nat} (h : StOk ops rest (mB n (a ||| 2 ^ k)) d ns)
    (hc : ((m == 1 || m == 2) && decide (Region.ready .any ops (mB n a) = [k])) = true := by kernel_rfl) (hn : (if m = 2 then [k] else ns) = ns' := by rfl) : StOk ops (.op k m rest) (mB n a) (d + 1) ns' := znK h zgA hc hn
theorem be {ops : Array Oper} {k m n a : Nat} {rest : SchT} {d : Nat} {ns ns' : List Nat} (h : StOk ops rest (mB n (a ||| 2 ^ k)) d ns)
    (hc : ((m == 1 || m == 2) && (Region.ready .any ops (mB n a)).contains k) = true := by kernel_rfl) (hn : (if m = 2 then [k] else ns) = ns' := by rfl) : BrOk ops (.op k m rest) (mB n a) (d + 1) ns' [k] := zpc h zgA hc hn
theorem sa {ops : Array Oper} {a b : SchT} {L : Array Bool} {d : Nat} {ns ns' hs : List Nat} (h : BrOk ops (.alt a b) L d ns hs) (hc : ((Region.ready .any ops L).all fun i => hs.contains i) = true := by kernel_rfl) (hn : (ns.all fun z => ns'.contains z) = true := by rfl) : StOk ops (.alt a b) L d ns' := zki h hc hn
def zcX (cf : Cfg) (sk : Nat -> Bool) : Code -> Bool
  | .region id ops draw => sk id || (!draw || (match cf.dt id with | some t => z5Q ops t | none => (match cf.dr id with | some sch => zgU ops sch | none => true)))
  | .seq a b => zcX cf sk a && zcX cf sk b
  | .cond _ x y => zcX cf sk x && zcX cf sk y
  | .block _ c => zcX cf sk c
  | .loop c => zcX cf sk c
  | .scope c => zcX cf sk c
  | _ => true
def z1X (i : Nat) : Code -> List (Array Oper)
  | .region id ops _ => if Nat.beq id i then [ops] else []
  | .seq a b => z1X i a ++ z1X i b
  | .cond _ x y => z1X i x ++ z1X i y
  | .block _ c => z1X i c
  | .loop c => z1X i c
  | .scope c => z1X i c
  | _ => []
noncomputable def zbL (i : Nat) (c : Code) : Array Oper := match z1X i c with | x :: _ => x | [] => #[]
theorem z7z {cf : Cfg} {sk : Nat -> Bool} : ∀ (c : Code), zcX cf sk c = true -> (∀ i, sk i = true -> ∃ t, cf.dt i = some t /\ ∀ o ∈ z1X i c, z5Q o t = true) -> okC cf c = true
  | .region id ops draw, h, hs => by
    simp only [zcX, Bool.or_eq_true] at h
    simp only [okC, Bool.or_eq_true]
    rcases h with h | h
    · right
      obtain ⟨t, h1, h2⟩ := hs id h
      rw [h1]
      exact h2 ops (by simp [z1X])
    · exact h
  | .seq a b, h, hs => by
    simp only [zcX, Bool.and_eq_true] at h
    simp only [okC, Bool.and_eq_true]
    exact ⟨z7z a h.1 fun i hi => by obtain ⟨t, h1, h2⟩ := hs i hi; exact ⟨t, h1, fun o ho => h2 o (by simp only [z1X, List.mem_append]; exact .inl ho)⟩,
      z7z b h.2 fun i hi => by obtain ⟨t, h1, h2⟩ := hs i hi; exact ⟨t, h1, fun o ho => h2 o (by simp only [z1X, List.mem_append]; exact .inr ho)⟩⟩
  | .cond _ a b, h, hs => by
    simp only [zcX, Bool.and_eq_true] at h
    simp only [okC, Bool.and_eq_true]
    exact ⟨z7z a h.1 fun i hi => by obtain ⟨t, h1, h2⟩ := hs i hi; exact ⟨t, h1, fun o ho => h2 o (by simp only [z1X, List.mem_append]; exact .inl ho)⟩,
      z7z b h.2 fun i hi => by obtain ⟨t, h1, h2⟩ := hs i hi; exact ⟨t, h1, fun o ho => h2 o (by simp only [z1X, List.mem_append]; exact .inr ho)⟩⟩
  | .block _ c, h, hs => by simp only [okC]; exact z7z c (by simpa only [zcX] using h) (by simpa only [z1X] using hs)
  | .loop c, h, hs => by simp only [okC]; exact z7z c (by simpa only [zcX] using h) (by simpa only [z1X] using hs)
  | .scope c, h, hs => by simp only [okC]; exact z7z c (by simpa only [zcX] using h) (by simpa only [z1X] using hs)
  | .skip, _, _ => rfl
  | .label .., _, _ => rfl
  | .exit .., _, _ => rfl
  | .ret, _, _ => rfl
  | .rangeFunc .., _, _ => rfl
  | .goto _, _, _ => rfl
  | .refuse _, _, _ => rfl
theorem zgv {c : Code} {i : Nat} {t : SchT} {n : Nat} {ns : List Nat} {L : Array Bool} (hr : (z1X i c).length = 1) (hs : StOk (zbL i c) t L n ns) (hL : L = Array.replicate (zbL i c).toList.length false) (hd : (decide (n = (zbL i c).toList.length) && Region.noSelect (zbL i c)) = true) : ∀ o ∈ z1X i c, z5Q o t = true := by
  intro o ho
  obtain ⟨x, hx⟩ : ∃ x, z1X i c = [x] := List.length_eq_one_iff.1 hr
  have e : zbL i c = x := by unfold zbL; rw [hx]
  rw [hx] at ho
  obtain rfl : o = x := by simpa using ho
  rw [e] at hs hL hd
  subst hL
  simp only [Bool.and_eq_true, decide_eq_true_eq] at hd
  unfold z5Q
  simp only [Bool.and_eq_true, decide_eq_true_eq]
  exact ⟨⟨hs.dep.trans hd.1, hd.2⟩, hs.ord⟩
theorem zgT {P : Program} {f : FuncId} {cf : Cfg} {fn : Func} {c : Code} (l : List Nat) (hf : P.funcs[f]? = some fn) (hb : fn.body = some c) (hn : (fn.name != "runtime.NumGoroutine") = true) (h2 : zcX cf l.contains c = true)
    (ht : ∀ i ∈ l, ∃ t, cf.dt i = some t /\ ∀ o ∈ z1X i c, z5Q o t = true) : z1u P f cf = true := by
  unfold z1u
  simp only [hf, hb, hn, Bool.true_and]
  exact z7z c h2 fun j hj => ht j (by simpa using hj)
end
section
open Go
set_option maxRecDepth 100000
theorem zoE : z1u Tryz.prog 3 cf3 = true := by kernel_rfl
theorem zoD : z1u Tryz.prog 6 cf6 = true := by kernel_rfl
noncomputable abbrev z0f : Array Oper := (zbL 7 cd7)
theorem zfX : StOk z0f zdq (mB 17 131071) 0 [] := ziT (by kernel_rfl)
theorem zfY : StOk z0f zdr (mB 17 65535) 1 [16] := se zfX
theorem zfZ : StOk z0f zds (mB 17 32767) 2 [16] := sq zfY
theorem zg0 : StOk z0f zdt (mB 17 16383) 3 [14] := se zfZ
theorem zb5 : StOk z0f za3 (mB 17 12287) 4 [12] := se zg0
theorem zb6 : StOk z0f za4 (mB 17 10239) 5 [12] := se zb5
theorem zb7 : StOk z0f za5 (mB 17 4095) 5 [12] := sq zb5
theorem z6a : StOk z0f z6e (mB 17 4031) 6 [6] := se zb7
theorem zb8 : StOk z0f za6 (mB 17 3839) 6 [8] := se zb7
theorem zg1 : StOk z0f zdu (mB 17 9215) 6 [12] := se zb6
theorem zb9 : StOk z0f za7 (mB 17 2047) 6 [12] := sq zb6
theorem z8f : StOk z0f z7J (mB 17 4029) 7 [1] := se z6a
theorem z6b : StOk z0f z6f (mB 17 3999) 7 [6] := se z6a
theorem z8g : StOk z0f z7K (mB 17 3775) 7 [6, 8] := sa (z0c (be zb8) (be z6a))
theorem z6c : StOk z0f z6g (mB 17 1983) 7 [6] := sa (z0c (be zb9) (be z6a))
theorem zba : StOk z0f za8 (mB 17 1791) 7 [8] := sa (z0c (be zb9) (be zb8))
theorem zbb : StOk z0f za9 (mB 17 1023) 7 [12] := sq zg1
theorem z8h : StOk z0f z7L (mB 17 3997) 8 [1] := sa (z0c (be z6b) (be z8f))
theorem zbc : StOk z0f zaa (mB 17 3773) 8 [1, 8] := sa (z0c (be z8g) (be z8f))
theorem z8i : StOk z0f z7M (mB 17 1981) 8 [1] := sa (z0c (be z6c) (be z8f))
theorem zg2 : StOk z0f zdv (mB 17 3983) 8 [6] := sq z6b
theorem z8j : StOk z0f z7N (mB 17 3743) 8 [6, 8] := sa (z0c (be z8g) (be z6b))
theorem z6d : StOk z0f z6h (mB 17 1951) 8 [6] := sa (z0c (be z6c) (be z6b))
theorem z8k : StOk z0f z7O (mB 17 1727) 8 [6, 8] := sa (z0c (be zba) (z0c (be z6c) (be z8g)))
theorem z8l : StOk z0f z7P (mB 17 959) 8 [6] := sa (z0c (be zbb) (be z6c))
theorem zg3 : StOk z0f zdw (mB 17 767) 8 [8] := sa (z0c (be zbb) (be zba))
theorem zg4 : StOk z0f zdx (mB 17 3981) 9 [1] := sq z8h
theorem zbd : StOk z0f zab (mB 17 3741) 9 [1, 8] := sa (z0c (be z8j) (z0c (be zbc) (be z8h)))
theorem z8m : StOk z0f z7Q (mB 17 1949) 9 [1] := sa (z0c (be z6d) (z0c (be z8i) (be z8h)))
theorem zbe : StOk z0f zac (mB 17 1725) 9 [1, 8] := sa (z0c (be z8k) (z0c (be z8i) (be zbc)))
theorem zbf : StOk z0f zad (mB 17 957) 9 [1] := sa (z0c (be z8l) (be z8i))
theorem z8n : StOk z0f z7R (mB 17 3975) 9 [6] := se zg2
theorem zg5 : StOk z0f zdy (mB 17 3727) 9 [6, 8] := sq z8j
theorem zg6 : StOk z0f zdz (mB 17 1935) 9 [6] := sq z6d
theorem z8o : StOk z0f z7S (mB 17 1695) 9 [6, 8] := sa (z0c (be z8k) (z0c (be z6d) (be z8j)))
theorem z8p : StOk z0f z7T (mB 17 927) 9 [6] := sa (z0c (be z8l) (be z6d))
theorem zbg : StOk z0f zae (mB 17 703) 9 [6, 8] := sa (z0c (be zg3) (z0c (be z8l) (be z8k)))
theorem zbh : StOk z0f zaf (mB 17 3973) 10 [1] := sa (z0c (be z8n) (be zg4))
theorem zg7 : StOk z0f zdA (mB 17 3725) 10 [1, 8] := sq zbd
theorem zg8 : StOk z0f zdB (mB 17 1933) 10 [1] := sq z8m
theorem zbi : StOk z0f zag (mB 17 1693) 10 [1, 8] := sa (z0c (be z8o) (z0c (be zbe) (z0c (be z8m) (be zbd))))
theorem zbj : StOk z0f zah (mB 17 925) 10 [1] := sa (z0c (be z8p) (z0c (be zbf) (be z8m)))
theorem zg9 : StOk z0f zdC (mB 17 701) 10 [1, 8] := sa (z0c (be zbg) (z0c (be zbf) (be zbe)))
theorem zbk : StOk z0f zai (mB 17 3719) 10 [6, 8] := sa (z0c (be zg5) (be z8n))
theorem z8q : StOk z0f z7U (mB 17 1927) 10 [6] := sa (z0c (be zg6) (be z8n))
theorem zga : StOk z0f zdD (mB 17 1679) 10 [6, 8] := sq z8o
theorem zgb : StOk z0f zdE (mB 17 911) 10 [6] := sq z8p
theorem zbl : StOk z0f zaj (mB 17 671) 10 [6, 8] := sa (z0c (be zbg) (z0c (be z8p) (be z8o)))
theorem zgc : StOk z0f zdF (mB 17 3717) 11 [1, 8] := sa (z0c (be zbk) (z0c (be zg7) (be zbh)))
theorem zbm : StOk z0f zak (mB 17 1925) 11 [1] := sa (z0c (be z8q) (z0c (be zg8) (be zbh)))
theorem zgd : StOk z0f zdG (mB 17 1677) 11 [1, 8] := sq zbi
theorem zge : StOk z0f zdH (mB 17 909) 11 [1] := sq zbj
theorem zgf : StOk z0f zdI (mB 17 669) 11 [1, 8] := sa (z0c (be zbl) (z0c (be zg9) (z0c (be zbj) (be zbi))))
theorem zbn : StOk z0f zal (mB 17 1671) 11 [6, 8] := sa (z0c (be zga) (z0c (be z8q) (be zbk)))
theorem zbo : StOk z0f zam (mB 17 903) 11 [6] := sa (z0c (be zgb) (be z8q))
theorem zhY : StOk z0f zgg (mB 17 655) 11 [6, 8] := sq zbl
theorem zhZ : StOk z0f zgh (mB 17 1669) 12 [1, 8] := sa (z0c (be zbn) (z0c (be zgd) (z0c (be zbm) (be zgc))))
theorem zi0 : StOk z0f zgi (mB 17 901) 12 [1] := sa (z0c (be zbo) (z0c (be zge) (be zbm)))
theorem zi1 : StOk z0f zgj (mB 17 653) 12 [1, 8] := sq zgf
theorem zi2 : StOk z0f zgk (mB 17 647) 12 [6, 8] := sa (z0c (be zhY) (z0c (be zbo) (be zbn)))
theorem zi3 : StOk z0f zgl (mB 17 645) 13 [1, 8] := sa (z0c (be zi2) (z0c (be zi1) (z0c (be zi0) (be zhZ))))
theorem zi4 : StOk z0f zgm (mB 17 133) 14 [1, 8] := sq zi3
theorem zi5 : StOk z0f zgn (mB 17 5) 15 [1, 8] := sq zi4
theorem zi6 : StOk z0f zgo (mB 17 1) 16 [1, 8] := sq zi5
theorem zi7 : StOk z0f zgp (mB 17 0) 17 [1, 8] := sq zi6
set_option maxHeartbeats 0 in
theorem zoC : z1u Tryz.prog 7 cf7 = true := zgT [7] fn7 bd7 rfl (by kernel_rfl) (by simp only [List.forall_mem_cons]; exact ⟨⟨_, rfl, zgv (by kernel_rfl) zi7 (by kernel_rfl) (by kernel_rfl)⟩, fun _ h => by cases h⟩)
theorem zoB : z1u Tryz.prog 8 cf8 = true := by kernel_rfl
theorem zoA : z1u Tryz.prog 9 cf9 = true := by kernel_rfl
theorem zmO : z1u Tryz.prog 10 cf10 = true := by kernel_rfl
theorem zmN : z1u Tryz.prog 11 cf11 = true := by kernel_rfl
theorem zmM : z1u Tryz.prog 12 cf12 = true := by kernel_rfl
theorem zmL : z1u Tryz.prog 15 cf15 = true := by kernel_rfl
theorem zmK : z1u Tryz.prog 16 cf16 = true := by kernel_rfl
theorem zmJ : z1u Tryz.prog 17 cf17 = true := by kernel_rfl
theorem zmI : z1u Tryz.prog 21 cf21 = true := by kernel_rfl
theorem zmH : z1u Tryz.prog 22 cf22 = true := by kernel_rfl
theorem zmG : z1u Tryz.prog 23 cf23 = true := by kernel_rfl
theorem zmF : z1u Tryz.prog 24 cf24 = true := by kernel_rfl
theorem zmE : z1u Tryz.prog 25 cf25 = true := by kernel_rfl
noncomputable abbrev z0g : Array Oper := (zbL 10 znC)
theorem zcI : StOk z0g z9E (mB 14 16383) 0 [] := ziT (by kernel_rfl)
theorem z8r : StOk z0g z6J (mB 14 8191) 1 [13] := se zcI
theorem z3Z : StOk z0g z3G (mB 14 6143) 2 [13] := sq z8r
theorem zcJ : StOk z0g z9F (mB 14 4095) 2 [13] := se z8r
theorem z4a : StOk z0g z3H (mB 14 6127) 3 [13] := se z3Z
theorem z4b : StOk z0g z3I (mB 14 6079) 3 [13] := se z3Z
theorem z4c : StOk z0g z3J (mB 14 5887) 3 [13] := se z3Z
theorem z4d : StOk z0g z3K (mB 14 5119) 3 [13] := se z3Z
theorem z4e : StOk z0g z3L (mB 14 2047) 3 [13] := sq zcJ
theorem z5D : StOk z0g z4U (mB 14 6063) 4 [13] := sa (z0c (be z4b) (be z4a))
theorem z5E : StOk z0g z4V (mB 14 5871) 4 [13] := sa (z0c (be z4c) (be z4a))
theorem z5F : StOk z0g z4W (mB 14 5103) 4 [13] := sa (z0c (be z4d) (be z4a))
theorem z5G : StOk z0g z4X (mB 14 2031) 4 [13] := sa (z0c (be z4e) (be z4a))
theorem z5H : StOk z0g z4Y (mB 14 5823) 4 [13] := sa (z0c (be z4c) (be z4b))
theorem z5I : StOk z0g z4Z (mB 14 5055) 4 [13] := sa (z0c (be z4d) (be z4b))
theorem z5J : StOk z0g z5a (mB 14 1983) 4 [13] := sa (z0c (be z4e) (be z4b))
theorem z5K : StOk z0g z5b (mB 14 4863) 4 [13] := sa (z0c (be z4d) (be z4c))
theorem z5L : StOk z0g z5c (mB 14 1791) 4 [13] := sa (z0c (be z4e) (be z4c))
theorem z5M : StOk z0g z5d (mB 14 1023) 4 [13] := sa (z0c (be z4e) (be z4d))
theorem z8s : StOk z0g z6K (mB 14 5807) 5 [13] := sa (z0c (be z5H) (z0c (be z5E) (be z5D)))
theorem z8t : StOk z0g z6L (mB 14 5039) 5 [13] := sa (z0c (be z5I) (z0c (be z5F) (be z5D)))
theorem z8u : StOk z0g z6M (mB 14 1967) 5 [13] := sa (z0c (be z5J) (z0c (be z5G) (be z5D)))
theorem z8v : StOk z0g z6N (mB 14 4847) 5 [13] := sa (z0c (be z5K) (z0c (be z5F) (be z5E)))
theorem z8w : StOk z0g z6O (mB 14 1775) 5 [13] := sa (z0c (be z5L) (z0c (be z5G) (be z5E)))
theorem z8x : StOk z0g z6P (mB 14 1007) 5 [13] := sa (z0c (be z5M) (z0c (be z5G) (be z5F)))
theorem z8y : StOk z0g z6Q (mB 14 4799) 5 [13] := sa (z0c (be z5K) (z0c (be z5I) (be z5H)))
theorem z8z : StOk z0g z6R (mB 14 1727) 5 [13] := sa (z0c (be z5L) (z0c (be z5J) (be z5H)))
theorem z8A : StOk z0g z6S (mB 14 959) 5 [13] := sa (z0c (be z5M) (z0c (be z5J) (be z5I)))
theorem z8B : StOk z0g z6T (mB 14 767) 5 [13] := sa (z0c (be z5M) (z0c (be z5L) (be z5K)))
theorem zcK : StOk z0g z9G (mB 14 4783) 6 [13] := sa (z0c (be z8y) (z0c (be z8v) (z0c (be z8t) (be z8s))))
theorem zcL : StOk z0g z9H (mB 14 1711) 6 [13] := sa (z0c (be z8z) (z0c (be z8w) (z0c (be z8u) (be z8s))))
theorem zcM : StOk z0g z9I (mB 14 943) 6 [13] := sa (z0c (be z8A) (z0c (be z8x) (z0c (be z8u) (be z8t))))
theorem zeF : StOk z0g zbp (mB 14 751) 6 [13] := sa (z0c (be z8B) (z0c (be z8x) (z0c (be z8w) (be z8v))))
theorem zeG : StOk z0g zbq (mB 14 703) 6 [13] := sa (z0c (be z8B) (z0c (be z8A) (z0c (be z8z) (be z8y))))
theorem zeH : StOk z0g zbr (mB 14 687) 7 [13] := sa (z0c (be zeG) (z0c (be zeF) (z0c (be zcM) (z0c (be zcL) (be zcK)))))
theorem zeI : StOk z0g zbs (mB 14 175) 8 [13] := sq zeH
theorem zeJ : StOk z0g zbt (mB 14 47) 9 [13] := sq zeI
theorem zeK : StOk z0g zbu (mB 14 15) 10 [13] := sq zeJ
theorem zeL : StOk z0g zbv (mB 14 7) 11 [13] := sq zeK
theorem zeM : StOk z0g zbw (mB 14 3) 12 [13] := sq zeL
theorem zeN : StOk z0g zbx (mB 14 1) 13 [13] := sq zeM
theorem zeO : StOk z0g zby (mB 14 0) 14 [13] := sq zeN
set_option maxHeartbeats 0 in
theorem zmD : z1u Tryz.prog 29 cf29 = true := zgT [10] zoq zpw rfl (by kernel_rfl) (by simp only [List.forall_mem_cons]; exact ⟨⟨_, rfl, zgv (by kernel_rfl) zeO (by kernel_rfl) (by kernel_rfl)⟩, fun _ h => by cases h⟩)
theorem zmC : z1u Tryz.prog 30 cf30 = true := by kernel_rfl
theorem zmB : z1u Tryz.prog 31 cf31 = true := by kernel_rfl
theorem zmA : z1u Tryz.prog 32 cf32 = true := by kernel_rfl
theorem zmz : z1u Tryz.prog 35 cf35 = true := by kernel_rfl
theorem zmy : z1u Tryz.prog 37 cf37 = true := by kernel_rfl
theorem zmx : z1u Tryz.prog 38 cf38 = true := by kernel_rfl
theorem zmw : z1u Tryz.prog 39 cf39 = true := by kernel_rfl
theorem zmv : z1u Tryz.prog 40 cf40 = true := by kernel_rfl
theorem zmu : z1u Tryz.prog 42 cf42 = true := by kernel_rfl
theorem zmt : z1u Tryz.prog 43 cf43 = true := by kernel_rfl
theorem zms : z1u Tryz.prog 44 cf44 = true := by kernel_rfl
theorem zmr : z1u Tryz.prog 45 cf45 = true := by kernel_rfl
theorem zmq : z1u Tryz.prog 46 cf46 = true := by kernel_rfl
theorem zmp : z1u Tryz.prog 47 cf47 = true := by kernel_rfl
theorem zmo : z1u Tryz.prog 48 cf48 = true := by kernel_rfl
theorem zmn : z1u Tryz.prog 49 cf49 = true := by kernel_rfl
theorem zmm : z1u Tryz.prog 51 cf51 = true := by kernel_rfl
theorem zml : z1u Tryz.prog 52 cf52 = true := by kernel_rfl
theorem zmk : z1u Tryz.prog 53 cf53 = true := by kernel_rfl
theorem zmj : z1u Tryz.prog 54 cf54 = true := by kernel_rfl
theorem zmi : z1u Tryz.prog 55 cf55 = true := by kernel_rfl
theorem zmh : z1u Tryz.prog 56 cf56 = true := by kernel_rfl
theorem zmg : z1u Tryz.prog 57 cf57 = true := by kernel_rfl
theorem zmf : z1u Tryz.prog 58 cf58 = true := by kernel_rfl
theorem zme : z1u Tryz.prog 59 cf59 = true := by kernel_rfl
theorem zmd : z1u Tryz.prog 60 cf60 = true := by kernel_rfl
theorem zmc : z1u Tryz.prog 61 cf61 = true := by kernel_rfl
theorem zmb : z1u Tryz.prog 62 cf62 = true := by kernel_rfl
theorem zma : z1u Tryz.prog 63 cf63 = true := by kernel_rfl
theorem zm9 : z1u Tryz.prog 64 cf64 = true := by kernel_rfl
theorem zm8 : z1u Tryz.prog 65 cf65 = true := by kernel_rfl
theorem zm7 : z1u Tryz.prog 67 cf67 = true := by kernel_rfl
theorem zm6 : z1u Tryz.prog 70 cf70 = true := by kernel_rfl
theorem zm5 : z1u Tryz.prog 71 cf71 = true := by kernel_rfl
theorem zm4 : z1u Tryz.prog 72 cf72 = true := by kernel_rfl
theorem zm3 : z1u Tryz.prog 73 cf73 = true := by kernel_rfl
theorem zm2 : z1u Tryz.prog 74 cf74 = true := by kernel_rfl
theorem zm1 : z1u Tryz.prog 76 cf76 = true := by kernel_rfl
theorem zm0 : z1u Tryz.prog 77 cf77 = true := by kernel_rfl
theorem zlZ : z1u Tryz.prog 78 cf78 = true := by kernel_rfl
theorem zlY : z1u Tryz.prog 79 cf79 = true := by kernel_rfl
theorem zlX : z1u Tryz.prog 80 cf80 = true := by kernel_rfl
theorem zlW : z1u Tryz.prog 81 cf81 = true := by kernel_rfl
theorem zlV : z1u Tryz.prog 82 cf82 = true := by kernel_rfl
theorem zlU : z1u Tryz.prog 83 cf83 = true := by kernel_rfl
theorem zlT : z1u Tryz.prog 84 cf84 = true := by kernel_rfl
theorem zlS : z1u Tryz.prog 95 cf95 = true := by kernel_rfl
theorem zlR : z1u Tryz.prog 97 cf97 = true := by kernel_rfl
theorem zlQ : z1u Tryz.prog 98 cf98 = true := by kernel_rfl
theorem zlP : z1u Tryz.prog 99 cf99 = true := by kernel_rfl
theorem zkT : z1u Tryz.prog 100 cf100 = true := by kernel_rfl
theorem zkS : z1u Tryz.prog 113 cf113 = true := by kernel_rfl
theorem zkR : z1u Tryz.prog 114 cf114 = true := by kernel_rfl
theorem zkQ : z1u Tryz.prog 115 cf115 = true := by kernel_rfl
theorem zkP : z1u Tryz.prog 118 cf118 = true := by kernel_rfl
theorem zkO : z1u Tryz.prog 123 cf123 = true := by kernel_rfl
theorem z0n {p : Prop} [Decidable p] {a c : Cfg} {r : Option Cfg} {G : Prop} (h : (if p then some a else r) = some c) (h1 : p -> a = c -> G) (h2 : r = some c -> G) : G := by
  split at h
  · rename_i hp; exact h1 hp (Option.some.inj h)
  · exact h2 h
theorem zoL : ∀ f c, z0X f = some c -> z1u Tryz.prog f c = true := by
  intro f c h
  unfold z0X at h
  refine z0n h (fun e h => by rw [e, ← h]; exact zoE) fun h => ?_
  refine z0n h (fun e h => by rw [e, ← h]; exact zoD) fun h => ?_
  refine z0n h (fun e h => by rw [e, ← h]; exact zoC) fun h => ?_
  refine z0n h (fun e h => by rw [e, ← h]; exact zoB) fun h => ?_
  refine z0n h (fun e h => by rw [e, ← h]; exact zoA) fun h => ?_
  refine z0n h (fun e h => by rw [e, ← h]; exact zmO) fun h => ?_
  refine z0n h (fun e h => by rw [e, ← h]; exact zmN) fun h => ?_
  refine z0n h (fun e h => by rw [e, ← h]; exact zmM) fun h => ?_
  refine z0n h (fun e h => by rw [e, ← h]; exact zmL) fun h => ?_
  refine z0n h (fun e h => by rw [e, ← h]; exact zmK) fun h => ?_
  refine z0n h (fun e h => by rw [e, ← h]; exact zmJ) fun h => ?_
  refine z0n h (fun e h => by rw [e, ← h]; exact zmI) fun h => ?_
  refine z0n h (fun e h => by rw [e, ← h]; exact zmH) fun h => ?_
  refine z0n h (fun e h => by rw [e, ← h]; exact zmG) fun h => ?_
  refine z0n h (fun e h => by rw [e, ← h]; exact zmF) fun h => ?_
  refine z0n h (fun e h => by rw [e, ← h]; exact zmE) fun h => ?_
  refine z0n h (fun e h => by rw [e, ← h]; exact zmD) fun h => ?_
  refine z0n h (fun e h => by rw [e, ← h]; exact zmC) fun h => ?_
  refine z0n h (fun e h => by rw [e, ← h]; exact zmB) fun h => ?_
  refine z0n h (fun e h => by rw [e, ← h]; exact zmA) fun h => ?_
  refine z0n h (fun e h => by rw [e, ← h]; exact zmz) fun h => ?_
  refine z0n h (fun e h => by rw [e, ← h]; exact zmy) fun h => ?_
  refine z0n h (fun e h => by rw [e, ← h]; exact zmx) fun h => ?_
  refine z0n h (fun e h => by rw [e, ← h]; exact zmw) fun h => ?_
  refine z0n h (fun e h => by rw [e, ← h]; exact zmv) fun h => ?_
  refine z0n h (fun e h => by rw [e, ← h]; exact zmu) fun h => ?_
  refine z0n h (fun e h => by rw [e, ← h]; exact zmt) fun h => ?_
  refine z0n h (fun e h => by rw [e, ← h]; exact zms) fun h => ?_
  refine z0n h (fun e h => by rw [e, ← h]; exact zmr) fun h => ?_
  refine z0n h (fun e h => by rw [e, ← h]; exact zmq) fun h => ?_
  refine z0n h (fun e h => by rw [e, ← h]; exact zmp) fun h => ?_
  refine z0n h (fun e h => by rw [e, ← h]; exact zmo) fun h => ?_
  refine z0n h (fun e h => by rw [e, ← h]; exact zmn) fun h => ?_
  refine z0n h (fun e h => by rw [e, ← h]; exact zmm) fun h => ?_
  refine z0n h (fun e h => by rw [e, ← h]; exact zml) fun h => ?_
  refine z0n h (fun e h => by rw [e, ← h]; exact zmk) fun h => ?_
  refine z0n h (fun e h => by rw [e, ← h]; exact zmj) fun h => ?_
  refine z0n h (fun e h => by rw [e, ← h]; exact zmi) fun h => ?_
  refine z0n h (fun e h => by rw [e, ← h]; exact zmh) fun h => ?_
  refine z0n h (fun e h => by rw [e, ← h]; exact zmg) fun h => ?_
  refine z0n h (fun e h => by rw [e, ← h]; exact zmf) fun h => ?_
  refine z0n h (fun e h => by rw [e, ← h]; exact zme) fun h => ?_
  refine z0n h (fun e h => by rw [e, ← h]; exact zmd) fun h => ?_
  refine z0n h (fun e h => by rw [e, ← h]; exact zmc) fun h => ?_
  refine z0n h (fun e h => by rw [e, ← h]; exact zmb) fun h => ?_
  refine z0n h (fun e h => by rw [e, ← h]; exact zma) fun h => ?_
  refine z0n h (fun e h => by rw [e, ← h]; exact zm9) fun h => ?_
  refine z0n h (fun e h => by rw [e, ← h]; exact zm8) fun h => ?_
  refine z0n h (fun e h => by rw [e, ← h]; exact zm7) fun h => ?_
  refine z0n h (fun e h => by rw [e, ← h]; exact zm6) fun h => ?_
  refine z0n h (fun e h => by rw [e, ← h]; exact zm5) fun h => ?_
  refine z0n h (fun e h => by rw [e, ← h]; exact zm4) fun h => ?_
  refine z0n h (fun e h => by rw [e, ← h]; exact zm3) fun h => ?_
  refine z0n h (fun e h => by rw [e, ← h]; exact zm2) fun h => ?_
  refine z0n h (fun e h => by rw [e, ← h]; exact zm1) fun h => ?_
  refine z0n h (fun e h => by rw [e, ← h]; exact zm0) fun h => ?_
  refine z0n h (fun e h => by rw [e, ← h]; exact zlZ) fun h => ?_
  refine z0n h (fun e h => by rw [e, ← h]; exact zlY) fun h => ?_
  refine z0n h (fun e h => by rw [e, ← h]; exact zlX) fun h => ?_
  refine z0n h (fun e h => by rw [e, ← h]; exact zlW) fun h => ?_
  refine z0n h (fun e h => by rw [e, ← h]; exact zlV) fun h => ?_
  refine z0n h (fun e h => by rw [e, ← h]; exact zlU) fun h => ?_
  refine z0n h (fun e h => by rw [e, ← h]; exact zlT) fun h => ?_
  refine z0n h (fun e h => by rw [e, ← h]; exact zlS) fun h => ?_
  refine z0n h (fun e h => by rw [e, ← h]; exact zlR) fun h => ?_
  refine z0n h (fun e h => by rw [e, ← h]; exact zlQ) fun h => ?_
  refine z0n h (fun e h => by rw [e, ← h]; exact zlP) fun h => ?_
  refine z0n h (fun e h => by rw [e, ← h]; exact zkT) fun h => ?_
  refine z0n h (fun e h => by rw [e, ← h]; exact zkS) fun h => ?_
  refine z0n h (fun e h => by rw [e, ← h]; exact zkR) fun h => ?_
  refine z0n h (fun e h => by rw [e, ← h]; exact zkQ) fun h => ?_
  refine z0n h (fun e h => by rw [e, ← h]; exact zkP) fun h => ?_
  refine z0n h (fun e h => by rw [e, ← h]; exact zkO) fun h => ?_
  cases h
end
section
open Go.RowKit
def z9d (P : Program) : Nat -> TypeId -> Bool
  | 0, _ => false
  | m + 1, t =>
    match P.underlying t with
    | some (.slice e) => P.cellsOf e != 0 && z9d P m e
    | some (.pointer e) => z9d P m e
    | some (.struct fs) => fs.toList.all fun f => z9d P m f.type
    | some (.array _ e) => z9d P m e
    | some (.map _ e) => z9d P m e
    | _ => true
section
variable {H : Type} {enc : TypeId × Value -> H} {P : Program} {w : World} {base : Nat}
theorem z9q {m : Nat} {r r' : TypeId -> List Value -> Option (DataW H × List MemPlace)}
    (hr : ∀ t cs x, z9d P m t = true -> r t cs = some x -> r' t cs = some x) {t : TypeId} {cs : List Value} {x : DataW H × List MemPlace} (hf : z9d P (m + 1) t = true)
    (h : DataW.trodStep enc P w base (fun _ => true) true r t cs = some x) : DataW.trodStep enc P w base (fun b => decide (b < w.heap.size)) true r' t cs = some x := by
  unfold DataW.trodStep at h ⊢
  unfold z9d at hf
  split at h
  case h_1 => exact h
  case h_2 => exact h
  case h_3 => exact h
  case h_4 => exact h
  case h_5 => exact h
  case h_6 e a hu =>
    rw [hu] at hf
    simp only [Option.map_eq_some_iff, Option.bind_eq_some_iff] at h ⊢
    obtain ⟨y, ⟨cs', hc, hy⟩, rfl⟩ := h
    exact ⟨y, ⟨cs', hc, hr _ _ _ hf hy⟩, rfl⟩
  case h_7 => exact h
  case h_8 e a len cap hu =>
    rw [hu] at hf
    simp only [Bool.and_eq_true, bne_iff_ne, ne_eq] at hf
    obtain ⟨hcell, hfe⟩ := hf
    simp only at h ⊢
    split at h
    · rename_i hc
      rw [if_pos hc]
      simp only [Option.map_eq_some_iff, Option.bind_eq_some_iff, if_true] at h ⊢
      obtain ⟨elems, he, rest, hrest, rfl⟩ := h
      have one : ∀ (i : Nat) (y : DataW H × List MemPlace), (w.cells? base (a.add (i * P.cellsOf e)) (P.cellsOf e)).bind (r e) = some y -> (w.cells? base (a.add (i * P.cellsOf e)) (P.cellsOf e)).bind (r' e) = some y := by
        intro i y hv
        simp only [Option.bind_eq_some_iff] at hv ⊢
        obtain ⟨cs', hc', hy'⟩ := hv
        exact ⟨cs', hc', hr _ _ _ hfe hy'⟩
      refine ⟨elems, mapM_carry he (fun i y _ _ hy => one i y hy), rest, ?_, rfl⟩
      by_cases hb : a.block < w.heap.size
      · rw [if_pos (by simpa using hb)]
        exact mapM_carry hrest (fun j y _ _ hy => one (len + j) y hy)
      · rw [if_neg (by simpa using hb)]
        have hz : cap - len = 0 := by
          rcases Nat.eq_zero_or_pos (cap - len) with h0 | h0
          · exact h0
          · exfalso
            have hl : rest.length = cap - len := by simpa using mapM_some_length hrest
            have h1 := mapM_some_get hrest 0 0 (by simp [h0])
            obtain ⟨y, hy⟩ : ∃ y, rest[0]? = some y := ⟨rest[0], List.getElem?_eq_getElem (by omega)⟩
            rw [hy] at h1
            simp only [Option.bind_eq_some_iff] at h1
            obtain ⟨cs', hc', _⟩ := h1
            have h2 := World.cells?_block hc' (by omega)
            have h3 : (a.add ((len + 0) * P.cellsOf e)).block = a.block := by unfold Addr.add; split <;> rfl
            omega
        rw [hz] at hrest
        simpa using hrest
    · cases h
  case h_9 fs _ hu =>
    rw [hu] at hf
    split at h
    · rename_i hc
      rw [if_pos hc]
      simp only [Option.map_eq_some_iff] at h ⊢
      obtain ⟨xs, hx, rfl⟩ := h
      exact ⟨xs, mapM_carry hx (fun f y hin _ hv => hr _ _ _ (List.all_eq_true.1 hf f hin) hv), rfl⟩
    · cases h
  case h_10 n e _ hu =>
    rw [hu] at hf
    split at h
    · rename_i hc
      rw [if_pos hc]
      simp only [Option.map_eq_some_iff] at h ⊢
      obtain ⟨xs, hx, rfl⟩ := h
      exact ⟨xs, mapM_carry hx (fun f y _ _ hv => hr _ _ _ hf hv), rfl⟩
    · cases h
  case h_11 => exact h
  case h_12 => exact h
  case h_13 => exact h
  case h_14 k e b hu =>
    rw [hu] at hf
    split at h
    · rename_i es clock hb
      split at h
      · rename_i hc
        simp only [Option.bind_eq_some_iff] at h
        obtain ⟨entries, he, hd⟩ := h
        split at hd
        · rename_i hris
          have hx := Option.some.inj hd
          subst hx
          simp only [if_pos hc, Option.bind_eq_some_iff]
          refine ⟨entries, mapM_carry he (fun x y _ hy hv => ?_), by simp [hris]⟩
          simp only [Option.bind_eq_some_iff] at hv ⊢
          obtain ⟨key, hk, hz⟩ := hv
          refine ⟨key, hk, ?_⟩
          split at hz
          · rename_i hfm
            rw [if_pos hfm]
            simp only [Option.map_eq_some_iff] at hz ⊢
            obtain ⟨q, hq, rfl⟩ := hz
            exact ⟨q, hr _ _ _ hf hq, rfl⟩
          · cases hz
        · cases hd
      · cases h
    · cases h
  case h_15 => exact h
  case h_16 => exact h
  case h_17 => exact h
  case h_18 => exact h
  case h_19 => exact h
  case h_20 => exact h
  case h_21 => cases h
theorem zeE : ∀ (n m : Nat) (t : TypeId) (cs : List Value) (x : DataW H × List MemPlace), z9d P m t = true ->
    DataW.trod enc P w base (fun _ => true) true n t cs = some x -> DataW.trod enc P w base (fun b => decide (b < w.heap.size)) true n t cs = some x := by
  intro n
  induction n with
  | zero => intro m t cs x _ h; simp [DataW.trod] at h
  | succ n ih =>
    intro m t cs x hf h
    cases m with
    | zero => simp [z9d] at hf
    | succ m =>
      rw [DataW.trod_step] at h ⊢
      exact z9q (m := m) (fun t cs x hf hx => ih m t cs x hf hx) hf h
theorem zbH {w' : World} (hb : Below w.heap.size w w') {p : MemPlace} (hp : p.block < w.heap.size) : w.sameAt w' p := by
  cases p with
  | cell b off => exact hb.cell (p := ⟨b, off, none⟩) hp
  | map b => exact hb.block b hp
theorem z5Z {w' : World} (m : Nat) (hb : Below w.heap.size w w') : ∀ {ts : List TypeId} {vs : List Value} {ds : List (DataW H)} {ps : List MemPlace}, (ts.all (z9d P m)) = true ->
    DataW.TrodAll enc P w 0 (fun _ => true) true ts vs ds ps -> DataW.TrodAll enc P w' 0 (fun b => decide (b < w.heap.size)) true ts vs ds ps
  | [], [], [], ps, _, h => h
  | t :: ts, v :: vs, d :: ds, ps, hf, ⟨p, q, ⟨n, h1⟩, h2, e⟩ => by
    simp only [List.all_cons, Bool.and_eq_true] at hf
    have h3 := zeE n m t _ _ hf.1 h1
    exact ⟨p, q, ⟨n, DataW.trod_carry n _ _ _ h3 (fun z hz => zbH hb (DataW.trod_lt n _ _ _ h3 z hz))⟩, z5Z m hb hf.2 h2, e⟩
  | [], _ :: _, _, _, _, h => by cases h
  | [], [], _ :: _, _, _, h => by cases h
  | _ :: _, [], _, _, _, h => by cases h
  | _ :: _, _ :: _, [], _, _, h => by cases h
end
section
variable {H : Type} {enc : TypeId × Value -> H} {P : Program} {w : World} {r : Reach} {b0 : Nat}
open Go.ChangeShapes Go.WideShapes
open Go.Deep (open_bools)
theorem zhK (a : Addr) (j : Nat) : (a.add j).block = a.block := by unfold Addr.add; split <;> rfl
end
end
section
open Go.ChangeShapes Go.WideShapes Go.RowKit
def KZ : Nat -> z0a := fun _ => []
theorem zh1 {P : Program} {Xc : z0b} {cf : FuncId -> Option Cfg} {f : FuncId} {args : List T} {outs : List T} (hX : z5X P (fun _ _ => True) Xc) (hm : P.follows .mixedOrders = true) (hf : ∀ f c, cf f = some c -> z1u P f c = true)
    (h : Lim P Xc cf f args = some (.sc (.bool true), outs)) (hio : args.all (fun t => !z3a t) = true) (W : World) (vals : Array Value) (hs : vals.size = args.length)
    (ha : ∀ i t, args[i]? = some t -> TRep W KZ [] (vals.getD i undef) t) : Calls P f vals W fun e W' => e = .returned (.bool true) /\ Below W.heap.size W W' := by
  have hc := zkC (I := fun _ _ => True) EnvS.none hX hm hf h
  refine (hc.calls W KZ vals hs (fun i t hi => ?_) trivial).mono fun e W' ⟨v, K', he, hv, _, hst⟩ => ?_
  · have h1 := List.all_eq_true.1 hio t (List.mem_of_getElem? hi)
    unfold za1
    rw [if_neg (by simpa using h1)]
    exact ha i t hi
  · generalize hT : T.sc (.bool true) = t at hv
    cases hv with
    | sc c v hb => cases hT; exact ⟨he, hst.os, hst.tape, hst.output, hst.size, fun b hb => (hst.old b hb (.inl rfl)).2⟩
    | _ => cases hT
section
variable {H : Type} {enc : TypeId × Value -> H} {P : Program} {w : World} {r : Reach} {b0 : Nat}
theorem zgR {t e : TypeId} {v : Value} {d : DataW H} {ps : List MemPlace} (ht : P.underlying t = some (.slice e)) (he : P.underlying e = some (.int .i64)) (hc : P.cellsOf e = 1)
    (hval : Value.okWide P w r b0 t v) (hd : DataW.Trod enc P w 0 (fun _ => true) true t v d ps) :
    ∃ xs : List Int, TRep w KZ [] v (.sl xs.length (xs.map fun x => .sc (.int .i64 x))) /\ xs.length <= maxLen /\ ∀ x ∈ xs, (Lit.int .i64 x).wf = true := by
  obtain ⟨ga, n, cap, rfl⟩ := okWide_slice ht hval
  obtain ⟨fuel, hf⟩ := hd
  rcases open_ints ht he hc hf with ⟨hcs, _⟩ | ⟨a, len', cap', zs, hcs, _, hl, hm, hz, _, hcell, hwz⟩
  · simp [Value.cells] at hcs
    obtain ⟨rfl, rfl, rfl⟩ := hcs
    exact ⟨[], .emp _ _ _ (by decide), by decide, fun x hx => by cases hx⟩
  · simp [Value.cells] at hcs
    obtain ⟨rfl, rfl, rfl⟩ := hcs
    simp only [if_true] at hz
    refine ⟨zs.take n, ?_, by simp; omega, fun x hx => hwz x (List.mem_of_mem_take hx)⟩
    have hln : (zs.take n).length = n := by simp; omega
    rw [hln]
    by_cases h0 : n = 0
    · subst h0
      simp only [List.take_zero, List.map_nil]
      exact .emp _ _ _ hm
    · have hc0 := hcell 0 (by omega)
      have hb := World.block_lt_of_cell? w _ hc0
      rw [zhK] at hb
      have hsp : a.spot = none := by
        have : a.add 0 = a := by simp [Addr.add]
        rw [this] at hc0
        unfold World.cell? at hc0
        split at hc0
        · split at hc0
          · cases hc0
          · rename_i hh
            simpa using hh
        · cases hc0
      obtain ⟨g, o, sp⟩ := a
      simp only at hsp
      subst hsp
      refine .fro [] g o n cap _ (fun j => .int .i64 (zs.getD j 0)) rfl hb hl hm (fun j hj => ?_) (fun j t hj => ?_)
      · have h1 := hcell j (by simp at hj; omega)
        have e : (⟨g, o, none⟩ : Addr).add j = ⟨g, o + j, none⟩ := by
          unfold Addr.add
          split
          · rename_i h; subst h; rfl
          · rfl
        rw [e] at h1
        exact h1
      · simp only [List.getElem?_map, Option.map_eq_some_iff] at hj
        obtain ⟨x, hx, rfl⟩ := hj
        have hjn : j < n := by
          have := (List.getElem?_eq_some_iff.1 hx).1
          simp at this; omega
        rw [List.getElem?_take_of_lt hjn] at hx
        simp only [List.getD, hx]
        exact .sc _ _ rfl
end
end
end Go.Proofs.YtodliknibbafeaaGreat
section
/- Proved here: the law HolonomyElements returns true for every input, and its arguments read afterwards as before. No condition. -/
namespace Go.Proofs.YtodliknibbafeaaGreat.holonomyElements
open Go.ChangeShapes Go.WideShapes Go.ChangeAt Go.RowKit
open Go.ChangeMaps (open_string shut_string)
theorem own : ownKnob Tryz.prog.godebug = none := by kernel_rfl
set_option maxRecDepth 100000 in
theorem ziG (H : Type) (enc : TypeId × Value -> H) (W : World) (base : Nat) (args : Array Value) (ds gs : List (DataW H)) (before : List MemPlace)
    (hval0 : ∀ (j : Nat) t v, Tryz.f3.params[j]? = some t -> args[j]? = some v -> Value.okWide Tryz.prog W .any base t v)
    (hW : DataW.Whole enc Tryz.prog Tryz.f3.params.toList Rows.holonomyElementsSpec.vars false W args.toList ds gs before) :
    Calls Tryz.prog 3 args W fun e W' => ∃ v, e = .returned v /\ Rows.holonomyElementsSpec.post enc Tryz.prog Tryz.f3 false true false false W args v W' := by
  have hW' := hW
  obtain ⟨p, q, hA0, hV, rfl, hfz, hnd⟩ := hW
  have hval := hval0
  have hA : DataW.TrodAll enc Tryz.prog W 0 (fun _ => true) true Tryz.f3.params.toList args.toList ds p := hA0
  rw [Tryz.params3] at hA hval
  obtain ⟨v0, vs0, d0, ds0, p0, q0, hargs, rfl, rfl, h0, r0⟩ := trodAll_cons hA
  obtain ⟨rfl, rfl, rfl⟩ := trodAll_nil r0
  obtain rfl : args = #[v0] := by cases args; simp_all
  obtain ⟨rfl, rfl⟩ := trodVars_none hV
  obtain ⟨a0, t0, w0, z0⟩ := zgR Tryz.underlying22 Tryz.underlying3 (by kernel_rfl) (hval 0 22 v0 rfl rfl) h0
  obtain ⟨outs, hlaw⟩ := zkE a0 w0 z0
  refine (zh1 zfN (by kernel_rfl) zoL hlaw rfl W _ rfl (fun i t hi => ?_)).mono fun e W' ⟨he, bel⟩ => ?_
  · match i, hi with
    | 0, hi => cases hi; exact t0
  · subst he
    exact ⟨_, rfl, _, _, _, [], _, [], hW', trodAll_mk1 (shut_bool Tryz.underlying4 _), z5Z 12 bel (by kernel_rfl) hA0, rfl, bel.frame _, fun h => by cases h⟩
theorem z5V {a b : Bool} (ha : a = true) (hb : b = true) : (a && b) = true := by rw [ha, hb]; rfl
set_option maxHeartbeats 4000000 in
theorem zlG : joinedFacts Tryz.checked.prog 3 Tryz.f3 Rows.holonomyElementsSpec Rows.holonomyElementsRow = true :=
  (z5V (z5V (z5V (z5V (z5V (z5V (z5V (z5V (z5V (z5V (z5V (z5V (z5V (z5V (z5V (z5V (z5V (z5V (z5V (z5V (z5V (z5V (z5V (z5V (z5V (z5V (z5V (z5V (z5V (z5V (z5V (by as_aux_lemma => kernel_rfl)
    (by as_aux_lemma => kernel_rfl))
    (by as_aux_lemma => kernel_rfl))
    (by as_aux_lemma => kernel_rfl))
    (by as_aux_lemma => kernel_rfl))
    (by as_aux_lemma => kernel_rfl))
    (by as_aux_lemma => kernel_rfl))
    (by as_aux_lemma => kernel_rfl))
    (by as_aux_lemma => kernel_rfl))
    (by as_aux_lemma => kernel_rfl))
    (by as_aux_lemma => kernel_rfl))
    (by as_aux_lemma => kernel_rfl))
    (by as_aux_lemma => kernel_rfl))
    (by as_aux_lemma => kernel_rfl))
    (by as_aux_lemma => kernel_rfl))
    (by as_aux_lemma => kernel_rfl))
    (by as_aux_lemma => kernel_rfl))
    (by as_aux_lemma => kernel_rfl))
    (by as_aux_lemma => kernel_rfl))
    (by as_aux_lemma => kernel_rfl))
    (by as_aux_lemma => kernel_rfl))
    (by as_aux_lemma => kernel_rfl))
    (by as_aux_lemma => kernel_rfl))
    (by as_aux_lemma => kernel_rfl))
    (by as_aux_lemma => kernel_rfl))
    (by as_aux_lemma => kernel_rfl))
    (by as_aux_lemma => kernel_rfl))
    (by as_aux_lemma => kernel_rfl))
    (by as_aux_lemma => kernel_rfl))
    (by as_aux_lemma => kernel_rfl))
    (by as_aux_lemma => kernel_rfl))
    (by as_aux_lemma => kernel_rfl))
set_option maxRecDepth 100000 in
theorem zkD (os : Os) (started : os.Started) (H : Type) (enc : TypeId × Value -> H) :
    ReturnsInHanded {} Tryz.checked os 3 .any (Rows.holonomyElementsSpec.pre6 enc Tryz.prog Tryz.f3 Rows.holonomyElementsRow.domain false) (Rows.holonomyElementsSpec.post enc Tryz.prog Tryz.f3 false true false false) := by
  refine returnsInHanded_of_change (C := Tryz.checked) (by kernel_rfl) started (by kernel_rfl) Tryz.func3
    (ChangeSpec.witness6 (enc := enc) (C := Tryz.checked) false ⟨#[], #[.slice none 0 0], []⟩ 8 (by kernel_rfl) (by kernel_rfl) (by kernel_rfl) (by kernel_rfl)) ?_
  intro W base args ds gs before hval0 hW hcnd _
  exact ziG H enc W base args ds gs before hval0 hW
theorem znT : Rows.holonomyElementsRow.holds Tryz.pinned (OpenSpec.ofChange Rows.holonomyElementsSpec) :=
  OpenClaim.holds_of_wide 3 Tryz.f3 rfl rfl rfl rfl rfl rfl rfl ⟨rfl, rfl, rfl, rfl, rfl⟩ rfl rfl rfl rfl rfl (by kernel_rfl) Tryz.func3 zlG
    (of_decide_eq_true (by kernel_rfl)) (by unfold Func.isWrapper; first | (rw [if_pos (by decide +kernel)]; kernel_rfl) | (rw [if_neg (by decide +kernel)]; exact ⟨rfl, rfl⟩))
    (fun os started H enc _ => zkD os started H enc)
theorem proved : Rows.HolonomyElementsSaid :=
  znT
#print axioms proved
end Go.Proofs.YtodliknibbafeaaGreat.holonomyElements
end
