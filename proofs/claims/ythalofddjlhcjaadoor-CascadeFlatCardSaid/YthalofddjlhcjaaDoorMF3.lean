/- Proved here: a part of the proof of the law at hand, in one text: no condition. -/
import Derived.Test.YthalofddjlhcjaaDoorMF2
import Derived.Test.YthalofddjlhcjaaDoorProg
import Derived.KernelRfl
set_option linter.unusedVariables false
set_option linter.unusedSimpArgs false
section
/- Facts on the types; what guides the run of each function; one contract for all. -/
namespace Go.Proofs.YthalofddjlhcjaaDoor
open Go
set_option maxRecDepth 100000

@[simp] theorem ty2 : tyOf Tryd.prog 2 = some ⟨.int .i64, 1, 8, (some [(.sc (.int .i64 0))])⟩ := by kernel_rfl
@[simp] theorem ty3 : tyOf Tryd.prog 3 = some ⟨.int .i64, 1, 8, (some [(.sc (.int .i64 0))])⟩ := by kernel_rfl
@[simp] theorem ty4 : tyOf Tryd.prog 4 = some ⟨.bool, 1, 1, (some [(.sc (.bool false))])⟩ := by kernel_rfl
@[simp] theorem ty5 : tyOf Tryd.prog 5 = some ⟨.int .u8, 1, 1, (some [(.sc (.int .u8 0))])⟩ := by kernel_rfl
@[simp] theorem ty9 : tyOf Tryd.prog 9 = some ⟨.string, 1, 16, (some [(.sc (.string ByteArray.empty))])⟩ := by kernel_rfl
@[simp] theorem ty22 : tyOf Tryd.prog 22 = some ⟨.slice 3, 1, 24, (some [(.os 1 0 [])])⟩ := by kernel_rfl
@[simp] theorem ty23 : tyOf Tryd.prog 23 = some ⟨.pointer 57, 1, 8, (some [(.sc (.pointer none))])⟩ := by kernel_rfl
@[simp] theorem ty25 : tyOf Tryd.prog 25 = some ⟨.slice 47, 1, 24, (some [(.os 2 0 [])])⟩ := by kernel_rfl
noncomputable def fs27 : Array Field := match Tryd.prog.underlying 27 with | some (.struct fs) => fs | _ => #[]
@[simp] theorem ty27 : tyOf Tryd.prog 27 = some ⟨.struct fs27, 3, 56, (some [(.sc (.int .i64 0)), (.os 1 0 []), (.os 2 0 [])])⟩ := by kernel_rfl
@[simp] theorem fi27_0 : fieldI Tryd.prog 27 0 = some (0, 1, false) := by kernel_rfl
@[simp] theorem fi27_1 : fieldI Tryd.prog 27 1 = some (1, 1, false) := by kernel_rfl
@[simp] theorem fi27_2 : fieldI Tryd.prog 27 2 = some (2, 1, false) := by kernel_rfl
@[simp] theorem st27 : structI Tryd.prog 27 = (some [(.sc (.int .i64 0)), (.os 1 0 []), (.os 2 0 [])]) := by kernel_rfl
@[simp] theorem bs27 (fr : Fr) (parts : List (Nat × Operand)) : buildE Tryd.prog fr 27 parts = match fillA fr (fieldI Tryd.prog 27) ([(.sc (.int .i64 0)), (.os 1 0 []), (.os 2 0 [])].map (A.t none)) parts with | some xs => some (E.ag xs) | none => none := buildE_struct st27 fr parts
@[simp] theorem ty33 : tyOf Tryd.prog 33 = some ⟨.int .i64, 1, 8, (some [(.sc (.int .i64 0))])⟩ := by kernel_rfl
@[simp] theorem ty40 : tyOf Tryd.prog 40 = some ⟨.slice 22, 1, 24, (some [(.os 1 0 [])])⟩ := by kernel_rfl
noncomputable def fs47 : Array Field := match Tryd.prog.underlying 47 with | some (.struct fs) => fs | _ => #[]
@[simp] theorem ty47 : tyOf Tryd.prog 47 = some ⟨.struct fs47, 2, 48, (some [(.os 1 0 []), (.os 1 0 [])])⟩ := by kernel_rfl
@[simp] theorem fi47_0 : fieldI Tryd.prog 47 0 = some (0, 1, false) := by kernel_rfl
@[simp] theorem fi47_1 : fieldI Tryd.prog 47 1 = some (1, 1, false) := by kernel_rfl
@[simp] theorem st47 : structI Tryd.prog 47 = (some [(.os 1 0 []), (.os 1 0 [])]) := by kernel_rfl
@[simp] theorem bs47 (fr : Fr) (parts : List (Nat × Operand)) : buildE Tryd.prog fr 47 parts = match fillA fr (fieldI Tryd.prog 47) ([(.os 1 0 []), (.os 1 0 [])].map (A.t none)) parts with | some xs => some (E.ag xs) | none => none := buildE_struct st47 fr parts
@[simp] theorem ty54 : tyOf Tryd.prog 54 = some ⟨.slice 5, 1, 24, (some [(.os 1 0 [])])⟩ := by kernel_rfl
noncomputable def fs57 : Array Field := match Tryd.prog.underlying 57 with | some (.struct fs) => fs | _ => #[]
@[simp] theorem ty57 : tyOf Tryd.prog 57 = some ⟨.struct fs57, 2, 32, (some [(.os 1 0 []), (.sc (.int .i64 0))])⟩ := by kernel_rfl
@[simp] theorem fi57_0 : fieldI Tryd.prog 57 0 = some (0, 1, false) := by kernel_rfl
@[simp] theorem fi57_1 : fieldI Tryd.prog 57 1 = some (1, 1, false) := by kernel_rfl
@[simp] theorem st57 : structI Tryd.prog 57 = (some [(.os 1 0 []), (.sc (.int .i64 0))]) := by kernel_rfl
@[simp] theorem bs57 (fr : Fr) (parts : List (Nat × Operand)) : buildE Tryd.prog fr 57 parts = match fillA fr (fieldI Tryd.prog 57) ([(.os 1 0 []), (.sc (.int .i64 0))].map (A.t none)) parts with | some xs => some (E.ag xs) | none => none := buildE_struct st57 fr parts
noncomputable def fs59 : Array Field := match Tryd.prog.underlying 59 with | some (.struct fs) => fs | _ => #[]
@[simp] theorem ty59 : tyOf Tryd.prog 59 = some ⟨.struct fs59, 3, 56, (some [(.sc (.int .i64 0)), (.os 1 0 []), (.os 2 0 [])])⟩ := by kernel_rfl
@[simp] theorem fi59_0 : fieldI Tryd.prog 59 0 = some (0, 3, true) := by kernel_rfl
@[simp] theorem st59 : structI Tryd.prog 59 = (some [(.sc (.int .i64 0)), (.os 1 0 []), (.os 2 0 [])]) := by kernel_rfl
@[simp] theorem bs59 (fr : Fr) (parts : List (Nat × Operand)) : buildE Tryd.prog fr 59 parts = match fillA fr (fieldI Tryd.prog 59) ([(.sc (.int .i64 0)), (.os 1 0 []), (.os 2 0 [])].map (A.t none)) parts with | some xs => some (E.ag xs) | none => none := buildE_struct st59 fr parts
@[simp] theorem ty68 : tyOf Tryd.prog 68 = some ⟨.map 9 3, 1, 8, (some [(.sc (.map none))])⟩ := by kernel_rfl
@[simp] theorem mt68 : mapTy Tryd.prog 68 = some (none, 3) := by kernel_rfl
@[simp] theorem zv68 : zeroV Tryd.prog 3 = some (.int .i64 0) := by kernel_rfl
@[simp] theorem ty77 : tyOf Tryd.prog 77 = some ⟨.slice 9, 1, 24, (some [(.os 1 0 [])])⟩ := by kernel_rfl
@[simp] theorem ty92 : tyOf Tryd.prog 92 = some ⟨.slice 94, 1, 24, (some [(.os 4 0 [])])⟩ := by kernel_rfl
noncomputable def fs94 : Array Field := match Tryd.prog.underlying 94 with | some (.struct fs) => fs | _ => #[]
@[simp] theorem ty94 : tyOf Tryd.prog 94 = some ⟨.struct fs94, 4, 4, (some [(.sc (.bool false)), (.sc (.bool false)), (.sc (.bool false)), (.sc (.bool false))])⟩ := by kernel_rfl
@[simp] theorem fi94_0 : fieldI Tryd.prog 94 0 = some (0, 1, false) := by kernel_rfl
@[simp] theorem fi94_1 : fieldI Tryd.prog 94 1 = some (1, 1, false) := by kernel_rfl
@[simp] theorem fi94_2 : fieldI Tryd.prog 94 2 = some (2, 1, false) := by kernel_rfl
@[simp] theorem fi94_3 : fieldI Tryd.prog 94 3 = some (3, 1, false) := by kernel_rfl
@[simp] theorem st94 : structI Tryd.prog 94 = (some [(.sc (.bool false)), (.sc (.bool false)), (.sc (.bool false)), (.sc (.bool false))]) := by kernel_rfl
@[simp] theorem bs94 (fr : Fr) (parts : List (Nat × Operand)) : buildE Tryd.prog fr 94 parts = match fillA fr (fieldI Tryd.prog 94) ([(.sc (.bool false)), (.sc (.bool false)), (.sc (.bool false)), (.sc (.bool false))].map (A.t none)) parts with | some xs => some (E.ag xs) | none => none := buildE_struct st94 fr parts
@[simp] theorem ty102 : tyOf Tryd.prog 102 = some ⟨.int .u64, 1, 8, (some [(.sc (.int .u64 0))])⟩ := by kernel_rfl
@[simp] theorem ty104 : tyOf Tryd.prog 104 = some ⟨.pointer 94, 1, 8, (some [(.sc (.pointer none))])⟩ := by kernel_rfl
@[simp] theorem ty105 : tyOf Tryd.prog 105 = some ⟨.array 32 4, 32, 32, (some [(.sc (.bool false)), (.sc (.bool false)), (.sc (.bool false)), (.sc (.bool false)), (.sc (.bool false)), (.sc (.bool false)), (.sc (.bool false)), (.sc (.bool false)), (.sc (.bool false)), (.sc (.bool false)), (.sc (.bool false)), (.sc (.bool false)), (.sc (.bool false)), (.sc (.bool false)), (.sc (.bool false)), (.sc (.bool false)), (.sc (.bool false)), (.sc (.bool false)), (.sc (.bool false)), (.sc (.bool false)), (.sc (.bool false)), (.sc (.bool false)), (.sc (.bool false)), (.sc (.bool false)), (.sc (.bool false)), (.sc (.bool false)), (.sc (.bool false)), (.sc (.bool false)), (.sc (.bool false)), (.sc (.bool false)), (.sc (.bool false)), (.sc (.bool false))])⟩ := by kernel_rfl
@[simp] theorem ty112 : tyOf Tryd.prog 112 = some ⟨.int .u64, 1, 8, (some [(.sc (.int .u64 0))])⟩ := by kernel_rfl
@[simp] theorem ty117 : tyOf Tryd.prog 117 = some ⟨.array 24 5, 24, 24, (some [(.sc (.int .u8 0)), (.sc (.int .u8 0)), (.sc (.int .u8 0)), (.sc (.int .u8 0)), (.sc (.int .u8 0)), (.sc (.int .u8 0)), (.sc (.int .u8 0)), (.sc (.int .u8 0)), (.sc (.int .u8 0)), (.sc (.int .u8 0)), (.sc (.int .u8 0)), (.sc (.int .u8 0)), (.sc (.int .u8 0)), (.sc (.int .u8 0)), (.sc (.int .u8 0)), (.sc (.int .u8 0)), (.sc (.int .u8 0)), (.sc (.int .u8 0)), (.sc (.int .u8 0)), (.sc (.int .u8 0)), (.sc (.int .u8 0)), (.sc (.int .u8 0)), (.sc (.int .u8 0)), (.sc (.int .u8 0))])⟩ := by kernel_rfl

-- semigroup/semigrouplaw26.CascadeOrder
def cf3 : Cfg := { wio := fun f i => (f == 16 && (i == 0)) || (f == 14 && (i == 0)) || (f == 12 && (i == 0)) || (f == 13 && (i == 0)), live := fun r => if r = 7 then some [1, 5, 6, 7, 8, 9, 10] else none, dr := fun r => if r = 3 then some [(0, 0), (1, 0), (3, 0), (4, 0), (5, 0), (2, 1), (6, 1), (7, 0), (8, 0)] else if r = 14 then some [(0, 0), (1, 0), (2, 0), (3, 0), (4, 0), (5, 0), (6, 0), (7, 0), (8, 0), (9, 0), (10, 0), (11, 0), (12, 0), (13, 0), (14, 0), (15, 0), (16, 0), (17, 0), (18, 0), (19, 1), (20, 0), (21, 0), (22, 1), (23, 0), (24, 0)] else none, wr := fun r => if r = 3 then [16] else [] }
@[simp] theorem wio3 : cf3.wio = fun f i => (f == 16 && (i == 0)) || (f == 14 && (i == 0)) || (f == 12 && (i == 0)) || (f == 13 && (i == 0)) := rfl
@[simp] theorem live3 : cf3.live = fun r => if r = 7 then some [1, 5, 6, 7, 8, 9, 10] else none := rfl
@[simp] theorem wr3 : cf3.wr = fun r => if r = 3 then [16] else [] := rfl
-- semigroup/semigrouplaw26.CascadeRuns
def cf4 : Cfg := { wio := fun f i => (f == 16 && (i == 0)) || (f == 14 && (i == 0)) || (f == 12 && (i == 0)) || (f == 13 && (i == 0)), live := fun r => none, dr := fun r => if r = 3 then some [(0, 0), (1, 0), (3, 0), (4, 0), (5, 0), (7, 0), (8, 0), (9, 0), (2, 1), (6, 1), (10, 1), (11, 0), (12, 0), (13, 0)] else none, wr := fun r => if r = 3 then [15] else [] }
@[simp] theorem wio4 : cf4.wio = fun f i => (f == 16 && (i == 0)) || (f == 14 && (i == 0)) || (f == 12 && (i == 0)) || (f == 13 && (i == 0)) := rfl
@[simp] theorem live4 : cf4.live = fun r => none := rfl
@[simp] theorem wr4 : cf4.wr = fun r => if r = 3 then [15] else [] := rfl
-- semigroup/semigrouplaw26.CascadeFlat
def cf5 : Cfg := { wio := fun f i => false, live := fun r => none, dr := fun r => none }
@[simp] theorem wio5 : cf5.wio = fun f i => false := rfl
@[simp] theorem live5 : cf5.live = fun r => none := rfl
@[simp] theorem wr5 : cf5.wr = fun _ => [] := rfl
-- semigroup/semigrouplaw26.CascadeRaw
def cf6 : Cfg := { wio := fun f i => false, live := fun r => none, dr := fun r => none }
@[simp] theorem wio6 : cf6.wio = fun f i => false := rfl
@[simp] theorem live6 : cf6.live = fun r => none := rfl
@[simp] theorem wr6 : cf6.wr = fun _ => [] := rfl
-- semigroup/semigrouplaw26.CascadeMade
def cf7 : Cfg := { wio := fun f i => false, live := fun r => none, dr := fun r => if r = 3 then some [(0, 0), (1, 0), (2, 0), (4, 0), (6, 0), (7, 0), (8, 0), (3, 1), (5, 1), (9, 1), (10, 1), (11, 0), (12, 1), (13, 0), (14, 0)] else none }
@[simp] theorem wio7 : cf7.wio = fun f i => false := rfl
@[simp] theorem live7 : cf7.live = fun r => none := rfl
@[simp] theorem wr7 : cf7.wr = fun _ => [] := rfl
-- semigroup/semigrouplaw26.CascadeText
def cf9 : Cfg := { wio := fun f i => false, live := fun r => none, dr := fun r => if r = 13 then some [(0, 0), (1, 0), (2, 0), (3, 0), (7, 0), (8, 0), (9, 0), (4, 1), (5, 0), (6, 0), (10, 0), (11, 0)] else if r = 16 then some [(0, 0), (1, 0), (2, 0), (3, 0), (4, 0), (5, 0), (6, 0), (7, 0), (8, 0), (9, 0), (10, 0), (11, 0), (12, 0), (13, 0), (14, 0), (15, 0), (16, 0), (17, 0)] else none }
@[simp] theorem wio9 : cf9.wio = fun f i => false := rfl
@[simp] theorem live9 : cf9.live = fun r => none := rfl
@[simp] theorem wr9 : cf9.wr = fun _ => [] := rfl
-- semigroup/semigrouplaw26.CascadeBack
def cf10 : Cfg := { wio := fun f i => false, live := fun r => none, dr := fun r => none }
@[simp] theorem wio10 : cf10.wio = fun f i => false := rfl
@[simp] theorem live10 : cf10.live = fun r => none := rfl
@[simp] theorem wr10 : cf10.wr = fun _ => [] := rfl
-- semigroup/semigroupmade.New
def cf11 : Cfg := { wio := fun f i => false, live := fun r => none, dr := fun r => none }
@[simp] theorem wio11 : cf11.wio = fun f i => false := rfl
@[simp] theorem live11 : cf11.live = fun r => none := rfl
@[simp] theorem wr11 : cf11.wr = fun _ => [] := rfl
-- semigroup/semigrouplaw26.build
def cf12 : Cfg := { wio := fun f i => (f == 16 && (i == 0)), live := fun r => if r = 4 then some [0, 2, 3, 4, 5] else if r = 10 then some [0, 2, 3, 5, 6, 7, 38, 39, 40] else if r = 15 then some [0, 2, 3, 5, 6, 7, 9, 10, 11, 38, 39, 40] else if r = 20 then some [0, 2, 3, 5, 6, 7, 9, 10, 11, 12, 13, 14, 15, 38, 39, 40] else if r = 31 then some [0, 2, 3, 5, 6, 7, 9, 16, 38, 39, 40] else none, dr := fun r => none, fz := fun r => if r = 9 then some [4] else none }
@[simp] theorem wio12 : cf12.wio = fun f i => (f == 16 && (i == 0)) := rfl
@[simp] theorem live12 : cf12.live = fun r => if r = 4 then some [0, 2, 3, 4, 5] else if r = 10 then some [0, 2, 3, 5, 6, 7, 38, 39, 40] else if r = 15 then some [0, 2, 3, 5, 6, 7, 9, 10, 11, 38, 39, 40] else if r = 20 then some [0, 2, 3, 5, 6, 7, 9, 10, 11, 12, 13, 14, 15, 38, 39, 40] else if r = 31 then some [0, 2, 3, 5, 6, 7, 9, 16, 38, 39, 40] else none := rfl
@[simp] theorem wr12 : cf12.wr = fun _ => [] := rfl
-- semigroup/semigrouplaw26.tuple
def cf13 : Cfg := { wio := fun f i => (f == 16 && (i == 0)), live := fun r => if r = 3 then some [0, 5, 10, 11, 12] else none, dr := fun r => none }
@[simp] theorem wio13 : cf13.wio = fun f i => (f == 16 && (i == 0)) := rfl
@[simp] theorem live13 : cf13.live = fun r => if r = 3 then some [0, 5, 10, 11, 12] else none := rfl
@[simp] theorem wr13 : cf13.wr = fun _ => [] := rfl
-- (*semigroup/semigroupmade.Tape).Word
def cf14 : Cfg := { wio := fun f i => (f == 16 && (i == 0)), live := fun r => if r = 3 then some [0, 1, 7, 8] else none, dr := fun r => none }
@[simp] theorem wio14 : cf14.wio = fun f i => (f == 16 && (i == 0)) := rfl
@[simp] theorem live14 : cf14.live = fun r => if r = 3 then some [0, 1, 7, 8] else none := rfl
@[simp] theorem wr14 : cf14.wr = fun _ => [] := rfl
-- semigroup/semigroupmade.Mod
def cf15 : Cfg := { wio := fun f i => false, live := fun r => none, dr := fun r => none }
@[simp] theorem wio15 : cf15.wio = fun f i => false := rfl
@[simp] theorem live15 : cf15.live = fun r => none := rfl
@[simp] theorem wr15 : cf15.wr = fun _ => [] := rfl
-- (*semigroup/semigroupmade.Tape).Next
def cf16 : Cfg := { wio := fun f i => false, live := fun r => none, dr := fun r => if r = 1 then some [(0, 0), (1, 0), (2, 0), (3, 0), (4, 0), (5, 0), (6, 0), (7, 0), (8, 0), (9, 0)] else if r = 4 then some [(0, 0), (1, 0), (2, 0), (3, 0), (4, 0), (5, 0), (6, 0), (7, 0), (8, 0), (9, 0), (10, 0), (11, 0), (12, 1), (13, 0)] else none }
@[simp] theorem wio16 : cf16.wio = fun f i => false := rfl
@[simp] theorem live16 : cf16.live = fun r => none := rfl
@[simp] theorem wr16 : cf16.wr = fun _ => [] := rfl
-- semigroup/cascade.Run
def cf17 : Cfg := { wio := fun f i => false, live := fun r => if r = 8 then some [2, 8, 10, 35, 36] else none, dr := fun r => if r = 10 then some [(0, 0), (1, 0), (2, 0), (3, 0), (4, 0), (5, 0), (6, 0), (7, 1), (8, 0), (9, 0), (10, 0), (11, 0), (12, 0)] else none }
@[simp] theorem wio17 : cf17.wio = fun f i => false := rfl
@[simp] theorem live17 : cf17.live = fun r => if r = 8 then some [2, 8, 10, 35, 36] else none := rfl
@[simp] theorem wr17 : cf17.wr = fun _ => [] := rfl
-- semigroup/semigrouplaw26.known
def cf18 : Cfg := { wio := fun f i => false, live := fun r => none, dr := fun r => none }
@[simp] theorem wio18 : cf18.wio = fun f i => false := rfl
@[simp] theorem live18 : cf18.live = fun r => none := rfl
@[simp] theorem wr18 : cf18.wr = fun _ => [] := rfl
-- semigroup/semigroupref03.Same
def cf19 : Cfg := { wio := fun f i => false, live := fun r => if r = 4 then some [0, 1, 12, 13] else none, dr := fun r => if r = 6 then some [(0, 0), (1, 0), (2, 0), (3, 0), (4, 0), (5, 0), (6, 0), (7, 0), (8, 0)] else none }
@[simp] theorem wio19 : cf19.wio = fun f i => false := rfl
@[simp] theorem live19 : cf19.live = fun r => if r = 4 then some [0, 1, 12, 13] else none := rfl
@[simp] theorem wr19 : cf19.wr = fun _ => [] := rfl
-- semigroup/cascade.Flat
def cf20 : Cfg := { wio := fun f i => false, live := fun r => if r = 10 then some [2, 7, 9, 10, 11, 12] else if r = 14 then some [2, 7, 9, 10, 11, 12, 13, 50, 51] else none, dr := fun r => if r = 16 then some [(0, 0), (1, 0), (2, 0), (3, 0), (4, 0), (5, 0), (6, 1), (7, 0), (8, 0), (9, 0), (10, 0), (11, 0)] else none }
@[simp] theorem wio20 : cf20.wio = fun f i => false := rfl
@[simp] theorem live20 : cf20.live = fun r => if r = 10 then some [2, 7, 9, 10, 11, 12] else if r = 14 then some [2, 7, 9, 10, 11, 12, 13, 50, 51] else none := rfl
@[simp] theorem wr20 : cf20.wr = fun _ => [] := rfl
-- semigroup/semigroupref26.Flat
def cf21 : Cfg := { wio := fun f i => false, live := fun r => if r = 9 then some [2, 8, 9, 10] else if r = 13 then some [2, 8, 9, 10, 11, 12] else none, dr := fun r => if r = 15 then some [(0, 0), (1, 0), (2, 0), (3, 0), (4, 0), (5, 0), (6, 1), (7, 0), (8, 0), (9, 0), (10, 0), (11, 0)] else none }
@[simp] theorem wio21 : cf21.wio = fun f i => false := rfl
@[simp] theorem live21 : cf21.live = fun r => if r = 9 then some [2, 8, 9, 10] else if r = 13 then some [2, 8, 9, 10, 11, 12] else none := rfl
@[simp] theorem wr21 : cf21.wr = fun _ => [] := rfl
-- semigroup/semigroupref03.SameRows
def cf22 : Cfg := { wio := fun f i => false, live := fun r => if r = 4 then some [0, 1, 12, 13] else none, dr := fun r => if r = 6 then some [(0, 0), (1, 0), (2, 0), (3, 0), (4, 0), (5, 0), (6, 0), (7, 0), (8, 1), (9, 0)] else none }
@[simp] theorem wio22 : cf22.wio = fun f i => false := rfl
@[simp] theorem live22 : cf22.live = fun r => if r = 4 then some [0, 1, 12, 13] else none := rfl
@[simp] theorem wr22 : cf22.wr = fun _ => [] := rfl
-- semigroup/semigrouplaw26.few
def cf23 : Cfg := { wio := fun f i => false, live := fun r => if r = 4 then some [16, 17, 18] else none, dr := fun r => none }
@[simp] theorem wio23 : cf23.wio = fun f i => false := rfl
@[simp] theorem live23 : cf23.live = fun r => if r = 4 then some [16, 17, 18] else none := rfl
@[simp] theorem wr23 : cf23.wr = fun _ => [] := rfl
-- semigroup/semigrouplaw26.all
def cf24 : Cfg := { wio := fun f i => false, live := fun r => none, dr := fun r => if r = 1 then some [(0, 0), (2, 0), (1, 1), (3, 1), (4, 0), (5, 0), (6, 0), (8, 0), (7, 1), (9, 1), (10, 1), (11, 0), (12, 0)] else none }
@[simp] theorem wio24 : cf24.wio = fun f i => false := rfl
@[simp] theorem live24 : cf24.live = fun r => none := rfl
@[simp] theorem wr24 : cf24.wr = fun _ => [] := rfl
-- semigroup/cascade.Parse
def cf25 : Cfg := { wio := fun f i => false, live := fun r => if r = 5 then some [0, 2, 5, 6] else none, dr := fun r => if r = 20 then some [(0, 0), (1, 0), (2, 0), (3, 3), (4, 3), (5, 0), (6, 2), (7, 0), (8, 2)] else none }
@[simp] theorem wio25 : cf25.wio = fun f i => false := rfl
@[simp] theorem live25 : cf25.live = fun r => if r = 5 then some [0, 2, 5, 6] else none := rfl
@[simp] theorem wr25 : cf25.wr = fun _ => [] := rfl
-- semigroup/semigroupref26.Parse
def cf26 : Cfg := { wio := fun f i => false, live := fun r => if r = 7 then some [0, 2, 5, 6, 7] else if r = 10 then some [0, 2, 5, 6, 7, 8] else if r = 18 then some [0, 2, 5, 6, 8, 10, 11, 79, 80, 81] else none, dr := fun r => if r = 30 then some [(0, 3), (1, 3), (2, 3), (3, 3), (4, 0), (5, 0), (6, 0), (7, 0), (8, 0), (9, 0), (10, 0), (11, 1), (12, 2), (13, 0), (14, 2)] else if r = 35 then some [(0, 0), (1, 0), (2, 0), (3, 0), (4, 0), (5, 0), (6, 3), (7, 0), (8, 2), (9, 0), (10, 2)] else none }
@[simp] theorem wio26 : cf26.wio = fun f i => false := rfl
@[simp] theorem live26 : cf26.live = fun r => if r = 7 then some [0, 2, 5, 6, 7] else if r = 10 then some [0, 2, 5, 6, 7, 8] else if r = 18 then some [0, 2, 5, 6, 8, 10, 11, 79, 80, 81] else none := rfl
@[simp] theorem wr26 : cf26.wr = fun _ => [] := rfl
-- semigroup/semigroupref26.Same
def cf27 : Cfg := { wio := fun f i => false, live := fun r => if r = 4 then some [2, 3, 30, 31] else none, dr := fun r => if r = 6 then some [(0, 0), (1, 0), (2, 0), (3, 0), (4, 0), (5, 0), (6, 0), (7, 0), (8, 0), (9, 0), (10, 0), (11, 0), (12, 1), (13, 0), (14, 0), (15, 0), (16, 0), (17, 0), (18, 0), (19, 0), (20, 0), (21, 0), (22, 0), (23, 0), (24, 0), (25, 0), (26, 0), (27, 1), (28, 0), (29, 0)] else none }
@[simp] theorem wio27 : cf27.wio = fun f i => false := rfl
@[simp] theorem live27 : cf27.live = fun r => if r = 4 then some [2, 3, 30, 31] else none := rfl
@[simp] theorem wr27 : cf27.wr = fun _ => [] := rfl
-- semigroup/semigroupref26.Format
def cf28 : Cfg := { wio := fun f i => false, live := fun r => if r = 6 then some [1, 5, 26, 27, 28] else if r = 12 then some [5, 41, 42, 43] else if r = 16 then some [5, 9, 41, 42, 43, 50, 51, 52] else if r = 21 then some [5, 41, 42, 43, 63, 64, 65] else if r = 25 then some [5, 41, 42, 43, 63, 64, 65, 71, 72, 73] else none, dr := fun r => none }
@[simp] theorem wio28 : cf28.wio = fun f i => false := rfl
@[simp] theorem live28 : cf28.live = fun r => if r = 6 then some [1, 5, 26, 27, 28] else if r = 12 then some [5, 41, 42, 43] else if r = 16 then some [5, 9, 41, 42, 43, 50, 51, 52] else if r = 21 then some [5, 41, 42, 43, 63, 64, 65] else if r = 25 then some [5, 41, 42, 43, 63, 64, 65, 71, 72, 73] else none := rfl
@[simp] theorem wr28 : cf28.wr = fun _ => [] := rfl
-- semigroup/cascade.Format
def cf29 : Cfg := { wio := fun f i => (f == 55 && (i == 0)), live := fun r => if r = 7 then some [5, 28, 29, 30] else if r = 11 then some [5, 28, 29, 30, 40, 41, 42] else none, dr := fun r => if r = 9 then some [(0, 0), (2, 3), (3, 3), (1, 2), (4, 2), (5, 0)] else none, fz := fun r => if r = 9 then some [7] else none }
@[simp] theorem wio29 : cf29.wio = fun f i => (f == 55 && (i == 0)) := rfl
@[simp] theorem live29 : cf29.live = fun r => if r = 7 then some [5, 28, 29, 30] else if r = 11 then some [5, 28, 29, 30, 40, 41, 42] else none := rfl
@[simp] theorem wr29 : cf29.wr = fun _ => [] := rfl
-- semigroup/cascade.NewRunner
def cf30 : Cfg := { wio := fun f i => false, live := fun r => none, dr := fun r => none }
@[simp] theorem wio30 : cf30.wio = fun f i => false := rfl
@[simp] theorem live30 : cf30.live = fun r => none := rfl
@[simp] theorem wr30 : cf30.wr = fun _ => [] := rfl
-- semigroup/cascade.isTuple
def cf31 : Cfg := { wio := fun f i => false, live := fun r => if r = 4 then some [0, 12, 13, 14] else none, dr := fun r => none }
@[simp] theorem wio31 : cf31.wio = fun f i => false := rfl
@[simp] theorem live31 : cf31.live = fun r => if r = 4 then some [0, 12, 13, 14] else none := rfl
@[simp] theorem wr31 : cf31.wr = fun _ => [] := rfl
-- semigroup/word.Valid
def cf32 : Cfg := { wio := fun f i => false, live := fun r => if r = 4 then some [0, 1, 18, 19] else none, dr := fun r => none }
@[simp] theorem wio32 : cf32.wio = fun f i => false := rfl
@[simp] theorem live32 : cf32.live = fun r => if r = 4 then some [0, 1, 18, 19] else none := rfl
@[simp] theorem wr32 : cf32.wr = fun _ => [] := rfl
-- (semigroup/cascade.Runner).Step
def cf34 : Cfg := { wio := fun f i => false, live := fun r => if r = 5 then some [1, 2, 3, 8, 33, 34, 35] else none, dr := fun r => if r = 7 then some [(0, 0), (1, 0), (2, 0), (3, 0), (4, 0), (5, 0), (6, 1), (7, 0), (8, 0), (9, 0), (10, 0), (11, 0)] else none }
@[simp] theorem wio34 : cf34.wio = fun f i => false := rfl
@[simp] theorem live34 : cf34.live = fun r => if r = 5 then some [1, 2, 3, 8, 33, 34, 35] else none := rfl
@[simp] theorem wr34 : cf34.wr = fun _ => [] := rfl
-- semigroup/cascade.Step
def cf35 : Cfg := { wio := fun f i => false, live := fun r => none, dr := fun r => none }
@[simp] theorem wio35 : cf35.wio = fun f i => false := rfl
@[simp] theorem live35 : cf35.live = fun r => none := rfl
@[simp] theorem wr35 : cf35.wr = fun _ => [] := rfl
-- semigroup/semigrouplaw26.example
def cf36 : Cfg := { wio := fun f i => false, live := fun r => none, dr := fun r => none }
@[simp] theorem wio36 : cf36.wio = fun f i => false := rfl
@[simp] theorem live36 : cf36.live = fun r => none := rfl
@[simp] theorem wr36 : cf36.wr = fun _ => [] := rfl
-- semigroup/cascade.key
def cf37 : Cfg := { wio := fun f i => false, live := fun r => if r = 3 then some [3, 9, 10, 11] else none, dr := fun r => none }
@[simp] theorem wio37 : cf37.wio = fun f i => false := rfl
@[simp] theorem live37 : cf37.live = fun r => if r = 3 then some [3, 9, 10, 11] else none := rfl
@[simp] theorem wr37 : cf37.wr = fun _ => [] := rfl
-- semigroup/semigroupref26.Validate
def cf38 : Cfg := { wio := fun f i => false, live := fun r => if r = 6 then some [1, 31, 32, 33] else if r = 12 then some [1, 45, 46, 47] else if r = 18 then some [1, 7, 45, 46, 47, 100, 101, 102] else if r = 23 then some [1, 7, 45, 46, 47, 100, 101, 102, 110, 111, 112] else none, dr := fun r => if r = 14 then some [(0, 0), (1, 0), (2, 0), (3, 0), (4, 0), (5, 0), (6, 0), (7, 0), (8, 0), (9, 0), (10, 0), (11, 0), (12, 1), (13, 0), (14, 0), (15, 0), (16, 0), (17, 0), (18, 0), (19, 0), (20, 0), (21, 0), (22, 0), (23, 0), (24, 0), (25, 0), (26, 0), (27, 0), (28, 1), (29, 0), (30, 0), (31, 0), (32, 0), (33, 0), (34, 0), (35, 0), (36, 0), (37, 0), (38, 0), (39, 0)] else none }
@[simp] theorem wio38 : cf38.wio = fun f i => false := rfl
@[simp] theorem live38 : cf38.live = fun r => if r = 6 then some [1, 31, 32, 33] else if r = 12 then some [1, 45, 46, 47] else if r = 18 then some [1, 7, 45, 46, 47, 100, 101, 102] else if r = 23 then some [1, 7, 45, 46, 47, 100, 101, 102, 110, 111, 112] else none := rfl
@[simp] theorem wr38 : cf38.wr = fun _ => [] := rfl
-- semigroup/semigroupref26.IsTuple
def cf39 : Cfg := { wio := fun f i => false, live := fun r => none, dr := fun r => none }
@[simp] theorem wio39 : cf39.wio = fun f i => false := rfl
@[simp] theorem live39 : cf39.live = fun r => none := rfl
@[simp] theorem wr39 : cf39.wr = fun _ => [] := rfl
-- semigroup/semigroupref26.step
def cf40 : Cfg := { wio := fun f i => false, live := fun r => if r = 3 then some [1, 2, 3, 8, 13, 14] else none, dr := fun r => if r = 5 then some [(0, 0), (1, 0), (2, 0), (3, 0), (4, 1), (5, 0)] else if r = 8 then some [(0, 0), (1, 0), (2, 0), (3, 0), (4, 0), (5, 0), (6, 0), (7, 0), (8, 0), (9, 0), (10, 0), (11, 0), (12, 0), (13, 0), (14, 0), (15, 0), (16, 1), (17, 2), (18, 0)] else none }
@[simp] theorem wio40 : cf40.wio = fun f i => false := rfl
@[simp] theorem live40 : cf40.live = fun r => if r = 3 then some [1, 2, 3, 8, 13, 14] else none := rfl
@[simp] theorem wr40 : cf40.wr = fun _ => [] := rfl
-- semigroup/semigroupref26.Find
def cf41 : Cfg := { wio := fun f i => false, live := fun r => if r = 2 then some [1, 7, 8, 9] else none, dr := fun r => none }
@[simp] theorem wio41 : cf41.wio = fun f i => false := rfl
@[simp] theorem live41 : cf41.live = fun r => if r = 2 then some [1, 7, 8, 9] else none := rfl
@[simp] theorem wr41 : cf41.wr = fun _ => [] := rfl
-- semigroup/semigroupmade.FewRows
def cf42 : Cfg := { wio := fun f i => false, live := fun r => if r = 4 then some [8, 9, 10] else none, dr := fun r => none }
@[simp] theorem wio42 : cf42.wio = fun f i => false := rfl
@[simp] theorem live42 : cf42.live = fun r => if r = 4 then some [8, 9, 10] else none := rfl
@[simp] theorem wr42 : cf42.wr = fun _ => [] := rfl
-- semigroup/cascade.Validate
def cf43 : Cfg := { wio := fun f i => false, live := fun r => if r = 6 then some [1, 26, 27, 28] else if r = 12 then some [1, 40, 41, 42] else none, dr := fun r => if r = 14 then some [(0, 0), (1, 0), (2, 1), (3, 0), (4, 0), (5, 0), (6, 0), (7, 0), (8, 0), (9, 0), (10, 0), (11, 0), (12, 0), (13, 0), (14, 0), (15, 0), (16, 0), (17, 1), (18, 0), (19, 0), (20, 0)] else none }
@[simp] theorem wio43 : cf43.wio = fun f i => false := rfl
@[simp] theorem live43 : cf43.live = fun r => if r = 6 then some [1, 26, 27, 28] else if r = 12 then some [1, 40, 41, 42] else none := rfl
@[simp] theorem wr43 : cf43.wr = fun _ => [] := rfl
-- semigroup/cascade.Kinds
def cf44 : Cfg := { wio := fun f i => false, live := fun r => if r = 5 then some [1, 3, 20, 21] else if r = 10 then some [3, 30, 31, 32] else if r = 13 then some [3, 6, 30, 31, 32, 37, 38, 39] else if r = 20 then some [9, 55, 56, 57] else none, dr := fun r => none }
@[simp] theorem wio44 : cf44.wio = fun f i => false := rfl
@[simp] theorem live44 : cf44.live = fun r => if r = 5 then some [1, 3, 20, 21] else if r = 10 then some [3, 30, 31, 32] else if r = 13 then some [3, 6, 30, 31, 32, 37, 38, 39] else if r = 20 then some [9, 55, 56, 57] else none := rfl
@[simp] theorem wr44 : cf44.wr = fun _ => [] := rfl
-- semigroup/semigroupref26.Kinds
def cf45 : Cfg := { wio := fun f i => false, live := fun r => if r = 5 then some [1, 3, 21, 22] else if r = 9 then some [1, 3, 4, 5, 6, 7, 8, 21, 22, 26, 27, 28] else if r = 12 then some [1, 3, 4, 5, 6, 7, 8, 10, 21, 22, 26, 27, 28, 33, 34, 35] else none, dr := fun r => none }
@[simp] theorem wio45 : cf45.wio = fun f i => false := rfl
@[simp] theorem live45 : cf45.live = fun r => if r = 5 then some [1, 3, 21, 22] else if r = 9 then some [1, 3, 4, 5, 6, 7, 8, 21, 22, 26, 27, 28] else if r = 12 then some [1, 3, 4, 5, 6, 7, 8, 10, 21, 22, 26, 27, 28, 33, 34, 35] else none := rfl
@[simp] theorem wr45 : cf45.wr = fun _ => [] := rfl
-- semigroup/semigroupref26.Step
def cf46 : Cfg := { wio := fun f i => false, live := fun r => none, dr := fun r => none }
@[simp] theorem wio46 : cf46.wio = fun f i => false := rfl
@[simp] theorem live46 : cf46.live = fun r => none := rfl
@[simp] theorem wr46 : cf46.wr = fun _ => [] := rfl
-- semigroup/semigroupref26.Run
def cf47 : Cfg := { wio := fun f i => false, live := fun r => if r = 8 then some [2, 3, 9, 10] else none, dr := fun r => if r = 10 then some [(0, 0), (1, 0), (2, 0), (3, 0), (4, 0), (5, 0), (6, 0), (7, 1), (8, 0), (9, 0), (10, 0), (11, 0), (12, 0)] else none }
@[simp] theorem wio47 : cf47.wio = fun f i => false := rfl
@[simp] theorem live47 : cf47.live = fun r => if r = 8 then some [2, 3, 9, 10] else none := rfl
@[simp] theorem wr47 : cf47.wr = fun _ => [] := rfl
-- strings.Cut
def cf48 : Cfg := { wio := fun f i => false, live := fun r => none, dr := fun r => none }
@[simp] theorem wio48 : cf48.wio = fun f i => false := rfl
@[simp] theorem live48 : cf48.live = fun r => none := rfl
@[simp] theorem wr48 : cf48.wr = fun _ => [] := rfl
-- strings.Split
def cf49 : Cfg := { wio := fun f i => false, live := fun r => none, dr := fun r => none }
@[simp] theorem wio49 : cf49.wio = fun f i => false := rfl
@[simp] theorem live49 : cf49.live = fun r => none := rfl
@[simp] theorem wr49 : cf49.wr = fun _ => [] := rfl
-- semigroup/cascade.parseRow
def cf50 : Cfg := { wio := fun f i => false, live := fun r => if r = 6 then some [0, 2, 4, 5, 6] else none, dr := fun r => none }
@[simp] theorem wio50 : cf50.wio = fun f i => false := rfl
@[simp] theorem live50 : cf50.live = fun r => if r = 6 then some [0, 2, 4, 5, 6] else none := rfl
@[simp] theorem wr50 : cf50.wr = fun _ => [] := rfl
-- semigroup/cascade.parseNumbers
def cf51 : Cfg := { wio := fun f i => false, live := fun r => if r = 3 then some [4, 9, 10, 11] else none, dr := fun r => none }
@[simp] theorem wio51 : cf51.wio = fun f i => false := rfl
@[simp] theorem live51 : cf51.live = fun r => if r = 3 then some [4, 9, 10, 11] else none := rfl
@[simp] theorem wr51 : cf51.wr = fun _ => [] := rfl
-- semigroup/semigroupref26.split
def cf52 : Cfg := { wio := fun f i => false, live := fun r => if r = 4 then some [0, 3, 4, 5] else none, dr := fun r => none }
@[simp] theorem wio52 : cf52.wio = fun f i => false := rfl
@[simp] theorem live52 : cf52.live = fun r => if r = 4 then some [0, 3, 4, 5] else none := rfl
@[simp] theorem wr52 : cf52.wr = fun _ => [] := rfl
-- semigroup/semigroupref26.number
def cf53 : Cfg := { wio := fun f i => false, live := fun r => if r = 5 then some [0, 3, 4] else none, dr := fun r => none }
@[simp] theorem wio53 : cf53.wio = fun f i => false := rfl
@[simp] theorem live53 : cf53.live = fun r => if r = 5 then some [0, 3, 4] else none := rfl
@[simp] theorem wr53 : cf53.wr = fun _ => [] := rfl
-- semigroup/cascade.appendNumbers
def cf55 : Cfg := { wio := fun f i => (f == 70 && (i == 0)), live := fun r => if r = 2 then some [0, 7, 8, 9, 999999] else none, dr := fun r => none }
@[simp] theorem wio55 : cf55.wio = fun f i => (f == 70 && (i == 0)) := rfl
@[simp] theorem live55 : cf55.live = fun r => if r = 2 then some [0, 7, 8, 9, 999999] else none := rfl
@[simp] theorem wr55 : cf55.wr = fun _ => [] := rfl
-- slices.BinarySearchFunc[[]semigroup/api.CascadeRow,semigroup/api.CascadeRow,[]int]
def cf56 : Cfg := { wio := fun f i => false, live := fun r => if r = 3 then some [0, 1, 2, 8, 9, 10] else none, dr := fun r => none }
@[simp] theorem wio56 : cf56.wio = fun f i => false := rfl
@[simp] theorem live56 : cf56.live = fun r => if r = 3 then some [0, 1, 2, 8, 9, 10] else none := rfl
@[simp] theorem wr56 : cf56.wr = fun _ => [] := rfl
-- (semigroup/cascade.Runner).Step$1
def cf57 : Cfg := { wio := fun f i => false, live := fun r => none, dr := fun r => none }
@[simp] theorem wio57 : cf57.wio = fun f i => false := rfl
@[simp] theorem live57 : cf57.live = fun r => none := rfl
@[simp] theorem wr57 : cf57.wr = fun _ => [] := rfl
-- semigroup/cascade.compareRows
def cf58 : Cfg := { wio := fun f i => false, live := fun r => none, dr := fun r => none }
@[simp] theorem wio58 : cf58.wio = fun f i => false := rfl
@[simp] theorem live58 : cf58.live = fun r => none := rfl
@[simp] theorem wr58 : cf58.wr = fun _ => [] := rfl
-- semigroup/semigroupref26.in
def cf59 : Cfg := { wio := fun f i => false, live := fun r => if r = 2 then some [0, 7, 8, 9] else none, dr := fun r => none }
@[simp] theorem wio59 : cf59.wio = fun f i => false := rfl
@[simp] theorem live59 : cf59.live = fun r => if r = 2 then some [0, 7, 8, 9] else none := rfl
@[simp] theorem wr59 : cf59.wr = fun _ => [] := rfl
-- semigroup/semigroupref26.Less
def cf60 : Cfg := { wio := fun f i => false, live := fun r => none, dr := fun r => none }
@[simp] theorem wio60 : cf60.wio = fun f i => false := rfl
@[simp] theorem live60 : cf60.live = fun r => none := rfl
@[simp] theorem wr60 : cf60.wr = fun _ => [] := rfl
-- semigroup/semigroupref26.Row
def cf61 : Cfg := { wio := fun f i => false, live := fun r => if r = 2 then some [1, 8, 9, 10] else none, dr := fun r => none }
@[simp] theorem wio61 : cf61.wio = fun f i => false := rfl
@[simp] theorem live61 : cf61.live = fun r => if r = 2 then some [1, 8, 9, 10] else none := rfl
@[simp] theorem wr61 : cf61.wr = fun _ => [] := rfl
-- semigroup/cascade.validRow
def cf62 : Cfg := { wio := fun f i => false, live := fun r => if r = 5 then some [2, 5, 37, 38, 39] else if r = 10 then some [2, 5, 37, 38, 39, 51, 52, 53] else none, dr := fun r => if r = 2 then some [(0, 0), (1, 0), (2, 0), (3, 0), (4, 0), (5, 0), (6, 0), (7, 0), (8, 0), (9, 0), (10, 0), (11, 0), (12, 1), (13, 0), (14, 0), (15, 0), (16, 0), (17, 0), (18, 0), (19, 0), (20, 0), (21, 0), (22, 0)] else none }
@[simp] theorem wio62 : cf62.wio = fun f i => false := rfl
@[simp] theorem live62 : cf62.live = fun r => if r = 5 then some [2, 5, 37, 38, 39] else if r = 10 then some [2, 5, 37, 38, 39, 51, 52, 53] else none := rfl
@[simp] theorem wr62 : cf62.wr = fun _ => [] := rfl
-- (*semigroup/cascade.traits).include
def cf63 : Cfg := { wio := fun f i => false, live := fun r => if r = 3 then some [0, 1, 4, 5, 6, 7, 10, 11, 12] else none, dr := fun r => none }
@[simp] theorem wio63 : cf63.wio = fun f i => false := rfl
@[simp] theorem live63 : cf63.live = fun r => if r = 3 then some [0, 1, 4, 5, 6, 7, 10, 11, 12] else none := rfl
@[simp] theorem wr63 : cf63.wr = fun _ => [] := rfl
-- (semigroup/cascade.traits).kind
def cf64 : Cfg := { wio := fun f i => false, live := fun r => none, dr := fun r => none }
@[simp] theorem wio64 : cf64.wio = fun f i => false := rfl
@[simp] theorem live64 : cf64.live = fun r => none := rfl
@[simp] theorem wr64 : cf64.wr = fun _ => [] := rfl
-- semigroup/semigroupref26.kind
def cf65 : Cfg := { wio := fun f i => false, live := fun r => if r = 3 then some [0, 2, 3, 4, 8, 9, 10] else if r = 8 then some [0, 2, 3, 4, 5, 6, 7, 8, 9, 10] else none, dr := fun r => none }
@[simp] theorem wio65 : cf65.wio = fun f i => false := rfl
@[simp] theorem live65 : cf65.live = fun r => if r = 3 then some [0, 2, 3, 4, 8, 9, 10] else if r = 8 then some [0, 2, 3, 4, 5, 6, 7, 8, 9, 10] else none := rfl
@[simp] theorem wr65 : cf65.wr = fun _ => [] := rfl
-- semigroup/semigroupref01.Valid
def cf66 : Cfg := { wio := fun f i => false, live := fun r => if r = 4 then some [0, 1, 5] else none, dr := fun r => none }
@[simp] theorem wio66 : cf66.wio = fun f i => false := rfl
@[simp] theorem live66 : cf66.live = fun r => if r = 4 then some [0, 1, 5] else none := rfl
@[simp] theorem wr66 : cf66.wr = fun _ => [] := rfl
-- internal/stringslite.Cut
def cf67 : Cfg := { wio := fun f i => false, live := fun r => none, dr := fun r => if r = 3 then some [(0, 0), (1, 0), (2, 0), (3, 0), (4, 0), (5, 0), (6, 0), (7, 0), (8, 0), (9, 0), (10, 0), (11, 0)] else none }
@[simp] theorem wio67 : cf67.wio = fun f i => false := rfl
@[simp] theorem live67 : cf67.live = fun r => none := rfl
@[simp] theorem wr67 : cf67.wr = fun _ => [] := rfl
-- strings.genSplit
def cf68 : Cfg := { wio := fun f i => false, live := fun r => if r = 11 then some [0, 1, 2, 3, 9, 10] else none, dr := fun r => none }
@[simp] theorem wio68 : cf68.wio = fun f i => false := rfl
@[simp] theorem live68 : cf68.live = fun r => if r = 11 then some [0, 1, 2, 3, 9, 10] else none := rfl
@[simp] theorem wr68 : cf68.wr = fun _ => [] := rfl
-- semigroup/cascade.parseNumber
def cf69 : Cfg := { wio := fun f i => false, live := fun r => if r = 5 then some [0, 4, 24, 25] else none, dr := fun r => none }
@[simp] theorem wio69 : cf69.wio = fun f i => false := rfl
@[simp] theorem live69 : cf69.live = fun r => if r = 5 then some [0, 4, 24, 25] else none := rfl
@[simp] theorem wr69 : cf69.wr = fun _ => [] := rfl
-- strconv.AppendInt
def cf70 : Cfg := { wio := fun f i => (f == 80 && (i == 0)), live := fun r => none, dr := fun r => none }
@[simp] theorem wio70 : cf70.wio = fun f i => (f == 80 && (i == 0)) := rfl
@[simp] theorem live70 : cf70.live = fun r => none := rfl
@[simp] theorem wr70 : cf70.wr = fun _ => [] := rfl
-- cmp.Or[int]
def cf71 : Cfg := { wio := fun f i => false, live := fun r => if r = 3 then some [3, 6, 7, 8] else none, dr := fun r => none }
@[simp] theorem wio71 : cf71.wio = fun f i => false := rfl
@[simp] theorem live71 : cf71.live = fun r => if r = 3 then some [3, 6, 7, 8] else none := rfl
@[simp] theorem wr71 : cf71.wr = fun _ => [] := rfl
-- cmp.Compare[int]
def cf72 : Cfg := { wio := fun f i => false, live := fun r => none, dr := fun r => none }
@[simp] theorem wio72 : cf72.wio = fun f i => false := rfl
@[simp] theorem live72 : cf72.live = fun r => none := rfl
@[simp] theorem wr72 : cf72.wr = fun _ => [] := rfl
-- slices.Compare[[]int,int]
def cf73 : Cfg := { wio := fun f i => false, live := fun r => if r = 2 then some [0, 1, 9, 10, 11] else none, dr := fun r => none }
@[simp] theorem wio73 : cf73.wio = fun f i => false := rfl
@[simp] theorem live73 : cf73.live = fun r => if r = 2 then some [0, 1, 9, 10, 11] else none := rfl
@[simp] theorem wr73 : cf73.wr = fun _ => [] := rfl
-- semigroup/semigroupref03.Less
def cf74 : Cfg := { wio := fun f i => false, live := fun r => if r = 2 then some [0, 1, 5] else none, dr := fun r => if r = 4 then some [(0, 0), (1, 0), (2, 0), (3, 0), (4, 0), (5, 0), (6, 0), (7, 0), (8, 0)] else if r = 5 then some [(0, 0), (1, 0), (2, 0), (3, 0), (4, 0), (5, 0), (6, 0), (7, 0), (8, 0), (9, 0)] else none }
@[simp] theorem wio74 : cf74.wio = fun f i => false := rfl
@[simp] theorem live74 : cf74.live = fun r => if r = 2 then some [0, 1, 5] else none := rfl
@[simp] theorem wr74 : cf74.wr = fun _ => [] := rfl
-- semigroup/semigroupref01.MayLetters
def cf75 : Cfg := { wio := fun f i => false, live := fun r => none, dr := fun r => none }
@[simp] theorem wio75 : cf75.wio = fun f i => false := rfl
@[simp] theorem live75 : cf75.live = fun r => none := rfl
@[simp] theorem wr75 : cf75.wr = fun _ => [] := rfl
-- internal/strconv.AppendInt
def cf80 : Cfg := { wio := fun f i => (f == 89 && (i == 0)), live := fun r => none, dr := fun r => none }
@[simp] theorem wio80 : cf80.wio = fun f i => (f == 89 && (i == 0)) := rfl
@[simp] theorem live80 : cf80.live = fun r => none := rfl
@[simp] theorem wr80 : cf80.wr = fun _ => [] := rfl
-- cmp.isNaN[int]
def cf81 : Cfg := { wio := fun f i => false, live := fun r => none, dr := fun r => none }
@[simp] theorem wio81 : cf81.wio = fun f i => false := rfl
@[simp] theorem live81 : cf81.live = fun r => none := rfl
@[simp] theorem wr81 : cf81.wr = fun _ => [] := rfl
-- internal/strconv.AppendUint
def cf89 : Cfg := { wio := fun f i => false, live := fun r => none, dr := fun r => none }
@[simp] theorem wio89 : cf89.wio = fun f i => false := rfl
@[simp] theorem live89 : cf89.live = fun r => none := rfl
@[simp] theorem wr89 : cf89.wr = fun _ => [] := rfl
-- internal/strconv.small
def cf93 : Cfg := { wio := fun f i => false, live := fun r => none, dr := fun r => none }
@[simp] theorem wio93 : cf93.wio = fun f i => false := rfl
@[simp] theorem live93 : cf93.live = fun r => none := rfl
@[simp] theorem wr93 : cf93.wr = fun _ => [] := rfl

def cfAll (f : FuncId) : Option Cfg :=
  if f = 3 then some cf3 else
  if f = 4 then some cf4 else
  if f = 5 then some cf5 else
  if f = 6 then some cf6 else
  if f = 7 then some cf7 else
  if f = 9 then some cf9 else
  if f = 10 then some cf10 else
  if f = 11 then some cf11 else
  if f = 12 then some cf12 else
  if f = 13 then some cf13 else
  if f = 14 then some cf14 else
  if f = 15 then some cf15 else
  if f = 16 then some cf16 else
  if f = 17 then some cf17 else
  if f = 18 then some cf18 else
  if f = 19 then some cf19 else
  if f = 20 then some cf20 else
  if f = 21 then some cf21 else
  if f = 22 then some cf22 else
  if f = 23 then some cf23 else
  if f = 24 then some cf24 else
  if f = 25 then some cf25 else
  if f = 26 then some cf26 else
  if f = 27 then some cf27 else
  if f = 28 then some cf28 else
  if f = 29 then some cf29 else
  if f = 30 then some cf30 else
  if f = 31 then some cf31 else
  if f = 32 then some cf32 else
  if f = 34 then some cf34 else
  if f = 35 then some cf35 else
  if f = 36 then some cf36 else
  if f = 37 then some cf37 else
  if f = 38 then some cf38 else
  if f = 39 then some cf39 else
  if f = 40 then some cf40 else
  if f = 41 then some cf41 else
  if f = 42 then some cf42 else
  if f = 43 then some cf43 else
  if f = 44 then some cf44 else
  if f = 45 then some cf45 else
  if f = 46 then some cf46 else
  if f = 47 then some cf47 else
  if f = 48 then some cf48 else
  if f = 49 then some cf49 else
  if f = 50 then some cf50 else
  if f = 51 then some cf51 else
  if f = 52 then some cf52 else
  if f = 53 then some cf53 else
  if f = 55 then some cf55 else
  if f = 56 then some cf56 else
  if f = 57 then some cf57 else
  if f = 58 then some cf58 else
  if f = 59 then some cf59 else
  if f = 60 then some cf60 else
  if f = 61 then some cf61 else
  if f = 62 then some cf62 else
  if f = 63 then some cf63 else
  if f = 64 then some cf64 else
  if f = 65 then some cf65 else
  if f = 66 then some cf66 else
  if f = 67 then some cf67 else
  if f = 68 then some cf68 else
  if f = 69 then some cf69 else
  if f = 70 then some cf70 else
  if f = 71 then some cf71 else
  if f = 72 then some cf72 else
  if f = 73 then some cf73 else
  if f = 74 then some cf74 else
  if f = 75 then some cf75 else
  if f = 80 then some cf80 else
  if f = 81 then some cf81 else
  if f = 89 then some cf89 else
  if f = 93 then some cf93 else none
theorem cfn3 : cfAll 3 = some cf3 := rfl
theorem cfn4 : cfAll 4 = some cf4 := rfl
theorem cfn5 : cfAll 5 = some cf5 := rfl
theorem cfn6 : cfAll 6 = some cf6 := rfl
theorem cfn7 : cfAll 7 = some cf7 := rfl
theorem cfn9 : cfAll 9 = some cf9 := rfl
theorem cfn10 : cfAll 10 = some cf10 := rfl
theorem cfn11 : cfAll 11 = some cf11 := rfl
theorem cfn12 : cfAll 12 = some cf12 := rfl
theorem cfn13 : cfAll 13 = some cf13 := rfl
theorem cfn14 : cfAll 14 = some cf14 := rfl
theorem cfn15 : cfAll 15 = some cf15 := rfl
theorem cfn16 : cfAll 16 = some cf16 := rfl
theorem cfn17 : cfAll 17 = some cf17 := rfl
theorem cfn18 : cfAll 18 = some cf18 := rfl
theorem cfn19 : cfAll 19 = some cf19 := rfl
theorem cfn20 : cfAll 20 = some cf20 := rfl
theorem cfn21 : cfAll 21 = some cf21 := rfl
theorem cfn22 : cfAll 22 = some cf22 := rfl
theorem cfn23 : cfAll 23 = some cf23 := rfl
theorem cfn24 : cfAll 24 = some cf24 := rfl
theorem cfn25 : cfAll 25 = some cf25 := rfl
theorem cfn26 : cfAll 26 = some cf26 := rfl
theorem cfn27 : cfAll 27 = some cf27 := rfl
theorem cfn28 : cfAll 28 = some cf28 := rfl
theorem cfn29 : cfAll 29 = some cf29 := rfl
theorem cfn30 : cfAll 30 = some cf30 := rfl
theorem cfn31 : cfAll 31 = some cf31 := rfl
theorem cfn32 : cfAll 32 = some cf32 := rfl
theorem cfn34 : cfAll 34 = some cf34 := rfl
theorem cfn35 : cfAll 35 = some cf35 := rfl
theorem cfn36 : cfAll 36 = some cf36 := rfl
theorem cfn37 : cfAll 37 = some cf37 := rfl
theorem cfn38 : cfAll 38 = some cf38 := rfl
theorem cfn39 : cfAll 39 = some cf39 := rfl
theorem cfn40 : cfAll 40 = some cf40 := rfl
theorem cfn41 : cfAll 41 = some cf41 := rfl
theorem cfn42 : cfAll 42 = some cf42 := rfl
theorem cfn43 : cfAll 43 = some cf43 := rfl
theorem cfn44 : cfAll 44 = some cf44 := rfl
theorem cfn45 : cfAll 45 = some cf45 := rfl
theorem cfn46 : cfAll 46 = some cf46 := rfl
theorem cfn47 : cfAll 47 = some cf47 := rfl
theorem cfn48 : cfAll 48 = some cf48 := rfl
theorem cfn49 : cfAll 49 = some cf49 := rfl
theorem cfn50 : cfAll 50 = some cf50 := rfl
theorem cfn51 : cfAll 51 = some cf51 := rfl
theorem cfn52 : cfAll 52 = some cf52 := rfl
theorem cfn53 : cfAll 53 = some cf53 := rfl
theorem cfn55 : cfAll 55 = some cf55 := rfl
theorem cfn56 : cfAll 56 = some cf56 := rfl
theorem cfn57 : cfAll 57 = some cf57 := rfl
theorem cfn58 : cfAll 58 = some cf58 := rfl
theorem cfn59 : cfAll 59 = some cf59 := rfl
theorem cfn60 : cfAll 60 = some cf60 := rfl
theorem cfn61 : cfAll 61 = some cf61 := rfl
theorem cfn62 : cfAll 62 = some cf62 := rfl
theorem cfn63 : cfAll 63 = some cf63 := rfl
theorem cfn64 : cfAll 64 = some cf64 := rfl
theorem cfn65 : cfAll 65 = some cf65 := rfl
theorem cfn66 : cfAll 66 = some cf66 := rfl
theorem cfn67 : cfAll 67 = some cf67 := rfl
theorem cfn68 : cfAll 68 = some cf68 := rfl
theorem cfn69 : cfAll 69 = some cf69 := rfl
theorem cfn70 : cfAll 70 = some cf70 := rfl
theorem cfn71 : cfAll 71 = some cf71 := rfl
theorem cfn72 : cfAll 72 = some cf72 := rfl
theorem cfn73 : cfAll 73 = some cf73 := rfl
theorem cfn74 : cfAll 74 = some cf74 := rfl
theorem cfn75 : cfAll 75 = some cf75 := rfl
theorem cfn80 : cfAll 80 = some cf80 := rfl
theorem cfn81 : cfAll 81 = some cf81 := rfl
theorem cfn89 : cfAll 89 = some cf89 := rfl
theorem cfn93 : cfAll 93 = some cf93 := rfl
theorem fn3 : Tryd.prog.funcs[3]? = some Tryd.f3 := by kernel_rfl
theorem fn4 : Tryd.prog.funcs[4]? = some Tryd.f4 := by kernel_rfl
theorem fn5 : Tryd.prog.funcs[5]? = some Tryd.f5 := by kernel_rfl
theorem fn6 : Tryd.prog.funcs[6]? = some Tryd.f6 := by kernel_rfl
theorem fn7 : Tryd.prog.funcs[7]? = some Tryd.f7 := by kernel_rfl
theorem fn9 : Tryd.prog.funcs[9]? = some Tryd.f9 := by kernel_rfl
theorem fn10 : Tryd.prog.funcs[10]? = some Tryd.f10 := by kernel_rfl
theorem fn11 : Tryd.prog.funcs[11]? = some Tryd.f11 := by kernel_rfl
theorem fn12 : Tryd.prog.funcs[12]? = some Tryd.f12 := by kernel_rfl
theorem fn13 : Tryd.prog.funcs[13]? = some Tryd.f13 := by kernel_rfl
theorem fn14 : Tryd.prog.funcs[14]? = some Tryd.f14 := by kernel_rfl
theorem fn15 : Tryd.prog.funcs[15]? = some Tryd.f15 := by kernel_rfl
theorem fn16 : Tryd.prog.funcs[16]? = some Tryd.f16 := by kernel_rfl
theorem fn17 : Tryd.prog.funcs[17]? = some Tryd.f17 := by kernel_rfl
theorem fn18 : Tryd.prog.funcs[18]? = some Tryd.f18 := by kernel_rfl
theorem fn19 : Tryd.prog.funcs[19]? = some Tryd.f19 := by kernel_rfl
theorem fn20 : Tryd.prog.funcs[20]? = some Tryd.f20 := by kernel_rfl
theorem fn21 : Tryd.prog.funcs[21]? = some Tryd.f21 := by kernel_rfl
theorem fn22 : Tryd.prog.funcs[22]? = some Tryd.f22 := by kernel_rfl
theorem fn23 : Tryd.prog.funcs[23]? = some Tryd.f23 := by kernel_rfl
theorem fn24 : Tryd.prog.funcs[24]? = some Tryd.f24 := by kernel_rfl
theorem fn25 : Tryd.prog.funcs[25]? = some Tryd.f25 := by kernel_rfl
theorem fn26 : Tryd.prog.funcs[26]? = some Tryd.f26 := by kernel_rfl
theorem fn27 : Tryd.prog.funcs[27]? = some Tryd.f27 := by kernel_rfl
theorem fn28 : Tryd.prog.funcs[28]? = some Tryd.f28 := by kernel_rfl
theorem fn29 : Tryd.prog.funcs[29]? = some Tryd.f29 := by kernel_rfl
theorem fn30 : Tryd.prog.funcs[30]? = some Tryd.f30 := by kernel_rfl
theorem fn31 : Tryd.prog.funcs[31]? = some Tryd.f31 := by kernel_rfl
theorem fn32 : Tryd.prog.funcs[32]? = some Tryd.f32 := by kernel_rfl
theorem fn34 : Tryd.prog.funcs[34]? = some Tryd.f34 := by kernel_rfl
theorem fn35 : Tryd.prog.funcs[35]? = some Tryd.f35 := by kernel_rfl
theorem fn36 : Tryd.prog.funcs[36]? = some Tryd.f36 := by kernel_rfl
theorem fn37 : Tryd.prog.funcs[37]? = some Tryd.f37 := by kernel_rfl
theorem fn38 : Tryd.prog.funcs[38]? = some Tryd.f38 := by kernel_rfl
theorem fn39 : Tryd.prog.funcs[39]? = some Tryd.f39 := by kernel_rfl
theorem fn40 : Tryd.prog.funcs[40]? = some Tryd.f40 := by kernel_rfl
theorem fn41 : Tryd.prog.funcs[41]? = some Tryd.f41 := by kernel_rfl
theorem fn42 : Tryd.prog.funcs[42]? = some Tryd.f42 := by kernel_rfl
theorem fn43 : Tryd.prog.funcs[43]? = some Tryd.f43 := by kernel_rfl
theorem fn44 : Tryd.prog.funcs[44]? = some Tryd.f44 := by kernel_rfl
theorem fn45 : Tryd.prog.funcs[45]? = some Tryd.f45 := by kernel_rfl
theorem fn46 : Tryd.prog.funcs[46]? = some Tryd.f46 := by kernel_rfl
theorem fn47 : Tryd.prog.funcs[47]? = some Tryd.f47 := by kernel_rfl
theorem fn48 : Tryd.prog.funcs[48]? = some Tryd.f48 := by kernel_rfl
theorem fn49 : Tryd.prog.funcs[49]? = some Tryd.f49 := by kernel_rfl
theorem fn50 : Tryd.prog.funcs[50]? = some Tryd.f50 := by kernel_rfl
theorem fn51 : Tryd.prog.funcs[51]? = some Tryd.f51 := by kernel_rfl
theorem fn52 : Tryd.prog.funcs[52]? = some Tryd.f52 := by kernel_rfl
theorem fn53 : Tryd.prog.funcs[53]? = some Tryd.f53 := by kernel_rfl
theorem fn55 : Tryd.prog.funcs[55]? = some Tryd.f55 := by kernel_rfl
theorem fn56 : Tryd.prog.funcs[56]? = some Tryd.f56 := by kernel_rfl
theorem fn57 : Tryd.prog.funcs[57]? = some Tryd.f57 := by kernel_rfl
theorem fn58 : Tryd.prog.funcs[58]? = some Tryd.f58 := by kernel_rfl
theorem fn59 : Tryd.prog.funcs[59]? = some Tryd.f59 := by kernel_rfl
theorem fn60 : Tryd.prog.funcs[60]? = some Tryd.f60 := by kernel_rfl
theorem fn61 : Tryd.prog.funcs[61]? = some Tryd.f61 := by kernel_rfl
theorem fn62 : Tryd.prog.funcs[62]? = some Tryd.f62 := by kernel_rfl
theorem fn63 : Tryd.prog.funcs[63]? = some Tryd.f63 := by kernel_rfl
theorem fn64 : Tryd.prog.funcs[64]? = some Tryd.f64 := by kernel_rfl
theorem fn65 : Tryd.prog.funcs[65]? = some Tryd.f65 := by kernel_rfl
theorem fn66 : Tryd.prog.funcs[66]? = some Tryd.f66 := by kernel_rfl
theorem fn67 : Tryd.prog.funcs[67]? = some Tryd.f67 := by kernel_rfl
theorem fn68 : Tryd.prog.funcs[68]? = some Tryd.f68 := by kernel_rfl
theorem fn69 : Tryd.prog.funcs[69]? = some Tryd.f69 := by kernel_rfl
theorem fn70 : Tryd.prog.funcs[70]? = some Tryd.f70 := by kernel_rfl
theorem fn71 : Tryd.prog.funcs[71]? = some Tryd.f71 := by kernel_rfl
theorem fn72 : Tryd.prog.funcs[72]? = some Tryd.f72 := by kernel_rfl
theorem fn73 : Tryd.prog.funcs[73]? = some Tryd.f73 := by kernel_rfl
theorem fn74 : Tryd.prog.funcs[74]? = some Tryd.f74 := by kernel_rfl
theorem fn75 : Tryd.prog.funcs[75]? = some Tryd.f75 := by kernel_rfl
theorem fn80 : Tryd.prog.funcs[80]? = some Tryd.f80 := by kernel_rfl
theorem fn81 : Tryd.prog.funcs[81]? = some Tryd.f81 := by kernel_rfl
theorem fn89 : Tryd.prog.funcs[89]? = some Tryd.f89 := by kernel_rfl
theorem fn93 : Tryd.prog.funcs[93]? = some Tryd.f93 := by kernel_rfl
noncomputable def cd3 : Code := match Tryd.f3.body with | some c => c | none => .skip
theorem bd3 : Tryd.f3.body = some cd3 := by kernel_rfl
noncomputable def cd4 : Code := match Tryd.f4.body with | some c => c | none => .skip
theorem bd4 : Tryd.f4.body = some cd4 := by kernel_rfl
noncomputable def cd5 : Code := match Tryd.f5.body with | some c => c | none => .skip
theorem bd5 : Tryd.f5.body = some cd5 := by kernel_rfl
noncomputable def cd6 : Code := match Tryd.f6.body with | some c => c | none => .skip
theorem bd6 : Tryd.f6.body = some cd6 := by kernel_rfl
noncomputable def cd7 : Code := match Tryd.f7.body with | some c => c | none => .skip
theorem bd7 : Tryd.f7.body = some cd7 := by kernel_rfl
noncomputable def cd9 : Code := match Tryd.f9.body with | some c => c | none => .skip
theorem bd9 : Tryd.f9.body = some cd9 := by kernel_rfl
noncomputable def cd10 : Code := match Tryd.f10.body with | some c => c | none => .skip
theorem bd10 : Tryd.f10.body = some cd10 := by kernel_rfl
noncomputable def cd11 : Code := match Tryd.f11.body with | some c => c | none => .skip
theorem bd11 : Tryd.f11.body = some cd11 := by kernel_rfl
noncomputable def cd12 : Code := match Tryd.f12.body with | some c => c | none => .skip
theorem bd12 : Tryd.f12.body = some cd12 := by kernel_rfl
noncomputable def cd13 : Code := match Tryd.f13.body with | some c => c | none => .skip
theorem bd13 : Tryd.f13.body = some cd13 := by kernel_rfl
noncomputable def cd14 : Code := match Tryd.f14.body with | some c => c | none => .skip
theorem bd14 : Tryd.f14.body = some cd14 := by kernel_rfl
noncomputable def cd15 : Code := match Tryd.f15.body with | some c => c | none => .skip
theorem bd15 : Tryd.f15.body = some cd15 := by kernel_rfl
noncomputable def cd16 : Code := match Tryd.f16.body with | some c => c | none => .skip
theorem bd16 : Tryd.f16.body = some cd16 := by kernel_rfl
noncomputable def cd17 : Code := match Tryd.f17.body with | some c => c | none => .skip
theorem bd17 : Tryd.f17.body = some cd17 := by kernel_rfl
noncomputable def cd18 : Code := match Tryd.f18.body with | some c => c | none => .skip
theorem bd18 : Tryd.f18.body = some cd18 := by kernel_rfl
noncomputable def cd19 : Code := match Tryd.f19.body with | some c => c | none => .skip
theorem bd19 : Tryd.f19.body = some cd19 := by kernel_rfl
noncomputable def cd20 : Code := match Tryd.f20.body with | some c => c | none => .skip
theorem bd20 : Tryd.f20.body = some cd20 := by kernel_rfl
noncomputable def cd21 : Code := match Tryd.f21.body with | some c => c | none => .skip
theorem bd21 : Tryd.f21.body = some cd21 := by kernel_rfl
noncomputable def cd22 : Code := match Tryd.f22.body with | some c => c | none => .skip
theorem bd22 : Tryd.f22.body = some cd22 := by kernel_rfl
noncomputable def cd23 : Code := match Tryd.f23.body with | some c => c | none => .skip
theorem bd23 : Tryd.f23.body = some cd23 := by kernel_rfl
noncomputable def cd24 : Code := match Tryd.f24.body with | some c => c | none => .skip
theorem bd24 : Tryd.f24.body = some cd24 := by kernel_rfl
noncomputable def cd25 : Code := match Tryd.f25.body with | some c => c | none => .skip
theorem bd25 : Tryd.f25.body = some cd25 := by kernel_rfl
noncomputable def cd26 : Code := match Tryd.f26.body with | some c => c | none => .skip
theorem bd26 : Tryd.f26.body = some cd26 := by kernel_rfl
noncomputable def cd27 : Code := match Tryd.f27.body with | some c => c | none => .skip
theorem bd27 : Tryd.f27.body = some cd27 := by kernel_rfl
noncomputable def cd28 : Code := match Tryd.f28.body with | some c => c | none => .skip
theorem bd28 : Tryd.f28.body = some cd28 := by kernel_rfl
noncomputable def cd29 : Code := match Tryd.f29.body with | some c => c | none => .skip
theorem bd29 : Tryd.f29.body = some cd29 := by kernel_rfl
noncomputable def cd30 : Code := match Tryd.f30.body with | some c => c | none => .skip
theorem bd30 : Tryd.f30.body = some cd30 := by kernel_rfl
noncomputable def cd31 : Code := match Tryd.f31.body with | some c => c | none => .skip
theorem bd31 : Tryd.f31.body = some cd31 := by kernel_rfl
noncomputable def cd32 : Code := match Tryd.f32.body with | some c => c | none => .skip
theorem bd32 : Tryd.f32.body = some cd32 := by kernel_rfl
noncomputable def cd34 : Code := match Tryd.f34.body with | some c => c | none => .skip
theorem bd34 : Tryd.f34.body = some cd34 := by kernel_rfl
noncomputable def cd35 : Code := match Tryd.f35.body with | some c => c | none => .skip
theorem bd35 : Tryd.f35.body = some cd35 := by kernel_rfl
noncomputable def cd36 : Code := match Tryd.f36.body with | some c => c | none => .skip
theorem bd36 : Tryd.f36.body = some cd36 := by kernel_rfl
noncomputable def cd37 : Code := match Tryd.f37.body with | some c => c | none => .skip
theorem bd37 : Tryd.f37.body = some cd37 := by kernel_rfl
noncomputable def cd38 : Code := match Tryd.f38.body with | some c => c | none => .skip
theorem bd38 : Tryd.f38.body = some cd38 := by kernel_rfl
noncomputable def cd39 : Code := match Tryd.f39.body with | some c => c | none => .skip
theorem bd39 : Tryd.f39.body = some cd39 := by kernel_rfl
noncomputable def cd40 : Code := match Tryd.f40.body with | some c => c | none => .skip
theorem bd40 : Tryd.f40.body = some cd40 := by kernel_rfl
noncomputable def cd41 : Code := match Tryd.f41.body with | some c => c | none => .skip
theorem bd41 : Tryd.f41.body = some cd41 := by kernel_rfl
noncomputable def cd42 : Code := match Tryd.f42.body with | some c => c | none => .skip
theorem bd42 : Tryd.f42.body = some cd42 := by kernel_rfl
noncomputable def cd43 : Code := match Tryd.f43.body with | some c => c | none => .skip
theorem bd43 : Tryd.f43.body = some cd43 := by kernel_rfl
noncomputable def cd44 : Code := match Tryd.f44.body with | some c => c | none => .skip
theorem bd44 : Tryd.f44.body = some cd44 := by kernel_rfl
noncomputable def cd45 : Code := match Tryd.f45.body with | some c => c | none => .skip
theorem bd45 : Tryd.f45.body = some cd45 := by kernel_rfl
noncomputable def cd46 : Code := match Tryd.f46.body with | some c => c | none => .skip
theorem bd46 : Tryd.f46.body = some cd46 := by kernel_rfl
noncomputable def cd47 : Code := match Tryd.f47.body with | some c => c | none => .skip
theorem bd47 : Tryd.f47.body = some cd47 := by kernel_rfl
noncomputable def cd48 : Code := match Tryd.f48.body with | some c => c | none => .skip
theorem bd48 : Tryd.f48.body = some cd48 := by kernel_rfl
noncomputable def cd49 : Code := match Tryd.f49.body with | some c => c | none => .skip
theorem bd49 : Tryd.f49.body = some cd49 := by kernel_rfl
noncomputable def cd50 : Code := match Tryd.f50.body with | some c => c | none => .skip
theorem bd50 : Tryd.f50.body = some cd50 := by kernel_rfl
noncomputable def cd51 : Code := match Tryd.f51.body with | some c => c | none => .skip
theorem bd51 : Tryd.f51.body = some cd51 := by kernel_rfl
noncomputable def cd52 : Code := match Tryd.f52.body with | some c => c | none => .skip
theorem bd52 : Tryd.f52.body = some cd52 := by kernel_rfl
noncomputable def cd53 : Code := match Tryd.f53.body with | some c => c | none => .skip
theorem bd53 : Tryd.f53.body = some cd53 := by kernel_rfl
noncomputable def cd55 : Code := match Tryd.f55.body with | some c => c | none => .skip
theorem bd55 : Tryd.f55.body = some cd55 := by kernel_rfl
noncomputable def cd56 : Code := match Tryd.f56.body with | some c => c | none => .skip
theorem bd56 : Tryd.f56.body = some cd56 := by kernel_rfl
noncomputable def cd57 : Code := match Tryd.f57.body with | some c => c | none => .skip
theorem bd57 : Tryd.f57.body = some cd57 := by kernel_rfl
noncomputable def cd58 : Code := match Tryd.f58.body with | some c => c | none => .skip
theorem bd58 : Tryd.f58.body = some cd58 := by kernel_rfl
noncomputable def cd59 : Code := match Tryd.f59.body with | some c => c | none => .skip
theorem bd59 : Tryd.f59.body = some cd59 := by kernel_rfl
noncomputable def cd60 : Code := match Tryd.f60.body with | some c => c | none => .skip
theorem bd60 : Tryd.f60.body = some cd60 := by kernel_rfl
noncomputable def cd61 : Code := match Tryd.f61.body with | some c => c | none => .skip
theorem bd61 : Tryd.f61.body = some cd61 := by kernel_rfl
noncomputable def cd62 : Code := match Tryd.f62.body with | some c => c | none => .skip
theorem bd62 : Tryd.f62.body = some cd62 := by kernel_rfl
noncomputable def cd63 : Code := match Tryd.f63.body with | some c => c | none => .skip
theorem bd63 : Tryd.f63.body = some cd63 := by kernel_rfl
noncomputable def cd64 : Code := match Tryd.f64.body with | some c => c | none => .skip
theorem bd64 : Tryd.f64.body = some cd64 := by kernel_rfl
noncomputable def cd65 : Code := match Tryd.f65.body with | some c => c | none => .skip
theorem bd65 : Tryd.f65.body = some cd65 := by kernel_rfl
noncomputable def cd66 : Code := match Tryd.f66.body with | some c => c | none => .skip
theorem bd66 : Tryd.f66.body = some cd66 := by kernel_rfl
noncomputable def cd67 : Code := match Tryd.f67.body with | some c => c | none => .skip
theorem bd67 : Tryd.f67.body = some cd67 := by kernel_rfl
noncomputable def cd68 : Code := match Tryd.f68.body with | some c => c | none => .skip
theorem bd68 : Tryd.f68.body = some cd68 := by kernel_rfl
noncomputable def cd69 : Code := match Tryd.f69.body with | some c => c | none => .skip
theorem bd69 : Tryd.f69.body = some cd69 := by kernel_rfl
noncomputable def cd70 : Code := match Tryd.f70.body with | some c => c | none => .skip
theorem bd70 : Tryd.f70.body = some cd70 := by kernel_rfl
noncomputable def cd71 : Code := match Tryd.f71.body with | some c => c | none => .skip
theorem bd71 : Tryd.f71.body = some cd71 := by kernel_rfl
noncomputable def cd72 : Code := match Tryd.f72.body with | some c => c | none => .skip
theorem bd72 : Tryd.f72.body = some cd72 := by kernel_rfl
noncomputable def cd73 : Code := match Tryd.f73.body with | some c => c | none => .skip
theorem bd73 : Tryd.f73.body = some cd73 := by kernel_rfl
noncomputable def cd74 : Code := match Tryd.f74.body with | some c => c | none => .skip
theorem bd74 : Tryd.f74.body = some cd74 := by kernel_rfl
noncomputable def cd75 : Code := match Tryd.f75.body with | some c => c | none => .skip
theorem bd75 : Tryd.f75.body = some cd75 := by kernel_rfl
noncomputable def cd80 : Code := match Tryd.f80.body with | some c => c | none => .skip
theorem bd80 : Tryd.f80.body = some cd80 := by kernel_rfl
noncomputable def cd81 : Code := match Tryd.f81.body with | some c => c | none => .skip
theorem bd81 : Tryd.f81.body = some cd81 := by kernel_rfl
noncomputable def cd89 : Code := match Tryd.f89.body with | some c => c | none => .skip
theorem bd89 : Tryd.f89.body = some cd89 := by kernel_rfl
noncomputable def cd93 : Code := match Tryd.f93.body with | some c => c | none => .skip
theorem bd93 : Tryd.f93.body = some cd93 := by kernel_rfl
/-- What is known from elsewhere. -/
def xt : Contract := xtC
/-- What each function answers. -/
noncomputable def L : Contract := Lim Tryd.prog xt cfAll
theorem L_run {f : FuncId} {c : Cfg} {fn : Func} {args : List T} {o : T × List T} (hc : cfAll f = some c) (hfn : Tryd.prog.funcs[f]? = some fn) (h : runF Tryd.prog L c LFm fn args = some o) : L f args = some o := lim_run hc hfn h
end Go.Proofs.YthalofddjlhcjaaDoor
end
section
/- Functions by value: program. -/
namespace Go.Proofs.YthalofddjlhcjaaDoor
open Go
set_option maxRecDepth 100000
set_option maxHeartbeats 1000000
set_option linter.unusedVariables false
set_option linter.unusedSimpArgs false

structure Tape where
  l : List Int
  at_ : Int
deriving Inhabited

-- semigroup/semigroupmade.Mod
def made_Mod (a0 : Int) (a1 : Int) : Option (Int) :=
  if a1 < 1 then
    some 0
  else
    chk (¬ a1 = 0) <|
    if (Int.tmod a0 a1) < 0 then
      some (IntKind.i64.wrap ((Int.tmod a0 a1) + a1))
    else
      some (Int.tmod a0 a1)
theorem made_Mod_ok {a0 : Int} {a1 : Int} {r : Int} (h0 : made_Mod a0 a1 = some r) : L 15 [.sc (.int .i64 a0), .sc (.int .i64 a1)] = some (.sc (.int .i64 r), [.dead, .dead]) := by
  simp only [made_Mod] at h0
  refine L_run cfn15 fn15 (runF_of bd15 ⟨of_decide_eq_true rfl, of_decide_eq_true rfl⟩ ?_)
  simp only [entryF, entryT, entryO, entryE, isIo]
  refine zq rfl (zr rfl rfl rfl (by simp; rfl) ?_)
  refine thenC_n (zq rfl (zq rfl (zr rfl rfl rfl (by simp; rfl) ?_)))
  refine thenC_n ?_
  by_cases c4 : a1 < 1
  · rw [if_pos c4] at h0
    refine q_ifT rfl (by simp [c4]) (zq rfl (zr rfl rfl rfl (by simp; rfl) ?_))
    refine thenC_n (q_ret rfl (thenC_r ?_))
    cases h0
    simp
  · rw [if_neg c4] at h0
    refine q_ifF rfl (by simp [c4]) (q_skip rfl (thenC_n (zq rfl ?_)))
    obtain ⟨f5, h1⟩ := chk_some h0
    refine zr rfl rfl rfl (by simp [f5]; rfl) ?_
    refine thenC_n (zq rfl (zq rfl (zr rfl rfl rfl (by simp; rfl) ?_)))
    refine thenC_n ?_
    by_cases c6 : (Int.tmod a0 a1) < 0
    · rw [if_pos c6] at h1
      refine q_ifT rfl (by simp [c6]) (zr rfl rfl rfl (by simp; rfl) ?_)
      refine thenC_n (zq rfl (zr rfl rfl rfl (by simp; rfl) ?_))
      refine thenC_n (q_ret rfl ?_)
      cases h1
      simp
    · rw [if_neg c6] at h1
      refine q_ifF rfl (by simp [c6]) (q_skip rfl (thenC_n (zq rfl (zr rfl rfl rfl (by simp; rfl) ?_))))
      refine thenC_n (q_ret rfl ?_)
      cases h1
      simp

-- (*semigroup/semigroupmade.Tape).Next
def made_Tape_Next (a0 : Tape) (a1 : Int) : Option (Int × Tape) :=
  if (a0.l.length : Int) ≤ a0.at_ then
    some (0, a0)
  else
    (atI a0.l (IntKind.i64.wrap ((IntKind.i64.wrap (a0.at_ + 1)) - 1))).bind fun v3 =>
    (made_Mod v3 a1).bind fun v4 =>
    some (v4, (⟨a0.l, IntKind.i64.wrap (a0.at_ + 1)⟩ : Tape))
theorem made_Tape_Next_ok {a0 : Tape} {a1 : Int} {r : Int × Tape} (h0 : made_Tape_Next a0 a1 = some r) : L 16 [.vr [.sl a0.l.length (a0.l.map fun x0 => .sc (.int .i64 x0)), .sc (.int .i64 a0.at_)], .sc (.int .i64 a1)] = some (.sc (.int .i64 r.1), [.vr [.sl r.2.l.length (r.2.l.map fun x0 => .sc (.int .i64 x0)), .sc (.int .i64 r.2.at_)], .dead]) := by
  simp only [made_Tape_Next] at h0
  refine L_run cfn16 fn16 (runF_of bd16 ⟨of_decide_eq_true rfl, of_decide_eq_true rfl⟩ ?_)
  simp only [entryF, entryT, entryO, entryE, isIo]
  refine zq rfl (zr rfl rfl rfl (by simp; rfl) ?_)
  refine thenC_n (zq rfl (zq rfl ?_))
  refine q_drawW rfl rfl rfl rfl ?_; repeat' (first | (refine q_drawW_op rfl rfl fun Q' hQ => ?_; simp; refine hQ.out _ ?_; clear hQ; clear Q') | (refine q_drawW_guard rfl rfl fun Q1 Q2 h1 h2 => ?_; simp [twoB_some]; (first | refine h1.out ?_ | refine h2.out ?_); clear h1 h2; clear Q1 Q2; intro Q' hQ; simp; refine hQ.out _ ?_; clear hQ; clear Q') | (refine q_drawW_nil rfl fun Q' hQ => ?_; simp; refine hQ.out _ ?_; clear hQ; clear Q'))
  refine thenC_n ?_
  by_cases c4 : (a0.l.length : Int) ≤ a0.at_
  · rw [if_pos c4] at h0
    refine q_ifT rfl (by simp [c4]) (zq rfl (zr rfl rfl rfl (by simp; rfl) ?_))
    refine thenC_n (q_ret rfl (thenC_r ?_))
    cases h0
    simp
  · rw [if_neg c4] at h0
    refine q_ifF rfl (by simp [c4]) (q_skip rfl (thenC_n (zq rfl (zr rfl rfl rfl (by simp; rfl) ?_))))
    refine thenC_n (zq rfl ?_)
    obtain ⟨v3, f5, h1⟩ := bnd_some h0
    obtain ⟨f5a, f5b, f5c, f5d, f5e⟩ := atI_some f5
    obtain ⟨v4, f6, h2⟩ := bnd_some h1
    have f6k := made_Mod_ok f6
    try simp at f6k
    refine q_drawW rfl rfl rfl rfl ?_; repeat' (first | (refine q_drawW_op rfl rfl fun Q' hQ => ?_; simp [f5a, f5b, f5c, f5d, f5e, f6k]; refine hQ.out _ ?_; clear hQ; clear Q') | (refine q_drawW_guard rfl rfl fun Q1 Q2 h1 h2 => ?_; simp [f5a, f5b, f5c, f5d, f5e, f6k, twoB_some]; (first | refine h1.out ?_ | refine h2.out ?_); clear h1 h2; clear Q1 Q2; intro Q' hQ; simp [f5a, f5b, f5c, f5d, f5e, f6k]; refine hQ.out _ ?_; clear hQ; clear Q') | (refine q_drawW_nil rfl fun Q' hQ => ?_; simp [f5a, f5b, f5c, f5d, f5e, f6k]; refine hQ.out _ ?_; clear hQ; clear Q'))
    refine thenC_n (q_ret rfl ?_)
    cases h2
    simp

-- semigroup/semigroupmade.New
def made_New (a0 : List Int) : Option (Tape) :=
  if 80 < (a0.length : Int) then
    (pieceL a0 0 80).bind fun v2 =>
    some (⟨v2, 0⟩ : Tape)
  else
    some (⟨a0, 0⟩ : Tape)
theorem made_New_ok {a0 : List Int} {r : Tape} (h0 : made_New a0 = some r) : L 11 [.sl a0.length (a0.map fun x0 => .sc (.int .i64 x0))] = some (.vr [.sl r.l.length (r.l.map fun x0 => .sc (.int .i64 x0)), .sc (.int .i64 r.at_)], [.dead]) := by
  simp only [made_New] at h0
  refine L_run cfn11 fn11 (runF_of bd11 ⟨of_decide_eq_true rfl, of_decide_eq_true rfl⟩ ?_)
  simp only [entryF, entryT, entryO, entryE, isIo]
  refine zq rfl (zr rfl rfl rfl (by simp; rfl) ?_)
  refine thenC_n (zq rfl (zq rfl (zr rfl rfl rfl (by simp; rfl) ?_)))
  refine thenC_n ?_
  by_cases c3 : 80 < (a0.length : Int)
  · rw [if_pos c3] at h0
    refine q_ifT rfl (by simp [c3]) ?_
    obtain ⟨v2, f4, h1⟩ := bnd_some h0
    obtain ⟨f4a, f4b, f4c, -⟩ := pieceL_some f4
    obtain ⟨f4d, f4g⟩ := piece_hi f4a f4b
    have f4e := pieceL_map (g := fun x : Int => (.sc (.int .i64 x) : T)) f4
    try simp at f4e
    have f4f := pieceL_slm f4
    try simp only [Int.reduceToNat, Int.toNat_natCast, Nat.sub_zero] at f4f
    refine zr rfl rfl rfl (by simp [f4a, f4b, f4c, f4d, f4g, f4e, f4f]; rfl) ?_
    refine thenC_n (zq rfl (zr rfl rfl rfl (by simp; rfl) ?_))
    refine thenC_n (q_ret rfl ?_)
    cases h1
    simp
  · rw [if_neg c3] at h0
    refine q_ifF rfl (by simp [c3]) (q_skip rfl (thenC_n (zq rfl (zr rfl rfl rfl (by simp; rfl) ?_))))
    refine thenC_n (q_ret rfl ?_)
    cases h0
    simp

-- (*semigroup/semigroupmade.Tape).Word
def made_Tape_Word_b3 (a1 : Int) : Int × List Int × Int × List Int → Option ((Int × List Int × Int × List Int) ⊕ (ByteArray × Tape))
  | (w11, w12, w13, w14) =>
  if 0 < w11 then
    (made_Tape_Next (⟨w12, w13⟩ : Tape) a1).bind fun v16 =>
    chk (capOk 1 (w14.length + 1)) <|
    nextG (IntKind.i64.wrap (w11 - 1), v16.2.l, v16.2.at_, w14 ++ [IntKind.u8.wrap (IntKind.i64.wrap (97 + v16.1))])
  else
    exitG <|
    some (bytesOf w14, (⟨w12, w13⟩ : Tape))
def made_Tape_Word_h3 (a1 : Int) : Int × List Int × Int × List Int → Fr
  | (w11, w12, w13, w14) => ⟨27, [(0, .one (.a 0 [] (0))), (1, .one (.t none (.sc (.int .i64 a1)))), (7, .one (.h 7 [])), (8, .one (.t none (.sc (.int .i64 w11)))), (1027, .one (.a 0 [] (0)))], [(0, .vr [.sl w12.length (w12.map fun x0 => .sc (.int .i64 x0)), .sc (.int .i64 w13)]), (7, .os 1 w14.length (w14.map fun x0 => .sc (.int .u8 x0)))]⟩
def made_Tape_Word (a0 : Tape) (a1 : Int) (a2 : Int) : Option (ByteArray × Tape) :=
  (made_Tape_Next a0 (IntKind.i64.wrap (a2 + 1))).bind fun v9 =>
  loopG (made_Tape_Word_b3 a1) LFm (v9.1, v9.2.l, v9.2.at_, [])
theorem made_Tape_Word_ok {a0 : Tape} {a1 : Int} {a2 : Int} {r : ByteArray × Tape} (h0 : made_Tape_Word a0 a1 a2 = some r) : L 14 [.vr [.sl a0.l.length (a0.l.map fun x0 => .sc (.int .i64 x0)), .sc (.int .i64 a0.at_)], .sc (.int .i64 a1), .sc (.int .i64 a2)] = some (.sc (.string r.1), [.vr [.sl r.2.l.length (r.2.l.map fun x0 => .sc (.int .i64 x0)), .sc (.int .i64 r.2.at_)], .dead, .dead]) := by
  simp only [made_Tape_Word] at h0
  refine L_run cfn14 fn14 (runF_of bd14 ⟨of_decide_eq_true rfl, of_decide_eq_true rfl⟩ ?_)
  simp only [entryF, entryT, entryO, entryE, isIo]
  refine zq rfl (zr rfl rfl rfl (by simp; rfl) ?_)
  refine thenC_n (zq rfl (zr rfl rfl rfl (by simp; rfl) ?_))
  refine thenC_n (zq rfl (zq rfl ?_))
  obtain ⟨v9, f10, h1⟩ := bnd_some h0
  have f10k := made_Tape_Next_ok f10
  try simp at f10k
  refine zr rfl rfl rfl (by simp [f10k]; rfl) ?_
  refine thenC_n (zb rfl (q_loopG h1 (made_Tape_Word_h3 a1) rfl rfl (by simp [made_Tape_Word_h3]) fun s o1 h2 hr1 => ?_))
  obtain ⟨w11, w12, w13, w14⟩ := s
  simp only [made_Tape_Word_b3] at h2
  simp only [made_Tape_Word_h3]
  refine zq rfl (zq rfl (zr rfl rfl rfl (by simp; rfl) ?_))
  refine thenC_n ?_
  by_cases c16 : 0 < w11
  · rw [if_pos c16] at h2
    refine q_ifT rfl (by simp [c16]) (q_skip rfl (thenC_n (zq rfl (zb rfl ?_))))
    obtain ⟨v16, f17, h3⟩ := bnd_some h2
    have f17k := made_Tape_Next_ok f17
    try simp at f17k
    obtain ⟨f18, h4⟩ := chk_some h3
    obtain ⟨f18a, f18b⟩ := f18
    simp only [Nat.mul_one] at f18a
    refine zr rfl rfl rfl (by simp [f17k, f18a, f18b]; rfl) ?_
    refine blockC_n (thenC_n (zr rfl rfl rfl (by simp; rfl) ?_))
    have ho := next_some h4
    refine roundC_n ho ?_
    simp [made_Tape_Word_h3]
  · rw [if_neg c16] at h2
    refine q_ifF rfl (by simp [c16]) (q_exit rfl (thenC_x ?_))
    obtain ⟨rr1, h3, ho1⟩ := exit_some h2
    have hs1 := hr1 _ ho1
    subst hs1
    refine roundC_x ho1 (blockC_hit2 rfl (thenC_n (zq rfl (zr rfl rfl rfl (by simp; rfl) ?_))))
    refine thenC_n (q_ret rfl ?_)
    cases h3
    simp
end Go.Proofs.YthalofddjlhcjaaDoor
end
section
/- Functions by value: program. -/
namespace Go.Proofs.YthalofddjlhcjaaDoor
open Go
set_option maxRecDepth 100000
set_option maxHeartbeats 1000000
set_option linter.unusedVariables false
set_option linter.unusedSimpArgs false



-- cmp.isNaN[int]
def cmp_isNaN_int (a0 : Int) : Option (Bool) :=
  some (!decide (a0 = a0))
theorem cmp_isNaN_int_ok {a0 : Int} {r : Bool} (h0 : cmp_isNaN_int a0 = some r) : L 81 [.sc (.int .i64 a0)] = some (.sc (.bool r), [.dead]) := by
  simp only [cmp_isNaN_int] at h0
  refine L_run cfn81 fn81 (runF_of bd81 ⟨of_decide_eq_true rfl, of_decide_eq_true rfl⟩ ?_)
  simp only [entryF, entryT, entryO, entryE, isIo]
  refine zq rfl (zr rfl rfl rfl (by simp; rfl) ?_)
  refine thenC_n (zq rfl (zr rfl rfl rfl (by simp; rfl) ?_))
  refine thenC_n (q_ret rfl ?_)
  cases h0
  simp

-- cmp.Compare[int]
def cmp_Compare_int (a0 : Int) (a1 : Int) : Option (Int) :=
  (cmp_isNaN_int a0).bind fun v3 =>
  (cmp_isNaN_int a1).bind fun v4 =>
  if v3 = true then
    if v4 = true then
      some 0
    else
      some (-1)
  else
    if v4 = true then
      some 1
    else
      if a0 < a1 then
        some (-1)
      else
        if a1 < a0 then
          some 1
        else
          some 0
theorem cmp_Compare_int_ok {a0 : Int} {a1 : Int} {r : Int} (h0 : cmp_Compare_int a0 a1 = some r) : L 72 [.sc (.int .i64 a0), .sc (.int .i64 a1)] = some (.sc (.int .i64 r), [.dead, .dead]) := by
  simp only [cmp_Compare_int] at h0
  refine L_run cfn72 fn72 (runF_of bd72 ⟨of_decide_eq_true rfl, of_decide_eq_true rfl⟩ ?_)
  simp only [entryF, entryT, entryO, entryE, isIo]
  refine zq rfl (zr rfl rfl rfl (by simp; rfl) ?_)
  refine thenC_n (zq rfl ?_)
  obtain ⟨v3, f8, h1⟩ := bnd_some h0
  have f8k := cmp_isNaN_int_ok f8
  try simp at f8k
  refine zr rfl rfl rfl (by simp [f8k]; rfl) ?_
  refine thenC_n (zq rfl ?_)
  obtain ⟨v4, f9, h2⟩ := bnd_some h1
  have f9k := cmp_isNaN_int_ok f9
  try simp at f9k
  refine zr rfl rfl rfl (by simp [f9k]; rfl) ?_
  refine thenC_n (zq rfl (zq rfl (zr rfl rfl rfl (by simp; rfl) ?_)))
  refine thenC_n ?_
  by_cases c10 : v3 = true
  · rw [if_pos c10] at h2
    refine q_ifT rfl (by simp [c10]) (zq rfl (zq rfl (zr rfl rfl rfl (by simp; rfl) ?_)))
    refine thenC_n ?_
    by_cases c11 : v4 = true
    · rw [if_pos c11] at h2
      refine q_ifT rfl (by simp [c11]) (zq rfl (zr rfl rfl rfl (by simp; rfl) ?_))
      refine thenC_n (q_ret rfl (thenC_r (thenC_r ?_)))
      cases h2
      simp
    · rw [if_neg c11] at h2
      refine q_ifF rfl (by simp [c11]) (q_skip rfl (thenC_n (zq rfl (zr rfl rfl rfl (by simp; rfl) ?_))))
      refine thenC_n (q_ret rfl (thenC_r ?_))
      cases h2
      simp
  · rw [if_neg c10] at h2
    refine q_ifF rfl (by simp [c10]) (q_skip rfl (thenC_n (zq rfl (zq rfl (zr rfl rfl rfl (by simp; rfl) ?_)))))
    refine thenC_n ?_
    by_cases c12 : v4 = true
    · rw [if_pos c12] at h2
      refine q_ifT rfl (by simp [c12]) (zq rfl (zr rfl rfl rfl (by simp; rfl) ?_))
      refine thenC_n (q_ret rfl (thenC_r ?_))
      cases h2
      simp
    · rw [if_neg c12] at h2
      refine q_ifF rfl (by simp [c12]) (q_skip rfl (thenC_n (zq rfl (zq rfl (zr rfl rfl rfl (by simp; rfl) ?_)))))
      refine thenC_n ?_
      by_cases c13 : a0 < a1
      · rw [if_pos c13] at h2
        refine q_ifT rfl (by simp [c13]) (zq rfl (zr rfl rfl rfl (by simp; rfl) ?_))
        refine thenC_n (q_ret rfl (thenC_r ?_))
        cases h2
        simp
      · rw [if_neg c13] at h2
        refine q_ifF rfl (by simp [c13]) (q_skip rfl (thenC_n (zq rfl (zq rfl (zr rfl rfl rfl (by simp; rfl) ?_)))))
        refine thenC_n ?_
        by_cases c14 : a1 < a0
        · rw [if_pos c14] at h2
          refine q_ifT rfl (by simp [c14]) (zq rfl (zr rfl rfl rfl (by simp; rfl) ?_))
          refine thenC_n (q_ret rfl (thenC_r ?_))
          cases h2
          simp
        · rw [if_neg c14] at h2
          refine q_ifF rfl (by simp [c14]) (q_skip rfl (thenC_n (zq rfl (zr rfl rfl rfl (by simp; rfl) ?_))))
          refine thenC_n (q_ret rfl ?_)
          cases h2
          simp

-- cmp.Or[int]
def cmp_Or_int_b3 (a0 : List Int) : Int → Option (Int ⊕ Int)
  | w6 =>
  if w6 < (a0.length : Int) then
    (atI a0 w6).bind fun v8 =>
    if v8 = 0 then
      nextG (IntKind.i64.wrap (w6 + 1))
    else
      exitG <|
      some v8
  else
    exitG <|
    some 0
def cmp_Or_int_h3 (a0 : List Int) : Int → Fr
  | w6 => ⟨18, [(3, .one (.t none (.sc (.int .i64 0)))), (6, .one (.t none (.sl a0.length (a0.map fun x0 => .sc (.int .i64 x0))))), (7, .one (.t none (.sc (.int .i64 (a0.length : Int))))), (8, .one (.t none (.sc (.int .i64 w6))))], []⟩
def cmp_Or_int (a0 : List Int) : Option (Int) :=
  loopG (cmp_Or_int_b3 a0) LFm 0
theorem cmp_Or_int_ok {a0 : List Int} {r : Int} (h0 : cmp_Or_int a0 = some r) : L 71 [.sl a0.length (a0.map fun x0 => .sc (.int .i64 x0))] = some (.sc (.int .i64 r), [.dead]) := by
  simp only [cmp_Or_int] at h0
  refine L_run cfn71 fn71 (runF_of bd71 ⟨of_decide_eq_true rfl, of_decide_eq_true rfl⟩ ?_)
  simp only [entryF, entryT, entryO, entryE, isIo]
  refine zq rfl (zr rfl rfl rfl (by simp; rfl) ?_)
  refine thenC_n (zq rfl (zr rfl rfl rfl (by simp; rfl) ?_))
  refine thenC_n (zq rfl (zq rfl (zr rfl rfl rfl (by simp; rfl) ?_)))
  refine thenC_n (zb rfl (q_loopG h0 (cmp_Or_int_h3 a0) rfl rfl (by simp [cmp_Or_int_h3]) fun s o1 h1 hr1 => ?_))
  obtain ⟨w6, hs1⟩ : ∃ y, y = s := ⟨_, rfl⟩
  subst hs1
  simp only [cmp_Or_int_b3] at h1
  simp only [cmp_Or_int_h3]
  refine zq rfl (zr rfl rfl rfl (by simp; rfl) ?_)
  refine thenC_n (zq rfl ?_)
  by_cases c16 : w6 < (a0.length : Int)
  · rw [if_pos c16] at h1
    refine q_ifT rfl (by simp [c16]) (q_skip rfl (thenC_n (zq rfl (zb rfl (zq rfl ?_)))))
    obtain ⟨v8, f17, h2⟩ := bnd_some h1
    obtain ⟨f17a, f17b, f17c, f17d, f17e⟩ := atI_some f17
    refine zr rfl rfl rfl (by simp [f17a, f17b, f17c, f17d, f17e]; rfl) ?_
    refine thenC_n (zq rfl (zr rfl rfl rfl (by simp; rfl) ?_))
    refine thenC_n ?_
    by_cases c18 : v8 = 0
    · rw [if_pos c18] at h2
      have c18e := eq_true c18
      refine q_ifF rfl (by simp [c18e]) (q_skip rfl (blockC_n (thenC_n (zr rfl rfl rfl (by simp; rfl) ?_))))
      have ho := next_some h2
      refine roundC_n ho ?_
      simp [cmp_Or_int_h3]
    · rw [if_neg c18] at h2
      have c18e := eq_false c18
      refine q_ifT rfl (by simp [c18e]) (zq rfl (zr rfl rfl rfl (by simp; rfl) ?_))
      refine thenC_n (q_ret rfl (blockC_r (thenC_r ?_)))
      obtain ⟨rr1, h3, ho1⟩ := exit_some h2
      have hs1 := hr1 _ ho1
      subst hs1
      refine roundC_r ho1 (blockC_r (thenC_r ?_))
      cases h3
      simp
  · rw [if_neg c16] at h1
    refine q_ifF rfl (by simp [c16]) (q_exit rfl (thenC_x ?_))
    obtain ⟨rr1, h2, ho1⟩ := exit_some h1
    have hs1 := hr1 _ ho1
    subst hs1
    refine roundC_x ho1 (blockC_hit2 rfl (thenC_n (zq rfl (zr rfl rfl rfl (by simp; rfl) ?_))))
    refine thenC_n (q_ret rfl ?_)
    cases h2
    simp

-- slices.Compare[[]int,int]
def slices_Compare_Lint_int_b2 (a0 : List Int) (a1 : List Int) : Int → Option (Int ⊕ Int)
  | w14 =>
  if w14 < (a0.length : Int) then
    (atI a0 w14).bind fun v18 =>
    if (a1.length : Int) ≤ w14 then
      exitG <|
      some 1
    else
      (atI a1 w14).bind fun v19 =>
      (cmp_Compare_int v18 v19).bind fun v20 =>
      if v20 = 0 then
        nextG (IntKind.i64.wrap (w14 + 1))
      else
        exitG <|
        some v20
  else
    exitG <|
    if a0.length < a1.length then
      some (-1)
    else
      some 0
def slices_Compare_Lint_int_h2 (a0 : List Int) (a1 : List Int) : Int → Fr
  | w14 => ⟨36, [(0, .one (.t none (.sl a0.length (a0.map fun x0 => .sc (.int .i64 x0))))), (1, .one (.t none (.sl a1.length (a1.map fun x0 => .sc (.int .i64 x0))))), (9, .one (.t none (.sl a0.length (a0.map fun x0 => .sc (.int .i64 x0))))), (10, .one (.t none (.sc (.int .i64 (a0.length : Int))))), (11, .one (.t none (.sc (.int .i64 w14))))], []⟩
def slices_Compare_Lint_int (a0 : List Int) (a1 : List Int) : Option (Int) :=
  loopG (slices_Compare_Lint_int_b2 a0 a1) LFm 0
theorem slices_Compare_Lint_int_ok {a0 : List Int} {a1 : List Int} {r : Int} (h0 : slices_Compare_Lint_int a0 a1 = some r) : L 73 [.sl a0.length (a0.map fun x0 => .sc (.int .i64 x0)), .sl a1.length (a1.map fun x0 => .sc (.int .i64 x0))] = some (.sc (.int .i64 r), [.dead, .dead]) := by
  simp only [slices_Compare_Lint_int] at h0
  refine L_run cfn73 fn73 (runF_of bd73 ⟨of_decide_eq_true rfl, of_decide_eq_true rfl⟩ ?_)
  simp only [entryF, entryT, entryO, entryE, isIo]
  refine zq rfl (zr rfl rfl rfl (by simp; rfl) ?_)
  refine thenC_n (zq rfl (zq rfl (zr rfl rfl rfl (by simp; rfl) ?_)))
  refine thenC_n (zb rfl (q_loopG h0 (slices_Compare_Lint_int_h2 a0 a1) rfl rfl (by simp [slices_Compare_Lint_int_h2]) fun s o1 h1 hr1 => ?_))
  obtain ⟨w14, hs1⟩ : ∃ y, y = s := ⟨_, rfl⟩
  subst hs1
  simp only [slices_Compare_Lint_int_b2] at h1
  simp only [slices_Compare_Lint_int_h2]
  refine zq rfl (zr rfl rfl rfl (by simp; rfl) ?_)
  refine thenC_n (zq rfl ?_)
  by_cases c32 : w14 < (a0.length : Int)
  · rw [if_pos c32] at h1
    refine q_ifT rfl (by simp [c32]) (q_skip rfl (thenC_n (zq rfl (zb rfl (zq rfl ?_)))))
    obtain ⟨v18, f33, h2⟩ := bnd_some h1
    obtain ⟨f33a, f33b, f33c, f33d, f33e⟩ := atI_some f33
    refine zr rfl rfl rfl (by simp [f33a, f33b, f33c, f33d, f33e]; rfl) ?_
    refine thenC_n (zq rfl (zq rfl (zr rfl rfl rfl (by simp; rfl) ?_)))
    refine thenC_n ?_
    by_cases c34 : (a1.length : Int) ≤ w14
    · rw [if_pos c34] at h2
      refine q_ifT rfl (by simp [c34]) (zq rfl (zr rfl rfl rfl (by simp; rfl) ?_))
      refine thenC_n (q_ret rfl (thenC_r (blockC_r (thenC_r ?_))))
      obtain ⟨rr1, h3, ho1⟩ := exit_some h2
      have hs1 := hr1 _ ho1
      subst hs1
      refine roundC_r ho1 (blockC_r (thenC_r ?_))
      cases h3
      simp
    · rw [if_neg c34] at h2
      refine q_ifF rfl (by simp [c34]) (q_skip rfl (thenC_n (zq rfl ?_)))
      obtain ⟨v19, f35, h3⟩ := bnd_some h2
      obtain ⟨f35a, f35b, f35c, f35d, f35e⟩ := atI_some f35
      refine zr rfl rfl rfl (by simp [f35a, f35b, f35c, f35d, f35e]; rfl) ?_
      refine thenC_n (zq rfl ?_)
      obtain ⟨v20, f36, h4⟩ := bnd_some h3
      have f36k := cmp_Compare_int_ok f36
      try simp at f36k
      refine zr rfl rfl rfl (by simp [f36k]; rfl) ?_
      refine thenC_n (zq rfl (zr rfl rfl rfl (by simp; rfl) ?_))
      refine thenC_n ?_
      by_cases c37 : v20 = 0
      · rw [if_pos c37] at h4
        have c37e := eq_true c37
        refine q_ifF rfl (by simp [c37e]) (q_skip rfl (blockC_n (thenC_n (zr rfl rfl rfl (by simp; rfl) ?_))))
        have ho := next_some h4
        refine roundC_n ho ?_
        simp [slices_Compare_Lint_int_h2]
      · rw [if_neg c37] at h4
        have c37e := eq_false c37
        refine q_ifT rfl (by simp [c37e]) (zq rfl (zr rfl rfl rfl (by simp; rfl) ?_))
        refine thenC_n (q_ret rfl (blockC_r (thenC_r ?_)))
        obtain ⟨rr1, h5, ho1⟩ := exit_some h4
        have hs1 := hr1 _ ho1
        subst hs1
        refine roundC_r ho1 (blockC_r (thenC_r ?_))
        cases h5
        simp
  · rw [if_neg c32] at h1
    refine q_ifF rfl (by simp [c32]) (q_exit rfl (thenC_x ?_))
    obtain ⟨rr1, h2, ho1⟩ := exit_some h1
    have hs1 := hr1 _ ho1
    subst hs1
    refine roundC_x ho1 (blockC_hit2 rfl (thenC_n (zq rfl (zq rfl (zr rfl rfl rfl (by simp; rfl) ?_)))))
    refine thenC_n ?_
    by_cases c38 : a0.length < a1.length
    · rw [if_pos c38] at h2
      refine q_ifT rfl (by simp [c38]) (zq rfl (zr rfl rfl rfl (by simp; rfl) ?_))
      refine thenC_n (q_ret rfl (thenC_r ?_))
      cases h2
      simp
    · rw [if_neg c38] at h2
      refine q_ifF rfl (by simp [c38]) (q_skip rfl (thenC_n (zq rfl (zr rfl rfl rfl (by simp; rfl) ?_))))
      refine thenC_n (q_ret rfl ?_)
      cases h2
      simp

-- semigroup/semigroupref03.Less
def ref03_Less_b2 (a0 : List Int) (a1 : List Int) : Int → Option (Int ⊕ Bool)
  | w18 =>
  if w18 < (a0.length : Int) then
    if w18 < (a1.length : Int) then
      (atI a0 w18).bind fun v23 =>
      (atI a1 w18).bind fun v24 =>
      if v23 = v24 then
        nextG (IntKind.i64.wrap (w18 + 1))
      else
        exitG <|
        some (decide (v23 < v24))
    else
      exitG <|
      some (decide (a0.length < a1.length))
  else
    exitG <|
    some (decide (a0.length < a1.length))
def ref03_Less_h2 (a0 : List Int) (a1 : List Int) : Int → Fr
  | w18 => ⟨41, [(0, .one (.t none (.sl a0.length (a0.map fun x0 => .sc (.int .i64 x0))))), (1, .one (.t none (.sl a1.length (a1.map fun x0 => .sc (.int .i64 x0))))), (5, .one (.t none (.sc (.int .i64 w18))))], []⟩
def ref03_Less (a0 : List Int) (a1 : List Int) : Option (Bool) :=
  loopG (ref03_Less_b2 a0 a1) LFm 0
theorem ref03_Less_ok {a0 : List Int} {a1 : List Int} {r : Bool} (h0 : ref03_Less a0 a1 = some r) : L 74 [.sl a0.length (a0.map fun x0 => .sc (.int .i64 x0)), .sl a1.length (a1.map fun x0 => .sc (.int .i64 x0))] = some (.sc (.bool r), [.dead, .dead]) := by
  simp only [ref03_Less] at h0
  refine L_run cfn74 fn74 (runF_of bd74 ⟨of_decide_eq_true rfl, of_decide_eq_true rfl⟩ ?_)
  simp only [entryF, entryT, entryO, entryE, isIo]
  refine zq rfl (zr rfl rfl rfl (by simp; rfl) ?_)
  refine thenC_n (zq rfl (zq rfl (zr rfl rfl rfl (by simp; rfl) ?_)))
  refine thenC_n (zb rfl (q_loopG h0 (ref03_Less_h2 a0 a1) rfl rfl (by simp [ref03_Less_h2]) fun s o1 h1 hr1 => ?_))
  obtain ⟨w18, hs1⟩ : ∃ y, y = s := ⟨_, rfl⟩
  subst hs1
  simp only [ref03_Less_b2] at h1
  simp only [ref03_Less_h2]
  refine zq rfl (zq rfl ?_)
  by_cases c26 : w18 < (a0.length : Int)
  · rw [if_pos c26] at h1
    refine zr rfl rfl rfl (by simp [c26]; rfl) ?_
    refine thenC_n ?_
    by_cases c27 : w18 < (a1.length : Int)
    · rw [if_pos c27] at h1
      refine q_ifT rfl (by simp [c27]) (q_skip rfl (thenC_n (zq rfl (zb rfl (zq rfl ?_)))))
      obtain ⟨v23, f28, h2⟩ := bnd_some h1
      obtain ⟨f28a, f28b, f28c, f28d, f28e⟩ := atI_some f28
      obtain ⟨v24, f29, h3⟩ := bnd_some h2
      obtain ⟨f29a, f29b, f29c, f29d, f29e⟩ := atI_some f29
      refine q_drawW rfl rfl rfl rfl ?_; repeat' (first | (refine q_drawW_op rfl rfl fun Q' hQ => ?_; simp [f28a, f28b, f28c, f28d, f28e, f29a, f29b, f29c, f29d, f29e]; refine hQ.out _ ?_; clear hQ; clear Q') | (refine q_drawW_guard rfl rfl fun Q1 Q2 h1 h2 => ?_; simp [f28a, f28b, f28c, f28d, f28e, f29a, f29b, f29c, f29d, f29e, twoB_some]; (first | refine h1.out ?_ | refine h2.out ?_); clear h1 h2; clear Q1 Q2; intro Q' hQ; simp [f28a, f28b, f28c, f28d, f28e, f29a, f29b, f29c, f29d, f29e]; refine hQ.out _ ?_; clear hQ; clear Q') | (refine q_drawW_nil rfl fun Q' hQ => ?_; simp [f28a, f28b, f28c, f28d, f28e, f29a, f29b, f29c, f29d, f29e]; refine hQ.out _ ?_; clear hQ; clear Q'))
      refine thenC_n ?_
      by_cases c30 : v23 = v24
      · rw [if_pos c30] at h3
        have c30e := eq_true c30
        refine q_ifF rfl (by simp [c30e]) (q_skip rfl (blockC_n (thenC_n (zr rfl rfl rfl (by simp; rfl) ?_))))
        have ho := next_some h3
        refine roundC_n ho ?_
        simp [ref03_Less_h2]
      · rw [if_neg c30] at h3
        have c30e := eq_false c30
        refine q_ifT rfl (by simp [c30e]) (zq rfl ?_)
        refine q_drawW rfl rfl rfl rfl ?_; repeat' (first | (refine q_drawW_op rfl rfl fun Q' hQ => ?_; simp [f28a, f28b, f28c, f28d, f28e, f29a, f29b, f29c, f29d, f29e]; refine hQ.out _ ?_; clear hQ; clear Q') | (refine q_drawW_guard rfl rfl fun Q1 Q2 h1 h2 => ?_; simp [f28a, f28b, f28c, f28d, f28e, f29a, f29b, f29c, f29d, f29e, twoB_some]; (first | refine h1.out ?_ | refine h2.out ?_); clear h1 h2; clear Q1 Q2; intro Q' hQ; simp [f28a, f28b, f28c, f28d, f28e, f29a, f29b, f29c, f29d, f29e]; refine hQ.out _ ?_; clear hQ; clear Q') | (refine q_drawW_nil rfl fun Q' hQ => ?_; simp [f28a, f28b, f28c, f28d, f28e, f29a, f29b, f29c, f29d, f29e]; refine hQ.out _ ?_; clear hQ; clear Q'))
        refine thenC_n (q_ret rfl (blockC_r (thenC_r ?_)))
        obtain ⟨rr1, h4, ho1⟩ := exit_some h3
        have hs1 := hr1 _ ho1
        subst hs1
        refine roundC_r ho1 (blockC_r (thenC_r ?_))
        cases h4
        simp
    · rw [if_neg c27] at h1
      refine q_ifF rfl (by simp [c27]) (q_exit rfl (thenC_x ?_))
      obtain ⟨rr1, h2, ho1⟩ := exit_some h1
      have hs1 := hr1 _ ho1
      subst hs1
      refine roundC_x ho1 (blockC_hit2 rfl (thenC_n (zq rfl (zr rfl rfl rfl (by simp; rfl) ?_))))
      refine thenC_n (q_ret rfl ?_)
      cases h2
      simp
  · rw [if_neg c26] at h1
    refine zr rfl rfl rfl (by simp [c26]; rfl) ?_
    refine thenC_n (q_ifF rfl (by simp) (q_exit rfl (thenC_x ?_)))
    obtain ⟨rr1, h2, ho1⟩ := exit_some h1
    have hs1 := hr1 _ ho1
    subst hs1
    refine roundC_x ho1 (blockC_hit2 rfl (thenC_n (zq rfl (zr rfl rfl rfl (by simp; rfl) ?_))))
    refine thenC_n (q_ret rfl ?_)
    cases h2
    simp

-- semigroup/semigroupref03.Same
def ref03_Same_b4 (a0 : List Int) (a1 : List Int) : Int → Option (Int ⊕ Bool)
  | w10 =>
  if w10 < (a0.length : Int) then
    (atI a0 w10).bind fun v13 =>
    (atI a1 w10).bind fun v14 =>
    if v13 = v14 then
      nextG (IntKind.i64.wrap (w10 + 1))
    else
      exitG <|
      some false
  else
    exitG <|
    some true
def ref03_Same_h4 (a0 : List Int) (a1 : List Int) : Int → Fr
  | w10 => ⟨26, [(0, .one (.t none (.sl a0.length (a0.map fun x0 => .sc (.int .i64 x0))))), (1, .one (.t none (.sl a1.length (a1.map fun x0 => .sc (.int .i64 x0))))), (12, .one (.t none (.sc (.int .i64 (a0.length : Int))))), (13, .one (.t none (.sc (.int .i64 w10))))], []⟩
def ref03_Same (a0 : List Int) (a1 : List Int) : Option (Bool) :=
  if (a0.length : Int) = (a1.length : Int) then
    loopG (ref03_Same_b4 a0 a1) LFm 0
  else
    some false
theorem ref03_Same_ok {a0 : List Int} {a1 : List Int} {r : Bool} (h0 : ref03_Same a0 a1 = some r) : L 19 [.sl a0.length (a0.map fun x0 => .sc (.int .i64 x0)), .sl a1.length (a1.map fun x0 => .sc (.int .i64 x0))] = some (.sc (.bool r), [.dead, .dead]) := by
  simp only [ref03_Same] at h0
  refine L_run cfn19 fn19 (runF_of bd19 ⟨of_decide_eq_true rfl, of_decide_eq_true rfl⟩ ?_)
  simp only [entryF, entryT, entryO, entryE, isIo]
  refine zq rfl (zr rfl rfl rfl (by simp; rfl) ?_)
  refine thenC_n (zq rfl (zq rfl (zr rfl rfl rfl (by simp; rfl) ?_)))
  refine thenC_n ?_
  by_cases c14 : (a0.length : Int) = (a1.length : Int)
  · rw [if_pos c14] at h0
    have c14e := eq_true c14
    refine q_ifF rfl (by simp [c14e]) (q_skip rfl (thenC_n (zq rfl (zq rfl (zr rfl rfl rfl (by simp; rfl) ?_)))))
    refine thenC_n (zb rfl (q_loopG h0 (ref03_Same_h4 a0 a1) rfl rfl (by simp [ref03_Same_h4]) fun s o1 h1 hr1 => ?_))
    obtain ⟨w10, hs1⟩ : ∃ y, y = s := ⟨_, rfl⟩
    subst hs1
    simp only [ref03_Same_b4] at h1
    simp only [ref03_Same_h4]
    refine zq rfl (zr rfl rfl rfl (by simp; rfl) ?_)
    refine thenC_n (zq rfl ?_)
    by_cases c23 : w10 < (a0.length : Int)
    · rw [if_pos c23] at h1
      refine q_ifT rfl (by simp [c23]) (q_skip rfl (thenC_n (zq rfl (zb rfl (zq rfl (zr rfl rfl rfl (by simp; rfl) ?_))))))
      refine thenC_n (zq rfl ?_)
      obtain ⟨v13, f24, h2⟩ := bnd_some h1
      obtain ⟨f24a, f24b, f24c, f24d, f24e⟩ := atI_some f24
      obtain ⟨v14, f25, h3⟩ := bnd_some h2
      obtain ⟨f25a, f25b, f25c, f25d, f25e⟩ := atI_some f25
      refine q_drawW rfl rfl rfl rfl ?_; repeat' (first | (refine q_drawW_op rfl rfl fun Q' hQ => ?_; simp [f24a, f24b, f24c, f24d, f24e, f25a, f25b, f25c, f25d, f25e]; refine hQ.out _ ?_; clear hQ; clear Q') | (refine q_drawW_guard rfl rfl fun Q1 Q2 h1 h2 => ?_; simp [f24a, f24b, f24c, f24d, f24e, f25a, f25b, f25c, f25d, f25e, twoB_some]; (first | refine h1.out ?_ | refine h2.out ?_); clear h1 h2; clear Q1 Q2; intro Q' hQ; simp [f24a, f24b, f24c, f24d, f24e, f25a, f25b, f25c, f25d, f25e]; refine hQ.out _ ?_; clear hQ; clear Q') | (refine q_drawW_nil rfl fun Q' hQ => ?_; simp [f24a, f24b, f24c, f24d, f24e, f25a, f25b, f25c, f25d, f25e]; refine hQ.out _ ?_; clear hQ; clear Q'))
      refine thenC_n ?_
      by_cases c26 : v13 = v14
      · rw [if_pos c26] at h3
        have c26e := eq_true c26
        refine q_ifF rfl (by simp [c26e]) (q_skip rfl (blockC_n (thenC_n (zr rfl rfl rfl (by simp; rfl) ?_))))
        have ho := next_some h3
        refine roundC_n ho ?_
        simp [ref03_Same_h4]
      · rw [if_neg c26] at h3
        have c26e := eq_false c26
        refine q_ifT rfl (by simp [c26e]) (zq rfl (zr rfl rfl rfl (by simp; rfl) ?_))
        refine thenC_n (q_ret rfl (blockC_r (thenC_r ?_)))
        obtain ⟨rr1, h4, ho1⟩ := exit_some h3
        have hs1 := hr1 _ ho1
        subst hs1
        refine roundC_r ho1 (blockC_r (thenC_r ?_))
        cases h4
        simp
    · rw [if_neg c23] at h1
      refine q_ifF rfl (by simp [c23]) (q_exit rfl (thenC_x ?_))
      obtain ⟨rr1, h2, ho1⟩ := exit_some h1
      have hs1 := hr1 _ ho1
      subst hs1
      refine roundC_x ho1 (blockC_hit2 rfl (thenC_n (zq rfl (zr rfl rfl rfl (by simp; rfl) ?_))))
      refine thenC_n (q_ret rfl ?_)
      cases h2
      simp
  · rw [if_neg c14] at h0
    have c14e := eq_false c14
    refine q_ifT rfl (by simp [c14e]) (zq rfl (zr rfl rfl rfl (by simp; rfl) ?_))
    refine thenC_n (q_ret rfl (thenC_r ?_))
    cases h0
    simp

-- semigroup/semigroupref03.SameRows
def ref03_SameRows_b4 (a0 : List (List Int)) (a1 : List (List Int)) : Int → Option (Int ⊕ Bool)
  | w14 =>
  if w14 < (a0.length : Int) then
    (atI a0 w14).bind fun v18 =>
    (atI a1 w14).bind fun v19 =>
    (ref03_Same v18 v19).bind fun v20 =>
    if v20 = true then
      nextG (IntKind.i64.wrap (w14 + 1))
    else
      exitG <|
      some false
  else
    exitG <|
    some true
def ref03_SameRows_h4 (a0 : List (List Int)) (a1 : List (List Int)) : Int → Fr
  | w14 => ⟨27, [(0, .one (.t none (.sl a0.length (a0.map fun x0 => .sl x0.length (x0.map fun x1 => .sc (.int .i64 x1)))))), (1, .one (.t none (.sl a1.length (a1.map fun x0 => .sl x0.length (x0.map fun x1 => .sc (.int .i64 x1)))))), (12, .one (.t none (.sc (.int .i64 (a0.length : Int))))), (13, .one (.t none (.sc (.int .i64 w14))))], []⟩
def ref03_SameRows (a0 : List (List Int)) (a1 : List (List Int)) : Option (Bool) :=
  if (a0.length : Int) = (a1.length : Int) then
    loopG (ref03_SameRows_b4 a0 a1) LFm 0
  else
    some false
theorem ref03_SameRows_ok {a0 : List (List Int)} {a1 : List (List Int)} {r : Bool} (h0 : ref03_SameRows a0 a1 = some r) : L 22 [.sl a0.length (a0.map fun x0 => .sl x0.length (x0.map fun x1 => .sc (.int .i64 x1))), .sl a1.length (a1.map fun x0 => .sl x0.length (x0.map fun x1 => .sc (.int .i64 x1)))] = some (.sc (.bool r), [.dead, .dead]) := by
  simp only [ref03_SameRows] at h0
  refine L_run cfn22 fn22 (runF_of bd22 ⟨of_decide_eq_true rfl, of_decide_eq_true rfl⟩ ?_)
  simp only [entryF, entryT, entryO, entryE, isIo]
  refine zq rfl (zr rfl rfl rfl (by simp; rfl) ?_)
  refine thenC_n (zq rfl (zq rfl (zr rfl rfl rfl (by simp; rfl) ?_)))
  refine thenC_n ?_
  by_cases c17 : (a0.length : Int) = (a1.length : Int)
  · rw [if_pos c17] at h0
    have c17e := eq_true c17
    refine q_ifF rfl (by simp [c17e]) (q_skip rfl (thenC_n (zq rfl (zq rfl (zr rfl rfl rfl (by simp; rfl) ?_)))))
    refine thenC_n (zb rfl (q_loopG h0 (ref03_SameRows_h4 a0 a1) rfl rfl (by simp [ref03_SameRows_h4]) fun s o1 h1 hr1 => ?_))
    obtain ⟨w14, hs1⟩ : ∃ y, y = s := ⟨_, rfl⟩
    subst hs1
    simp only [ref03_SameRows_b4] at h1
    simp only [ref03_SameRows_h4]
    refine zq rfl (zr rfl rfl rfl (by simp; rfl) ?_)
    refine thenC_n (zq rfl ?_)
    by_cases c28 : w14 < (a0.length : Int)
    · rw [if_pos c28] at h1
      refine q_ifT rfl (by simp [c28]) (q_skip rfl (thenC_n (zq rfl (zb rfl (zq rfl (zr rfl rfl rfl (by simp; rfl) ?_))))))
      refine thenC_n (zq rfl ?_)
      obtain ⟨v18, f29, h2⟩ := bnd_some h1
      obtain ⟨f29a, f29b, f29c, f29d, f29e⟩ := atI_some f29
      obtain ⟨v19, f30, h3⟩ := bnd_some h2
      obtain ⟨f30a, f30b, f30c, f30d, f30e⟩ := atI_some f30
      obtain ⟨v20, f31, h4⟩ := bnd_some h3
      have f31k := ref03_Same_ok f31
      try simp at f31k
      refine q_drawW rfl rfl rfl rfl ?_; repeat' (first | (refine q_drawW_op rfl rfl fun Q' hQ => ?_; simp [f29a, f29b, f29c, f29d, f29e, f30a, f30b, f30c, f30d, f30e, f31k]; refine hQ.out _ ?_; clear hQ; clear Q') | (refine q_drawW_guard rfl rfl fun Q1 Q2 h1 h2 => ?_; simp [f29a, f29b, f29c, f29d, f29e, f30a, f30b, f30c, f30d, f30e, f31k, twoB_some]; (first | refine h1.out ?_ | refine h2.out ?_); clear h1 h2; clear Q1 Q2; intro Q' hQ; simp [f29a, f29b, f29c, f29d, f29e, f30a, f30b, f30c, f30d, f30e, f31k]; refine hQ.out _ ?_; clear hQ; clear Q') | (refine q_drawW_nil rfl fun Q' hQ => ?_; simp [f29a, f29b, f29c, f29d, f29e, f30a, f30b, f30c, f30d, f30e, f31k]; refine hQ.out _ ?_; clear hQ; clear Q'))
      refine thenC_n ?_
      by_cases c32 : v20 = true
      · rw [if_pos c32] at h4
        refine q_ifF rfl (by simp [c32]) (q_skip rfl (blockC_n (thenC_n (zr rfl rfl rfl (by simp; rfl) ?_))))
        have ho := next_some h4
        refine roundC_n ho ?_
        simp [ref03_SameRows_h4]
      · rw [if_neg c32] at h4
        refine q_ifT rfl (by simp [c32]) (zq rfl (zr rfl rfl rfl (by simp; rfl) ?_))
        refine thenC_n (q_ret rfl (blockC_r (thenC_r ?_)))
        obtain ⟨rr1, h5, ho1⟩ := exit_some h4
        have hs1 := hr1 _ ho1
        subst hs1
        refine roundC_r ho1 (blockC_r (thenC_r ?_))
        cases h5
        simp
    · rw [if_neg c28] at h1
      refine q_ifF rfl (by simp [c28]) (q_exit rfl (thenC_x ?_))
      obtain ⟨rr1, h2, ho1⟩ := exit_some h1
      have hs1 := hr1 _ ho1
      subst hs1
      refine roundC_x ho1 (blockC_hit2 rfl (thenC_n (zq rfl (zr rfl rfl rfl (by simp; rfl) ?_))))
      refine thenC_n (q_ret rfl ?_)
      cases h2
      simp
  · rw [if_neg c17] at h0
    have c17e := eq_false c17
    refine q_ifT rfl (by simp [c17e]) (zq rfl (zr rfl rfl rfl (by simp; rfl) ?_))
    refine thenC_n (q_ret rfl (thenC_r ?_))
    cases h0
    simp
end Go.Proofs.YthalofddjlhcjaaDoor
end
section
/- Plain: comparisons of lists. -/
namespace Go.Proofs.YthalofddjlhcjaaDoor
open Go
set_option linter.unusedVariables false
set_option linter.unusedSimpArgs false

theorem atI_getD {α : Type} {xs : List α} {k : Nat} (d : α) (h : k < xs.length) : atI xs (k : Int) = some (xs.getD k d) := by
  rw [atI_nat h, getD_of_lt d h]
def cmpI (a b : Int) : Int := if a < b then -1 else if b < a then 1 else 0
theorem cmpI_zero (a b : Int) : cmpI a b = 0 ↔ a = b := by unfold cmpI; split <;> (try split) <;> omega
theorem Compare_eq (a b : Int) : cmp_Compare_int a b = some (cmpI a b) := by
  simp [cmp_Compare_int, cmp_isNaN_int, cmpI]
  split <;> (try split) <;> simp_all
theorem Or_eq (a b : Int) : cmp_Or_int [a, b] = some (if a ≠ 0 then a else b) := by
  unfold cmp_Or_int
  rw [loop_find (s := (0 : Int)) 2 (fun k => (k : Int)) (fun k => decide (([a, b].getD k 0) ≠ 0)) (fun k => some ([a, b].getD k 0)) (x := some 0) rfl (by simp only [LFm]; omega)]
  · by_cases ha : a = 0 <;> by_cases hb : b = 0 <;> simp [List.range, List.range.loop, ha, hb]
  · intro k hk
    simp only [cmp_Or_int_b3]
    rw [if_pos (by simp; omega), atI_getD 0 (by simpa using hk), wrapS (by omega)]
    simp only [Option.bind_some]
    by_cases h : [a, b].getD k 0 = 0 <;> simp [h]
  · simp [cmp_Or_int_b3]
theorem Same_eq (xs ys : List Int) (h : xs.length < 4611686018427387904) : ref03_Same xs ys = some (decide (xs = ys)) := by
  unfold ref03_Same
  split
  · rename_i hl
    have hl : xs.length = ys.length := by omega
    rw [loop_find (s := (0 : Int)) xs.length (fun k => (k : Int)) (fun k => !decide (xs.getD k 0 = ys.getD k 0)) (fun _ => some false) (x := some true) rfl (by simp only [LFm]; omega)]
    · rw [find_all]
      simp only [Bool.not_not]
      by_cases he : xs = ys
      · subst he; simp
      · rw [if_neg, decide_eq_false he]
        intro hh
        simp only [List.all_eq_true, List.mem_range, decide_eq_true_eq] at hh
        exact he (list_ext_getD hl hh)
    · intro k hk
      simp only [ref03_Same_b4]
      rw [if_pos (by omega), atI_getD 0 hk, atI_getD 0 (by omega), wrapS (by omega)]
      simp only [Option.bind_some]
      by_cases h : xs.getD k 0 = ys.getD k 0 <;> simp [h]
    · simp [ref03_Same_b4]
  · rename_i hl
    rw [decide_eq_false]
    intro e; subst e; exact hl rfl
def short (xss : List (List Int)) : Prop := xss.length < 4611686018427387904 ∧ ∀ m ∈ xss, m.length < 4611686018427387904
theorem SameRows_eq (xs ys : List (List Int)) (h : short xs) : ref03_SameRows xs ys = some (decide (xs = ys)) := by
  unfold ref03_SameRows
  split
  · rename_i hl
    have hl : xs.length = ys.length := by omega
    rw [loop_find (s := (0 : Int)) xs.length (fun k => (k : Int)) (fun k => !decide (xs.getD k [] = ys.getD k [])) (fun _ => some false) (x := some true) rfl (by simp only [LFm]; have := h.1; omega)]
    · rw [find_all]
      simp only [Bool.not_not]
      by_cases he : xs = ys
      · subst he; simp
      · rw [if_neg, decide_eq_false he]
        intro hh
        simp only [List.all_eq_true, List.mem_range, decide_eq_true_eq] at hh
        apply he
        apply List.ext_getElem hl
        intro i h1 h2
        have := hh i h1
        rwa [getD_of_lt _ h1, getD_of_lt _ h2] at this
    · intro k hk
      have := h.1
      simp only [ref03_SameRows_b4]
      rw [if_pos (by omega), atI_getD [] hk, atI_getD [] (by omega), wrapS (by omega)]
      simp only [Option.bind_some]
      rw [Same_eq _ _ (by rw [getD_of_lt _ hk]; exact h.2 _ (List.getElem_mem hk))]
      simp only [Option.bind_some]
      by_cases h : xs.getD k [] = ys.getD k [] <;> simp [h]
    · simp [ref03_SameRows_b4]
  · rename_i hl
    rw [decide_eq_false]
    intro e; subst e; exact hl rfl
theorem Compare_list (xs ys : List Int) (h : xs.length < 4611686018427387904) : slices_Compare_Lint_int xs ys = some (cmpL xs ys) := by
  unfold slices_Compare_Lint_int
  rw [loop_find (s := (0 : Int)) xs.length (fun k => (k : Int)) (fun k => decide (ys.length ≤ k) || !decide (xs.getD k 0 = ys.getD k 0)) (fun k => some (if ys.length ≤ k then 1 else cmpI (xs.getD k 0) (ys.getD k 0))) (x := some (if xs.length < ys.length then -1 else 0)) rfl (by simp only [LFm]; omega)]
  · split
    · rename_i k hk
      rw [find_some] at hk
      obtain ⟨k1, k2, k3⟩ := hk
      have k3' : ∀ j, j < k → xs.getD j 0 = ys.getD j 0 ∧ j < ys.length := fun j hj => by have := k3 j hj; simp only [Bool.or_eq_false_iff, decide_eq_false_iff_not, Bool.not_eq_false', decide_eq_true_eq] at this; omega
      split
      · rename_i hy
        have hyk : k = ys.length := by
          rcases Nat.eq_or_lt_of_le hy with h | h
          · exact h.symm
          · exact absurd (k3' _ h).2 (by omega)
        rw [cmpL_end xs ys (fun i h1 h2 => (k3' i (by omega)).1), if_neg (by omega), if_pos (by omega)]
      · rename_i hy
        have hne : xs.getD k 0 ≠ ys.getD k 0 := by simp [hy] at k2; exact k2
        rw [cmpL_take xs ys k k1 (by omega) (fun i hi => (k3' i hi).1) hne]
        unfold cmpI
        split <;> (try split) <;> first | rfl | omega
    · rename_i hk
      rw [find_none] at hk
      have hk' : ∀ j, j < xs.length → xs.getD j 0 = ys.getD j 0 ∧ j < ys.length := fun j hj => by have := hk j hj; simp only [Bool.or_eq_false_iff, decide_eq_false_iff_not, Bool.not_eq_false', decide_eq_true_eq] at this; omega
      rw [cmpL_end xs ys (fun i h1 h2 => (hk' i h1).1)]
      split
      · rfl
      · rw [if_neg]
        intro hh
        have := (hk' ys.length hh).2
        omega
  · intro k hk
    simp only [slices_Compare_Lint_int_b2]
    rw [if_pos (by omega), atI_getD 0 hk]
    simp only [Option.bind_some]
    by_cases hy : ys.length ≤ k
    · rw [if_pos (by omega)]
      simp [hy]
    · rw [if_neg (by omega), atI_getD 0 (by omega), wrapS (by omega)]
      simp only [Option.bind_some, Compare_eq, cmpI_zero]
      by_cases h : xs.getD k 0 = ys.getD k 0 <;> simp [h, hy]
  · simp only [slices_Compare_Lint_int_b2]
    rw [if_neg (by omega)]
    split <;> rfl
theorem Less_eq (xs ys : List Int) (h : xs.length < 4611686018427387904) : ref03_Less xs ys = some (lexLt xs ys) := by
  unfold ref03_Less
  rw [loop_find (s := (0 : Int)) xs.length (fun k => (k : Int)) (fun k => decide (ys.length ≤ k) || !decide (xs.getD k 0 = ys.getD k 0)) (fun k => some (if ys.length ≤ k then decide (xs.length < ys.length) else decide (xs.getD k 0 < ys.getD k 0))) (x := some (decide (xs.length < ys.length))) rfl (by simp only [LFm]; omega)]
  · split
    · rename_i k hk
      rw [find_some] at hk
      obtain ⟨k1, k2, k3⟩ := hk
      have k3' : ∀ j, j < k → xs.getD j 0 = ys.getD j 0 ∧ j < ys.length := fun j hj => by have := k3 j hj; simp only [Bool.or_eq_false_iff, decide_eq_false_iff_not, Bool.not_eq_false', decide_eq_true_eq] at this; omega
      split
      · rename_i hy
        have hyk : k = ys.length := by
          rcases Nat.eq_or_lt_of_le hy with h | h
          · exact h.symm
          · exact absurd (k3' _ h).2 (by omega)
        rw [lexLt_end xs ys (fun i h1 h2 => (k3' i (by omega)).1)]
      · rename_i hy
        have hne : xs.getD k 0 ≠ ys.getD k 0 := by simp [hy] at k2; exact k2
        rw [lexLt_take xs ys k k1 (by omega) (fun i hi => (k3' i hi).1) hne]
    · rename_i hk
      rw [find_none] at hk
      have hk' : ∀ j, j < xs.length → xs.getD j 0 = ys.getD j 0 ∧ j < ys.length := fun j hj => by have := hk j hj; simp only [Bool.or_eq_false_iff, decide_eq_false_iff_not, Bool.not_eq_false', decide_eq_true_eq] at this; omega
      rw [lexLt_end xs ys (fun i h1 h2 => (hk' i h1).1)]
  · intro k hk
    simp only [ref03_Less_b2]
    rw [if_pos (by omega)]
    by_cases hy : ys.length ≤ k
    · rw [if_neg (by omega)]
      simp [hy]
    · rw [if_pos (by omega), atI_getD 0 (by omega), atI_getD 0 (by omega), wrapS (by omega)]
      simp only [Option.bind_some]
      by_cases h : xs.getD k 0 = ys.getD k 0 <;> simp [h, hy]
  · simp [ref03_Less_b2]
end Go.Proofs.YthalofddjlhcjaaDoor
end
section
/- Plain facts on a search among rows that ascend. No program. -/
namespace Go.Proofs.YthalofddjlhcjaaDoor
set_option linter.unusedVariables false
set_option linter.unusedSimpArgs false

/-- Where the search ends. -/
def lowB (rows : List CRow) (p : List Int) : Nat := (rows.takeWhile fun r => decide (cmpR r.pre p < 0)).length
def hasB (rows : List CRow) (p : List Int) : Bool := rows.any fun r => decide (r.pre = p)

/-- What the search answers. -/
def Found (rows : List CRow) (p : List Int) (i : Nat) (b : Bool) : Prop := i = lowB rows p ∧ b = hasB rows p

theorem takeWhile_len {α : Type} (q : α → Bool) : ∀ (l : List α) (i : Nat), i ≤ l.length → (∀ k (h : k < l.length), k < i → q l[k] = true) → (∀ h : i < l.length, q l[i] = false) → (l.takeWhile q).length = i
  | [], i, hi, _, _ => by simp at hi; simp [hi]
  | a :: l, 0, _, _, h2 => by
    have := h2 (by simp)
    simp at this
    simp [List.takeWhile_cons, this]
  | a :: l, i + 1, hi, h1, h2 => by
    have e := h1 0 (by simp) (by omega)
    simp at e
    have ih := takeWhile_len q l i (by simpa using hi) (fun k h hk => by have := h1 (k + 1) (by simpa using h) (by omega); simpa using this) (fun h => by have := h2 (by simpa using h); simpa using this)
    simp [List.takeWhile_cons, e, ih]

theorem hasB_iff (rows : List CRow) (p : List Int) : hasB rows p = true ↔ ∃ j, ∃ h : j < rows.length, rows[j].pre = p := by
  unfold hasB
  rw [List.any_eq_true]
  constructor
  · rintro ⟨r, hr, e⟩
    obtain ⟨j, hj, rfl⟩ := List.getElem_of_mem hr
    exact ⟨j, hj, of_decide_eq_true e⟩
  · rintro ⟨j, hj, e⟩
    exact ⟨rows[j], List.getElem_mem _, decide_eq_true e⟩

/-- All rows before i are less, all from j on are not. -/
def Between (rows : List CRow) (p : List Int) (i j : Nat) : Prop :=
  (∀ k (h : k < rows.length), k < i → cmpR rows[k].pre p < 0) ∧ (∀ k (h : k < rows.length), j ≤ k → ¬ cmpR rows[k].pre p < 0)

theorem between_up {rows : List CRow} (hu : UpR rows) {p : List Int} {i j k : Nat} (h : Between rows p i j) (hk : k < rows.length) (hc : cmpR rows[k].pre p < 0) : Between rows p (k + 1) j :=
  ⟨fun l hl hlk => by
    by_cases e : l = k
    · subst e; exact hc
    · exact cmpR_trans _ _ _ (hu l k hl hk (by omega)) hc, h.2⟩
theorem between_down {rows : List CRow} (hu : UpR rows) {p : List Int} {i j k : Nat} (h : Between rows p i j) (hk : k < rows.length) (hc : ¬ cmpR rows[k].pre p < 0) : Between rows p i k :=
  ⟨h.1, fun l hl hlk => by
    by_cases e : l = k
    · subst e; exact hc
    · exact fun h' => hc (cmpR_trans _ _ _ (hu k l hk hl (by omega)) h')⟩
theorem low_of {rows : List CRow} {p : List Int} {i : Nat} (h : Between rows p i i) (hi : i ≤ rows.length) : lowB rows p = i :=
  takeWhile_len _ rows i hi (fun k hk hki => decide_eq_true (h.1 k hk hki)) (fun hk => decide_eq_false (h.2 i hk (Nat.le_refl _)))
theorem found_of {rows : List CRow} (hu : UpR rows) {p : List Int} {i : Nat} (h : Between rows p i i) (hi : i < rows.length) : Found rows p i (decide (cmpR rows[i].pre p = 0)) := by
  refine ⟨(low_of h (by omega)).symm, ?_⟩
  rw [Bool.eq_iff_iff, decide_eq_true_iff, hasB_iff]
  constructor
  · exact fun e => ⟨i, hi, (cmpR_zero _ _).1 e⟩
  · rintro ⟨j, hj, e⟩
    rcases Nat.lt_trichotomy j i with hl | hl | hl
    · have := h.1 j hj hl; rw [(cmpR_zero _ _).2 e] at this; omega
    · subst hl; exact (cmpR_zero _ _).2 e
    · have := hu i j hi hj hl
      rw [e] at this
      exact absurd this (h.2 i hi (Nat.le_refl _))
theorem found_none {rows : List CRow} {p : List Int} {i : Nat} (h : Between rows p i i) (hi : ¬ i < rows.length) (hi2 : i ≤ rows.length) : Found rows p i false := by
  refine ⟨(low_of h hi2).symm, ?_⟩
  rw [eq_comm, ← Bool.not_eq_true, hasB_iff]
  rintro ⟨j, hj, e⟩
  have := h.1 j hj (by omega)
  rw [(cmpR_zero _ _).2 e] at this
  omega
theorem low_row {rows : List CRow} (hu : UpR rows) {p : List Int} (h : hasB rows p = true) : ∃ hl : lowB rows p < rows.length, rows[lowB rows p].pre = p := by
  obtain ⟨j, hj, e⟩ := (hasB_iff _ _).1 h
  have hb : Between rows p j j := ⟨fun k hk hkj => by rw [← e]; exact hu k j hk hj hkj, fun k hk hjk => by
    by_cases ek : k = j
    · subst ek; rw [(cmpR_zero _ _).2 e]; omega
    · intro hlt
      have := hu j k hj hk (by omega)
      rw [e] at this
      have h2 := cmpR_trans _ _ _ this hlt
      rw [(cmpR_zero p p).2 rfl] at h2
      omega⟩
  have hl := low_of hb (by omega)
  exact ⟨by omega, by simp only [hl]; exact e⟩

end Go.Proofs.YthalofddjlhcjaaDoor
end
section
/- What a step of a cascade is. No program. -/
namespace Go.Proofs.YthalofddjlhcjaaDoor
set_option linter.unusedVariables false
set_option linter.unusedSimpArgs false

/-- The number of the row of a prefix. -/
def rowIx (c : Casc) (p : List Int) : Option Nat := c.rows.findIdx? fun r => decide (r.pre = p)
/-- The coordinate behind a letter. -/
def stVal (c : Casc) (x : List Int) (l : Nat) (i : Nat) : Int := match rowIx c (x.take i) with
  | some k => ((c.rows.getD k ⟨[], []⟩).maps.getD l []).getD (x.getD i 0).toNat 0
  | none => 0
def stV (c : Casc) (x : List Int) (l : Nat) : List Int := (List.range x.length).map (stVal c x l)
def stOk (c : Casc) (x : List Int) : Bool := (List.range x.length).all fun i => hasB c.rows (x.take i)
/-- The tuple behind a letter, or an error. -/
def stepG (c : Casc) (x : List Int) (l : Int) : List Int × Int :=
  if tupB c.sizes x = true ∧ 0 ≤ l ∧ l < c.letters then (if stOk c x = true then (stV c x l.toNat, 0) else ([], 23)) else ([], 1)

theorem rowIx_has {c : Casc} (hu : UpR c.rows) {p : List Int} (h : hasB c.rows p = true) : rowIx c p = some (lowB c.rows p) := by
  obtain ⟨hl, e⟩ := low_row hu h
  unfold rowIx
  rw [List.findIdx?_eq_some_iff_getElem]
  refine ⟨hl, by simpa using e, fun j hj => ?_⟩
  intro hh
  have e2 : c.rows[j].pre = p := by simpa using hh
  have := hu j _ (by omega) hl hj
  rw [e, e2, (cmpR_zero p p).2 rfl] at this
  omega
theorem rowIx_none {c : Casc} {p : List Int} (h : hasB c.rows p = false) : rowIx c p = none := by
  unfold rowIx
  rw [List.findIdx?_eq_none_iff]
  intro r hr
  rw [← Bool.not_eq_true]
  intro e
  rw [← Bool.not_eq_true] at h
  apply h
  unfold hasB
  rw [List.any_eq_true]
  exact ⟨r, hr, e⟩
theorem stV_length (c : Casc) (x : List Int) (l : Nat) : (stV c x l).length = x.length := by simp [stV]
theorem stV_get (c : Casc) (x : List Int) (l i : Nat) (h : i < x.length) : (stV c x l)[i]? = some (stVal c x l i) := by
  simp [stV, h]

/-- The cell that a step reads. -/
theorem step_cell {c : Casc} (hv : Valid c) {x : List Int} (hx : tupB c.sizes x = true) {l k : Nat} (hl : (l : Int) < c.letters) (hk : k < x.length) (hh : hasB c.rows (x.take k) = true) :
    ∃ (low s : Nat) (h1 : low < c.rows.length) (h2 : l < c.rows[low].maps.length) (h3 : s < c.rows[low].maps[l].length), lowB c.rows (x.take k) = low ∧ x[k] = s ∧ stVal c x l k = c.rows[low].maps[l][s] := by
  obtain ⟨h1, e1⟩ := low_row hv.up hh
  obtain ⟨f1, f2, f3, f4⟩ := rowB_facts (hv.row _ h1)
  have h2 : l < c.rows[lowB c.rows (x.take k)].maps.length := by omega
  have hlen : x.length = c.sizes.length ∧ inB c.sizes x = true := by simpa [tupB] using hx
  have hxk := (inB_iff c.sizes x (by omega)).1 hlen.2 k hk
  rw [getD_of_lt 0 hk] at hxk
  obtain ⟨g1, -⟩ := f4 l h2
  rw [getD_of_lt _ h2, e1] at g1
  have hpl : (x.take k).length = k := by simp; omega
  rw [hpl] at g1
  obtain ⟨s, hs⟩ := Int.eq_ofNat_of_zero_le hxk.1
  have h3 : s < c.rows[lowB c.rows (x.take k)].maps[l].length := by omega
  refine ⟨_, s, h1, h2, h3, rfl, hs, ?_⟩
  unfold stVal
  rw [rowIx_has hv.up hh]
  simp only
  rw [getD_of_lt _ h1, getD_of_lt _ h2, getD_of_lt 0 hk, hs]
  simp only [Int.toNat_natCast]
  rw [getD_of_lt _ h3]
end Go.Proofs.YthalofddjlhcjaaDoor
end
