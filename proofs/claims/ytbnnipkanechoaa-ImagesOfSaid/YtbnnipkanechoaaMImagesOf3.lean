/- Proved here: a part of the proof of the law at hand, in one text: no condition. -/
import Derived.Test.YtbnnipkanechoaaMImagesOf2
import Derived.Test.YtbnnipkanechoaaProg
import Derived.KernelRfl
import Derived.WalkKit
import Derived.Below
set_option linter.unusedVariables false
set_option linter.unusedSimpArgs false
section
namespace Go.Proofs.Ytbnnipkanechoaa
open Go
set_option maxRecDepth 100000
@[simp] theorem ty3 : z3x Try.prog 3 = some ⟨.int .i64, 1, 8, (some [(.sc (.int .i64 0))])⟩ := by kernel_rfl
@[simp] theorem ty4 : z3x Try.prog 4 = some ⟨.bool, 1, 1, (some [(.sc (.bool false))])⟩ := by kernel_rfl
@[simp] theorem ty5 : z3x Try.prog 5 = some ⟨.int .u8, 1, 1, (some [(.sc (.int .u8 0))])⟩ := by kernel_rfl
@[simp] theorem ty9 : z3x Try.prog 9 = some ⟨.string, 1, 16, (some [(.sc (.string ByteArray.empty))])⟩ := by kernel_rfl
@[simp] theorem ty22 : z3x Try.prog 22 = some ⟨.slice 3, 1, 24, (some [(.os 1 0 [])])⟩ := by kernel_rfl
@[simp] theorem ty23 : z3x Try.prog 23 = some ⟨.pointer 60, 1, 8, (some [(.sc (.pointer none))])⟩ := by kernel_rfl
@[simp] theorem ty25 : z3x Try.prog 25 = some ⟨.slice 4, 1, 24, (some [(.os 1 0 [])])⟩ := by kernel_rfl
@[simp] theorem ty26 : z3x Try.prog 26 = some ⟨.slice 22, 1, 24, (some [(.os 1 0 [])])⟩ := by kernel_rfl
noncomputable def zvI : Array Field := match Try.prog.underlying 28 with | some (.struct fs) => fs | _ => #[]
@[simp] theorem ty28 : z3x Try.prog 28 = some ⟨.struct zvI, 4, 64, (some [(.sc (.int .i64 0)), (.sc (.int .i64 0)), (.os 1 0 []), (.os 1 0 [])])⟩ := by kernel_rfl
@[simp] theorem fi28_0 : z3R Try.prog 28 0 = some (0, 1, false) := by kernel_rfl
@[simp] theorem fi28_1 : z3R Try.prog 28 1 = some (1, 1, false) := by kernel_rfl
@[simp] theorem fi28_2 : z3R Try.prog 28 2 = some (2, 1, false) := by kernel_rfl
@[simp] theorem fi28_3 : z3R Try.prog 28 3 = some (3, 1, false) := by kernel_rfl
@[simp] theorem zvx : zc6 Try.prog 28 = (some [(.sc (.int .i64 0)), (.sc (.int .i64 0)), (.os 1 0 []), (.os 1 0 [])]) := by kernel_rfl
@[simp] theorem bs28 (fr : Fr) (parts : List (Nat × Operand)) : zbf Try.prog fr 28 parts = match z9R fr (z3R Try.prog 28) ([(.sc (.int .i64 0)), (.sc (.int .i64 0)), (.os 1 0 []), (.os 1 0 [])].map (A.t none)) parts with | some xs => some (E.ag xs) | none => none := z6K zvx fr parts
@[simp] theorem ty31 : z3x Try.prog 31 = some ⟨.slice 9, 1, 24, (some [(.os 1 0 [])])⟩ := by kernel_rfl
noncomputable def zvH : Array Field := match Try.prog.underlying 33 with | some (.struct fs) => fs | _ => #[]
@[simp] theorem ty33 : z3x Try.prog 33 = some ⟨.struct zvH, 6, 144, (some [(.os 1 0 []), (.os 1 0 []), (.os 1 0 []), (.os 1 0 []), (.os 1 0 []), (.os 1 0 [])])⟩ := by kernel_rfl
@[simp] theorem fi33_0 : z3R Try.prog 33 0 = some (0, 1, false) := by kernel_rfl
@[simp] theorem fi33_1 : z3R Try.prog 33 1 = some (1, 1, false) := by kernel_rfl
@[simp] theorem fi33_2 : z3R Try.prog 33 2 = some (2, 1, false) := by kernel_rfl
@[simp] theorem fi33_3 : z3R Try.prog 33 3 = some (3, 1, false) := by kernel_rfl
@[simp] theorem fi33_4 : z3R Try.prog 33 4 = some (4, 1, false) := by kernel_rfl
@[simp] theorem fi33_5 : z3R Try.prog 33 5 = some (5, 1, false) := by kernel_rfl
@[simp] theorem zvw : zc6 Try.prog 33 = (some [(.os 1 0 []), (.os 1 0 []), (.os 1 0 []), (.os 1 0 []), (.os 1 0 []), (.os 1 0 [])]) := by kernel_rfl
@[simp] theorem bs33 (fr : Fr) (parts : List (Nat × Operand)) : zbf Try.prog fr 33 parts = match z9R fr (z3R Try.prog 33) ([(.os 1 0 []), (.os 1 0 []), (.os 1 0 []), (.os 1 0 []), (.os 1 0 []), (.os 1 0 [])].map (A.t none)) parts with | some xs => some (E.ag xs) | none => none := z6K zvw fr parts
@[simp] theorem ty34 : z3x Try.prog 34 = some ⟨.int .i64, 1, 8, (some [(.sc (.int .i64 0))])⟩ := by kernel_rfl
@[simp] theorem ty41 : z3x Try.prog 41 = some ⟨.map 3 3, 1, 8, (some [(.sc (.map none))])⟩ := by kernel_rfl
@[simp] theorem mt41 : zi5 Try.prog 41 = some ((some .i64), 3) := by kernel_rfl
@[simp] theorem zv41 : zmS Try.prog 3 = some (.int .i64 0) := by kernel_rfl
@[simp] theorem ty51 : z3x Try.prog 51 = some ⟨.int .u64, 1, 8, (some [(.sc (.int .u64 0))])⟩ := by kernel_rfl
noncomputable def zvG : Array Field := match Try.prog.underlying 60 with | some (.struct fs) => fs | _ => #[]
@[simp] theorem ty60 : z3x Try.prog 60 = some ⟨.struct zvG, 2, 32, (some [(.os 1 0 []), (.sc (.int .i64 0))])⟩ := by kernel_rfl
@[simp] theorem fi60_0 : z3R Try.prog 60 0 = some (0, 1, false) := by kernel_rfl
@[simp] theorem fi60_1 : z3R Try.prog 60 1 = some (1, 1, false) := by kernel_rfl
@[simp] theorem zvv : zc6 Try.prog 60 = (some [(.os 1 0 []), (.sc (.int .i64 0))]) := by kernel_rfl
@[simp] theorem bs60 (fr : Fr) (parts : List (Nat × Operand)) : zbf Try.prog fr 60 parts = match z9R fr (z3R Try.prog 60) ([(.os 1 0 []), (.sc (.int .i64 0))].map (A.t none)) parts with | some xs => some (E.ag xs) | none => none := z6K zvv fr parts
@[simp] theorem ty63 : z3x Try.prog 63 = some ⟨.slice 25, 1, 24, (some [(.os 1 0 [])])⟩ := by kernel_rfl
noncomputable def zvF : Array Field := match Try.prog.underlying 65 with | some (.struct fs) => fs | _ => #[]
@[simp] theorem ty65 : z3x Try.prog 65 = some ⟨.struct zvF, 3, 72, (some [(.os 1 0 []), (.os 1 0 []), (.os 1 0 [])])⟩ := by kernel_rfl
@[simp] theorem fi65_0 : z3R Try.prog 65 0 = some (0, 1, false) := by kernel_rfl
@[simp] theorem fi65_1 : z3R Try.prog 65 1 = some (1, 1, false) := by kernel_rfl
@[simp] theorem fi65_2 : z3R Try.prog 65 2 = some (2, 1, false) := by kernel_rfl
@[simp] theorem zvu : zc6 Try.prog 65 = (some [(.os 1 0 []), (.os 1 0 []), (.os 1 0 [])]) := by kernel_rfl
@[simp] theorem bs65 (fr : Fr) (parts : List (Nat × Operand)) : zbf Try.prog fr 65 parts = match z9R fr (z3R Try.prog 65) ([(.os 1 0 []), (.os 1 0 []), (.os 1 0 [])].map (A.t none)) parts with | some xs => some (E.ag xs) | none => none := z6K zvu fr parts
@[simp] theorem ty80 : z3x Try.prog 80 = some ⟨.slice 5, 1, 24, (some [(.os 1 0 [])])⟩ := by kernel_rfl
@[simp] theorem ty89 : z3x Try.prog 89 = some ⟨.map 3 4, 1, 8, (some [(.sc (.map none))])⟩ := by kernel_rfl
@[simp] theorem mt89 : zi5 Try.prog 89 = some ((some .i64), 4) := by kernel_rfl
@[simp] theorem zv89 : zmS Try.prog 4 = some (.bool false) := by kernel_rfl
@[simp] theorem ty102 : z3x Try.prog 102 = some ⟨.int .u32, 1, 4, (some [(.sc (.int .u32 0))])⟩ := by kernel_rfl
@[simp] theorem ty104 : z3x Try.prog 104 = some ⟨.int .u64, 1, 8, (some [(.sc (.int .u64 0))])⟩ := by kernel_rfl
def cf3 : Cfg := { wio := fun f i => (f == 30 && (i == 0)) || (f == 12 && (i == 0)) || (f == 13 && (i == 0)) || (f == 20 && (i == 0)) || (f == 999999 && (i == 0)), live := fun r => none, dr := fun r => none, fz := fun r => if r = 3 then some [4] else none }
@[simp] theorem wio3 : cf3.wio = fun f i => (f == 30 && (i == 0)) || (f == 12 && (i == 0)) || (f == 13 && (i == 0)) || (f == 20 && (i == 0)) || (f == 999999 && (i == 0)) := rfl
@[simp] theorem live3 : cf3.live = fun r => none := rfl
@[simp] theorem wr3 : cf3.wr = fun _ => [] := rfl
def cf4 : Cfg := { wio := fun f i => (f == 30 && (i == 0)) || (f == 12 && (i == 0)) || (f == 13 && (i == 0)) || (f == 20 && (i == 0)) || (f == 999999 && (i == 0)), live := fun r => if r = 7 then some [5, 35, 36, 37] else if r = 11 then some [5, 7, 8, 9, 35, 36, 37, 46, 47, 48] else none, dr := fun r => if r = 13 then some [(0, 0), (1, 0), (2, 0), (3, 0), (4, 0), (5, 0), (6, 0), (7, 0), (8, 0), (9, 0), (10, 0), (11, 0), (12, 0), (13, 0), (14, 0), (15, 0), (16, 0), (17, 0), (18, 0), (19, 0), (20, 0), (21, 0), (22, 0), (23, 0), (24, 0), (25, 0), (26, 0), (27, 0), (28, 0), (29, 0), (30, 0), (31, 0), (32, 0), (33, 0)] else none, fz := fun r => if r = 3 then some [4] else none }
@[simp] theorem wio4 : cf4.wio = fun f i => (f == 30 && (i == 0)) || (f == 12 && (i == 0)) || (f == 13 && (i == 0)) || (f == 20 && (i == 0)) || (f == 999999 && (i == 0)) := rfl
@[simp] theorem live4 : cf4.live = fun r => if r = 7 then some [5, 35, 36, 37] else if r = 11 then some [5, 7, 8, 9, 35, 36, 37, 46, 47, 48] else none := rfl
@[simp] theorem wr4 : cf4.wr = fun _ => [] := rfl
def cf5 : Cfg := { wio := fun f i => (f == 30 && (i == 0)) || (f == 12 && (i == 0)) || (f == 13 && (i == 0)) || (f == 20 && (i == 0)) || (f == 999999 && (i == 0)), live := fun r => if r = 9 then some [4, 5, 7, 8, 78, 79, 80] else if r = 20 then some [4, 5, 7, 8, 9, 78, 79, 80, 189, 190, 191] else if r = 27 then some [4, 5, 7, 8, 9, 20, 22, 78, 79, 80, 189, 190, 191, 221, 222, 223] else none, dr := fun r => if r = 15 then some [(0, 0), (1, 0), (2, 0), (3, 0), (4, 0), (5, 0), (6, 0), (7, 0), (8, 0), (9, 0), (10, 0), (11, 1), (12, 0), (13, 0), (14, 0), (15, 0), (16, 0)] else if r = 16 then some [(0, 0), (1, 0), (2, 0), (3, 0), (4, 0), (5, 0), (6, 0), (7, 1), (8, 0), (9, 0), (10, 0), (11, 0), (12, 0)] else if r = 17 then some [(0, 0), (1, 0), (2, 0), (3, 0), (4, 0), (5, 0), (6, 0), (7, 0), (8, 0), (9, 0), (10, 0), (11, 0), (12, 0), (13, 0), (14, 0), (15, 0), (16, 0), (17, 0), (18, 0), (19, 0), (20, 0), (21, 0), (22, 0), (23, 0), (24, 0), (25, 0), (26, 0), (27, 0), (28, 0), (29, 0), (30, 0), (31, 0), (32, 0), (33, 0), (34, 0), (35, 0), (36, 0), (37, 0), (38, 0), (39, 0), (40, 0), (41, 0), (42, 0), (43, 0), (44, 0), (45, 0), (46, 0), (47, 0)] else if r = 24 then some [(0, 0), (1, 0), (2, 0), (3, 0), (4, 0), (5, 0), (6, 0), (7, 0), (8, 0), (9, 0), (10, 0), (11, 1), (12, 0), (13, 0), (14, 0), (15, 0), (16, 0)] else none, fz := fun r => if r = 3 then some [4] else none }
@[simp] theorem wio5 : cf5.wio = fun f i => (f == 30 && (i == 0)) || (f == 12 && (i == 0)) || (f == 13 && (i == 0)) || (f == 20 && (i == 0)) || (f == 999999 && (i == 0)) := rfl
@[simp] theorem live5 : cf5.live = fun r => if r = 9 then some [4, 5, 7, 8, 78, 79, 80] else if r = 20 then some [4, 5, 7, 8, 9, 78, 79, 80, 189, 190, 191] else if r = 27 then some [4, 5, 7, 8, 9, 20, 22, 78, 79, 80, 189, 190, 191, 221, 222, 223] else none := rfl
@[simp] theorem wr5 : cf5.wr = fun _ => [] := rfl
def cf6 : Cfg := { wio := fun f i => (f == 30 && (i == 0)) || (f == 12 && (i == 0)) || (f == 13 && (i == 0)) || (f == 20 && (i == 0)) || (f == 999999 && (i == 0)), live := fun r => if r = 10 then some [8, 10, 11, 12, 64, 65, 66] else none, dr := fun r => if r = 8 then some [(0, 0), (1, 0), (2, 0), (3, 0), (4, 0), (5, 0), (6, 0), (7, 1), (8, 0), (9, 0), (10, 0), (11, 0), (12, 0)] else if r = 13 then some [(0, 0), (1, 0), (2, 0), (3, 0), (4, 0), (5, 0), (6, 0), (7, 0), (8, 0), (9, 0), (10, 0), (11, 0), (12, 0), (13, 0), (14, 0), (15, 0), (16, 1), (17, 0), (18, 0)] else none, fz := fun r => if r = 4 then some [6] else none }
@[simp] theorem wio6 : cf6.wio = fun f i => (f == 30 && (i == 0)) || (f == 12 && (i == 0)) || (f == 13 && (i == 0)) || (f == 20 && (i == 0)) || (f == 999999 && (i == 0)) := rfl
@[simp] theorem live6 : cf6.live = fun r => if r = 10 then some [8, 10, 11, 12, 64, 65, 66] else none := rfl
@[simp] theorem wr6 : cf6.wr = fun _ => [] := rfl
def cf8 : Cfg := { wio := fun f i => (f == 30 && (i == 0)) || (f == 12 && (i == 0)) || (f == 13 && (i == 0)) || (f == 20 && (i == 0)) || (f == 999999 && (i == 0)), live := fun r => none, dr := fun r => none }
@[simp] theorem wio8 : cf8.wio = fun f i => (f == 30 && (i == 0)) || (f == 12 && (i == 0)) || (f == 13 && (i == 0)) || (f == 20 && (i == 0)) || (f == 999999 && (i == 0)) := rfl
@[simp] theorem live8 : cf8.live = fun r => none := rfl
@[simp] theorem wr8 : cf8.wr = fun _ => [] := rfl
def cf9 : Cfg := { wio := fun f i => (f == 30 && (i == 0)) || (f == 12 && (i == 0)) || (f == 13 && (i == 0)) || (f == 20 && (i == 0)) || (f == 999999 && (i == 0)), live := fun r => none, dr := fun r => none }
@[simp] theorem wio9 : cf9.wio = fun f i => (f == 30 && (i == 0)) || (f == 12 && (i == 0)) || (f == 13 && (i == 0)) || (f == 20 && (i == 0)) || (f == 999999 && (i == 0)) := rfl
@[simp] theorem live9 : cf9.live = fun r => none := rfl
@[simp] theorem wr9 : cf9.wr = fun _ => [] := rfl
def cf10 : Cfg := { wio := fun f i => (f == 30 && (i == 0)) || (f == 12 && (i == 0)) || (f == 13 && (i == 0)) || (f == 20 && (i == 0)) || (f == 999999 && (i == 0)), live := fun r => none, dr := fun r => none }
@[simp] theorem wio10 : cf10.wio = fun f i => (f == 30 && (i == 0)) || (f == 12 && (i == 0)) || (f == 13 && (i == 0)) || (f == 20 && (i == 0)) || (f == 999999 && (i == 0)) := rfl
@[simp] theorem live10 : cf10.live = fun r => none := rfl
@[simp] theorem wr10 : cf10.wr = fun _ => [] := rfl
def cf11 : Cfg := { wio := fun f i => (f == 999999 && (i == 0)), live := fun r => none, dr := fun r => none }
@[simp] theorem wio11 : cf11.wio = fun f i => (f == 999999 && (i == 0)) := rfl
@[simp] theorem live11 : cf11.live = fun r => none := rfl
@[simp] theorem wr11 : cf11.wr = fun _ => [] := rfl
def cf12 : Cfg := { wio := fun f i => (f == 30 && (i == 0)) || (f == 34 && (i == 0)) || (f == 31 && (i == 0)) || (f == 32 && (i == 0)) || (f == 33 && (i == 0)) || (f == 999999 && (i == 0)), live := fun r => none, dr := fun r => none }
@[simp] theorem wio12 : cf12.wio = fun f i => (f == 30 && (i == 0)) || (f == 34 && (i == 0)) || (f == 31 && (i == 0)) || (f == 32 && (i == 0)) || (f == 33 && (i == 0)) || (f == 999999 && (i == 0)) := rfl
@[simp] theorem live12 : cf12.live = fun r => none := rfl
@[simp] theorem wr12 : cf12.wr = fun _ => [] := rfl
def cf13 : Cfg := { wio := fun f i => (f == 30 && (i == 0)) || (f == 999999 && (i == 0)), live := fun r => none, dr := fun r => none }
@[simp] theorem wio13 : cf13.wio = fun f i => (f == 30 && (i == 0)) || (f == 999999 && (i == 0)) := rfl
@[simp] theorem live13 : cf13.live = fun r => none := rfl
@[simp] theorem wr13 : cf13.wr = fun _ => [] := rfl
def zfx : SchT := .nil
def zbU : SchT := .op 13 2 zfx
def z7M : SchT := .op 11 0 zbU
def zfy : SchT := .op 12 1 zbU
def z7N : SchT := .op 4 1 z7M
def z7O : SchT := .op 6 1 z7M
def z7P : SchT := .op 8 1 z7M
def z7Q : SchT := .op 10 1 z7M
def z7R : SchT := .op 11 0 zfy
def z9s : SchT := .alt (.op 4 1 z7O) (.op 6 1 z7N)
def z9t : SchT := .alt (.op 4 1 z7P) (.op 8 1 z7N)
def z9u : SchT := .alt (.op 4 1 z7Q) (.op 10 1 z7N)
def z9v : SchT := .alt (.op 4 1 z7R) (.op 12 1 z7N)
def z9w : SchT := .alt (.op 6 1 z7P) (.op 8 1 z7O)
def z9x : SchT := .alt (.op 6 1 z7Q) (.op 10 1 z7O)
def z9y : SchT := .alt (.op 6 1 z7R) (.op 12 1 z7O)
def z9z : SchT := .alt (.op 8 1 z7Q) (.op 10 1 z7P)
def z9A : SchT := .alt (.op 8 1 z7R) (.op 12 1 z7P)
def z9B : SchT := .alt (.op 10 1 z7R) (.op 12 1 z7Q)
def zbV : SchT := .alt (.op 4 1 z9w) (.alt (.op 6 1 z9t) (.op 8 1 z9s))
def zbW : SchT := .alt (.op 4 1 z9x) (.alt (.op 6 1 z9u) (.op 10 1 z9s))
def zbX : SchT := .alt (.op 4 1 z9y) (.alt (.op 6 1 z9v) (.op 12 1 z9s))
def zbY : SchT := .alt (.op 4 1 z9z) (.alt (.op 8 1 z9u) (.op 10 1 z9t))
def zbZ : SchT := .alt (.op 4 1 z9A) (.alt (.op 8 1 z9v) (.op 12 1 z9t))
def zc0 : SchT := .alt (.op 4 1 z9B) (.alt (.op 10 1 z9v) (.op 12 1 z9u))
def zc1 : SchT := .alt (.op 6 1 z9z) (.alt (.op 8 1 z9x) (.op 10 1 z9w))
def zc2 : SchT := .alt (.op 6 1 z9A) (.alt (.op 8 1 z9y) (.op 12 1 z9w))
def zc3 : SchT := .alt (.op 6 1 z9B) (.alt (.op 10 1 z9y) (.op 12 1 z9x))
def zc4 : SchT := .alt (.op 8 1 z9B) (.alt (.op 10 1 z9A) (.op 12 1 z9z))
def zfz : SchT := .alt (.op 4 1 zc1) (.alt (.op 6 1 zbY) (.alt (.op 8 1 zbW) (.op 10 1 zbV)))
def zfA : SchT := .alt (.op 4 1 zc2) (.alt (.op 6 1 zbZ) (.alt (.op 8 1 zbX) (.op 12 1 zbV)))
def zfB : SchT := .alt (.op 4 1 zc3) (.alt (.op 6 1 zc0) (.alt (.op 10 1 zbX) (.op 12 1 zbW)))
def zho : SchT := .alt (.op 4 1 zc4) (.alt (.op 8 1 zc0) (.alt (.op 10 1 zbZ) (.op 12 1 zbY)))
def zhp : SchT := .alt (.op 6 1 zc4) (.alt (.op 8 1 zc3) (.alt (.op 10 1 zc2) (.op 12 1 zc1)))
def zhq : SchT := .alt (.op 4 1 zhp) (.alt (.op 6 1 zho) (.alt (.op 8 1 zfB) (.alt (.op 10 1 zfA) (.op 12 1 zfz))))
def zhr : SchT := .op 9 0 zhq
def zhs : SchT := .op 7 0 zhr
def zht : SchT := .op 5 0 zhs
def zhu : SchT := .op 3 0 zht
def zhv : SchT := .op 2 0 zhu
def zhw : SchT := .op 1 0 zhv
def zhx : SchT := .op 0 0 zhw
def cf14 : Cfg := { wio := fun f i => (f == 999999 && (i == 0)), live := fun r => if r = 12 then some [2, 5, 7, 8, 9, 10, 53, 54] else if r = 19 then some [2, 5, 7, 8, 10, 85, 86, 87] else if r = 23 then some [2, 5, 7, 8, 10, 14, 17, 85, 86, 87, 99, 100] else none, dr := fun r => if r = 14 then some [(0, 0), (1, 0), (2, 0), (3, 0), (4, 0), (5, 1), (6, 0), (7, 2)] else if r = 16 then some [(0, 0), (1, 0), (2, 0), (3, 0), (4, 0), (5, 0), (6, 0), (7, 0), (8, 0), (9, 0), (10, 0), (11, 0), (12, 0), (13, 0), (14, 2)] else if r = 26 then some [(0, 0), (1, 0), (2, 0), (3, 0), (4, 0), (5, 0), (6, 0), (7, 0), (8, 2)] else none, fz := fun r => if r = 8 then some [5] else if r = 10 then some [8] else if r = 999998 then some [] else none, dt := fun r => if r = 10 then some (zhx) else none }
@[simp] theorem wio14 : cf14.wio = fun f i => (f == 999999 && (i == 0)) := rfl
@[simp] theorem live14 : cf14.live = fun r => if r = 12 then some [2, 5, 7, 8, 9, 10, 53, 54] else if r = 19 then some [2, 5, 7, 8, 10, 85, 86, 87] else if r = 23 then some [2, 5, 7, 8, 10, 14, 17, 85, 86, 87, 99, 100] else none := rfl
@[simp] theorem wr14 : cf14.wr = fun _ => [] := rfl
def zfj : SchT := .nil
def zfk : SchT := .op 15 2 zfj
def zbB : SchT := .op 14 0 zfk
def zfl : SchT := .op 7 1 zbB
def zbC : SchT := .op 13 2 zbB
def zfm : SchT := .alt (.op 7 1 zbC) (.op 13 2 zfl)
def zbD : SchT := .op 12 0 zbC
def zbE : SchT := .op 5 1 zbD
def zbF : SchT := .op 12 0 zfm
def z9m : SchT := .op 11 2 zbD
def zfn : SchT := .alt (.op 5 1 zbF) (.op 7 1 zbE)
def zbG : SchT := .alt (.op 5 1 z9m) (.op 11 2 zbE)
def zbH : SchT := .alt (.op 7 1 z9m) (.op 11 2 zbF)
def zbI : SchT := .op 10 0 z9m
def z9n : SchT := .op 3 1 zbI
def zfo : SchT := .alt (.op 5 1 zbH) (.alt (.op 7 1 zbG) (.op 11 2 zfn))
def zbJ : SchT := .op 10 0 zbG
def zbK : SchT := .op 10 0 zbH
def z7L : SchT := .op 9 2 zbI
def zbL : SchT := .alt (.op 3 1 zbJ) (.op 5 1 z9n)
def zbM : SchT := .alt (.op 3 1 zbK) (.op 7 1 z9n)
def z9o : SchT := .alt (.op 3 1 z7L) (.op 9 2 z9n)
def zbN : SchT := .op 10 0 zfo
def z9p : SchT := .alt (.op 5 1 z7L) (.op 9 2 zbJ)
def z9q : SchT := .alt (.op 7 1 z7L) (.op 9 2 zbK)
def zfp : SchT := .op 8 0 z7L
def z9r : SchT := .op 1 1 zfp
def zfq : SchT := .alt (.op 3 1 zbN) (.alt (.op 5 1 zbM) (.op 7 1 zbL))
def zbO : SchT := .alt (.op 3 1 z9p) (.alt (.op 5 1 z9o) (.op 9 2 zbL))
def zbP : SchT := .alt (.op 3 1 z9q) (.alt (.op 7 1 z9o) (.op 9 2 zbM))
def zfr : SchT := .op 8 0 z9o
def zbQ : SchT := .alt (.op 5 1 z9q) (.alt (.op 7 1 z9p) (.op 9 2 zbN))
def zfs : SchT := .op 8 0 z9p
def zft : SchT := .op 8 0 z9q
def zbR : SchT := .alt (.op 1 1 zfr) (.op 3 1 z9r)
def zbS : SchT := .alt (.op 1 1 zfs) (.op 5 1 z9r)
def zbT : SchT := .alt (.op 1 1 zft) (.op 7 1 z9r)
def zfu : SchT := .alt (.op 3 1 zbQ) (.alt (.op 5 1 zbP) (.alt (.op 7 1 zbO) (.op 9 2 zfq)))
def zfv : SchT := .op 8 0 zbO
def zfw : SchT := .op 8 0 zbP
def zhe : SchT := .op 8 0 zbQ
def zhf : SchT := .alt (.op 1 1 zfv) (.alt (.op 3 1 zbS) (.op 5 1 zbR))
def zhg : SchT := .alt (.op 1 1 zfw) (.alt (.op 3 1 zbT) (.op 7 1 zbR))
def zhh : SchT := .alt (.op 1 1 zhe) (.alt (.op 5 1 zbT) (.op 7 1 zbS))
def zhi : SchT := .op 8 0 zfu
def zhj : SchT := .alt (.op 1 1 zhi) (.alt (.op 3 1 zhh) (.alt (.op 5 1 zhg) (.op 7 1 zhf)))
def zhk : SchT := .op 6 3 zhj
def zhl : SchT := .op 4 3 zhk
def zhm : SchT := .op 2 3 zhl
def zhn : SchT := .op 0 0 zhm
def zfc : SchT := .nil
def zfd : SchT := .op 12 2 zfc
def zbv : SchT := .op 11 0 zfd
def zfe : SchT := .op 1 2 zbv
def z9k : SchT := .op 10 2 zbv
def zbw : SchT := .alt (.op 1 2 z9k) (.op 10 2 zfe)
def z9l : SchT := .op 7 2 z9k
def zbx : SchT := .op 9 1 z9k
def zby : SchT := .alt (.op 1 2 z9l) (.op 7 2 zbw)
def zff : SchT := .alt (.op 1 2 zbx) (.op 9 1 zbw)
def zfg : SchT := .op 6 0 z9l
def zbz : SchT := .alt (.op 7 2 zbx) (.op 9 1 z9l)
def zfh : SchT := .op 6 3 zby
def zfi : SchT := .alt (.op 1 2 zbz) (.alt (.op 7 2 zff) (.op 9 1 zby))
def zbA : SchT := .op 4 2 zfg
def zh4 : SchT := .op 6 0 zbz
def zh5 : SchT := .alt (.op 1 2 zbA) (.op 4 2 zfh)
def zh6 : SchT := .op 6 3 zfi
def zh7 : SchT := .alt (.op 4 2 zh4) (.op 9 1 zbA)
def zh8 : SchT := .alt (.op 1 2 zh7) (.alt (.op 4 2 zh6) (.op 9 1 zh5))
def zh9 : SchT := .op 8 3 zh8
def zha : SchT := .op 5 3 zh9
def zhb : SchT := .op 3 3 zha
def zhc : SchT := .op 2 3 zhb
def zhd : SchT := .op 0 3 zhc
def cf15 : Cfg := { wio := fun f i => (f == 999999 && (i == 0)), live := fun r => if r = 10 then some [1, 2, 5, 6, 7, 57, 58, 59] else if r = 16 then some [1, 2, 5, 6, 10, 71, 72] else if r = 21 then some [1, 2, 5, 6, 10, 82, 83, 84] else if r = 25 then some [1, 2, 5, 6, 10, 12, 82, 83, 84, 95, 96, 97] else if r = 28 then some [1, 2, 5, 6, 10, 12, 17, 82, 83, 84, 95, 96, 97, 102, 103, 104] else if r = 37 then some [1, 2, 5, 6, 10, 20, 126, 127] else if r = 41 then some [1, 2, 5, 6, 10, 20, 21, 22, 126, 127] else if r = 49 then some [1, 2, 5, 10, 23] else if r = 52 then some [1, 2, 5, 10, 23, 181, 182] else if r = 55 then some [1, 2, 5, 10, 23, 24, 181, 182, 187, 188] else if r = 63 then some [1, 2, 5, 244, 245] else if r = 67 then some [1, 2, 5, 26, 244, 245, 256, 257, 258] else if r = 72 then some [1, 2, 5, 26, 27, 28, 29, 244, 245, 256, 257, 258, 278, 279, 280] else if r = 81 then some [1, 2, 5, 333, 334] else if r = 84 then some [1, 2, 5, 32, 33, 333, 334] else if r = 88 then some [1, 2, 5, 32, 33, 35, 333, 334, 360, 361, 362] else if r = 95 then some [1, 2, 5, 32, 33, 35, 333, 334, 393, 394, 395] else none, dr := fun r => if r = 57 then some [(0, 0), (1, 0), (2, 0), (3, 0), (4, 0), (5, 1), (6, 0), (7, 0), (8, 0), (9, 0), (10, 0), (11, 0), (12, 0), (13, 0), (14, 0), (15, 0), (16, 0), (17, 0), (18, 0), (19, 0), (20, 0), (21, 0), (22, 0), (23, 0), (24, 0), (25, 0), (26, 0), (27, 0), (28, 0), (29, 0), (30, 0), (31, 0), (32, 0), (33, 0), (34, 0), (35, 0), (36, 0), (37, 0), (38, 0)] else if r = 58 then some [(0, 0), (1, 0), (2, 0), (3, 0), (4, 0), (5, 0), (6, 0), (7, 0), (8, 0), (9, 0), (10, 2)] else if r = 84 then some [(0, 0), (1, 0), (2, 0), (3, 0), (4, 0), (5, 0), (6, 0), (7, 0), (8, 0), (9, 0), (10, 0)] else if r = 86 then some [(0, 0), (1, 0), (2, 0), (3, 0), (4, 0), (5, 0), (6, 1), (7, 0), (8, 0), (9, 0), (10, 0), (11, 0)] else if r = 91 then some [(0, 0), (1, 0), (2, 0), (3, 0), (4, 0), (5, 0), (6, 0), (7, 0), (8, 2)] else if r = 93 then some [(0, 0), (1, 0), (2, 0), (3, 0), (4, 0), (5, 0), (6, 1), (7, 0), (8, 0), (9, 0), (10, 0), (11, 0)] else if r = 98 then some [(0, 0), (1, 0), (2, 0), (3, 0), (4, 0), (5, 0), (6, 0), (7, 0), (8, 2)] else none, dt := fun r => if r = 47 then some (zhn) else if r = 77 then some (zhd) else none }
@[simp] theorem wio15 : cf15.wio = fun f i => (f == 999999 && (i == 0)) := rfl
@[simp] theorem live15 : cf15.live = fun r => if r = 10 then some [1, 2, 5, 6, 7, 57, 58, 59] else if r = 16 then some [1, 2, 5, 6, 10, 71, 72] else if r = 21 then some [1, 2, 5, 6, 10, 82, 83, 84] else if r = 25 then some [1, 2, 5, 6, 10, 12, 82, 83, 84, 95, 96, 97] else if r = 28 then some [1, 2, 5, 6, 10, 12, 17, 82, 83, 84, 95, 96, 97, 102, 103, 104] else if r = 37 then some [1, 2, 5, 6, 10, 20, 126, 127] else if r = 41 then some [1, 2, 5, 6, 10, 20, 21, 22, 126, 127] else if r = 49 then some [1, 2, 5, 10, 23] else if r = 52 then some [1, 2, 5, 10, 23, 181, 182] else if r = 55 then some [1, 2, 5, 10, 23, 24, 181, 182, 187, 188] else if r = 63 then some [1, 2, 5, 244, 245] else if r = 67 then some [1, 2, 5, 26, 244, 245, 256, 257, 258] else if r = 72 then some [1, 2, 5, 26, 27, 28, 29, 244, 245, 256, 257, 258, 278, 279, 280] else if r = 81 then some [1, 2, 5, 333, 334] else if r = 84 then some [1, 2, 5, 32, 33, 333, 334] else if r = 88 then some [1, 2, 5, 32, 33, 35, 333, 334, 360, 361, 362] else if r = 95 then some [1, 2, 5, 32, 33, 35, 333, 334, 393, 394, 395] else none := rfl
@[simp] theorem wr15 : cf15.wr = fun _ => [] := rfl
def cf16 : Cfg := { wio := fun f i => (f == 999999 && (i == 0)), live := fun r => none, dr := fun r => none }
@[simp] theorem wio16 : cf16.wio = fun f i => (f == 999999 && (i == 0)) := rfl
@[simp] theorem live16 : cf16.live = fun r => none := rfl
@[simp] theorem wr16 : cf16.wr = fun _ => [] := rfl
def cf17 : Cfg := { wio := fun f i => (f == 999999 && (i == 0)), live := fun r => none, dr := fun r => none }
@[simp] theorem wio17 : cf17.wio = fun f i => (f == 999999 && (i == 0)) := rfl
@[simp] theorem live17 : cf17.live = fun r => none := rfl
@[simp] theorem wr17 : cf17.wr = fun _ => [] := rfl
def cf18 : Cfg := { wio := fun f i => (f == 999999 && (i == 0)), live := fun r => if r = 2 then some [0, 3] else none, dr := fun r => none }
@[simp] theorem wio18 : cf18.wio = fun f i => (f == 999999 && (i == 0)) := rfl
@[simp] theorem live18 : cf18.live = fun r => if r = 2 then some [0, 3] else none := rfl
@[simp] theorem wr18 : cf18.wr = fun _ => [] := rfl
def cf19 : Cfg := { wio := fun f i => (f == 999999 && (i == 0)), live := fun r => if r = 7 then some [1, 2, 3, 27, 28] else none, dr := fun r => if r = 9 then some [(0, 0), (1, 0), (2, 0), (3, 0), (4, 0), (5, 0), (6, 0), (7, 1), (8, 0)] else none }
@[simp] theorem wio19 : cf19.wio = fun f i => (f == 999999 && (i == 0)) := rfl
@[simp] theorem live19 : cf19.live = fun r => if r = 7 then some [1, 2, 3, 27, 28] else none := rfl
@[simp] theorem wr19 : cf19.wr = fun _ => [] := rfl
def cf20 : Cfg := { wio := fun f i => (f == 30 && (i == 0)) || (f == 999999 && (i == 0)), live := fun r => if r = 3 then some [0, 1, 7, 8] else none, dr := fun r => none }
@[simp] theorem wio20 : cf20.wio = fun f i => (f == 30 && (i == 0)) || (f == 999999 && (i == 0)) := rfl
@[simp] theorem live20 : cf20.live = fun r => if r = 3 then some [0, 1, 7, 8] else none := rfl
@[simp] theorem wr20 : cf20.wr = fun _ => [] := rfl
def cf21 : Cfg := { wio := fun f i => (f == 999999 && (i == 0)), live := fun r => none, dr := fun r => none }
@[simp] theorem wio21 : cf21.wio = fun f i => (f == 999999 && (i == 0)) := rfl
@[simp] theorem live21 : cf21.live = fun r => none := rfl
@[simp] theorem wr21 : cf21.wr = fun _ => [] := rfl
def cf22 : Cfg := { wio := fun f i => (f == 999999 && (i == 0)), live := fun r => none, dr := fun r => none }
@[simp] theorem wio22 : cf22.wio = fun f i => (f == 999999 && (i == 0)) := rfl
@[simp] theorem live22 : cf22.live = fun r => none := rfl
@[simp] theorem wr22 : cf22.wr = fun _ => [] := rfl
def cf23 : Cfg := { wio := fun f i => (f == 999999 && (i == 0)), live := fun r => if r = 3 then some [3, 6, 7, 8] else none, dr := fun r => none }
@[simp] theorem wio23 : cf23.wio = fun f i => (f == 999999 && (i == 0)) := rfl
@[simp] theorem live23 : cf23.live = fun r => if r = 3 then some [3, 6, 7, 8] else none := rfl
@[simp] theorem wr23 : cf23.wr = fun _ => [] := rfl
def cf24 : Cfg := { wio := fun f i => (f == 999999 && (i == 0)), live := fun r => none, dr := fun r => none }
@[simp] theorem wio24 : cf24.wio = fun f i => (f == 999999 && (i == 0)) := rfl
@[simp] theorem live24 : cf24.live = fun r => none := rfl
@[simp] theorem wr24 : cf24.wr = fun _ => [] := rfl
def cf25 : Cfg := { wio := fun f i => (f == 999999 && (i == 0)), live := fun r => if r = 8 then some [1, 11, 35, 36, 37] else none, dr := fun r => none }
@[simp] theorem wio25 : cf25.wio = fun f i => (f == 999999 && (i == 0)) := rfl
@[simp] theorem live25 : cf25.live = fun r => if r = 8 then some [1, 11, 35, 36, 37] else none := rfl
@[simp] theorem wr25 : cf25.wr = fun _ => [] := rfl
def cf26 : Cfg := { wio := fun f i => (f == 999999 && (i == 0)), live := fun r => if r = 8 then some [1, 11, 35, 36, 37] else none, dr := fun r => none }
@[simp] theorem wio26 : cf26.wio = fun f i => (f == 999999 && (i == 0)) := rfl
@[simp] theorem live26 : cf26.live = fun r => if r = 8 then some [1, 11, 35, 36, 37] else none := rfl
@[simp] theorem wr26 : cf26.wr = fun _ => [] := rfl
def cf27 : Cfg := { wio := fun f i => (f == 999999 && (i == 0)), live := fun r => if r = 4 then some [0, 1, 5] else none, dr := fun r => none }
@[simp] theorem wio27 : cf27.wio = fun f i => (f == 999999 && (i == 0)) := rfl
@[simp] theorem live27 : cf27.live = fun r => if r = 4 then some [0, 1, 5] else none := rfl
@[simp] theorem wr27 : cf27.wr = fun _ => [] := rfl
def cf28 : Cfg := { wio := fun f i => (f == 999999 && (i == 0)), live := fun r => if r = 4 then some [16, 17, 18] else none, dr := fun r => none }
@[simp] theorem wio28 : cf28.wio = fun f i => (f == 999999 && (i == 0)) := rfl
@[simp] theorem live28 : cf28.live = fun r => if r = 4 then some [16, 17, 18] else none := rfl
@[simp] theorem wr28 : cf28.wr = fun _ => [] := rfl
def cf29 : Cfg := { wio := fun f i => (f == 999999 && (i == 0)), live := fun r => none, dr := fun r => none }
@[simp] theorem wio29 : cf29.wio = fun f i => (f == 999999 && (i == 0)) := rfl
@[simp] theorem live29 : cf29.live = fun r => none := rfl
@[simp] theorem wr29 : cf29.wr = fun _ => [] := rfl
def cf30 : Cfg := { wio := fun f i => (f == 999999 && (i == 0)), live := fun r => none, dr := fun r => if r = 1 then some [(0, 0), (1, 0), (2, 0), (3, 0), (4, 0), (5, 0), (6, 0), (7, 0), (8, 0), (9, 0)] else if r = 4 then some [(0, 0), (1, 0), (2, 0), (3, 0), (4, 0), (5, 0), (6, 0), (7, 0), (8, 0), (9, 0), (10, 0), (11, 0), (12, 1), (13, 0)] else none }
@[simp] theorem wio30 : cf30.wio = fun f i => (f == 999999 && (i == 0)) := rfl
@[simp] theorem live30 : cf30.live = fun r => none := rfl
@[simp] theorem wr30 : cf30.wr = fun _ => [] := rfl
def cf31 : Cfg := { wio := fun f i => (f == 34 && (i == 0)) || (f == 999999 && (i == 0)), live := fun r => if r = 3 then some [6, 7, 17, 18] else if r = 6 then some [6, 7, 8, 17, 18, 25, 26, 27] else none, dr := fun r => none }
@[simp] theorem wio31 : cf31.wio = fun f i => (f == 34 && (i == 0)) || (f == 999999 && (i == 0)) := rfl
@[simp] theorem live31 : cf31.live = fun r => if r = 3 then some [6, 7, 17, 18] else if r = 6 then some [6, 7, 8, 17, 18, 25, 26, 27] else none := rfl
@[simp] theorem wr31 : cf31.wr = fun _ => [] := rfl
def zgL : SchT := .nil
def zgM : SchT := .op 16 2 zgL
def zgN : SchT := .op 15 0 zgM
def zgO : SchT := .op 14 2 zgN
def zcW : SchT := .op 12 2 zgO
def zcX : SchT := .op 11 1 zcW
def zcY : SchT := .op 13 3 zcW
def z8E : SchT := .op 6 2 zcY
def zcZ : SchT := .op 8 2 zcY
def zgP : SchT := .op 10 1 zcX
def zd0 : SchT := .op 13 3 zcX
def zax : SchT := .op 1 2 z8E
def z8F : SchT := .op 5 1 z8E
def zay : SchT := .alt (.op 6 2 zcZ) (.op 8 2 z8E)
def z8G : SchT := .alt (.op 6 2 zd0) (.op 11 1 z8E)
def zd1 : SchT := .alt (.op 8 2 zd0) (.op 11 1 zcZ)
def zd2 : SchT := .op 13 3 zgP
def zaz : SchT := .alt (.op 1 2 z8F) (.op 5 1 zax)
def zd3 : SchT := .alt (.op 1 2 zay) (.op 8 2 zax)
def zaA : SchT := .alt (.op 1 2 z8G) (.op 11 1 zax)
def zgQ : SchT := .op 4 0 z8F
def zaB : SchT := .alt (.op 5 1 zay) (.op 8 2 z8F)
def z8H : SchT := .alt (.op 5 1 z8G) (.op 11 1 z8F)
def zaC : SchT := .alt (.op 6 2 zd1) (.alt (.op 8 2 z8G) (.op 11 1 zay))
def zaD : SchT := .alt (.op 6 2 zd2) (.op 10 1 z8G)
def zgR : SchT := .alt (.op 8 2 zd2) (.op 10 1 zd1)
def zgS : SchT := .op 4 3 zaz
def zd4 : SchT := .alt (.op 1 2 zaB) (.alt (.op 5 1 zd3) (.op 8 2 zaz))
def zaE : SchT := .alt (.op 1 2 z8H) (.alt (.op 5 1 zaA) (.op 11 1 zaz))
def zd5 : SchT := .alt (.op 1 2 zaC) (.alt (.op 8 2 zaA) (.op 11 1 zd3))
def zd6 : SchT := .alt (.op 1 2 zaD) (.op 10 1 zaA)
def zaF : SchT := .op 3 1 zgQ
def zgT : SchT := .op 4 3 zaB
def zgU : SchT := .op 4 0 z8H
def zaG : SchT := .alt (.op 5 1 zaC) (.alt (.op 8 2 z8H) (.op 11 1 zaB))
def zaH : SchT := .alt (.op 5 1 zaD) (.op 10 1 z8H)
def zd7 : SchT := .alt (.op 6 2 zgR) (.alt (.op 8 2 zaD) (.op 10 1 zaC))
def zd8 : SchT := .alt (.op 1 2 zaF) (.op 3 1 zgS)
def zgV : SchT := .op 4 3 zd4
def zgW : SchT := .op 4 3 zaE
def zd9 : SchT := .alt (.op 1 2 zaG) (.alt (.op 5 1 zd5) (.alt (.op 8 2 zaE) (.op 11 1 zd4)))
def zda : SchT := .alt (.op 1 2 zaH) (.alt (.op 5 1 zd6) (.op 10 1 zaE))
def zgX : SchT := .alt (.op 1 2 zd7) (.alt (.op 8 2 zd6) (.op 10 1 zd5))
def zdb : SchT := .alt (.op 3 1 zgT) (.op 8 2 zaF)
def zaI : SchT := .alt (.op 3 1 zgU) (.op 11 1 zaF)
def zgY : SchT := .op 4 3 zaG
def zgZ : SchT := .op 4 0 zaH
def zdc : SchT := .alt (.op 5 1 zd7) (.alt (.op 8 2 zaH) (.op 10 1 zaG))
def zh0 : SchT := .alt (.op 1 2 zdb) (.alt (.op 3 1 zgV) (.op 8 2 zd8))
def zdd : SchT := .alt (.op 1 2 zaI) (.alt (.op 3 1 zgW) (.op 11 1 zd8))
def zh1 : SchT := .op 4 3 zd9
def zh2 : SchT := .op 4 3 zda
def zh3 : SchT := .alt (.op 1 2 zdc) (.alt (.op 5 1 zgX) (.alt (.op 8 2 zda) (.op 10 1 zd9)))
def zde : SchT := .alt (.op 3 1 zgY) (.alt (.op 8 2 zaI) (.op 11 1 zdb))
def zdf : SchT := .alt (.op 3 1 zgZ) (.op 10 1 zaI)
def zjV : SchT := .op 4 3 zdc
def zjW : SchT := .alt (.op 1 2 zde) (.alt (.op 3 1 zh1) (.alt (.op 8 2 zdd) (.op 11 1 zh0)))
def zjX : SchT := .alt (.op 1 2 zdf) (.alt (.op 3 1 zh2) (.op 10 1 zdd))
def zjY : SchT := .op 4 3 zh3
def zjZ : SchT := .alt (.op 3 1 zjV) (.alt (.op 8 2 zdf) (.op 10 1 zde))
def zk0 : SchT := .alt (.op 1 2 zjZ) (.alt (.op 3 1 zjY) (.alt (.op 8 2 zjX) (.op 10 1 zjW)))
def zk1 : SchT := .op 9 3 zk0
def zk2 : SchT := .op 7 3 zk1
def zk3 : SchT := .op 2 3 zk2
def zk4 : SchT := .op 0 3 zk3
def cf32 : Cfg := { wio := fun f i => (f == 30 && (i == 0)) || (f == 999999 && (i == 0)), live := fun r => if r = 5 then some [0, 1, 6, 7, 8, 9] else if r = 9 then some [0, 1, 6, 7, 8, 10] else if r = 13 then some [0, 1, 6, 7, 8, 10, 11, 12] else if r = 17 then some [0, 1, 6, 7, 8, 10, 11, 13] else none, dr := fun r => if r = 20 then some [(0, 0), (1, 0), (2, 0), (3, 0), (4, 0), (5, 0), (6, 0), (7, 0), (8, 0), (9, 0), (10, 0), (11, 2)] else if r = 21 then some [(1, 0), (2, 0), (3, 0), (5, 3), (6, 3), (7, 3), (8, 3), (0, 1), (4, 2), (9, 2), (10, 0)] else none, wr := fun r => if r = 7 then [0] else [], dt := fun r => if r = 7 then some (zk4) else none }
@[simp] theorem wio32 : cf32.wio = fun f i => (f == 30 && (i == 0)) || (f == 999999 && (i == 0)) := rfl
@[simp] theorem live32 : cf32.live = fun r => if r = 5 then some [0, 1, 6, 7, 8, 9] else if r = 9 then some [0, 1, 6, 7, 8, 10] else if r = 13 then some [0, 1, 6, 7, 8, 10, 11, 12] else if r = 17 then some [0, 1, 6, 7, 8, 10, 11, 13] else none := rfl
@[simp] theorem wr32 : cf32.wr = fun r => if r = 7 then [0] else [] := rfl
def cf33 : Cfg := { wio := fun f i => (f == 30 && (i == 0)) || (f == 999999 && (i == 0)), live := fun r => if r = 4 then some [0, 1, 4, 5, 6, 22, 23, 24] else if r = 9 then some [0, 1, 4, 5, 6, 8, 9, 10, 22, 23, 24] else if r = 13 then some [0, 1, 4, 5, 6, 8, 9, 10, 11, 12, 22, 23, 24] else if r = 15 then some [0, 1, 4, 5, 6, 8, 9, 10, 11, 12, 22, 23, 24, 50, 51, 52] else none, dr := fun r => if r = 6 then some [(0, 0), (1, 0), (2, 0), (3, 1), (4, 0), (5, 1), (6, 2), (7, 0), (8, 2)] else none, wr := fun r => if r = 6 then [0] else [] }
@[simp] theorem wio33 : cf33.wio = fun f i => (f == 30 && (i == 0)) || (f == 999999 && (i == 0)) := rfl
@[simp] theorem live33 : cf33.live = fun r => if r = 4 then some [0, 1, 4, 5, 6, 22, 23, 24] else if r = 9 then some [0, 1, 4, 5, 6, 8, 9, 10, 22, 23, 24] else if r = 13 then some [0, 1, 4, 5, 6, 8, 9, 10, 11, 12, 22, 23, 24] else if r = 15 then some [0, 1, 4, 5, 6, 8, 9, 10, 11, 12, 22, 23, 24, 50, 51, 52] else none := rfl
@[simp] theorem wr33 : cf33.wr = fun r => if r = 6 then [0] else [] := rfl
def cf34 : Cfg := { wio := fun f i => (f == 30 && (i == 0)) || (f == 999999 && (i == 0)), live := fun r => if r = 5 then some [0, 1, 6, 7, 8, 9] else if r = 10 then some [0, 1, 6, 7, 8, 9, 10, 11] else none, dr := fun r => if r = 7 then some [(0, 0), (1, 0), (2, 0), (3, 1), (4, 0), (5, 1), (6, 2), (7, 0), (8, 2)] else none, wr := fun r => if r = 7 then [0] else [] }
@[simp] theorem wio34 : cf34.wio = fun f i => (f == 30 && (i == 0)) || (f == 999999 && (i == 0)) := rfl
@[simp] theorem live34 : cf34.live = fun r => if r = 5 then some [0, 1, 6, 7, 8, 9] else if r = 10 then some [0, 1, 6, 7, 8, 9, 10, 11] else none := rfl
@[simp] theorem wr34 : cf34.wr = fun r => if r = 7 then [0] else [] := rfl
def cf35 : Cfg := { wio := fun f i => (f == 999999 && (i == 0)), live := fun r => none, dr := fun r => none }
@[simp] theorem wio35 : cf35.wio = fun f i => (f == 999999 && (i == 0)) := rfl
@[simp] theorem live35 : cf35.live = fun r => none := rfl
@[simp] theorem wr35 : cf35.wr = fun _ => [] := rfl
def cf36 : Cfg := { wio := fun f i => (f == 64 && (i == 0)) || (f == 999999 && (i == 0)), live := fun r => if r = 3 then some [3, 18, 19] else none, dr := fun r => if r = 1 then some [(0, 0), (1, 0), (2, 0), (3, 0), (4, 0), (5, 0), (6, 1), (7, 0), (8, 0), (9, 0), (10, 0), (11, 0)] else none }
@[simp] theorem wio36 : cf36.wio = fun f i => (f == 64 && (i == 0)) || (f == 999999 && (i == 0)) := rfl
@[simp] theorem live36 : cf36.live = fun r => if r = 3 then some [3, 18, 19] else none := rfl
@[simp] theorem wr36 : cf36.wr = fun _ => [] := rfl
def cf37 : Cfg := { wio := fun f i => (f == 999999 && (i == 0)), live := fun r => if r = 3 then some [1, 2, 4, 5, 24, 25, 26] else if r = 9 then some [1, 2, 4, 5, 8, 44, 45, 46] else if r = 13 then some [1, 2, 4, 5, 8, 9, 10, 44, 45, 46, 59, 60] else if r = 20 then some [1, 4, 8, 87, 88] else if r = 24 then some [1, 4, 8, 12, 13, 87, 88, 97, 98, 99] else if r = 27 then some [1, 4, 8, 12, 13, 15, 16, 87, 88, 97, 98, 99, 104, 105, 106] else none, dr := fun r => if r = 11 then some [(0, 0), (1, 0), (2, 0), (3, 0), (4, 0), (5, 1), (6, 0), (7, 2)] else if r = 15 then some [(0, 0), (1, 0), (2, 0), (3, 0), (4, 0), (5, 0), (6, 0), (7, 0), (8, 0), (9, 0), (10, 1), (11, 0), (12, 0), (13, 0), (14, 2)] else if r = 17 then some [(0, 0), (1, 0), (2, 0), (3, 0), (4, 0), (5, 1), (6, 0), (7, 2)] else none, dt := fun r => if r = 7 then some (.op 0 0 (.op 1 0 (.op 2 0 (.op 4 0 (.op 5 0 (.alt (.op 3 1 (.alt (.op 6 1 (.op 7 0 (.op 8 1 (.op 9 2 .nil)))) (.op 8 1 (.op 6 1 (.op 7 0 (.op 9 2 .nil)))))) (.alt (.op 6 1 (.alt (.op 3 1 (.op 7 0 (.op 8 1 (.op 9 2 .nil)))) (.op 8 1 (.op 3 1 (.op 7 0 (.op 9 2 .nil)))))) (.op 8 1 (.alt (.op 3 1 (.op 6 1 (.op 7 0 (.op 9 2 .nil)))) (.op 6 1 (.op 3 1 (.op 7 0 (.op 9 2 .nil))))))))))))) else none }
@[simp] theorem wio37 : cf37.wio = fun f i => (f == 999999 && (i == 0)) := rfl
@[simp] theorem live37 : cf37.live = fun r => if r = 3 then some [1, 2, 4, 5, 24, 25, 26] else if r = 9 then some [1, 2, 4, 5, 8, 44, 45, 46] else if r = 13 then some [1, 2, 4, 5, 8, 9, 10, 44, 45, 46, 59, 60] else if r = 20 then some [1, 4, 8, 87, 88] else if r = 24 then some [1, 4, 8, 12, 13, 87, 88, 97, 98, 99] else if r = 27 then some [1, 4, 8, 12, 13, 15, 16, 87, 88, 97, 98, 99, 104, 105, 106] else none := rfl
@[simp] theorem wr37 : cf37.wr = fun _ => [] := rfl
def cf38 : Cfg := { wio := fun f i => (f == 999999 && (i == 0)), live := fun r => if r = 4 then some [1, 4, 5, 15, 16] else if r = 8 then some [1, 4, 5, 6, 15, 16, 24, 25, 26] else none, dr := fun r => none }
@[simp] theorem wio38 : cf38.wio = fun f i => (f == 999999 && (i == 0)) := rfl
@[simp] theorem live38 : cf38.live = fun r => if r = 4 then some [1, 4, 5, 15, 16] else if r = 8 then some [1, 4, 5, 6, 15, 16, 24, 25, 26] else none := rfl
@[simp] theorem wr38 : cf38.wr = fun _ => [] := rfl
def cf39 : Cfg := { wio := fun f i => (f == 69 && (i == 0)) || (f == 999999 && (i == 0)), live := fun r => if r = 4 then some [1, 2, 5, 6, 23, 24] else if r = 8 then some [1, 2, 5, 6, 7, 23, 24, 33, 34] else if r = 17 then some [1, 2, 9, 60, 61, 62] else if r = 21 then some [1, 2, 9, 11, 60, 61, 62, 75, 76] else none, dr := fun r => if r = 23 then some [(0, 0), (1, 0), (2, 0), (3, 0), (4, 0), (5, 0), (6, 0), (7, 0), (8, 0), (9, 0), (10, 0), (11, 0), (12, 0), (13, 0), (14, 0), (15, 0), (16, 0), (17, 0), (18, 0)] else if r = 24 then some [(0, 0), (1, 0), (2, 0), (3, 0), (4, 0), (5, 0), (6, 0), (7, 0), (8, 0), (9, 0), (10, 0), (11, 0), (12, 0), (13, 2)] else none, fz := fun r => if r = 14 then some [5] else none }
@[simp] theorem wio39 : cf39.wio = fun f i => (f == 69 && (i == 0)) || (f == 999999 && (i == 0)) := rfl
@[simp] theorem live39 : cf39.live = fun r => if r = 4 then some [1, 2, 5, 6, 23, 24] else if r = 8 then some [1, 2, 5, 6, 7, 23, 24, 33, 34] else if r = 17 then some [1, 2, 9, 60, 61, 62] else if r = 21 then some [1, 2, 9, 11, 60, 61, 62, 75, 76] else none := rfl
@[simp] theorem wr39 : cf39.wr = fun _ => [] := rfl
def cf40 : Cfg := { wio := fun f i => (f == 999999 && (i == 0)), live := fun r => if r = 5 then some [1, 2, 5, 21, 22, 23] else if r = 12 then some [2, 5, 8, 45, 46, 47] else if r = 15 then some [2, 5, 8, 10, 45, 46, 47, 51, 52, 53] else none, dr := fun r => if r = 17 then some [(0, 0), (1, 0), (2, 0), (3, 0), (4, 0), (5, 0), (6, 0), (7, 0), (8, 0), (9, 0), (10, 0), (11, 0), (12, 0), (13, 0), (14, 1), (15, 0)] else none }
@[simp] theorem wio40 : cf40.wio = fun f i => (f == 999999 && (i == 0)) := rfl
@[simp] theorem live40 : cf40.live = fun r => if r = 5 then some [1, 2, 5, 21, 22, 23] else if r = 12 then some [2, 5, 8, 45, 46, 47] else if r = 15 then some [2, 5, 8, 10, 45, 46, 47, 51, 52, 53] else none := rfl
@[simp] theorem wr40 : cf40.wr = fun _ => [] := rfl
def cf41 : Cfg := { wio := fun f i => (f == 999999 && (i == 0)), live := fun r => if r = 6 then some [2, 6, 7, 8, 9] else if r = 9 then some [2, 6, 7, 8, 9, 38, 39, 40] else none, dr := fun r => if r = 8 then some [(0, 0), (1, 0), (2, 0), (3, 0), (4, 0), (5, 0), (6, 0), (7, 0), (8, 0), (9, 0)] else if r = 13 then some [(0, 0), (1, 0), (2, 0), (3, 0), (4, 0), (5, 0), (6, 0), (7, 0), (8, 0), (9, 0), (10, 0), (11, 0), (12, 1), (13, 0), (14, 0), (15, 0), (16, 2)] else none }
@[simp] theorem wio41 : cf41.wio = fun f i => (f == 999999 && (i == 0)) := rfl
@[simp] theorem live41 : cf41.live = fun r => if r = 6 then some [2, 6, 7, 8, 9] else if r = 9 then some [2, 6, 7, 8, 9, 38, 39, 40] else none := rfl
@[simp] theorem wr41 : cf41.wr = fun _ => [] := rfl
def cf42 : Cfg := { wio := fun f i => (f == 999999 && (i == 0)), live := fun r => if r = 3 then some [3, 22, 23] else if r = 8 then some [3, 6, 7, 22, 23, 29, 30, 31] else if r = 17 then some [10, 53, 54] else if r = 20 then some [10, 12, 53, 54] else none, dr := fun r => if r = 1 then some [(0, 0), (1, 0), (2, 1), (3, 1), (4, 0), (5, 0), (6, 0), (7, 0), (8, 0)] else if r = 20 then some [(0, 0), (1, 0), (2, 0), (3, 0), (4, 0), (5, 0), (6, 0), (7, 0), (8, 0), (9, 0), (10, 0), (11, 0), (12, 1), (13, 0)] else if r = 22 then some [(0, 0), (1, 0), (2, 3), (3, 3), (4, 3), (5, 0), (6, 0), (7, 0), (8, 0), (9, 0), (10, 0), (11, 0), (12, 0), (13, 0), (14, 0), (15, 2), (16, 0), (17, 2)] else none }
@[simp] theorem wio42 : cf42.wio = fun f i => (f == 999999 && (i == 0)) := rfl
@[simp] theorem live42 : cf42.live = fun r => if r = 3 then some [3, 22, 23] else if r = 8 then some [3, 6, 7, 22, 23, 29, 30, 31] else if r = 17 then some [10, 53, 54] else if r = 20 then some [10, 12, 53, 54] else none := rfl
@[simp] theorem wr42 : cf42.wr = fun _ => [] := rfl
def cf43 : Cfg := { wio := fun f i => (f == 999999 && (i == 0)), live := fun r => if r = 4 then some [2, 6, 7, 8, 9] else if r = 7 then some [2, 6, 7, 8, 9, 10] else none, dr := fun r => if r = 9 then some [(0, 0), (1, 0), (2, 0), (3, 0), (4, 0), (5, 0), (6, 1), (7, 0)] else none, wr := fun r => if r = 12 then [6, 46] else [], dt := fun r => if r = 12 then some (.op 0 0 (.op 1 0 (.op 4 0 (.op 5 0 (.op 6 0 (.op 7 0 (.op 8 0 (.op 9 0 (.op 10 0 (.op 11 0 (.alt (.op 2 1 (.alt (.op 3 1 (.op 12 1 (.op 13 0 (.op 14 0 (.op 15 1 (.op 16 2 (.op 17 0 (.op 18 0 .nil)))))))) (.op 12 1 (.op 13 0 (.op 14 0 (.alt (.op 3 1 (.op 15 1 (.op 16 2 (.op 17 0 (.op 18 0 .nil))))) (.op 15 1 (.op 3 1 (.op 16 2 (.op 17 0 (.op 18 0 .nil))))))))))) (.op 12 1 (.op 13 0 (.op 14 0 (.alt (.op 2 1 (.alt (.op 3 1 (.op 15 1 (.op 16 2 (.op 17 0 (.op 18 0 .nil))))) (.op 15 1 (.op 3 1 (.op 16 2 (.op 17 0 (.op 18 0 .nil))))))) (.op 15 1 (.op 2 1 (.op 3 1 (.op 16 2 (.op 17 0 (.op 18 0 .nil))))))))))))))))))))) else none }
@[simp] theorem wio43 : cf43.wio = fun f i => (f == 999999 && (i == 0)) := rfl
@[simp] theorem live43 : cf43.live = fun r => if r = 4 then some [2, 6, 7, 8, 9] else if r = 7 then some [2, 6, 7, 8, 9, 10] else none := rfl
@[simp] theorem wr43 : cf43.wr = fun r => if r = 12 then [6, 46] else [] := rfl
def cf44 : Cfg := { wio := fun f i => (f == 999999 && (i == 0)), live := fun r => if r = 7 then some [3, 4, 5, 17, 18, 19] else none, dr := fun r => none }
@[simp] theorem wio44 : cf44.wio = fun f i => (f == 999999 && (i == 0)) := rfl
@[simp] theorem live44 : cf44.live = fun r => if r = 7 then some [3, 4, 5, 17, 18, 19] else none := rfl
@[simp] theorem wr44 : cf44.wr = fun _ => [] := rfl
def cf45 : Cfg := { wio := fun f i => (f == 999999 && (i == 0)), live := fun r => if r = 4 then some [0, 1, 12, 13] else none, dr := fun r => if r = 6 then some [(0, 0), (1, 0), (2, 0), (3, 0), (4, 0), (5, 0), (6, 0), (7, 0), (8, 0)] else none }
@[simp] theorem wio45 : cf45.wio = fun f i => (f == 999999 && (i == 0)) := rfl
@[simp] theorem live45 : cf45.live = fun r => if r = 4 then some [0, 1, 12, 13] else none := rfl
@[simp] theorem wr45 : cf45.wr = fun _ => [] := rfl
def cf46 : Cfg := { wio := fun f i => (f == 999999 && (i == 0)), live := fun r => if r = 4 then some [0, 1, 12, 13] else none, dr := fun r => if r = 6 then some [(0, 0), (1, 0), (2, 0), (3, 0), (4, 0), (5, 0), (6, 0), (7, 0), (8, 1), (9, 0)] else none }
@[simp] theorem wio46 : cf46.wio = fun f i => (f == 999999 && (i == 0)) := rfl
@[simp] theorem live46 : cf46.live = fun r => if r = 4 then some [0, 1, 12, 13] else none := rfl
@[simp] theorem wr46 : cf46.wr = fun _ => [] := rfl
def cf47 : Cfg := { wio := fun f i => (f == 999999 && (i == 0)), live := fun r => if r = 4 then some [0, 1, 12, 13] else none, dr := fun r => if r = 6 then some [(0, 0), (1, 0), (2, 0), (3, 0), (4, 0), (5, 0), (6, 0), (7, 0), (8, 0)] else none }
@[simp] theorem wio47 : cf47.wio = fun f i => (f == 999999 && (i == 0)) := rfl
@[simp] theorem live47 : cf47.live = fun r => if r = 4 then some [0, 1, 12, 13] else none := rfl
@[simp] theorem wr47 : cf47.wr = fun _ => [] := rfl
def cf48 : Cfg := { wio := fun f i => (f == 999999 && (i == 0)), live := fun r => none, dr := fun r => none }
@[simp] theorem wio48 : cf48.wio = fun f i => (f == 999999 && (i == 0)) := rfl
@[simp] theorem live48 : cf48.live = fun r => none := rfl
@[simp] theorem wr48 : cf48.wr = fun _ => [] := rfl
def cf49 : Cfg := { wio := fun f i => (f == 999999 && (i == 0)), live := fun r => none, dr := fun r => none }
@[simp] theorem wio49 : cf49.wio = fun f i => (f == 999999 && (i == 0)) := rfl
@[simp] theorem live49 : cf49.live = fun r => none := rfl
@[simp] theorem wr49 : cf49.wr = fun _ => [] := rfl
def cf50 : Cfg := { wio := fun f i => (f == 999999 && (i == 0)), live := fun r => if r = 4 then some [0, 1, 18, 19] else none, dr := fun r => none }
@[simp] theorem wio50 : cf50.wio = fun f i => (f == 999999 && (i == 0)) := rfl
@[simp] theorem live50 : cf50.live = fun r => if r = 4 then some [0, 1, 18, 19] else none := rfl
@[simp] theorem wr50 : cf50.wr = fun _ => [] := rfl
def cf51 : Cfg := { wio := fun f i => (f == 999999 && (i == 0)), live := fun r => if r = 3 then some [1, 2, 7, 11, 12, 13] else none, dr := fun r => none }
@[simp] theorem wio51 : cf51.wio = fun f i => (f == 999999 && (i == 0)) := rfl
@[simp] theorem live51 : cf51.live = fun r => if r = 3 then some [1, 2, 7, 11, 12, 13] else none := rfl
@[simp] theorem wr51 : cf51.wr = fun _ => [] := rfl
def cf52 : Cfg := { wio := fun f i => (f == 999999 && (i == 0)), live := fun r => if r = 4 then some [0, 1, 12, 13] else none, dr := fun r => if r = 6 then some [(0, 0), (1, 0), (2, 0), (3, 0), (4, 0), (5, 0), (6, 0), (7, 0), (8, 0)] else none }
@[simp] theorem wio52 : cf52.wio = fun f i => (f == 999999 && (i == 0)) := rfl
@[simp] theorem live52 : cf52.live = fun r => if r = 4 then some [0, 1, 12, 13] else none := rfl
@[simp] theorem wr52 : cf52.wr = fun _ => [] := rfl
def cf53 : Cfg := { wio := fun f i => (f == 999999 && (i == 0)), live := fun r => if r = 4 then some [1, 2, 15, 16, 17] else none, dr := fun r => none }
@[simp] theorem wio53 : cf53.wio = fun f i => (f == 999999 && (i == 0)) := rfl
@[simp] theorem live53 : cf53.live = fun r => if r = 4 then some [1, 2, 15, 16, 17] else none := rfl
@[simp] theorem wr53 : cf53.wr = fun _ => [] := rfl
def cf54 : Cfg := { wio := fun f i => (f == 999999 && (i == 0)), live := fun r => if r = 4 then some [0, 1, 12, 13] else none, dr := fun r => if r = 6 then some [(0, 0), (1, 0), (2, 0), (3, 0), (4, 0), (5, 0), (6, 0), (7, 0), (8, 0)] else none }
@[simp] theorem wio54 : cf54.wio = fun f i => (f == 999999 && (i == 0)) := rfl
@[simp] theorem live54 : cf54.live = fun r => if r = 4 then some [0, 1, 12, 13] else none := rfl
@[simp] theorem wr54 : cf54.wr = fun _ => [] := rfl
def cf55 : Cfg := { wio := fun f i => (f == 999999 && (i == 0)), live := fun r => none, dr := fun r => none }
@[simp] theorem wio55 : cf55.wio = fun f i => (f == 999999 && (i == 0)) := rfl
@[simp] theorem live55 : cf55.live = fun r => none := rfl
@[simp] theorem wr55 : cf55.wr = fun _ => [] := rfl
def cf56 : Cfg := { wio := fun f i => (f == 999999 && (i == 0)), live := fun r => if r = 2 then some [1, 2, 3, 7] else none, dr := fun r => if r = 4 then some [(0, 0), (1, 0), (2, 0), (3, 0), (4, 0), (5, 0), (6, 0), (7, 1), (8, 0)] else none }
@[simp] theorem wio56 : cf56.wio = fun f i => (f == 999999 && (i == 0)) := rfl
@[simp] theorem live56 : cf56.live = fun r => if r = 2 then some [1, 2, 3, 7] else none := rfl
@[simp] theorem wr56 : cf56.wr = fun _ => [] := rfl
def cf57 : Cfg := { wio := fun f i => (f == 999999 && (i == 0)), live := fun r => if r = 5 then some [2, 6, 7, 8, 9] else if r = 8 then some [2, 6, 7, 8, 9, 30, 31] else none, dr := fun r => if r = 10 then some [(0, 0), (1, 0), (2, 0), (3, 0), (4, 0), (5, 0), (6, 1), (7, 0)] else if r = 14 then some [(0, 0), (1, 0), (2, 0), (3, 0), (4, 0), (5, 0), (6, 0), (7, 0), (8, 1), (9, 0), (10, 0), (11, 1), (12, 2), (13, 0)] else none }
@[simp] theorem wio57 : cf57.wio = fun f i => (f == 999999 && (i == 0)) := rfl
@[simp] theorem live57 : cf57.live = fun r => if r = 5 then some [2, 6, 7, 8, 9] else if r = 8 then some [2, 6, 7, 8, 9, 30, 31] else none := rfl
@[simp] theorem wr57 : cf57.wr = fun _ => [] := rfl
def cf58 : Cfg := { wio := fun f i => (f == 999999 && (i == 0)), live := fun r => none, dr := fun r => none }
@[simp] theorem wio58 : cf58.wio = fun f i => (f == 999999 && (i == 0)) := rfl
@[simp] theorem live58 : cf58.live = fun r => none := rfl
@[simp] theorem wr58 : cf58.wr = fun _ => [] := rfl
def cf59 : Cfg := { wio := fun f i => (f == 999999 && (i == 0)), live := fun r => none, dr := fun r => none }
@[simp] theorem wio59 : cf59.wio = fun f i => (f == 999999 && (i == 0)) := rfl
@[simp] theorem live59 : cf59.live = fun r => none := rfl
@[simp] theorem wr59 : cf59.wr = fun _ => [] := rfl
def cf60 : Cfg := { wio := fun f i => (f == 999999 && (i == 0)), live := fun r => if r = 9 then some [1, 3, 38, 39, 40] else if r = 14 then some [1, 3, 38, 39, 40, 49, 50, 51] else none, dr := fun r => none }
@[simp] theorem wio60 : cf60.wio = fun f i => (f == 999999 && (i == 0)) := rfl
@[simp] theorem live60 : cf60.live = fun r => if r = 9 then some [1, 3, 38, 39, 40] else if r = 14 then some [1, 3, 38, 39, 40, 49, 50, 51] else none := rfl
@[simp] theorem wr60 : cf60.wr = fun _ => [] := rfl
def cf61 : Cfg := { wio := fun f i => (f == 999999 && (i == 0)), live := fun r => if r = 3 then some [0, 1, 5, 6] else if r = 6 then some [0, 1, 5, 6, 7] else none, dr := fun r => if r = 8 then some [(0, 0), (1, 0), (2, 0), (3, 0), (4, 0), (5, 0), (6, 0), (7, 0), (8, 1), (9, 0), (10, 0), (11, 1), (12, 2), (13, 0)] else none }
@[simp] theorem wio61 : cf61.wio = fun f i => (f == 999999 && (i == 0)) := rfl
@[simp] theorem live61 : cf61.live = fun r => if r = 3 then some [0, 1, 5, 6] else if r = 6 then some [0, 1, 5, 6, 7] else none := rfl
@[simp] theorem wr61 : cf61.wr = fun _ => [] := rfl
def cf62 : Cfg := { wio := fun f i => (f == 999999 && (i == 0)), live := fun r => if r = 9 then some [1, 3, 38, 39, 40] else if r = 14 then some [1, 3, 38, 39, 40, 49, 50, 51] else none, dr := fun r => none }
@[simp] theorem wio62 : cf62.wio = fun f i => (f == 999999 && (i == 0)) := rfl
@[simp] theorem live62 : cf62.live = fun r => if r = 9 then some [1, 3, 38, 39, 40] else if r = 14 then some [1, 3, 38, 39, 40, 49, 50, 51] else none := rfl
@[simp] theorem wr62 : cf62.wr = fun _ => [] := rfl
def cf63 : Cfg := { wio := fun f i => (f == 999999 && (i == 0)), live := fun r => none, dr := fun r => none }
@[simp] theorem wio63 : cf63.wio = fun f i => (f == 999999 && (i == 0)) := rfl
@[simp] theorem live63 : cf63.live = fun r => none := rfl
@[simp] theorem wr63 : cf63.wr = fun _ => [] := rfl
def cf65 : Cfg := { wio := fun f i => (f == 999999 && (i == 0)), live := fun r => none, dr := fun r => none }
@[simp] theorem wio65 : cf65.wio = fun f i => (f == 999999 && (i == 0)) := rfl
@[simp] theorem live65 : cf65.live = fun r => none := rfl
@[simp] theorem wr65 : cf65.wr = fun _ => [] := rfl
def cf66 : Cfg := { wio := fun f i => (f == 999999 && (i == 0)), live := fun r => if r = 3 then some [3, 6, 7, 8] else none, dr := fun r => none }
@[simp] theorem wio66 : cf66.wio = fun f i => (f == 999999 && (i == 0)) := rfl
@[simp] theorem live66 : cf66.live = fun r => if r = 3 then some [3, 6, 7, 8] else none := rfl
@[simp] theorem wr66 : cf66.wr = fun _ => [] := rfl
def cf67 : Cfg := { wio := fun f i => (f == 999999 && (i == 0)), live := fun r => none, dr := fun r => none }
@[simp] theorem wio67 : cf67.wio = fun f i => (f == 999999 && (i == 0)) := rfl
@[simp] theorem live67 : cf67.live = fun r => none := rfl
@[simp] theorem wr67 : cf67.wr = fun _ => [] := rfl
def cf68 : Cfg := { wio := fun f i => (f == 999999 && (i == 0)), live := fun r => none, dr := fun r => none }
@[simp] theorem wio68 : cf68.wio = fun f i => (f == 999999 && (i == 0)) := rfl
@[simp] theorem live68 : cf68.live = fun r => none := rfl
@[simp] theorem wr68 : cf68.wr = fun _ => [] := rfl
def cf69 : Cfg := { wio := fun f i => (f == 79 && (i == 0)) || (f == 999999 && (i == 0)), live := fun r => none, dr := fun r => none }
@[simp] theorem wio69 : cf69.wio = fun f i => (f == 79 && (i == 0)) || (f == 999999 && (i == 0)) := rfl
@[simp] theorem live69 : cf69.live = fun r => none := rfl
@[simp] theorem wr69 : cf69.wr = fun _ => [] := rfl
def cf70 : Cfg := { wio := fun f i => (f == 999999 && (i == 0)), live := fun r => none, dr := fun r => if r = 1 then some [(0, 0), (1, 0), (2, 0), (3, 0), (4, 0), (5, 0), (6, 0), (7, 0), (8, 1), (9, 0)] else none }
@[simp] theorem wio70 : cf70.wio = fun f i => (f == 999999 && (i == 0)) := rfl
@[simp] theorem live70 : cf70.live = fun r => none := rfl
@[simp] theorem wr70 : cf70.wr = fun _ => [] := rfl
def cf71 : Cfg := { wio := fun f i => (f == 999999 && (i == 0)), live := fun r => none, dr := fun r => none }
@[simp] theorem wio71 : cf71.wio = fun f i => (f == 999999 && (i == 0)) := rfl
@[simp] theorem live71 : cf71.live = fun r => none := rfl
@[simp] theorem wr71 : cf71.wr = fun _ => [] := rfl
def cf72 : Cfg := { wio := fun f i => (f == 999999 && (i == 0)), live := fun r => none, dr := fun r => none }
@[simp] theorem wio72 : cf72.wio = fun f i => (f == 999999 && (i == 0)) := rfl
@[simp] theorem live72 : cf72.live = fun r => none := rfl
@[simp] theorem wr72 : cf72.wr = fun _ => [] := rfl
def cf73 : Cfg := { wio := fun f i => (f == 999999 && (i == 0)), live := fun r => if r = 3 then some [1, 2, 3, 7, 11, 12] else none, dr := fun r => none }
@[simp] theorem wio73 : cf73.wio = fun f i => (f == 999999 && (i == 0)) := rfl
@[simp] theorem live73 : cf73.live = fun r => if r = 3 then some [1, 2, 3, 7, 11, 12] else none := rfl
@[simp] theorem wr73 : cf73.wr = fun _ => [] := rfl
def cf74 : Cfg := { wio := fun f i => (f == 999999 && (i == 0)), live := fun r => if r = 2 then some [0, 1, 7, 8] else none, dr := fun r => none }
@[simp] theorem wio74 : cf74.wio = fun f i => (f == 999999 && (i == 0)) := rfl
@[simp] theorem live74 : cf74.live = fun r => if r = 2 then some [0, 1, 7, 8] else none := rfl
@[simp] theorem wr74 : cf74.wr = fun _ => [] := rfl
def cf76 : Cfg := { wio := fun f i => (f == 999999 && (i == 0)), live := fun r => none, dr := fun r => none }
@[simp] theorem wio76 : cf76.wio = fun f i => (f == 999999 && (i == 0)) := rfl
@[simp] theorem live76 : cf76.live = fun r => none := rfl
@[simp] theorem wr76 : cf76.wr = fun _ => [] := rfl
def cf77 : Cfg := { wio := fun f i => (f == 999999 && (i == 0)), live := fun r => none, dr := fun r => none }
@[simp] theorem wio77 : cf77.wio = fun f i => (f == 999999 && (i == 0)) := rfl
@[simp] theorem live77 : cf77.live = fun r => none := rfl
@[simp] theorem wr77 : cf77.wr = fun _ => [] := rfl
def cf78 : Cfg := { wio := fun f i => (f == 999999 && (i == 0)), live := fun r => none, dr := fun r => none }
@[simp] theorem wio78 : cf78.wio = fun f i => (f == 999999 && (i == 0)) := rfl
@[simp] theorem live78 : cf78.live = fun r => none := rfl
@[simp] theorem wr78 : cf78.wr = fun _ => [] := rfl
def cf79 : Cfg := { wio := fun f i => (f == 80 && (i == 0)) || (f == 92 && (i == 0)) || (f == 999999 && (i == 0)), live := fun r => if r = 2 then some [0, 1, 2, 6, 7, 8] else if r = 7 then some [0, 1, 2, 6] else if r = 9 then some [0, 1, 2, 6, 7, 8] else none, dr := fun r => none }
@[simp] theorem wio79 : cf79.wio = fun f i => (f == 80 && (i == 0)) || (f == 92 && (i == 0)) || (f == 999999 && (i == 0)) := rfl
@[simp] theorem live79 : cf79.live = fun r => if r = 2 then some [0, 1, 2, 6, 7, 8] else if r = 7 then some [0, 1, 2, 6] else if r = 9 then some [0, 1, 2, 6, 7, 8] else none := rfl
@[simp] theorem wr79 : cf79.wr = fun _ => [] := rfl
def cf80 : Cfg := { wio := fun f i => (f == 999999 && (i == 0)), live := fun r => if r = 1 then some [0, 1, 2, 3, 8] else if r = 4 then some [0, 1, 2, 3, 8, 9] else none, dr := fun r => if r = 4 then some [(0, 0), (1, 0), (2, 0), (3, 0), (4, 0), (5, 0), (6, 0), (7, 0), (8, 0), (9, 0), (10, 0), (11, 0), (12, 0), (13, 0), (14, 1), (15, 0), (16, 0)] else if r = 6 then some [(0, 0), (1, 0), (2, 3), (3, 3), (4, 3), (5, 0), (6, 0), (7, 0), (8, 0), (9, 0), (10, 0), (11, 0), (12, 0), (13, 0), (14, 0), (15, 2), (16, 0), (17, 2)] else none }
@[simp] theorem wio80 : cf80.wio = fun f i => (f == 999999 && (i == 0)) := rfl
@[simp] theorem live80 : cf80.live = fun r => if r = 1 then some [0, 1, 2, 3, 8] else if r = 4 then some [0, 1, 2, 3, 8, 9] else none := rfl
@[simp] theorem wr80 : cf80.wr = fun _ => [] := rfl
def cf88 : Cfg := { wio := fun f i => (f == 999999 && (i == 0)), live := fun r => none, dr := fun r => none }
@[simp] theorem wio88 : cf88.wio = fun f i => (f == 999999 && (i == 0)) := rfl
@[simp] theorem live88 : cf88.live = fun r => none := rfl
@[simp] theorem wr88 : cf88.wr = fun _ => [] := rfl
def cf89 : Cfg := { wio := fun f i => (f == 999999 && (i == 0)), live := fun r => none, dr := fun r => none }
@[simp] theorem wio89 : cf89.wio = fun f i => (f == 999999 && (i == 0)) := rfl
@[simp] theorem live89 : cf89.live = fun r => none := rfl
@[simp] theorem wr89 : cf89.wr = fun _ => [] := rfl
def cf90 : Cfg := { wio := fun f i => (f == 999999 && (i == 0)), live := fun r => none, dr := fun r => if r = 1 then some [(0, 0), (1, 0), (2, 0), (3, 0), (4, 0), (5, 0), (6, 0), (7, 0), (8, 0), (9, 0), (10, 0), (11, 0), (12, 0), (13, 0), (14, 0), (15, 0), (16, 0), (17, 0), (18, 0)] else none }
@[simp] theorem wio90 : cf90.wio = fun f i => (f == 999999 && (i == 0)) := rfl
@[simp] theorem live90 : cf90.live = fun r => none := rfl
@[simp] theorem wr90 : cf90.wr = fun _ => [] := rfl
def cf91 : Cfg := { wio := fun f i => (f == 999999 && (i == 0)), live := fun r => none, dr := fun r => none }
@[simp] theorem wio91 : cf91.wio = fun f i => (f == 999999 && (i == 0)) := rfl
@[simp] theorem live91 : cf91.live = fun r => none := rfl
@[simp] theorem wr91 : cf91.wr = fun _ => [] := rfl
def cf92 : Cfg := { wio := fun f i => (f == 98 && (i == 0)) || (f == 92 && (i == 0)) || (f == 999999 && (i == 0)), live := fun r => if r = 3 then some [0, 1, 4, 10, 11] else if r = 9 then some [0, 10, 13] else if r = 15 then some [0, 2, 4, 14, 15] else if r = 21 then some [0, 14, 17] else if r = 33 then some [0, 1, 2, 3, 4, 18, 19, 20, 21, 22] else none, dr := fun r => if r = 5 then some [(0, 0), (1, 0), (2, 0), (3, 0), (4, 0), (5, 0), (6, 0), (7, 0), (8, 0), (9, 1), (10, 0)] else if r = 11 then some [(0, 0), (1, 0), (2, 3), (3, 3), (4, 3), (5, 0), (6, 0), (7, 0), (8, 0), (9, 0), (10, 0), (11, 0), (12, 0), (13, 0), (14, 0), (15, 2), (16, 0), (17, 2)] else if r = 17 then some [(0, 0), (1, 0), (2, 0), (3, 0), (4, 0), (5, 0), (6, 0), (7, 0), (8, 0), (9, 1), (10, 0), (11, 0)] else if r = 23 then some [(0, 0), (1, 0), (2, 3), (3, 3), (4, 3), (5, 0), (6, 0), (7, 0), (8, 0), (9, 0), (10, 0), (11, 0), (12, 0), (13, 0), (14, 0), (15, 2), (16, 0), (17, 2)] else if r = 35 then some [(0, 0), (1, 0), (2, 0), (3, 0), (4, 0), (5, 0), (6, 0), (7, 0), (8, 0), (9, 0), (10, 0), (11, 1), (12, 0), (13, 0)] else none }
@[simp] theorem wio92 : cf92.wio = fun f i => (f == 98 && (i == 0)) || (f == 92 && (i == 0)) || (f == 999999 && (i == 0)) := rfl
@[simp] theorem live92 : cf92.live = fun r => if r = 3 then some [0, 1, 4, 10, 11] else if r = 9 then some [0, 10, 13] else if r = 15 then some [0, 2, 4, 14, 15] else if r = 21 then some [0, 14, 17] else if r = 33 then some [0, 1, 2, 3, 4, 18, 19, 20, 21, 22] else none := rfl
@[simp] theorem wr92 : cf92.wr = fun _ => [] := rfl
def cf98 : Cfg := { wio := fun f i => (f == 100 && (i == 0)) || (f == 999999 && (i == 0)), live := fun r => if r = 2 then some [0, 2, 4, 10, 11] else none, dr := fun r => none }
@[simp] theorem wio98 : cf98.wio = fun f i => (f == 100 && (i == 0)) || (f == 999999 && (i == 0)) := rfl
@[simp] theorem live98 : cf98.live = fun r => if r = 2 then some [0, 2, 4, 10, 11] else none := rfl
@[simp] theorem wr98 : cf98.wr = fun _ => [] := rfl
def cf100 : Cfg := { wio := fun f i => (f == 999999 && (i == 0)), live := fun r => if r = 1 then some [0, 1, 2, 3, 10] else none, dr := fun r => if r = 3 then some [(0, 0), (1, 0), (2, 0), (3, 0), (4, 3), (5, 3), (6, 3), (7, 3), (8, 0), (9, 0), (10, 0), (11, 0), (12, 0), (13, 0), (14, 0), (15, 0), (16, 0), (17, 0), (18, 0), (19, 0), (20, 0), (21, 2), (22, 0), (23, 2)] else none }
@[simp] theorem wio100 : cf100.wio = fun f i => (f == 999999 && (i == 0)) := rfl
@[simp] theorem live100 : cf100.live = fun r => if r = 1 then some [0, 1, 2, 3, 10] else none := rfl
@[simp] theorem wr100 : cf100.wr = fun _ => [] := rfl
def z1Z (f : FuncId) : Option Cfg :=
  if f = 3 then some cf3 else
  if f = 4 then some cf4 else
  if f = 5 then some cf5 else
  if f = 6 then some cf6 else
  if f = 8 then some cf8 else
  if f = 9 then some cf9 else
  if f = 10 then some cf10 else
  if f = 11 then some cf11 else
  if f = 12 then some cf12 else
  if f = 13 then some cf13 else
  if f = 14 then some cf14 else
  if f = 15 then some cf15 else
  if f = 16 then some cf16 else
  if f = 17 then some cf17 else
  if f = 18 then some cf18 else
  if f = 19 then some cf19 else
  if f = 20 then some cf20 else
  if f = 21 then some cf21 else
  if f = 22 then some cf22 else
  if f = 23 then some cf23 else
  if f = 24 then some cf24 else
  if f = 25 then some cf25 else
  if f = 26 then some cf26 else
  if f = 27 then some cf27 else
  if f = 28 then some cf28 else
  if f = 29 then some cf29 else
  if f = 30 then some cf30 else
  if f = 31 then some cf31 else
  if f = 32 then some cf32 else
  if f = 33 then some cf33 else
  if f = 34 then some cf34 else
  if f = 35 then some cf35 else
  if f = 36 then some cf36 else
  if f = 37 then some cf37 else
  if f = 38 then some cf38 else
  if f = 39 then some cf39 else
  if f = 40 then some cf40 else
  if f = 41 then some cf41 else
  if f = 42 then some cf42 else
  if f = 43 then some cf43 else
  if f = 44 then some cf44 else
  if f = 45 then some cf45 else
  if f = 46 then some cf46 else
  if f = 47 then some cf47 else
  if f = 48 then some cf48 else
  if f = 49 then some cf49 else
  if f = 50 then some cf50 else
  if f = 51 then some cf51 else
  if f = 52 then some cf52 else
  if f = 53 then some cf53 else
  if f = 54 then some cf54 else
  if f = 55 then some cf55 else
  if f = 56 then some cf56 else
  if f = 57 then some cf57 else
  if f = 58 then some cf58 else
  if f = 59 then some cf59 else
  if f = 60 then some cf60 else
  if f = 61 then some cf61 else
  if f = 62 then some cf62 else
  if f = 63 then some cf63 else
  if f = 65 then some cf65 else
  if f = 66 then some cf66 else
  if f = 67 then some cf67 else
  if f = 68 then some cf68 else
  if f = 69 then some cf69 else
  if f = 70 then some cf70 else
  if f = 71 then some cf71 else
  if f = 72 then some cf72 else
  if f = 73 then some cf73 else
  if f = 74 then some cf74 else
  if f = 76 then some cf76 else
  if f = 77 then some cf77 else
  if f = 78 then some cf78 else
  if f = 79 then some cf79 else
  if f = 80 then some cf80 else
  if f = 88 then some cf88 else
  if f = 89 then some cf89 else
  if f = 90 then some cf90 else
  if f = 91 then some cf91 else
  if f = 92 then some cf92 else
  if f = 98 then some cf98 else
  if f = 100 then some cf100 else none
theorem zwA : z1Z 3 = some cf3 := rfl
theorem zvb : z1Z 11 = some cf11 := rfl
theorem zva : z1Z 12 = some cf12 := rfl
theorem zv9 : z1Z 13 = some cf13 := rfl
theorem zv8 : z1Z 14 = some cf14 := rfl
theorem zv7 : z1Z 15 = some cf15 := rfl
theorem zv6 : z1Z 16 = some cf16 := rfl
theorem zv5 : z1Z 18 = some cf18 := rfl
theorem zv4 : z1Z 21 = some cf21 := rfl
theorem zv3 : z1Z 29 = some cf29 := rfl
theorem zv2 : z1Z 30 = some cf30 := rfl
theorem zv1 : z1Z 31 = some cf31 := rfl
theorem zv0 : z1Z 32 = some cf32 := rfl
theorem zuZ : z1Z 33 = some cf33 := rfl
theorem zuY : z1Z 34 = some cf34 := rfl
theorem zuX : z1Z 35 = some cf35 := rfl
theorem zuW : z1Z 36 = some cf36 := rfl
theorem zuV : z1Z 37 = some cf37 := rfl
theorem zuU : z1Z 38 = some cf38 := rfl
theorem zuT : z1Z 39 = some cf39 := rfl
theorem zuS : z1Z 40 = some cf40 := rfl
theorem zuR : z1Z 41 = some cf41 := rfl
theorem zuQ : z1Z 42 = some cf42 := rfl
theorem zuP : z1Z 43 = some cf43 := rfl
theorem zuO : z1Z 44 = some cf44 := rfl
theorem zuN : z1Z 45 = some cf45 := rfl
theorem zuM : z1Z 46 = some cf46 := rfl
theorem zuL : z1Z 47 = some cf47 := rfl
theorem zuK : z1Z 51 = some cf51 := rfl
theorem zuJ : z1Z 57 = some cf57 := rfl
theorem zuI : z1Z 58 = some cf58 := rfl
theorem zuH : z1Z 59 = some cf59 := rfl
theorem zuG : z1Z 60 = some cf60 := rfl
theorem zuF : z1Z 61 = some cf61 := rfl
theorem zuE : z1Z 62 = some cf62 := rfl
theorem zuD : z1Z 63 = some cf63 := rfl
theorem zuC : z1Z 67 = some cf67 := rfl
theorem zuB : z1Z 68 = some cf68 := rfl
theorem zuA : z1Z 69 = some cf69 := rfl
theorem zuz : z1Z 70 = some cf70 := rfl
theorem zuy : z1Z 71 = some cf71 := rfl
theorem zux : z1Z 72 = some cf72 := rfl
theorem zuw : z1Z 73 = some cf73 := rfl
theorem zuv : z1Z 74 = some cf74 := rfl
theorem zuu : z1Z 77 = some cf77 := rfl
theorem zut : z1Z 78 = some cf78 := rfl
theorem zus : z1Z 79 = some cf79 := rfl
theorem zur : z1Z 80 = some cf80 := rfl
theorem zuq : z1Z 91 = some cf91 := rfl
theorem zup : z1Z 92 = some cf92 := rfl
theorem zuo : z1Z 98 = some cf98 := rfl
theorem zsi : z1Z 100 = some cf100 := rfl
theorem fn3 : Try.prog.funcs[3]? = some Try.f3 := by kernel_rfl
theorem zwt : Try.prog.funcs[11]? = some Try.f11 := by kernel_rfl
theorem zws : Try.prog.funcs[12]? = some Try.f12 := by kernel_rfl
theorem zwr : Try.prog.funcs[13]? = some Try.f13 := by kernel_rfl
theorem zvn : Try.prog.funcs[14]? = some Try.f14 := by kernel_rfl
theorem zvm : Try.prog.funcs[15]? = some Try.f15 := by kernel_rfl
theorem zwq : Try.prog.funcs[16]? = some Try.f16 := by kernel_rfl
theorem zwp : Try.prog.funcs[18]? = some Try.f18 := by kernel_rfl
theorem zwo : Try.prog.funcs[21]? = some Try.f21 := by kernel_rfl
theorem zwn : Try.prog.funcs[29]? = some Try.f29 := by kernel_rfl
theorem zwm : Try.prog.funcs[30]? = some Try.f30 := by kernel_rfl
theorem zwl : Try.prog.funcs[31]? = some Try.f31 := by kernel_rfl
theorem zvl : Try.prog.funcs[32]? = some Try.f32 := by kernel_rfl
theorem zwk : Try.prog.funcs[33]? = some Try.f33 := by kernel_rfl
theorem zwj : Try.prog.funcs[34]? = some Try.f34 := by kernel_rfl
theorem zwi : Try.prog.funcs[35]? = some Try.f35 := by kernel_rfl
theorem zwh : Try.prog.funcs[36]? = some Try.f36 := by kernel_rfl
theorem zwg : Try.prog.funcs[37]? = some Try.f37 := by kernel_rfl
theorem zwf : Try.prog.funcs[38]? = some Try.f38 := by kernel_rfl
theorem zwe : Try.prog.funcs[39]? = some Try.f39 := by kernel_rfl
theorem zwd : Try.prog.funcs[40]? = some Try.f40 := by kernel_rfl
theorem zwc : Try.prog.funcs[41]? = some Try.f41 := by kernel_rfl
theorem zwb : Try.prog.funcs[42]? = some Try.f42 := by kernel_rfl
theorem zwa : Try.prog.funcs[43]? = some Try.f43 := by kernel_rfl
theorem zw9 : Try.prog.funcs[44]? = some Try.f44 := by kernel_rfl
theorem zw8 : Try.prog.funcs[45]? = some Try.f45 := by kernel_rfl
theorem zw7 : Try.prog.funcs[46]? = some Try.f46 := by kernel_rfl
theorem zw6 : Try.prog.funcs[47]? = some Try.f47 := by kernel_rfl
theorem zw5 : Try.prog.funcs[51]? = some Try.f51 := by kernel_rfl
theorem zw4 : Try.prog.funcs[57]? = some Try.f57 := by kernel_rfl
theorem zw3 : Try.prog.funcs[58]? = some Try.f58 := by kernel_rfl
theorem zw2 : Try.prog.funcs[59]? = some Try.f59 := by kernel_rfl
theorem zw1 : Try.prog.funcs[60]? = some Try.f60 := by kernel_rfl
theorem zw0 : Try.prog.funcs[61]? = some Try.f61 := by kernel_rfl
theorem zvZ : Try.prog.funcs[62]? = some Try.f62 := by kernel_rfl
theorem zvY : Try.prog.funcs[63]? = some Try.f63 := by kernel_rfl
theorem zvX : Try.prog.funcs[67]? = some Try.f67 := by kernel_rfl
theorem zvW : Try.prog.funcs[68]? = some Try.f68 := by kernel_rfl
theorem zvV : Try.prog.funcs[69]? = some Try.f69 := by kernel_rfl
theorem zvU : Try.prog.funcs[70]? = some Try.f70 := by kernel_rfl
theorem zvT : Try.prog.funcs[71]? = some Try.f71 := by kernel_rfl
theorem zvS : Try.prog.funcs[72]? = some Try.f72 := by kernel_rfl
theorem zvR : Try.prog.funcs[73]? = some Try.f73 := by kernel_rfl
theorem zvQ : Try.prog.funcs[74]? = some Try.f74 := by kernel_rfl
theorem zvP : Try.prog.funcs[77]? = some Try.f77 := by kernel_rfl
theorem zvO : Try.prog.funcs[78]? = some Try.f78 := by kernel_rfl
theorem zvN : Try.prog.funcs[79]? = some Try.f79 := by kernel_rfl
theorem zvM : Try.prog.funcs[80]? = some Try.f80 := by kernel_rfl
theorem zvL : Try.prog.funcs[91]? = some Try.f91 := by kernel_rfl
theorem zvK : Try.prog.funcs[92]? = some Try.f92 := by kernel_rfl
theorem zvJ : Try.prog.funcs[98]? = some Try.f98 := by kernel_rfl
theorem zsZ : Try.prog.funcs[100]? = some Try.f100 := by kernel_rfl
noncomputable def cd3 : Code := match Try.f3.body with | some c => c | none => .skip
theorem bd3 : Try.f3.body = some cd3 := by kernel_rfl
noncomputable def zxm : Code := match Try.f11.body with | some c => c | none => .skip
theorem zy9 : Try.f11.body = some zxm := by kernel_rfl
noncomputable def zxl : Code := match Try.f12.body with | some c => c | none => .skip
theorem zy8 : Try.f12.body = some zxl := by kernel_rfl
noncomputable def zxk : Code := match Try.f13.body with | some c => c | none => .skip
theorem zy7 : Try.f13.body = some zxk := by kernel_rfl
noncomputable def z7H : Code := match Try.f14.body with | some c => c | none => .skip
theorem zvr : Try.f14.body = some z7H := by kernel_rfl
noncomputable def z3X : Code := match Try.f15.body with | some c => c | none => .skip
theorem zvq : Try.f15.body = some z3X := by kernel_rfl
noncomputable def zxj : Code := match Try.f16.body with | some c => c | none => .skip
theorem zy6 : Try.f16.body = some zxj := by kernel_rfl
noncomputable def zxi : Code := match Try.f18.body with | some c => c | none => .skip
theorem zy5 : Try.f18.body = some zxi := by kernel_rfl
noncomputable def zxh : Code := match Try.f21.body with | some c => c | none => .skip
theorem zy4 : Try.f21.body = some zxh := by kernel_rfl
noncomputable def zxg : Code := match Try.f29.body with | some c => c | none => .skip
theorem zy3 : Try.f29.body = some zxg := by kernel_rfl
noncomputable def zxf : Code := match Try.f30.body with | some c => c | none => .skip
theorem zy2 : Try.f30.body = some zxf := by kernel_rfl
noncomputable def zxe : Code := match Try.f31.body with | some c => c | none => .skip
theorem zy1 : Try.f31.body = some zxe := by kernel_rfl
noncomputable def z4z : Code := match Try.f32.body with | some c => c | none => .skip
theorem zvp : Try.f32.body = some z4z := by kernel_rfl
noncomputable def zxd : Code := match Try.f33.body with | some c => c | none => .skip
theorem zy0 : Try.f33.body = some zxd := by kernel_rfl
noncomputable def zxc : Code := match Try.f34.body with | some c => c | none => .skip
theorem zxZ : Try.f34.body = some zxc := by kernel_rfl
noncomputable def zxb : Code := match Try.f35.body with | some c => c | none => .skip
theorem zxY : Try.f35.body = some zxb := by kernel_rfl
noncomputable def zxa : Code := match Try.f36.body with | some c => c | none => .skip
theorem zxX : Try.f36.body = some zxa := by kernel_rfl
noncomputable def zx9 : Code := match Try.f37.body with | some c => c | none => .skip
theorem zxW : Try.f37.body = some zx9 := by kernel_rfl
noncomputable def zx8 : Code := match Try.f38.body with | some c => c | none => .skip
theorem zxV : Try.f38.body = some zx8 := by kernel_rfl
noncomputable def zx7 : Code := match Try.f39.body with | some c => c | none => .skip
theorem zxU : Try.f39.body = some zx7 := by kernel_rfl
noncomputable def zx6 : Code := match Try.f40.body with | some c => c | none => .skip
theorem zxT : Try.f40.body = some zx6 := by kernel_rfl
noncomputable def zx5 : Code := match Try.f41.body with | some c => c | none => .skip
theorem zxS : Try.f41.body = some zx5 := by kernel_rfl
noncomputable def zx4 : Code := match Try.f42.body with | some c => c | none => .skip
theorem zxR : Try.f42.body = some zx4 := by kernel_rfl
noncomputable def zx3 : Code := match Try.f43.body with | some c => c | none => .skip
theorem zxQ : Try.f43.body = some zx3 := by kernel_rfl
noncomputable def zx2 : Code := match Try.f44.body with | some c => c | none => .skip
theorem zxP : Try.f44.body = some zx2 := by kernel_rfl
noncomputable def zx1 : Code := match Try.f45.body with | some c => c | none => .skip
theorem zxO : Try.f45.body = some zx1 := by kernel_rfl
noncomputable def zx0 : Code := match Try.f46.body with | some c => c | none => .skip
theorem zxN : Try.f46.body = some zx0 := by kernel_rfl
noncomputable def zwZ : Code := match Try.f47.body with | some c => c | none => .skip
theorem zxM : Try.f47.body = some zwZ := by kernel_rfl
noncomputable def zwY : Code := match Try.f51.body with | some c => c | none => .skip
theorem zxL : Try.f51.body = some zwY := by kernel_rfl
noncomputable def zwX : Code := match Try.f57.body with | some c => c | none => .skip
theorem zxK : Try.f57.body = some zwX := by kernel_rfl
noncomputable def zwW : Code := match Try.f58.body with | some c => c | none => .skip
theorem zxJ : Try.f58.body = some zwW := by kernel_rfl
noncomputable def zwV : Code := match Try.f59.body with | some c => c | none => .skip
theorem zxI : Try.f59.body = some zwV := by kernel_rfl
noncomputable def zwU : Code := match Try.f60.body with | some c => c | none => .skip
theorem zxH : Try.f60.body = some zwU := by kernel_rfl
noncomputable def zwT : Code := match Try.f61.body with | some c => c | none => .skip
theorem zxG : Try.f61.body = some zwT := by kernel_rfl
noncomputable def zwS : Code := match Try.f62.body with | some c => c | none => .skip
theorem zxF : Try.f62.body = some zwS := by kernel_rfl
noncomputable def zwR : Code := match Try.f63.body with | some c => c | none => .skip
theorem zxE : Try.f63.body = some zwR := by kernel_rfl
noncomputable def zwQ : Code := match Try.f67.body with | some c => c | none => .skip
theorem zxD : Try.f67.body = some zwQ := by kernel_rfl
noncomputable def zwP : Code := match Try.f68.body with | some c => c | none => .skip
theorem zxC : Try.f68.body = some zwP := by kernel_rfl
noncomputable def zwO : Code := match Try.f69.body with | some c => c | none => .skip
theorem zxB : Try.f69.body = some zwO := by kernel_rfl
noncomputable def zwN : Code := match Try.f70.body with | some c => c | none => .skip
theorem zxA : Try.f70.body = some zwN := by kernel_rfl
noncomputable def zwM : Code := match Try.f71.body with | some c => c | none => .skip
theorem zxz : Try.f71.body = some zwM := by kernel_rfl
noncomputable def zwL : Code := match Try.f72.body with | some c => c | none => .skip
theorem zxy : Try.f72.body = some zwL := by kernel_rfl
noncomputable def zwK : Code := match Try.f73.body with | some c => c | none => .skip
theorem zxx : Try.f73.body = some zwK := by kernel_rfl
noncomputable def zwJ : Code := match Try.f74.body with | some c => c | none => .skip
theorem zxw : Try.f74.body = some zwJ := by kernel_rfl
noncomputable def zwI : Code := match Try.f77.body with | some c => c | none => .skip
theorem zxv : Try.f77.body = some zwI := by kernel_rfl
noncomputable def zwH : Code := match Try.f78.body with | some c => c | none => .skip
theorem zxu : Try.f78.body = some zwH := by kernel_rfl
noncomputable def zwG : Code := match Try.f79.body with | some c => c | none => .skip
theorem zxt : Try.f79.body = some zwG := by kernel_rfl
noncomputable def zwF : Code := match Try.f80.body with | some c => c | none => .skip
theorem zxs : Try.f80.body = some zwF := by kernel_rfl
noncomputable def zwE : Code := match Try.f91.body with | some c => c | none => .skip
theorem zxr : Try.f91.body = some zwE := by kernel_rfl
noncomputable def zwD : Code := match Try.f92.body with | some c => c | none => .skip
theorem zxq : Try.f92.body = some zwD := by kernel_rfl
noncomputable def zwC : Code := match Try.f98.body with | some c => c | none => .skip
theorem zxp : Try.f98.body = some zwC := by kernel_rfl
noncomputable def zvc : Code := match Try.f100.body with | some c => c | none => .skip
theorem zvd : Try.f100.body = some zvc := by kernel_rfl
def xt : z0G := xtC
noncomputable def L : z0G := Lim Try.prog xt z1Z
theorem z2S {f : FuncId} {c : Cfg} {fn : Func} {args : List T} {o : T × List T} (hc : z1Z f = some c) (hfn : Try.prog.funcs[f]? = some fn) (h : zgH Try.prog L c LFm fn args = some o) : L f args = some o := zo3 hc hfn h
end Go.Proofs.Ytbnnipkanechoaa
end
section
namespace Go.Proofs.Ytbnnipkanechoaa
open Go.RowKit
def Cells (w : World) (ga : Option Addr) (n : Nat) (F : Nat → Value) : Prop := ∀ j, j < n → ∃ g o, ga = some ⟨g, o, none⟩ ∧ w.cell? ⟨g, o + j, none⟩ = some (F j)
theorem zcm {w w' : World} (hb : Below w.heap.size w w') {a : Addr} {v : Value} (h : w.cell? a = some v) : w'.cell? a = some v := by
  rw [hb.cell (World.block_lt_of_cell? w a h)]; exact h
theorem Cells.below {w w' : World} {ga : Option Addr} {n : Nat} {F : Nat → Value} (h : Cells w ga n F) (hb : Below w.heap.size w w') : Cells w' ga n F := fun j hj => by
  obtain ⟨g, o, e, hc⟩ := h j hj
  exact ⟨g, o, e, zcm hb hc⟩
theorem Cells.mono {w : World} {ga : Option Addr} {n m : Nat} {F : Nat → Value} (h : Cells w ga n F) (hm : m ≤ n) : Cells w ga m F := fun j hj => h j (by omega)
theorem Cells.congr {w : World} {ga : Option Addr} {n : Nat} {F G : Nat → Value} (h : Cells w ga n F) (e : ∀ j, j < n → F j = G j) : Cells w ga n G := fun j hj => by
  obtain ⟨g, o, e1, hc⟩ := h j hj
  exact ⟨g, o, e1, by rw [hc, e j hj]⟩
def IntsAt (w : World) (v : Value) (xs : List Int) : Prop :=
  ∃ ga cap, v = .slice ga xs.length cap ∧ xs.length ≤ cap ∧ cap ≤ maxLen ∧ Cells w ga xs.length (fun j => .int .i64 (xs.getD j 0))
theorem IntsAt.below {w w' : World} {v : Value} {xs : List Int} (h : IntsAt w v xs) (hb : Below w.heap.size w w') : IntsAt w' v xs := by
  obtain ⟨ga, cap, e, h1, h2, h3⟩ := h
  exact ⟨ga, cap, e, h1, h2, h3.below hb⟩
def RowsAt (w : World) (v : Value) (rows : List (List Int)) : Prop :=
  ∃ ga cap, ∃ F : Nat → Value, v = .slice ga rows.length cap ∧ rows.length ≤ cap ∧ cap ≤ maxLen ∧ Cells w ga rows.length F ∧ ∀ j, j < rows.length → IntsAt w (F j) (rows.getD j [])
theorem RowsAt.below {w w' : World} {v : Value} {rows : List (List Int)} (h : RowsAt w v rows) (hb : Below w.heap.size w w') : RowsAt w' v rows := by
  obtain ⟨ga, cap, F, e, h1, h2, h3, h4⟩ := h
  exact ⟨ga, cap, F, e, h1, h2, h3.below hb, fun j hj => (h4 j hj).below hb⟩
structure CRow where
  pre : List Int
  maps : List (List Int)
deriving Inhabited
structure Casc where
  letters : Int
  sizes : List Int
  rows : List CRow
deriving Inhabited
def CRowsAt (w : World) (v : Value) (rows : List CRow) : Prop :=
  ∃ ga cap, ∃ F G : Nat → Value, v = .slice ga rows.length cap ∧ rows.length ≤ cap ∧ cap ≤ maxLen ∧ ∀ j, (h : j < rows.length) → ∃ g o, ga = some ⟨g, o, none⟩ ∧ w.cell? ⟨g, o + j * 2, none⟩ = some (F j) ∧ w.cell? ⟨g, o + j * 2 + 1, none⟩ = some (G j) ∧ IntsAt w (F j) rows[j].pre ∧ RowsAt w (G j) rows[j].maps
theorem CRowsAt.below {w w' : World} {v : Value} {rows : List CRow} (h : CRowsAt w v rows) (hb : Below w.heap.size w w') : CRowsAt w' v rows := by
  obtain ⟨ga, cap, F, G, e, h1, h2, h3⟩ := h
  refine ⟨ga, cap, F, G, e, h1, h2, fun j hj => ?_⟩
  obtain ⟨g, o, e1, c1, c2, i1, i2⟩ := h3 j hj
  exact ⟨g, o, e1, zcm hb c1, zcm hb c2, i1.below hb, i2.below hb⟩
def CascAt (w : World) (v : Value) (c : Casc) : Prop :=
  ∃ s r, v = .agg #[.int .i64 c.letters, s, r] ∧ IntsAt w s c.sizes ∧ CRowsAt w r c.rows
theorem CascAt.below {w w' : World} {v : Value} {c : Casc} (h : CascAt w v c) (hb : Below w.heap.size w w') : CascAt w' v c := by
  obtain ⟨s, r, e, h1, h2⟩ := h
  exact ⟨s, r, e, h1.below hb, h2.below hb⟩
end Go.Proofs.Ytbnnipkanechoaa
end
section
namespace Go.Proofs.Ytbnnipkanechoaa
open Go
noncomputable section
set_option maxRecDepth 100000
set_option maxHeartbeats 1000000
structure Tape where
  l : List Int
  at_ : Int
deriving Inhabited
structure DFA where
  letters : Int
  start : Int
  final : List Bool
  next : List (List Int)
deriving Inhabited
def zaY (a0 : Int) (a1 : Int) : Option (Int) :=
  if a1 < 1 then
    some 0
  else
    chk (¬ a1 = 0) <|
    if (Int.tmod a0 a1) < 0 then
      some (IntKind.i64.wrap ((Int.tmod a0 a1) + a1))
    else
      some (Int.tmod a0 a1)
theorem zjr {a0 : Int} {a1 : Int} {r : Int} (h0 : zaY a0 a1 = some r) : L 21 [.sc (.int .i64 a0), .sc (.int .i64 a1)] = some (.sc (.int .i64 r), [.dead, .dead]) := by
  simp only [zaY] at h0
  refine z2S zv4 zwo (z1w zy4 ⟨of_decide_eq_true rfl, of_decide_eq_true rfl⟩ ?_)
  simp only [z1E, z1A, z1y, z1G, z3i]
  refine zq rfl (zr rfl rfl rfl (by simp; rfl) ?_)
  refine z0a (zq rfl (zq rfl (zr rfl rfl rfl (by simp; rfl) ?_)))
  refine z0a ?_
  by_cases c4 : a1 < 1
  ·rw [if_pos c4] at h0
   refine z0u rfl (by simp [c4]) (zq rfl (zr rfl rfl rfl (by simp; rfl) ?_))
   refine z0a (z1t rfl (z1b ?_))
   cases h0
   simp
  ·rw [if_neg c4] at h0
   refine z0n rfl (by simp [c4]) (z0i rfl (z0a (zq rfl ?_)))
   obtain ⟨f5, h1⟩ := z1H h0
   refine zr rfl rfl rfl (by simp [f5]; rfl) ?_
   refine z0a (zq rfl (zq rfl (zr rfl rfl rfl (by simp; rfl) ?_)))
   refine z0a ?_
   by_cases c6 : (Int.tmod a0 a1) < 0
   ·rw [if_pos c6] at h1
    refine z0u rfl (by simp [c6]) (zr rfl rfl rfl (by simp; rfl) ?_)
    refine z0a (zq rfl (zr rfl rfl rfl (by simp; rfl) ?_))
    refine z0a (z1t rfl ?_)
    cases h1
    simp
   ·rw [if_neg c6] at h1
    refine z0n rfl (by simp [c6]) (z0i rfl (z0a (zq rfl (zr rfl rfl rfl (by simp; rfl) ?_))))
    refine z0a (z1t rfl ?_)
    cases h1
    simp
def z1B (a0 : Tape) (a1 : Int) : Option (Int × Tape) :=
  if (a0.l.length : Int) ≤ a0.at_ then
    some (0, a0)
  else
    (atI a0.l (IntKind.i64.wrap ((IntKind.i64.wrap (a0.at_ + 1)) - 1))).bind fun v3 =>
    (zaY v3 a1).bind fun v4 =>
    some (v4, (⟨a0.l, IntKind.i64.wrap (a0.at_ + 1)⟩ : Tape))
theorem z1D {a0 : Tape} {a1 : Int} {r : Int × Tape} (h0 : z1B a0 a1 = some r) : L 30 [.vr [.sl a0.l.length (a0.l.map fun x0 => .sc (.int .i64 x0)), .sc (.int .i64 a0.at_)], .sc (.int .i64 a1)] = some (.sc (.int .i64 r.1), [.vr [.sl r.2.l.length (r.2.l.map fun x0 => .sc (.int .i64 x0)), .sc (.int .i64 r.2.at_)], .dead]) := by
  simp only [z1B] at h0
  refine z2S zv2 zwm (z1w zy2 ⟨of_decide_eq_true rfl, of_decide_eq_true rfl⟩ ?_)
  simp only [z1E, z1A, z1y, z1G, z3i]
  refine zq rfl (zr rfl rfl rfl (by simp; rfl) ?_)
  refine z0a (zq rfl (zq rfl ?_))
  refine z1s rfl rfl rfl rfl ?_; repeat' ((first | refine z0z rfl rfl fun Q' hQ => ?_ | refine z0q rfl fun Q' hQ => ?_); simp; refine hQ.out _ ?_; clear hQ; clear Q')
  refine z0a ?_
  by_cases c4 : (a0.l.length : Int) ≤ a0.at_
  ·rw [if_pos c4] at h0
   refine z0u rfl (by simp [c4]) (zq rfl (zr rfl rfl rfl (by simp; rfl) ?_))
   refine z0a (z1t rfl (z1b ?_))
   cases h0
   simp
  ·rw [if_neg c4] at h0
   refine z0n rfl (by simp [c4]) (z0i rfl (z0a (zq rfl (zr rfl rfl rfl (by simp; rfl) ?_))))
   refine z0a (zq rfl ?_)
   obtain ⟨v3, f5, h1⟩ := z0R h0
   obtain ⟨v4, f6, h2⟩ := z0h h1
   have f6k := zjr f6
   try simp at f6k
   refine z1s rfl rfl rfl rfl ?_; repeat' ((first | refine z0z rfl rfl fun Q' hQ => ?_ | refine z0q rfl fun Q' hQ => ?_); simp [f5, f6k]; refine hQ.out _ ?_; clear hQ; clear Q')
   refine z0a (z1t rfl ?_)
   cases h2
   simp
def zaX (a0 : List Int) : Option (Tape) :=
  if 80 < (a0.length : Int) then
    (z7V a0 0 80).bind fun v2 =>
    some (⟨v2, 0⟩ : Tape)
  else
    some (⟨a0, 0⟩ : Tape)
theorem zjq {a0 : List Int} {r : Tape} (h0 : zaX a0 = some r) : L 11 [.sl a0.length (a0.map fun x0 => .sc (.int .i64 x0))] = some (.vr [.sl r.l.length (r.l.map fun x0 => .sc (.int .i64 x0)), .sc (.int .i64 r.at_)], [.dead]) := by
  simp only [zaX] at h0
  refine z2S zvb zwt (z1w zy9 ⟨of_decide_eq_true rfl, of_decide_eq_true rfl⟩ ?_)
  simp only [z1E, z1A, z1y, z1G, z3i]
  refine zq rfl (zr rfl rfl rfl (by simp; rfl) ?_)
  refine z0a (zq rfl (zq rfl (zr rfl rfl rfl (by simp; rfl) ?_)))
  refine z0a ?_
  by_cases c3 : 80 < (a0.length : Int)
  ·rw [if_pos c3] at h0
   refine z0u rfl (by simp [c3]) ?_
   obtain ⟨v2, f4, h1⟩ := z0h h0
   obtain ⟨f4a, f4b, f4c, -⟩ := z6X f4
   obtain ⟨f4d, f4g⟩ := zcM f4a f4b
   have f4e := zce (g := fun x : Int => (.sc (.int .i64 x) : T)) f4
   try simp at f4e
   have f4f := zcd f4
   try simp only [Int.reduceToNat, Int.toNat_natCast, Nat.sub_zero] at f4f
   refine zr rfl rfl rfl (by simp [f4a, f4b, f4c, f4d, f4g, f4e, f4f]; rfl) ?_
   refine z0a (zq rfl (zr rfl rfl rfl (by simp; rfl) ?_))
   refine z0a (z1t rfl ?_)
   cases h1
   simp
  ·rw [if_neg c3] at h0
   refine z0n rfl (by simp [c3]) (z0i rfl (z0a (zq rfl (zr rfl rfl rfl (by simp; rfl) ?_))))
   refine z0a (z1t rfl ?_)
   cases h0
   simp
def z3K (a0 : Tape) : Option (Int × Tape) :=
  (z1B a0 8).bind fun v2 =>
  some (IntKind.i64.wrap (2 - (zsq .i64 v2.1 7)), v2.2)
theorem z9O {a0 : Tape} {r : Int × Tape} (h0 : z3K a0 = some r) : L 13 [.vr [.sl a0.l.length (a0.l.map fun x0 => .sc (.int .i64 x0)), .sc (.int .i64 a0.at_)]] = some (.sc (.int .i64 r.1), [.vr [.sl r.2.l.length (r.2.l.map fun x0 => .sc (.int .i64 x0)), .sc (.int .i64 r.2.at_)]]) := by
  simp only [z3K] at h0
  refine z2S zv9 zwr (z1w zy7 ⟨of_decide_eq_true rfl, of_decide_eq_true rfl⟩ ?_)
  simp only [z1E, z1A, z1y, z1G, z3i]
  refine zq rfl (zr rfl rfl rfl (by simp; rfl) ?_)
  refine z0a (zq rfl ?_)
  obtain ⟨v2, f2, h1⟩ := z0h h0
  have f2k := z1D f2
  try simp at f2k
  refine zr rfl rfl rfl (by simp [f2k]; rfl) ?_
  refine z0a (z1t rfl ?_)
  cases h1
  simp
def z4t (a1 : Int) (v32 : Int × Tape) (w42 : Int) (w45 : List Bool) (w46 : List (List Int)) (v55 : Int × Tape) : Int × List Int × Int × List Int → Option ((Int × List Int × Int × List Int) ⊕ ((Int × List Int × Int × List Bool × List (List Int)) ⊕ (DFA × Tape)))
  | (w57, w58, w59, w60) =>
  if w57 < a1 then
    (z1B (⟨w58, w59⟩ : Tape) (IntKind.i64.wrap (1 + v32.1))).bind fun v62 =>
    chk (z2Z 8 (w60.length + 1)) <|
    z0B (IntKind.i64.wrap (w57 + 1), v62.2.l, v62.2.at_, w60 ++ [v62.1])
  else
    z1l <|
    chk (z2Z 24 (w46.length + 1)) <|
    z0B (IntKind.i64.wrap (w42 + 1), w58, w59, w45 ++ [decide (v55.1 = 1)], w46 ++ [w60])
def z4s (a1 : Int) (v32 : Int × Tape) (v33 : Int × Tape) (w42 : Int) (w45 : List Bool) (w46 : List (List Int)) (v55 : Int × Tape) : Int × List Int × Int × List Int → Fr
  | (w57, w58, w59, w60) => ⟨53, [(0, .one (.a 0 [] (0))), (1, .one (.t none (.sc (.int .i64 a1)))), (6, .one (.a 6 [] (0))), (7, .one (.a 7 [] (0))), (8, .one (.t none (.sc (.int .i64 (IntKind.i64.wrap (1 + v32.1)))))), (9, .one (.t none (.sc (.int .i64 w42)))), (10, .one (.h 10 [])), (11, .one (.t none (.sc (.int .i64 w57)))), (1053, .one (.a 0 [] (0)))], [(0, .vr [.sl w58.length (w58.map fun x0 => .sc (.int .i64 x0)), .sc (.int .i64 w59)]), (6, .vr [.sc (.int .i64 0), .sc (.int .i64 0), .os 1 0 [], .os 1 0 []]), (7, .vr [.sc (.int .i64 a1), .sc (.int .i64 v33.1), .os 1 (w45 ++ [decide (v55.1 = 1)]).length ((w45 ++ [decide (v55.1 = 1)]).map fun x0 => .sc (.bool x0)), .os 1 w46.length (w46.map fun x0 => .os 1 x0.length (x0.map fun x1 => .sc (.int .i64 x1)))]), (10, .os 1 w60.length (w60.map fun x0 => .sc (.int .i64 x0)))]⟩
def z4P (a1 : Int) (v32 : Int × Tape) (v33 : Int × Tape) : Int × List Int × Int × List Bool × List (List Int) → Option ((Int × List Int × Int × List Bool × List (List Int)) ⊕ (DFA × Tape))
  | (w42, w43, w44, w45, w46) =>
  if w42 < (IntKind.i64.wrap (1 + v32.1)) then
    (z1B (⟨w43, w44⟩ : Tape) 2).bind fun v55 =>
    chk (z2Z 1 (w45.length + 1)) <|
    z0W (z4t a1 v32 w42 w45 w46 v55) LFm (0, v55.2.l, v55.2.at_, [])
  else
    z1l <|
    some ((⟨a1, v33.1, w45, w46⟩ : DFA), (⟨w43, w44⟩ : Tape))
def z4O (a1 : Int) (v32 : Int × Tape) (v33 : Int × Tape) : Int × List Int × Int × List Bool × List (List Int) → Fr
  | (w42, w43, w44, w45, w46) => ⟨53, [(0, .one (.a 0 [] (0))), (1, .one (.t none (.sc (.int .i64 a1)))), (6, .one (.a 6 [] (0))), (7, .one (.a 7 [] (0))), (8, .one (.t none (.sc (.int .i64 (IntKind.i64.wrap (1 + v32.1)))))), (9, .one (.t none (.sc (.int .i64 w42)))), (1053, .one (.a 0 [] (0)))], [(0, .vr [.sl w43.length (w43.map fun x0 => .sc (.int .i64 x0)), .sc (.int .i64 w44)]), (6, .vr [.sc (.int .i64 0), .sc (.int .i64 0), .os 1 0 [], .os 1 0 []]), (7, .vr [.sc (.int .i64 a1), .sc (.int .i64 v33.1), .os 1 w45.length (w45.map fun x0 => .sc (.bool x0)), .os 1 w46.length (w46.map fun x0 => .os 1 x0.length (x0.map fun x1 => .sc (.int .i64 x1)))])]⟩
def z4u (a0 : Tape) (a1 : Int) (a2 : Int) : Option (DFA × Tape) :=
  (z1B a0 a2).bind fun v32 =>
  (z1B v32.2 (IntKind.i64.wrap (1 + v32.1))).bind fun v33 =>
  z0W (z4P a1 v32 v33) LFm (0, v33.2.l, v33.2.at_, [], [])
theorem z8w {a0 : Tape} {a1 : Int} {a2 : Int} {r : DFA × Tape} (h0 : z4u a0 a1 a2 = some r) : L 34 [.vr [.sl a0.l.length (a0.l.map fun x0 => .sc (.int .i64 x0)), .sc (.int .i64 a0.at_)], .sc (.int .i64 a1), .sc (.int .i64 a2)] = some (.agg [.sc (.int .i64 r.1.letters), .sc (.int .i64 r.1.start), .os 1 r.1.final.length (r.1.final.map fun x0 => .sc (.bool x0)), .os 1 r.1.next.length (r.1.next.map fun x0 => .os 1 x0.length (x0.map fun x1 => .sc (.int .i64 x1)))], [.vr [.sl r.2.l.length (r.2.l.map fun x0 => .sc (.int .i64 x0)), .sc (.int .i64 r.2.at_)], .dead, .dead]) := by
  simp only [z4u] at h0
  refine z2S zuY zwj (z1w zxZ ⟨of_decide_eq_true rfl, of_decide_eq_true rfl⟩ ?_)
  simp only [z1E, z1A, z1y, z1G, z3i]
  refine zq rfl (zr rfl rfl rfl (by simp; rfl) ?_)
  refine z0a (zq rfl (zr rfl rfl rfl (by simp; rfl) ?_))
  refine z0a (zq rfl ?_)
  obtain ⟨v32, f37, h1⟩ := z0h h0
  have f37k := z1D f37
  try simp at f37k
  refine zr rfl rfl rfl (by simp [f37k]; rfl) ?_
  refine z0a (zq rfl ?_)
  obtain ⟨v33, f38, h2⟩ := z0h h1
  have f38k := z1D f38
  try simp at f38k
  refine zr rfl rfl rfl (by simp [f38k]; rfl) ?_
  refine z0a (zq rfl (zq rfl (zr rfl rfl rfl (by simp; rfl) ?_)))
  refine z0a (zb rfl (z0C h2 (z4O a1 v32 v33) rfl rfl (by simp [z4O]) fun s o1 h3 hr1 => ?_))
  obtain ⟨w42, w43, w44, w45, w46⟩ := s
  simp only [z4P] at h3
  simp only [z4O]
  refine zq rfl (zq rfl (zr rfl rfl rfl (by simp; rfl) ?_))
  refine z0a ?_
  by_cases c61 : w42 < (IntKind.i64.wrap (1 + v32.1))
  ·rw [if_pos c61] at h3
   refine z0u rfl (by simp [c61]) (z0i rfl (z0a (zq rfl (zb rfl (zq rfl ?_)))))
   obtain ⟨v55, f62, h4⟩ := z0h h3
   have f62k := z1D f62
   try simp at f62k
   obtain ⟨f63, h5⟩ := zr8 h4
   refine z1s rfl rfl rfl rfl ?_; repeat' ((first | refine z0z rfl rfl fun Q' hQ => ?_ | refine z0q rfl fun Q' hQ => ?_); simp [f62k, f63]; refine hQ.out _ ?_; clear hQ; clear Q')
   refine z0a (zq rfl (zr rfl rfl rfl (by simp; rfl) ?_))
   refine z0a (zq rfl (zq rfl (zr rfl rfl rfl (by simp; rfl) ?_)))
   refine z0a (zb rfl (z0C h5 (z4s a1 v32 v33 w42 w45 w46 v55) rfl rfl (by simp [z4s]) fun s o2 h6 hr2 => ?_))
   obtain ⟨w57, w58, w59, w60⟩ := s
   simp only [z4t] at h6
   simp only [z4s]
   refine zq rfl (zq rfl (zr rfl rfl rfl (by simp; rfl) ?_))
   refine z0a ?_
   by_cases c69 : w57 < a1
   ·rw [if_pos c69] at h6
    refine z0u rfl (by simp [c69]) (z0i rfl (z0a (zq rfl (zb rfl ?_))))
    obtain ⟨v62, f70, h7⟩ := z0h h6
    have f70k := z1D f70
    try simp at f70k
    obtain ⟨f71, h8⟩ := z7I h7
    refine zr rfl rfl rfl (by simp [f70k, f71]; rfl) ?_
    refine z0g (z0a (zr rfl rfl rfl (by simp; rfl) ?_))
    have ho := z0d h8
    refine z0f ho ?_
    simp [z4s]
   ·rw [if_neg c69] at h6
    refine z0n rfl (by simp [c69]) (z0V rfl (z0v ?_))
    obtain ⟨rr2, h7, ho2⟩ := z0j h6
    have hs2 := hr2 _ ho2
    subst hs2
    refine z0m ho2 (z0e rfl (z0a ?_))
    obtain ⟨f72, h8⟩ := z7I h7
    refine zr rfl rfl rfl (by simp [f72]; rfl) ?_
    refine z0g (z0a (zr rfl rfl rfl (by simp; rfl) ?_))
    have ho := z0d h8
    refine z0f ho ?_
    simp [z4O]
  ·rw [if_neg c61] at h3
   refine z0n rfl (by simp [c61]) (z0V rfl (z0v ?_))
   obtain ⟨rr1, h4, ho1⟩ := z0j h3
   have hs1 := hr1 _ ho1
   subst hs1
   refine z0m ho1 (z0e rfl (z0a (zq rfl (zr rfl rfl rfl (by simp; rfl) ?_))))
   refine z0a (z1t rfl ?_)
   cases h4
   simp
def z3B (w61 : Int) (v77 : List Int) : Int × List (List Int) → Option ((Int × List (List Int)) ⊕ ((Int × List (List Int)) ⊕ (DFA × Tape)))
  | (w81, w82) =>
  (atI w82 w61).bind fun v87 =>
  if w81 < (v77.length : Int) then
    (atI v87 w81).bind fun v88 =>
    z0B (IntKind.i64.wrap (w81 + 1), (w82.set w61.toNat (v87.set w81.toNat (if w61 < v88 then v88 else w61))))
  else
    z1l <|
    z0B (IntKind.i64.wrap (w61 + 1), w82)
def z3z (v46 : DFA × Tape) (w61 : Int) (v77 : List Int) : Int × List (List Int) → Fr
  | (w81, w82) => ⟨46, [(6, .one (.a 6 [] (0))), (7, .one (.a 7 [] (0))), (8, .one (.t none (.sc (.int .i64 w61)))), (17, .one (.t none (.sc (.int .i64 (v46.1.next.length : Int))))), (18, .one (.t none (.sc (.int .i64 w61)))), (25, .one (.h 7 [3, w61.toNat])), (26, .one (.t none (.sc (.int .i64 (v77.length : Int))))), (27, .one (.t none (.sc (.int .i64 w81)))), (1046, .one (.a 0 [] (0)))], [(6, .vr [.sc (.int .i64 0), .sc (.int .i64 0), .os 1 0 [], .os 1 0 []]), (7, .vr [.sc (.int .i64 v46.1.letters), .sc (.int .i64 v46.1.start), .os 1 v46.1.final.length (v46.1.final.map fun x0 => .sc (.bool x0)), .os 1 w82.length (w82.map fun x0 => .os 1 x0.length (x0.map fun x1 => .sc (.int .i64 x1)))]), (0, .vr [.sl v46.2.l.length (v46.2.l.map fun x0 => .sc (.int .i64 x0)), .sc (.int .i64 v46.2.at_)])]⟩
def z3C (v46 : DFA × Tape) : Int × List (List Int) → Option ((Int × List (List Int)) ⊕ (DFA × Tape))
  | (w61, w62) =>
  if w61 < (v46.1.next.length : Int) then
    (atI w62 w61).bind fun v77 =>
    z0W (z3B w61 v77) LFm (0, w62)
  else
    z1l <|
    some ((⟨v46.1.letters, 0, v46.1.final, w62⟩ : DFA), v46.2)
def z3A (v46 : DFA × Tape) : Int × List (List Int) → Fr
  | (w61, w62) => ⟨46, [(6, .one (.a 6 [] (0))), (7, .one (.a 7 [] (0))), (17, .one (.t none (.sc (.int .i64 (v46.1.next.length : Int))))), (18, .one (.t none (.sc (.int .i64 w61)))), (1046, .one (.a 0 [] (0)))], [(6, .vr [.sc (.int .i64 0), .sc (.int .i64 0), .os 1 0 [], .os 1 0 []]), (7, .vr [.sc (.int .i64 v46.1.letters), .sc (.int .i64 v46.1.start), .os 1 v46.1.final.length (v46.1.final.map fun x0 => .sc (.bool x0)), .os 1 w62.length (w62.map fun x0 => .os 1 x0.length (x0.map fun x1 => .sc (.int .i64 x1)))]), (0, .vr [.sl v46.2.l.length (v46.2.l.map fun x0 => .sc (.int .i64 x0)), .sc (.int .i64 v46.2.at_)])]⟩
def z3J (a0 : Tape) (a1 : Int) (a2 : Int) : Option (DFA × Tape) :=
  (z4u a0 a1 a2).bind fun v46 =>
  z0W (z3C v46) LFm (0, v46.1.next)
theorem z9N {a0 : Tape} {a1 : Int} {a2 : Int} {r : DFA × Tape} (h0 : z3J a0 a1 a2 = some r) : L 31 [.vr [.sl a0.l.length (a0.l.map fun x0 => .sc (.int .i64 x0)), .sc (.int .i64 a0.at_)], .sc (.int .i64 a1), .sc (.int .i64 a2)] = some (.agg [.sc (.int .i64 r.1.letters), .sc (.int .i64 r.1.start), .os 1 r.1.final.length (r.1.final.map fun x0 => .sc (.bool x0)), .os 1 r.1.next.length (r.1.next.map fun x0 => .os 1 x0.length (x0.map fun x1 => .sc (.int .i64 x1)))], [.vr [.sl r.2.l.length (r.2.l.map fun x0 => .sc (.int .i64 x0)), .sc (.int .i64 r.2.at_)], .dead, .dead]) := by
  simp only [z3J] at h0
  refine z2S zv1 zwl (z1w zy1 ⟨of_decide_eq_true rfl, of_decide_eq_true rfl⟩ ?_)
  simp only [z1E, z1A, z1y, z1G, z3i]
  refine zq rfl (zr rfl rfl rfl (by simp; rfl) ?_)
  refine z0a (zq rfl ?_)
  obtain ⟨v46, f38, h1⟩ := z0h h0
  have f38k := z8w f38
  try simp at f38k
  refine zr rfl rfl rfl (by simp [f38k]; rfl) ?_
  refine z0a (zq rfl (zq rfl (zr rfl rfl rfl (by simp; rfl) ?_)))
  refine z0a (zb rfl (z0C h1 (z3A v46) rfl rfl (by simp [z3A]) fun s o1 h2 hr1 => ?_))
  obtain ⟨w61, w62⟩ := s
  simp only [z3C] at h2
  simp only [z3A]
  refine zq rfl (zr rfl rfl rfl (by simp; rfl) ?_)
  refine z0a (zq rfl ?_)
  by_cases c63 : w61 < (v46.1.next.length : Int)
  ·rw [if_pos c63] at h2
   refine z0u rfl (by simp [c63]) (z0i rfl (z0a (zq rfl (zb rfl (zq rfl (zr rfl rfl rfl (by simp; rfl) ?_))))))
   refine z0a (zq rfl ?_)
   obtain ⟨v77, f64, h3⟩ := z0R h2
   refine zr rfl rfl rfl (by simp [f64]; rfl) ?_
   refine z0a (zb rfl (z0C h3 (z3z v46 w61 v77) rfl rfl (by simp [z3z]) fun s o2 h4 hr2 => ?_))
   obtain ⟨w81, w82⟩ := s
   simp only [z3B] at h4
   simp only [z3z]
   obtain ⟨v87, f72, h5⟩ := z0R h4
   refine zq rfl (zr rfl rfl rfl (by simp [f72]; rfl) ?_)
   refine z0a (zq rfl ?_)
   by_cases c73 : w81 < (v77.length : Int)
   ·rw [if_pos c73] at h5
    refine z0u rfl (by simp [c73]) (z0i rfl (z0a (zq rfl (zb rfl (zq rfl ?_)))))
    obtain ⟨v88, f74, h6⟩ := z0R h5
    refine zr rfl rfl rfl (by simp [f72, f74]; rfl) ?_
    refine z0a (zr rfl rfl rfl (by simp [f72, f74]; rfl) ?_)
    refine z0g (z0a (zr rfl rfl rfl (by simp [f72]; rfl) ?_))
    have ho := z0d h6
    refine z0f ho ?_
    simp [z3z]
   ·rw [if_neg c73] at h5
    refine z0n rfl (by simp [c73]) (z0V rfl (z0v ?_))
    obtain ⟨rr2, h6, ho2⟩ := z0j h5
    have hs2 := hr2 _ ho2
    subst hs2
    refine z0m ho2 (z0e rfl (z0g (z0a (zr rfl rfl rfl (by simp [f72]; rfl) ?_))))
    have ho := z0d h6
    refine z0f ho ?_
    simp [z3A]
  ·rw [if_neg c63] at h2
   refine z0n rfl (by simp [c63]) (z0V rfl (z0v ?_))
   obtain ⟨rr1, h3, ho1⟩ := z0j h2
   have hs1 := hr1 _ ho1
   subst hs1
   refine z0m ho1 (z0e rfl (z0a (zq rfl (zr rfl rfl rfl (by simp; rfl) ?_))))
   refine z0a (zq rfl (zr rfl rfl rfl (by simp; rfl) ?_))
   refine z0a (z1t rfl ?_)
   cases h3
   simp
def z2t (v90 : Int × Tape) (w125 : Int) : Int × List Int × Int × List (List Int) × List Int → Option ((Int × List Int × Int × List (List Int) × List Int) ⊕ ((Int × List Int × Int × List (List Int)) ⊕ (DFA × Tape)))
  | (w162, w163, w164, w165, w166) =>
  if w162 < (IntKind.i64.wrap (1 + v90.1)) then
    (z1B (⟨w163, w164⟩ : Tape) (w166.length : Int)).bind fun v173 =>
    (atI w165 w162).bind fun v174 =>
    (atI w166 v173.1).bind fun v175 =>
    (atI v174 w125).bind fun v176 =>
    (z7V w166 0 v173.1).bind fun v177 =>
    (z7V w166 (IntKind.i64.wrap (v173.1 + 1)) (w166.length : Int)).bind fun v178 =>
    chk (z2Z 8 (v177.length)) <|
    chk (z2Z 8 (v177.length + v178.length)) <|
    z0B (IntKind.i64.wrap (w162 + 1), v173.2.l, v173.2.at_, (w165.set w162.toNat (v174.set w125.toNat v175)), v177 ++ v178)
  else
    z1l <|
    z0B (IntKind.i64.wrap (w125 + 1), w163, w164, w165)
def z2r (a1 : Int) (v90 : Int × Tape) (v91 : Int × Tape) (w96 : List Bool) (w125 : Int) : Int × List Int × Int × List (List Int) × List Int → Fr
  | (w162, w163, w164, w165, w166) => ⟨90, [(0, .one (.a 0 [] (0))), (1, .one (.t none (.sc (.int .i64 a1)))), (6, .one (.a 6 [] (0))), (7, .one (.a 7 [] (0))), (8, .one (.t none (.sc (.int .i64 (IntKind.i64.wrap (1 + v90.1)))))), (10, .one (.t none (.sc (.int .i64 w125)))), (11, .one (.h 11 [])), (13, .one (.t none (.sc (.int .i64 w162)))), (1090, .one (.a 0 [] (0)))], [(0, .vr [.sl w163.length (w163.map fun x0 => .sc (.int .i64 x0)), .sc (.int .i64 w164)]), (6, .vr [.sc (.int .i64 0), .sc (.int .i64 0), .os 1 0 [], .os 1 0 []]), (7, .vr [.sc (.int .i64 a1), .sc (.int .i64 v91.1), .os 1 w96.length (w96.map fun x0 => .sc (.bool x0)), .os 1 w165.length (w165.map fun x0 => .os 1 x0.length (x0.map fun x1 => .sc (.int .i64 x1)))]), (11, .os 1 w166.length (w166.map fun x0 => .sc (.int .i64 x0)))]⟩
def z2u (v90 : Int × Tape) (w125 : Int) (w126 : List Int) (w127 : Int) (w128 : List (List Int)) : Int × List Int → Option ((Int × List Int) ⊕ ((Int × List Int × Int × List (List Int)) ⊕ (DFA × Tape)))
  | (w154, w155) =>
  if w154 < (IntKind.i64.wrap (1 + v90.1)) then
    chk (z2Z 8 (w155.length + 1)) <|
    z0B (IntKind.i64.wrap (w154 + 1), w155 ++ [w154])
  else
    z1l <|
    z0W (z2t v90 w125) LFm (0, w126, w127, w128, w155)
def z2s (a1 : Int) (v90 : Int × Tape) (v91 : Int × Tape) (w96 : List Bool) (w125 : Int) (w126 : List Int) (w127 : Int) (w128 : List (List Int)) : Int × List Int → Fr
  | (w154, w155) => ⟨90, [(0, .one (.a 0 [] (0))), (1, .one (.t none (.sc (.int .i64 a1)))), (6, .one (.a 6 [] (0))), (7, .one (.a 7 [] (0))), (8, .one (.t none (.sc (.int .i64 (IntKind.i64.wrap (1 + v90.1)))))), (10, .one (.t none (.sc (.int .i64 w125)))), (11, .one (.h 11 [])), (12, .one (.t none (.sc (.int .i64 w154)))), (1090, .one (.a 0 [] (0)))], [(0, .vr [.sl w126.length (w126.map fun x0 => .sc (.int .i64 x0)), .sc (.int .i64 w127)]), (6, .vr [.sc (.int .i64 0), .sc (.int .i64 0), .os 1 0 [], .os 1 0 []]), (7, .vr [.sc (.int .i64 a1), .sc (.int .i64 v91.1), .os 1 w96.length (w96.map fun x0 => .sc (.bool x0)), .os 1 w128.length (w128.map fun x0 => .os 1 x0.length (x0.map fun x1 => .sc (.int .i64 x1)))]), (11, .os 1 w155.length (w155.map fun x0 => .sc (.int .i64 x0)))]⟩
def z2F (a1 : Int) (v90 : Int × Tape) (v91 : Int × Tape) (w96 : List Bool) : Int × List Int × Int × List (List Int) → Option ((Int × List Int × Int × List (List Int)) ⊕ (DFA × Tape))
  | (w125, w126, w127, w128) =>
  if w125 < a1 then
    z0W (z2u v90 w125 w126 w127 w128) LFm (0, [])
  else
    z1l <|
    some ((⟨a1, v91.1, w96, w128⟩ : DFA), (⟨w126, w127⟩ : Tape))
def z2D (a1 : Int) (v90 : Int × Tape) (v91 : Int × Tape) (w96 : List Bool) : Int × List Int × Int × List (List Int) → Fr
  | (w125, w126, w127, w128) => ⟨90, [(0, .one (.a 0 [] (0))), (1, .one (.t none (.sc (.int .i64 a1)))), (6, .one (.a 6 [] (0))), (7, .one (.a 7 [] (0))), (8, .one (.t none (.sc (.int .i64 (IntKind.i64.wrap (1 + v90.1)))))), (10, .one (.t none (.sc (.int .i64 w125)))), (1090, .one (.a 0 [] (0)))], [(0, .vr [.sl w126.length (w126.map fun x0 => .sc (.int .i64 x0)), .sc (.int .i64 w127)]), (6, .vr [.sc (.int .i64 0), .sc (.int .i64 0), .os 1 0 [], .os 1 0 []]), (7, .vr [.sc (.int .i64 a1), .sc (.int .i64 v91.1), .os 1 w96.length (w96.map fun x0 => .sc (.bool x0)), .os 1 w128.length (w128.map fun x0 => .os 1 x0.length (x0.map fun x1 => .sc (.int .i64 x1)))])]⟩
def z2G (a1 : Int) (v90 : Int × Tape) (v91 : Int × Tape) : Int × List Int × Int × List Bool × List (List Int) → Option ((Int × List Int × Int × List Bool × List (List Int)) ⊕ (DFA × Tape))
  | (w93, w94, w95, w96, w97) =>
  if w93 < (IntKind.i64.wrap (1 + v90.1)) then
    (z1B (⟨w94, w95⟩ : Tape) 2).bind fun v99 =>
    chk (z2Z 1 (w96.length + 1)) <|
    chk (z1Y 8 a1) <|
    chk (z2Z 24 (w97.length + 1)) <|
    z0B (IntKind.i64.wrap (w93 + 1), v99.2.l, v99.2.at_, w96 ++ [decide (v99.1 = 1)], w97 ++ [List.replicate a1.toNat (0 : Int)])
  else
    z1l <|
    z0W (z2F a1 v90 v91 w96) LFm (0, w94, w95, w97)
def z2E (a1 : Int) (v90 : Int × Tape) (v91 : Int × Tape) : Int × List Int × Int × List Bool × List (List Int) → Fr
  | (w93, w94, w95, w96, w97) => ⟨90, [(0, .one (.a 0 [] (0))), (1, .one (.t none (.sc (.int .i64 a1)))), (6, .one (.a 6 [] (0))), (7, .one (.a 7 [] (0))), (8, .one (.t none (.sc (.int .i64 (IntKind.i64.wrap (1 + v90.1)))))), (9, .one (.t none (.sc (.int .i64 w93)))), (1090, .one (.a 0 [] (0)))], [(0, .vr [.sl w94.length (w94.map fun x0 => .sc (.int .i64 x0)), .sc (.int .i64 w95)]), (6, .vr [.sc (.int .i64 0), .sc (.int .i64 0), .os 1 0 [], .os 1 0 []]), (7, .vr [.sc (.int .i64 a1), .sc (.int .i64 v91.1), .os 1 w96.length (w96.map fun x0 => .sc (.bool x0)), .os 1 w97.length (w97.map fun x0 => .os 1 x0.length (x0.map fun x1 => .sc (.int .i64 x1)))])]⟩
def z2x (a0 : Tape) (a1 : Int) (a2 : Int) : Option (DFA × Tape) :=
  (z1B a0 a2).bind fun v90 =>
  (z1B v90.2 (IntKind.i64.wrap (1 + v90.1))).bind fun v91 =>
  z0W (z2G a1 v90 v91) LFm (0, v91.2.l, v91.2.at_, [], [])
theorem z7C {a0 : Tape} {a1 : Int} {a2 : Int} {r : DFA × Tape} (h0 : z2x a0 a1 a2 = some r) : L 32 [.vr [.sl a0.l.length (a0.l.map fun x0 => .sc (.int .i64 x0)), .sc (.int .i64 a0.at_)], .sc (.int .i64 a1), .sc (.int .i64 a2)] = some (.agg [.sc (.int .i64 r.1.letters), .sc (.int .i64 r.1.start), .os 1 r.1.final.length (r.1.final.map fun x0 => .sc (.bool x0)), .os 1 r.1.next.length (r.1.next.map fun x0 => .os 1 x0.length (x0.map fun x1 => .sc (.int .i64 x1)))], [.vr [.sl r.2.l.length (r.2.l.map fun x0 => .sc (.int .i64 x0)), .sc (.int .i64 r.2.at_)], .dead, .dead]) := by
  simp only [z2x] at h0
  refine z2S zv0 zvl (z1w zvp ⟨of_decide_eq_true rfl, of_decide_eq_true rfl⟩ ?_)
  simp only [z1E, z1A, z1y, z1G, z3i]
  refine zq rfl (zr rfl rfl rfl (by simp; rfl) ?_)
  refine z0a (zq rfl (zr rfl rfl rfl (by simp; rfl) ?_))
  refine z0a (zq rfl ?_)
  obtain ⟨v90, f115, h1⟩ := z0h h0
  have f115k := z1D f115
  try simp at f115k
  refine zr rfl rfl rfl (by simp [f115k]; rfl) ?_
  refine z0a (zq rfl ?_)
  obtain ⟨v91, f116, h2⟩ := z0h h1
  have f116k := z1D f116
  try simp at f116k
  refine zr rfl rfl rfl (by simp [f116k]; rfl) ?_
  refine z0a (zq rfl (zq rfl (zr rfl rfl rfl (by simp; rfl) ?_)))
  refine z0a (zb rfl (z0C h2 (z2E a1 v90 v91) rfl rfl (by simp [z2E]) fun s o1 h3 hr1 => ?_))
  obtain ⟨w93, w94, w95, w96, w97⟩ := s
  simp only [z2G] at h3
  simp only [z2E]
  refine zq rfl (zq rfl (zr rfl rfl rfl (by simp; rfl) ?_))
  refine z0a ?_
  by_cases c125 : w93 < (IntKind.i64.wrap (1 + v90.1))
  ·rw [if_pos c125] at h3
   refine z0u rfl (by simp [c125]) (z0i rfl (z0a (zq rfl (zb rfl ?_))))
   obtain ⟨v99, f126, h4⟩ := z0h h3
   have f126k := z1D f126
   try simp at f126k
   obtain ⟨f127, h5⟩ := zr8 h4
   obtain ⟨f128, h6⟩ := ziC h5
   obtain ⟨f129, h7⟩ := z7I h6
   refine zfL rfl rfl rfl rfl ?_
   refine zk5 [(0, 0, 3, 1), (1, 2, 3, 2), (2, 7, 3, 3), (3, 9, 3, 4), (4, 1, 2, 5), (4, 3, 1, 6), (4, 8, 2, 7), (4, 10, 1, 8), (5, 3, 1, 9), (5, 8, 2, 10), (5, 10, 1, 11), (6, 4, 3, 12), (7, 1, 2, 10), (7, 3, 1, 13), (7, 10, 1, 15), (8, 1, 2, 11), (8, 3, 1, 14), (8, 8, 2, 15), (8, 11, 1, 16), (9, 4, 3, 17), (10, 3, 1, 18), (10, 10, 1, 20), (11, 3, 1, 19), (11, 8, 2, 20), (11, 11, 1, 21), (12, 1, 2, 17), (12, 5, 1, 22), (12, 8, 2, 23), (12, 10, 1, 24), (13, 4, 3, 23), (14, 4, 3, 24), (15, 1, 2, 20), (15, 3, 1, 25), (15, 11, 1, 27), (16, 1, 2, 21), (16, 3, 1, 26), (16, 8, 2, 27), (17, 5, 1, 28), (17, 8, 2, 29), (17, 10, 1, 30), (18, 4, 0, 29), (19, 4, 3, 30), (20, 3, 1, 31), (20, 11, 1, 33), (21, 3, 1, 32), (21, 8, 2, 33), (22, 1, 2, 28), (22, 8, 2, 34), (22, 10, 1, 35), (23, 1, 2, 29), (23, 5, 1, 34), (23, 10, 1, 36), (24, 1, 2, 30), (24, 5, 1, 35), (24, 8, 2, 36), (24, 11, 1, 37), (25, 4, 3, 36), (26, 4, 3, 37), (27, 1, 2, 33), (27, 3, 1, 38), (28, 6, 2, 39), (28, 8, 2, 40), (28, 10, 1, 41), (29, 5, 1, 40), (29, 10, 1, 42), (30, 5, 1, 41), (30, 8, 2, 42), (30, 11, 1, 43), (31, 4, 0, 42), (32, 4, 3, 43), (33, 3, 1, 44), (34, 1, 2, 40), (34, 10, 1, 45), (35, 1, 2, 41), (35, 8, 2, 45), (35, 11, 1, 46), (36, 1, 2, 42), (36, 5, 1, 45), (36, 11, 1, 47), (37, 1, 2, 43), (37, 5, 1, 46), (37, 8, 2, 47), (38, 4, 3, 47), (39, 8, 2, 48), (39, 10, 1, 49), (40, 6, 2, 48), (40, 10, 1, 50), (41, 6, 2, 49), (41, 8, 2, 50), (41, 11, 1, 51), (42, 5, 1, 50), (42, 11, 1, 52), (43, 5, 1, 51), (43, 8, 2, 52), (44, 4, 0, 52), (45, 1, 2, 50), (45, 11, 1, 53), (46, 1, 2, 51), (46, 8, 2, 53), (47, 1, 2, 52), (47, 5, 1, 53), (48, 13, 3, 55), (49, 8, 2, 54), (49, 11, 1, 56), (50, 6, 2, 54), (50, 11, 1, 57), (51, 6, 2, 56), (51, 8, 2, 57), (52, 5, 1, 57), (53, 1, 2, 57), (54, 13, 3, 59), (55, 10, 1, 59), (56, 8, 2, 58), (57, 6, 2, 58), (58, 13, 3, 60), (59, 11, 1, 60), (60, 12, 2, 61), (61, 14, 2, 62), (62, 15, 0, 63), (63, 16, 2, 64)] 64 (by kernel_rfl) ?_
   refine z0k rfl rfl rfl rfl (by simp [z0c, z0b, f126k, f127, f128, f129]; rfl) ?_
   refine z0k rfl rfl rfl rfl (by simp [z0c, z0b, f126k, f127, f128, f129]; rfl) ?_
   refine z0k rfl rfl rfl rfl (by simp [z0c, z0b, f126k, f127, f128, f129]; rfl) ?_
   refine z0k rfl rfl rfl rfl (by simp [z0c, z0b, f126k, f127, f128, f129]; rfl) ?_
   refine z0k rfl rfl rfl rfl (by simp [z0c, z0b, f126k, f127, f128, f129]; rfl) ?_
   refine z0k rfl rfl rfl rfl (by simp [z0c, z0b, f126k, f127, f128, f129]; rfl) ?_
   refine z0k rfl rfl rfl rfl (by simp [z0c, z0b, f126k, f127, f128, f129]; rfl) ?_
   refine z0k rfl rfl rfl rfl (by simp [z0c, z0b, f126k, f127, f128, f129]; rfl) ?_
   refine z0k rfl rfl rfl rfl (by simp [z0c, z0b, f126k, f127, f128, f129]; rfl) ?_
   refine z0k rfl rfl rfl rfl (by simp [z0c, z0b, f126k, f127, f128, f129]; rfl) ?_
   refine z0k rfl rfl rfl rfl (by simp [z0c, z0b, f126k, f127, f128, f129]; rfl) ?_
   refine z0k rfl rfl rfl rfl (by simp [z0c, z0b, f126k, f127, f128, f129]; rfl) ?_
   refine z0o rfl rfl rfl rfl (by simp [z0c, z0b, f126k, f127, f128, f129]) ?_
   refine z0k rfl rfl rfl rfl (by simp [z0c, z0b, f126k, f127, f128, f129]; rfl) ?_
   refine z0k rfl rfl rfl rfl (by simp [z0c, z0b, f126k, f127, f128, f129]; rfl) ?_
   refine z0o rfl rfl rfl rfl (by simp [z0c, z0b, f126k, f127, f128, f129]) ?_
   refine z0k rfl rfl rfl rfl (by simp [z0c, z0b, f126k, f127, f128, f129]; rfl) ?_
   refine z0o rfl rfl rfl rfl (by simp [z0c, z0b, f126k, f127, f128, f129]) ?_
   refine z0k rfl rfl rfl rfl (by simp [z0c, z0b, f126k, f127, f128, f129]; rfl) ?_
   refine z0k rfl rfl rfl rfl (by simp [z0c, z0b, f126k, f127, f128, f129]; rfl) ?_
   refine z0k rfl rfl rfl rfl (by simp [z0c, z0b, f126k, f127, f128, f129]; rfl) ?_
   refine z0k rfl rfl rfl rfl (by simp [z0c, z0b, f126k, f127, f128, f129]; rfl) ?_
   refine z0k rfl rfl rfl rfl (by simp [z0c, z0b, f126k, f127, f128, f129]; rfl) ?_
   refine z0o rfl rfl rfl rfl (by simp [z0c, z0b, f126k, f127, f128, f129]) ?_
   refine z0k rfl rfl rfl rfl (by simp [z0c, z0b, f126k, f127, f128, f129]; rfl) ?_
   refine z0o rfl rfl rfl rfl (by simp [z0c, z0b, f126k, f127, f128, f129]) ?_
   refine z0k rfl rfl rfl rfl (by simp [z0c, z0b, f126k, f127, f128, f129]; rfl) ?_
   refine z0k rfl rfl rfl rfl (by simp [z0c, z0b, f126k, f127, f128, f129]; rfl) ?_
   refine z0k rfl rfl rfl rfl (by simp [z0c, z0b, f126k, f127, f128, f129]; rfl) ?_
   refine z0o rfl rfl rfl rfl (by simp [z0c, z0b, f126k, f127, f128, f129]) ?_
   refine z0o rfl rfl rfl rfl (by simp [z0c, z0b, f126k, f127, f128, f129]) ?_
   refine z0o rfl rfl rfl rfl (by simp [z0c, z0b, f126k, f127, f128, f129]) ?_
   refine z0k rfl rfl rfl rfl (by simp [z0c, z0b, f126k, f127, f128, f129]; rfl) ?_
   refine z0k rfl rfl rfl rfl (by simp [z0c, z0b, f126k, f127, f128, f129]; rfl) ?_
   refine z0o rfl rfl rfl rfl (by simp [z0c, z0b, f126k, f127, f128, f129]) ?_
   refine z0k rfl rfl rfl rfl (by simp [z0c, z0b, f126k, f127, f128, f129]; rfl) ?_
   refine z0o rfl rfl rfl rfl (by simp [z0c, z0b, f126k, f127, f128, f129]) ?_
   refine z0k rfl rfl rfl rfl (by simp [z0c, z0b, f126k, f127, f128, f129]; rfl) ?_
   refine z0k rfl rfl rfl rfl (by simp [z0c, z0b, f126k, f127, f128, f129]; rfl) ?_
   refine z0k rfl rfl rfl rfl (by simp [z0c, z0b, f126k, f127, f128, f129]; rfl) ?_
   refine z0o rfl rfl rfl rfl (by simp [z0c, z0b, f126k, f127, f128, f129]) ?_
   refine z0o rfl rfl rfl rfl (by simp [z0c, z0b, f126k, f127, f128, f129]) ?_
   refine z0k rfl rfl rfl rfl (by simp [z0c, z0b, f126k, f127, f128, f129]; rfl) ?_
   refine z0k rfl rfl rfl rfl (by simp [z0c, z0b, f126k, f127, f128, f129]; rfl) ?_
   refine z0k rfl rfl rfl rfl (by simp [z0c, z0b, f126k, f127, f128, f129]; rfl) ?_
   refine z0o rfl rfl rfl rfl (by simp [z0c, z0b, f126k, f127, f128, f129]) ?_
   refine z0o rfl rfl rfl rfl (by simp [z0c, z0b, f126k, f127, f128, f129]) ?_
   refine z0k rfl rfl rfl rfl (by simp [z0c, z0b, f126k, f127, f128, f129]; rfl) ?_
   refine z0k rfl rfl rfl rfl (by simp [z0c, z0b, f126k, f127, f128, f129]; rfl) ?_
   refine z0o rfl rfl rfl rfl (by simp [z0c, z0b, f126k, f127, f128, f129]) ?_
   refine z0o rfl rfl rfl rfl (by simp [z0c, z0b, f126k, f127, f128, f129]) ?_
   refine z0k rfl rfl rfl rfl (by simp [z0c, z0b, f126k, f127, f128, f129]; rfl) ?_
   refine z0o rfl rfl rfl rfl (by simp [z0c, z0b, f126k, f127, f128, f129]) ?_
   refine z0o rfl rfl rfl rfl (by simp [z0c, z0b, f126k, f127, f128, f129]) ?_
   refine z0o rfl rfl rfl rfl (by simp [z0c, z0b, f126k, f127, f128, f129]) ?_
   refine z0k rfl rfl rfl rfl (by simp [z0c, z0b, f126k, f127, f128, f129]; rfl) ?_
   refine z0o rfl rfl rfl rfl (by simp [z0c, z0b, f126k, f127, f128, f129]) ?_
   refine z0o rfl rfl rfl rfl (by simp [z0c, z0b, f126k, f127, f128, f129]) ?_
   refine z0o rfl rfl rfl rfl (by simp [z0c, z0b, f126k, f127, f128, f129]) ?_
   refine z0k rfl rfl rfl rfl (by simp [z0c, z0b, f126k, f127, f128, f129]; rfl) ?_
   refine z0k rfl rfl rfl rfl (by simp [z0c, z0b, f126k, f127, f128, f129]; rfl) ?_
   refine z0k rfl rfl rfl rfl (by simp [z0c, z0b, f126k, f127, f128, f129]; rfl) ?_
   refine z0k rfl rfl rfl rfl (by simp [z0c, z0b, f126k, f127, f128, f129]; rfl) ?_
   refine z0o rfl rfl rfl rfl (by simp [z0c, z0b, f126k, f127, f128, f129]) ?_
   refine z0k rfl rfl rfl rfl (by simp [z0c, z0b, f126k, f127, f128, f129]; rfl) ?_
   refine z0o rfl rfl rfl rfl (by simp [z0c, z0b, f126k, f127, f128, f129]) ?_
   refine z0o rfl rfl rfl rfl (by simp [z0c, z0b, f126k, f127, f128, f129]) ?_
   refine z0k rfl rfl rfl rfl (by simp [z0c, z0b, f126k, f127, f128, f129]; rfl) ?_
   refine z0o rfl rfl rfl rfl (by simp [z0c, z0b, f126k, f127, f128, f129]) ?_
   refine z0o rfl rfl rfl rfl (by simp [z0c, z0b, f126k, f127, f128, f129]) ?_
   refine z0k rfl rfl rfl rfl (by simp [z0c, z0b, f126k, f127, f128, f129]; rfl) ?_
   refine z0o rfl rfl rfl rfl (by simp [z0c, z0b, f126k, f127, f128, f129]) ?_
   refine z0k rfl rfl rfl rfl (by simp [z0c, z0b, f126k, f127, f128, f129]; rfl) ?_
   refine z0o rfl rfl rfl rfl (by simp [z0c, z0b, f126k, f127, f128, f129]) ?_
   refine z0o rfl rfl rfl rfl (by simp [z0c, z0b, f126k, f127, f128, f129]) ?_
   refine z0k rfl rfl rfl rfl (by simp [z0c, z0b, f126k, f127, f128, f129]; rfl) ?_
   refine z0o rfl rfl rfl rfl (by simp [z0c, z0b, f126k, f127, f128, f129]) ?_
   refine z0o rfl rfl rfl rfl (by simp [z0c, z0b, f126k, f127, f128, f129]) ?_
   refine z0k rfl rfl rfl rfl (by simp [z0c, z0b, f126k, f127, f128, f129]; rfl) ?_
   refine z0o rfl rfl rfl rfl (by simp [z0c, z0b, f126k, f127, f128, f129]) ?_
   refine z0o rfl rfl rfl rfl (by simp [z0c, z0b, f126k, f127, f128, f129]) ?_
   refine z0o rfl rfl rfl rfl (by simp [z0c, z0b, f126k, f127, f128, f129]) ?_
   refine z0o rfl rfl rfl rfl (by simp [z0c, z0b, f126k, f127, f128, f129]) ?_
   refine z0k rfl rfl rfl rfl (by simp [z0c, z0b, f126k, f127, f128, f129]; rfl) ?_
   refine z0k rfl rfl rfl rfl (by simp [z0c, z0b, f126k, f127, f128, f129]; rfl) ?_
   refine z0o rfl rfl rfl rfl (by simp [z0c, z0b, f126k, f127, f128, f129]) ?_
   refine z0k rfl rfl rfl rfl (by simp [z0c, z0b, f126k, f127, f128, f129]; rfl) ?_
   refine z0o rfl rfl rfl rfl (by simp [z0c, z0b, f126k, f127, f128, f129]) ?_
   refine z0o rfl rfl rfl rfl (by simp [z0c, z0b, f126k, f127, f128, f129]) ?_
   refine z0k rfl rfl rfl rfl (by simp [z0c, z0b, f126k, f127, f128, f129]; rfl) ?_
   refine z0o rfl rfl rfl rfl (by simp [z0c, z0b, f126k, f127, f128, f129]) ?_
   refine z0k rfl rfl rfl rfl (by simp [z0c, z0b, f126k, f127, f128, f129]; rfl) ?_
   refine z0o rfl rfl rfl rfl (by simp [z0c, z0b, f126k, f127, f128, f129]) ?_
   refine z0o rfl rfl rfl rfl (by simp [z0c, z0b, f126k, f127, f128, f129]) ?_
   refine z0o rfl rfl rfl rfl (by simp [z0c, z0b, f126k, f127, f128, f129]) ?_
   refine z0o rfl rfl rfl rfl (by simp [z0c, z0b, f126k, f127, f128, f129]) ?_
   refine z0k rfl rfl rfl rfl (by simp [z0c, z0b, f126k, f127, f128, f129]; rfl) ?_
   refine z0o rfl rfl rfl rfl (by simp [z0c, z0b, f126k, f127, f128, f129]) ?_
   refine z0o rfl rfl rfl rfl (by simp [z0c, z0b, f126k, f127, f128, f129]) ?_
   refine z0o rfl rfl rfl rfl (by simp [z0c, z0b, f126k, f127, f128, f129]) ?_
   refine z0o rfl rfl rfl rfl (by simp [z0c, z0b, f126k, f127, f128, f129]) ?_
   refine z0k rfl rfl rfl rfl (by simp [z0c, z0b, f126k, f127, f128, f129]; rfl) ?_
   refine z0k rfl rfl rfl rfl (by simp [z0c, z0b, f126k, f127, f128, f129]; rfl) ?_
   refine z0k rfl rfl rfl rfl (by simp [z0c, z0b, f126k, f127, f128, f129]; rfl) ?_
   refine z0o rfl rfl rfl rfl (by simp [z0c, z0b, f126k, f127, f128, f129]) ?_
   refine z0k rfl rfl rfl rfl (by simp [z0c, z0b, f126k, f127, f128, f129]; rfl) ?_
   refine z0o rfl rfl rfl rfl (by simp [z0c, z0b, f126k, f127, f128, f129]) ?_
   refine z0o rfl rfl rfl rfl (by simp [z0c, z0b, f126k, f127, f128, f129]) ?_
   refine z0o rfl rfl rfl rfl (by simp [z0c, z0b, f126k, f127, f128, f129]) ?_
   refine z0o rfl rfl rfl rfl (by simp [z0c, z0b, f126k, f127, f128, f129]) ?_
   refine z0k rfl rfl rfl rfl (by simp [z0c, z0b, f126k, f127, f128, f129]; rfl) ?_
   refine z0o rfl rfl rfl rfl (by simp [z0c, z0b, f126k, f127, f128, f129]) ?_
   refine z0k rfl rfl rfl rfl (by simp [z0c, z0b, f126k, f127, f128, f129]; rfl) ?_
   refine z0o rfl rfl rfl rfl (by simp [z0c, z0b, f126k, f127, f128, f129]) ?_
   refine z0k rfl rfl rfl rfl (by simp [z0c, z0b, f126k, f127, f128, f129]; rfl) ?_
   refine z0o rfl rfl rfl rfl (by simp [z0c, z0b, f126k, f127, f128, f129]) ?_
   refine z0k rfl rfl rfl rfl (by simp [z0c, z0b, f126k, f127, f128, f129]; rfl) ?_
   refine z0k rfl rfl rfl rfl (by simp [z0c, z0b, f126k, f127, f128, f129]; rfl) ?_
   refine z0k rfl rfl rfl rfl (by simp [z0c, z0b, f126k, f127, f128, f129]; rfl) ?_
   refine z0k rfl rfl rfl rfl (by simp [z0c, z0b, f126k, f127, f128, f129]; rfl) ?_
   refine zkR rfl ?_
   refine zfC rfl (by simp [f126k, f127, f128, f129]; rfl) ?_
   refine z0g (z0a (zr rfl rfl rfl (by simp; rfl) ?_))
   have ho := z0d h7
   refine z0f ho ?_
   simp [z2E]
  ·rw [if_neg c125] at h3
   refine z0n rfl (by simp [c125]) (z0V rfl (z0v ?_))
   obtain ⟨rr1, h4, ho1⟩ := z0j h3
   have hs1 := hr1 _ ho1
   subst hs1
   refine z0m ho1 (z0e rfl (z0a (zq rfl (zq rfl (zr rfl rfl rfl (by simp; rfl) ?_)))))
   refine z0a (zb rfl (z0C h4 (z2D a1 v90 v91 w96) rfl rfl (by simp [z2D]) fun s o2 h5 hr2 => ?_))
   obtain ⟨w125, w126, w127, w128⟩ := s
   simp only [z2F] at h5
   simp only [z2D]
   refine zq rfl (zq rfl (zr rfl rfl rfl (by simp; rfl) ?_))
   refine z0a ?_
   by_cases c196 : w125 < a1
   ·rw [if_pos c196] at h5
    refine z0u rfl (by simp [c196]) (z0i rfl (z0a (zq rfl (zb rfl (zq rfl (zr rfl rfl rfl (by simp; rfl) ?_))))))
    refine z0a (zq rfl (zq rfl (zr rfl rfl rfl (by simp; rfl) ?_)))
    refine z0a (zb rfl (z0C h5 (z2s a1 v90 v91 w96 w125 w126 w127 w128) rfl rfl (by simp [z2s]) fun s o3 h6 hr3 => ?_))
    obtain ⟨w154, w155⟩ := s
    simp only [z2u] at h6
    simp only [z2s]
    refine zq rfl (zq rfl (zr rfl rfl rfl (by simp; rfl) ?_))
    refine z0a ?_
    by_cases c200 : w154 < (IntKind.i64.wrap (1 + v90.1))
    ·rw [if_pos c200] at h6
     refine z0u rfl (by simp [c200]) (z0i rfl (z0a (zq rfl (zb rfl ?_))))
     obtain ⟨f201, h7⟩ := z7I h6
     refine zr rfl rfl rfl (by simp [f201]; rfl) ?_
     refine z0g (z0a (zr rfl rfl rfl (by simp; rfl) ?_))
     have ho := z0d h7
     refine z0f ho ?_
     simp [z2s]
    ·rw [if_neg c200] at h6
     refine z0n rfl (by simp [c200]) (z0V rfl (z0v ?_))
     obtain ⟨rr3, h7, ho3⟩ := z0j h6
     have hs3 := hr3 _ ho3
     subst hs3
     refine z0m ho3 (z0e rfl (z0a (zq rfl (zr rfl rfl rfl (by simp; rfl) ?_))))
     refine z0a (zb rfl (z0C h7 (z2r a1 v90 v91 w96 w125) rfl rfl (by simp [z2r]) fun s o4 h8 hr4 => ?_))
     obtain ⟨w162, w163, w164, w165, w166⟩ := s
     simp only [z2t] at h8
     simp only [z2r]
     refine zq rfl (zq rfl (zr rfl rfl rfl (by simp; rfl) ?_))
     refine z0a ?_
     by_cases c220 : w162 < (IntKind.i64.wrap (1 + v90.1))
     ·rw [if_pos c220] at h8
      refine z0u rfl (by simp [c220]) (z0i rfl (z0a (zq rfl (zb rfl (zq rfl ?_)))))
      obtain ⟨v173, f221, h9⟩ := z0h h8
      have f221k := z1D f221
      try simp at f221k
      refine zr rfl rfl rfl (by simp [f221k]; rfl) ?_
      refine z0a (zq rfl ?_)
      obtain ⟨v174, f222, h10⟩ := z0R h9
      obtain ⟨v175, f223, h11⟩ := z0R h10
      obtain ⟨v176, f224, h12⟩ := z0R h11
      refine z1s rfl rfl rfl rfl ?_; repeat' ((first | refine z0z rfl rfl fun Q' hQ => ?_ | refine z0q rfl fun Q' hQ => ?_); simp [f222, f223, f224]; refine hQ.out _ ?_; clear hQ; clear Q')
      refine z0a ?_
      obtain ⟨v177, f225, h13⟩ := z0h h12
      obtain ⟨f225a, f225b, f225c, -⟩ := z6X f225
      obtain ⟨f225d, f225g⟩ := zcM f225a f225b
      have f225e := zce (g := fun x : Int => (.sc (.int .i64 x) : T)) f225
      try simp at f225e
      have f225f := zcd f225
      try simp only [Int.reduceToNat, Int.toNat_natCast, Nat.sub_zero] at f225f
      obtain ⟨v178, f226, h14⟩ := z0h h13
      obtain ⟨f226a, f226b, f226c, -⟩ := z6X f226
      obtain ⟨f226d, f226g⟩ := zcM f226a f226b
      have f226e := zce (g := fun x : Int => (.sc (.int .i64 x) : T)) f226
      try simp at f226e
      have f226f := zcd f226
      try simp only [Int.reduceToNat, Int.toNat_natCast, Nat.sub_zero] at f226f
      obtain ⟨f227, h15⟩ := z7I h14
      obtain ⟨f228, h16⟩ := z7I h15
      refine z1s rfl rfl rfl rfl ?_; repeat' ((first | refine z0z rfl rfl fun Q' hQ => ?_ | refine z0q rfl fun Q' hQ => ?_); simp [f222, f225a, f225b, f225c, f225d, f225g, f225e, f225f, f226a, f226b, f226c, f226d, f226g, f226e, f226f, f227, f228]; refine hQ.out _ ?_; clear hQ; clear Q')
      refine z0g (z0a (zr rfl rfl rfl (by simp [f222]; rfl) ?_))
      have ho := z0d h16
      refine z0f ho ?_
      simp [z2r]
     ·rw [if_neg c220] at h8
      refine z0n rfl (by simp [c220]) (z0V rfl (z0v ?_))
      obtain ⟨rr4, h9, ho4⟩ := z0j h8
      have hs4 := hr4 _ ho4
      subst hs4
      refine z0m ho4 (z0e rfl (z0g (z0a (zr rfl rfl rfl (by simp; rfl) ?_))))
      have ho := z0d h9
      refine z0f ho ?_
      simp [z2D]
   ·rw [if_neg c196] at h5
    refine z0n rfl (by simp [c196]) (z0V rfl (z0v ?_))
    obtain ⟨rr2, h6, ho2⟩ := z0j h5
    have hs2 := hr2 _ ho2
    subst hs2
    refine z0m ho2 (z0e rfl (z0a (zq rfl (zr rfl rfl rfl (by simp; rfl) ?_))))
    refine z0a (z1t rfl ?_)
    cases h6
    simp
def zaV (a0 : Int) (a1 : Int) (w31 : Int) : Int × List ByteArray → Option ((Int × List ByteArray) ⊕ ((Int × List ByteArray) ⊕ List ByteArray))
  | (w43, w44) =>
  if w43 < a0 then
    (atI w44 w31).bind fun v47 =>
    if (v47.size : Int) < a1 then
      chk (z9S v47 ⟨#[UInt8.ofNat (IntKind.u8.wrap (IntKind.i64.wrap (97 + w43))).toNat]⟩) <|
      chk (z2Z 16 (w44.length + 1)) <|
      z0B (IntKind.i64.wrap (w43 + 1), w44 ++ [v47 ++ ⟨#[UInt8.ofNat (IntKind.u8.wrap (IntKind.i64.wrap (97 + w43))).toNat]⟩])
    else
      z1l <|
      z0B (IntKind.i64.wrap (w31 + 1), w44)
  else
    z1l <|
    z0B (IntKind.i64.wrap (w31 + 1), w44)
def z6C (a0 : Int) (a1 : Int) (w31 : Int) : Int × List ByteArray → Fr
  | (w43, w44) => ⟨43, [(0, .one (.t none (.sc (.int .i64 a0)))), (1, .one (.t none (.sc (.int .i64 a1)))), (5, .one (.h 5 [])), (6, .one (.t none (.sc (.int .i64 w31)))), (7, .one (.t none (.sc (.int .i64 w43))))], [(5, .os 1 w44.length (w44.map fun x0 => .sc (.string x0)))]⟩
def zaW (a0 : Int) (a1 : Int) : Int × List ByteArray → Option ((Int × List ByteArray) ⊕ List ByteArray)
  | (w31, w32) =>
  if w31 < (w32.length : Int) then
    z0W (zaV a0 a1 w31) LFm (0, w32)
  else
    z1l <|
    some w32
def z5d (a0 : Int) (a1 : Int) : Int × List ByteArray → Fr
  | (w31, w32) => ⟨43, [(0, .one (.t none (.sc (.int .i64 a0)))), (1, .one (.t none (.sc (.int .i64 a1)))), (5, .one (.h 5 [])), (6, .one (.t none (.sc (.int .i64 w31))))], [(5, .os 1 w32.length (w32.map fun x0 => .sc (.string x0)))]⟩
def z9G (a0 : Int) (a1 : Int) : Option (List ByteArray) :=
  z0W (zaW a0 a1) LFm (0, [ByteArray.empty])
theorem zgj {a0 : Int} {a1 : Int} {r : List ByteArray} (h0 : z9G a0 a1 = some r) : L 61 [.sc (.int .i64 a0), .sc (.int .i64 a1)] = some (.os 1 r.length (r.map fun x0 => .sc (.string x0)), [.dead, .dead]) := by
  simp only [z9G] at h0
  refine z2S zuF zw0 (z1w zxG ⟨of_decide_eq_true rfl, of_decide_eq_true rfl⟩ ?_)
  simp only [z1E, z1A, z1y, z1G, z3i]
  refine zq rfl (zr rfl rfl rfl (by simp; rfl) ?_)
  refine z0a (zq rfl (zr rfl rfl rfl (by simp; rfl) ?_))
  refine z0a (zq rfl (zq rfl (zr rfl rfl rfl (by simp; rfl) ?_)))
  refine z0a (zb rfl (z0C h0 (z5d a0 a1) rfl rfl (by simp [z5d]) fun s o1 h1 hr1 => ?_))
  obtain ⟨w31, w32⟩ := s
  simp only [zaW] at h1
  simp only [z5d]
  refine zq rfl (zq rfl (zr rfl rfl rfl (by simp; rfl) ?_))
  refine z0a ?_
  by_cases c77 : w31 < (w32.length : Int)
  ·rw [if_pos c77] at h1
   refine z0u rfl (by simp [c77]) (z0i rfl (z0a (zq rfl (zb rfl (zq rfl (zr rfl rfl rfl (by simp; rfl) ?_))))))
   refine z0a (zb rfl (z0C h1 (z6C a0 a1 w31) rfl rfl (by simp [z6C]) fun s o2 h2 hr2 => ?_))
   obtain ⟨w43, w44⟩ := s
   simp only [zaV] at h2
   simp only [z6C]
   refine zq rfl (zq rfl ?_)
   by_cases c88 : w43 < a0
   ·rw [if_pos c88] at h2
    obtain ⟨v47, f89, h3⟩ := z0R h2
    refine zr rfl rfl rfl (by simp [c88, f89]; rfl) ?_
    refine z0a ?_
    by_cases c90 : (v47.size : Int) < a1
    ·rw [if_pos c90] at h3
     refine z0u rfl (by simp [c90]) (z0i rfl (z0a (zq rfl (zb rfl ?_))))
     obtain ⟨f91, h4⟩ := z1H h3
     obtain ⟨f92, h5⟩ := z7I h4
     refine z1s rfl rfl rfl rfl ?_; repeat' ((first | refine z0z rfl rfl fun Q' hQ => ?_ | refine z0q rfl fun Q' hQ => ?_); simp [f89, f91, f92]; refine hQ.out _ ?_; clear hQ; clear Q')
     refine z0g (z0a (zr rfl rfl rfl (by simp; rfl) ?_))
     have ho := z0d h5
     refine z0f ho ?_
     simp [z6C]
    ·rw [if_neg c90] at h3
     refine z0n rfl (by simp [c90]) (z0V rfl (z0v ?_))
     obtain ⟨rr2, h4, ho2⟩ := z0j h3
     have hs2 := hr2 _ ho2
     subst hs2
     refine z0m ho2 (z0e rfl (z0g (z0a (zr rfl rfl rfl (by simp; rfl) ?_))))
     have ho := z0d h4
     refine z0f ho ?_
     simp [z5d]
   ·rw [if_neg c88] at h2
    refine zr rfl rfl rfl (by simp [c88]; rfl) ?_
    refine z0a (z0n rfl (by simp) (z0V rfl (z0v ?_)))
    obtain ⟨rr2, h3, ho2⟩ := z0j h2
    have hs2 := hr2 _ ho2
    subst hs2
    refine z0m ho2 (z0e rfl (z0g (z0a (zr rfl rfl rfl (by simp; rfl) ?_))))
    have ho := z0d h3
    refine z0f ho ?_
    simp [z5d]
  ·rw [if_neg c77] at h1
   refine z0n rfl (by simp [c77]) (z0V rfl (z0v ?_))
   obtain ⟨rr1, h2, ho1⟩ := z0j h1
   have hs1 := hr1 _ ho1
   subst hs1
   refine z0m ho1 (z0e rfl (z0a (zq rfl (zr rfl rfl rfl (by simp; rfl) ?_))))
   refine z0a (z1t rfl ?_)
   cases h2
   simp
def z5m (v201 : List ByteArray) (w385 : ByteArray) : Int × Int → Option ((Int × Int) ⊕ ((ByteArray × Int) ⊕ ((Int × List Int) ⊕ ((Int × List Int × Int × List Bool × List (List Int)) ⊕ (DFA × Tape)))))
  | (w394, w395) =>
  if w395 < (v201.length : Int) then
    (atI v201 w395).bind fun v397 =>
    if v397 = w385 then
      z0B (w395, IntKind.i64.wrap (w395 + 1))
    else
      z0B (w394, IntKind.i64.wrap (w395 + 1))
  else
    z1l <|
    (znK w385 1 (w385.size : Int)).bind fun v398 =>
    z0B (v398, w394)
def z2y (a1 : Int) (v201 : List ByteArray) (w266 : Int) (w269 : List Bool) (w270 : List (List Int)) (v335 : ByteArray) (v336 : Int × Tape) (w357 : Int) (w358 : List Int) (w385 : ByteArray) : Int × Int → Fr
  | (w394, w395) => ⟨76, [(0, .one (.a 0 [] (0))), (1, .one (.t none (.sc (.int .i64 a1)))), (4, .one (.a 4 [] (0))), (5, .one (.a 5 [] (0))), (6, .one (.h 6 [])), (8, .one (.t none (.sc (.string v335)))), (9, .one (.h 9 [])), (10, .one (.t none (.sc (.int .i64 w357)))), (11, .one (.t none (.sc (.string w385)))), (12, .one (.t none (.sc (.int .i64 w394)))), (22, .one (.h 6 [])), (23, .one (.t none (.sc (.int .i64 (v201.length : Int))))), (24, .one (.t none (.sc (.int .i64 w266)))), (50, .one (.h 6 [])), (51, .one (.t none (.sc (.int .i64 (v201.length : Int))))), (52, .one (.t none (.sc (.int .i64 w395)))), (1076, .one (.a 0 [] (0)))], [(0, .vr [.sl v336.2.l.length (v336.2.l.map fun x0 => .sc (.int .i64 x0)), .sc (.int .i64 v336.2.at_)]), (4, .vr [.sc (.int .i64 0), .sc (.int .i64 0), .os 1 0 [], .os 1 0 []]), (5, .vr [.sc (.int .i64 a1), .sc (.int .i64 0), .os 1 (w269 ++ [decide (v336.1 = 1)]).length ((w269 ++ [decide (v336.1 = 1)]).map fun x0 => .sc (.bool x0)), .os 1 w270.length (w270.map fun x0 => .os 1 x0.length (x0.map fun x1 => .sc (.int .i64 x1)))]), (6, .os 1 v201.length (v201.map fun x0 => .sc (.string x0))), (9, .os 1 w358.length (w358.map fun x0 => .sc (.int .i64 x0)))]⟩
def z3h (v201 : List ByteArray) (w357 : Int) (w358 : List Int) : ByteArray × Int → Option ((ByteArray × Int) ⊕ ((Int × List Int) ⊕ ((Int × List Int × Int × List Bool × List (List Int)) ⊕ (DFA × Tape))))
  | (w385, w386) =>
  if w386 = (-1) then
    z0W (z5m v201 w385) LFm (w386, 0)
  else
    z1l <|
    chk (z2Z 8 (w358.length + 1)) <|
    z0B (IntKind.i64.wrap (w357 + 1), w358 ++ [w386])
def z3g (a1 : Int) (v201 : List ByteArray) (w266 : Int) (w269 : List Bool) (w270 : List (List Int)) (v335 : ByteArray) (v336 : Int × Tape) (w357 : Int) (w358 : List Int) : ByteArray × Int → Fr
  | (w385, w386) => ⟨76, [(0, .one (.a 0 [] (0))), (1, .one (.t none (.sc (.int .i64 a1)))), (4, .one (.a 4 [] (0))), (5, .one (.a 5 [] (0))), (6, .one (.h 6 [])), (8, .one (.t none (.sc (.string v335)))), (9, .one (.h 9 [])), (10, .one (.t none (.sc (.int .i64 w357)))), (11, .one (.t none (.sc (.string w385)))), (12, .one (.t none (.sc (.int .i64 w386)))), (22, .one (.h 6 [])), (23, .one (.t none (.sc (.int .i64 (v201.length : Int))))), (24, .one (.t none (.sc (.int .i64 w266)))), (1076, .one (.a 0 [] (0)))], [(0, .vr [.sl v336.2.l.length (v336.2.l.map fun x0 => .sc (.int .i64 x0)), .sc (.int .i64 v336.2.at_)]), (4, .vr [.sc (.int .i64 0), .sc (.int .i64 0), .os 1 0 [], .os 1 0 []]), (5, .vr [.sc (.int .i64 a1), .sc (.int .i64 0), .os 1 (w269 ++ [decide (v336.1 = 1)]).length ((w269 ++ [decide (v336.1 = 1)]).map fun x0 => .sc (.bool x0)), .os 1 w270.length (w270.map fun x0 => .os 1 x0.length (x0.map fun x1 => .sc (.int .i64 x1)))]), (6, .os 1 v201.length (v201.map fun x0 => .sc (.string x0))), (9, .os 1 w358.length (w358.map fun x0 => .sc (.int .i64 x0)))]⟩
def z2M (a1 : Int) (v201 : List ByteArray) (w266 : Int) (w269 : List Bool) (w270 : List (List Int)) (v335 : ByteArray) (v336 : Int × Tape) : Int × List Int → Option ((Int × List Int) ⊕ ((Int × List Int × Int × List Bool × List (List Int)) ⊕ (DFA × Tape)))
  | (w357, w358) =>
  if w357 < a1 then
    chk (z9S v335 ⟨#[UInt8.ofNat (IntKind.u8.wrap (IntKind.i64.wrap (97 + w357))).toNat]⟩) <|
    z0W (z3h v201 w357 w358) LFm (v335 ++ ⟨#[UInt8.ofNat (IntKind.u8.wrap (IntKind.i64.wrap (97 + w357))).toNat]⟩, (-1))
  else
    z1l <|
    chk (z2Z 24 (w270.length + 1)) <|
    z0B (IntKind.i64.wrap (w266 + 1), v336.2.l, v336.2.at_, w269 ++ [decide (v336.1 = 1)], w270 ++ [w358])
def z3o (a1 : Int) (v201 : List ByteArray) (w266 : Int) (w269 : List Bool) (w270 : List (List Int)) (v335 : ByteArray) (v336 : Int × Tape) : Int × List Int → Fr
  | (w357, w358) => ⟨76, [(0, .one (.a 0 [] (0))), (1, .one (.t none (.sc (.int .i64 a1)))), (4, .one (.a 4 [] (0))), (5, .one (.a 5 [] (0))), (6, .one (.h 6 [])), (8, .one (.t none (.sc (.string v335)))), (9, .one (.h 9 [])), (10, .one (.t none (.sc (.int .i64 w357)))), (22, .one (.h 6 [])), (23, .one (.t none (.sc (.int .i64 (v201.length : Int))))), (24, .one (.t none (.sc (.int .i64 w266)))), (1076, .one (.a 0 [] (0)))], [(0, .vr [.sl v336.2.l.length (v336.2.l.map fun x0 => .sc (.int .i64 x0)), .sc (.int .i64 v336.2.at_)]), (4, .vr [.sc (.int .i64 0), .sc (.int .i64 0), .os 1 0 [], .os 1 0 []]), (5, .vr [.sc (.int .i64 a1), .sc (.int .i64 0), .os 1 (w269 ++ [decide (v336.1 = 1)]).length ((w269 ++ [decide (v336.1 = 1)]).map fun x0 => .sc (.bool x0)), .os 1 w270.length (w270.map fun x0 => .os 1 x0.length (x0.map fun x1 => .sc (.int .i64 x1)))]), (6, .os 1 v201.length (v201.map fun x0 => .sc (.string x0))), (9, .os 1 w358.length (w358.map fun x0 => .sc (.int .i64 x0)))]⟩
def z3q (a1 : Int) (v201 : List ByteArray) : Int × List Int × Int × List Bool × List (List Int) → Option ((Int × List Int × Int × List Bool × List (List Int)) ⊕ (DFA × Tape))
  | (w266, w267, w268, w269, w270) =>
  if w266 < (v201.length : Int) then
    (atI v201 w266).bind fun v335 =>
    (z1B (⟨w267, w268⟩ : Tape) 2).bind fun v336 =>
    chk (z2Z 1 (w269.length + 1)) <|
    z0W (z2M a1 v201 w266 w269 w270 v335 v336) LFm (0, [])
  else
    z1l <|
    some ((⟨a1, 0, w269, w270⟩ : DFA), (⟨w267, w268⟩ : Tape))
def z3p (a1 : Int) (v201 : List ByteArray) : Int × List Int × Int × List Bool × List (List Int) → Fr
  | (w266, w267, w268, w269, w270) => ⟨76, [(0, .one (.a 0 [] (0))), (1, .one (.t none (.sc (.int .i64 a1)))), (4, .one (.a 4 [] (0))), (5, .one (.a 5 [] (0))), (6, .one (.h 6 [])), (22, .one (.h 6 [])), (23, .one (.t none (.sc (.int .i64 (v201.length : Int))))), (24, .one (.t none (.sc (.int .i64 w266)))), (1076, .one (.a 0 [] (0)))], [(0, .vr [.sl w267.length (w267.map fun x0 => .sc (.int .i64 x0)), .sc (.int .i64 w268)]), (4, .vr [.sc (.int .i64 0), .sc (.int .i64 0), .os 1 0 [], .os 1 0 []]), (5, .vr [.sc (.int .i64 a1), .sc (.int .i64 0), .os 1 w269.length (w269.map fun x0 => .sc (.bool x0)), .os 1 w270.length (w270.map fun x0 => .os 1 x0.length (x0.map fun x1 => .sc (.int .i64 x1)))]), (6, .os 1 v201.length (v201.map fun x0 => .sc (.string x0)))]⟩
def z3r (a0 : Tape) (a1 : Int) : Option (DFA × Tape) :=
  (z1B a0 2).bind fun v200 =>
  (z9G a1 (IntKind.i64.wrap (1 + v200.1))).bind fun v201 =>
  z0W (z3q a1 v201) LFm (0, v200.2.l, v200.2.at_, [], [])
theorem z8R {a0 : Tape} {a1 : Int} {r : DFA × Tape} (h0 : z3r a0 a1 = some r) : L 33 [.vr [.sl a0.l.length (a0.l.map fun x0 => .sc (.int .i64 x0)), .sc (.int .i64 a0.at_)], .sc (.int .i64 a1)] = some (.agg [.sc (.int .i64 r.1.letters), .sc (.int .i64 r.1.start), .os 1 r.1.final.length (r.1.final.map fun x0 => .sc (.bool x0)), .os 1 r.1.next.length (r.1.next.map fun x0 => .os 1 x0.length (x0.map fun x1 => .sc (.int .i64 x1)))], [.vr [.sl r.2.l.length (r.2.l.map fun x0 => .sc (.int .i64 x0)), .sc (.int .i64 r.2.at_)], .dead]) := by
  simp only [z3r] at h0
  refine z2S zuZ zwk (z1w zy0 ⟨of_decide_eq_true rfl, of_decide_eq_true rfl⟩ ?_)
  simp only [z1E, z1A, z1y, z1G, z3i]
  refine zq rfl (zr rfl rfl rfl (by simp; rfl) ?_)
  refine z0a (zq rfl (zr rfl rfl rfl (by simp; rfl) ?_))
  refine z0a (zq rfl ?_)
  obtain ⟨v200, f337, h1⟩ := z0h h0
  have f337k := z1D f337
  try simp at f337k
  obtain ⟨v201, f338, h2⟩ := z0h h1
  have f338k := zgj f338
  try simp at f338k
  refine zr rfl rfl rfl (by simp [f337k, f338k]; rfl) ?_
  refine z0a (zq rfl (zq rfl (zr rfl rfl rfl (by simp; rfl) ?_)))
  refine z0a (zb rfl (z0C h2 (z3p a1 v201) rfl rfl (by simp [z3p]) fun s o1 h3 hr1 => ?_))
  obtain ⟨w266, w267, w268, w269, w270⟩ := s
  simp only [z3q] at h3
  simp only [z3p]
  refine zq rfl (zr rfl rfl rfl (by simp; rfl) ?_)
  refine z0a (zq rfl ?_)
  by_cases c561 : w266 < (v201.length : Int)
  ·rw [if_pos c561] at h3
   refine z0u rfl (by simp [c561]) (z0i rfl (z0a (zq rfl (zb rfl (zq rfl ?_)))))
   obtain ⟨v335, f562, h4⟩ := z0R h3
   refine zr rfl rfl rfl (by simp [f562]; rfl) ?_
   refine z0a (zq rfl ?_)
   obtain ⟨v336, f563, h5⟩ := z0h h4
   have f563k := z1D f563
   try simp at f563k
   obtain ⟨f564, h6⟩ := zr8 h5
   refine z1s rfl rfl rfl rfl ?_; repeat' ((first | refine z0z rfl rfl fun Q' hQ => ?_ | refine z0q rfl fun Q' hQ => ?_); simp [f563k, f564]; refine hQ.out _ ?_; clear hQ; clear Q')
   refine z0a (zq rfl (zr rfl rfl rfl (by simp; rfl) ?_))
   refine z0a (zq rfl (zq rfl (zr rfl rfl rfl (by simp; rfl) ?_)))
   refine z0a (zb rfl (z0C h6 (z3o a1 v201 w266 w269 w270 v335 v336) rfl rfl (by simp [z3o]) fun s o2 h7 hr2 => ?_))
   obtain ⟨w357, w358⟩ := s
   simp only [z2M] at h7
   simp only [z3o]
   refine zq rfl (zq rfl (zr rfl rfl rfl (by simp; rfl) ?_))
   refine z0a ?_
   by_cases c636 : w357 < a1
   ·rw [if_pos c636] at h7
    refine z0u rfl (by simp [c636]) (z0i rfl (z0a (zq rfl (zb rfl (zq rfl ?_)))))
    obtain ⟨f637, h8⟩ := z1H h7
    refine zr rfl rfl rfl (by simp [f637]; rfl) ?_
    refine z0a (zq rfl (zr rfl rfl rfl (by simp; rfl) ?_))
    refine z0a (zq rfl (zb rfl (z0C h8 (z3g a1 v201 w266 w269 w270 v335 v336 w357 w358) rfl rfl (by simp [z3g]) fun s o3 h9 hr3 => ?_)))
    obtain ⟨w385, w386⟩ := s
    simp only [z3h] at h9
    simp only [z3g]
    refine zq rfl (zq rfl (zr rfl rfl rfl (by simp; rfl) ?_))
    refine z0a ?_
    by_cases c660 : w386 = (-1)
    ·rw [if_pos c660] at h9
     have c660e := eq_true c660
     refine z0u rfl (by simp [c660e]) (z0i rfl (z0a (zb rfl (zq rfl (zq rfl (zr rfl rfl rfl (by simp; rfl) ?_))))))
     refine z0a (zb rfl (z0C h9 (z2y a1 v201 w266 w269 w270 v335 v336 w357 w358 w385) rfl rfl (by simp [z2y]) fun s o4 h10 hr4 => ?_))
     obtain ⟨w394, w395⟩ := s
     simp only [z5m] at h10
     simp only [z2y]
     refine zq rfl (zr rfl rfl rfl (by simp; rfl) ?_)
     refine z0a (zq rfl ?_)
     by_cases c667 : w395 < (v201.length : Int)
     ·rw [if_pos c667] at h10
      refine z0u rfl (by simp [c667]) (z0i rfl (z0a (zq rfl (zb rfl (zq rfl ?_)))))
      obtain ⟨v397, f668, h11⟩ := z0R h10
      refine zr rfl rfl rfl (by simp [f668]; rfl) ?_
      refine z0a (zq rfl (zr rfl rfl rfl (by simp; rfl) ?_))
      refine z0a ?_
      by_cases c669 : v397 = w385
      ·rw [if_pos c669] at h11
       have c669e := eq_true c669
       refine z0u rfl (by simp [c669e]) (zr rfl rfl rfl (by simp; rfl) ?_)
       refine z0g (z0a (zr rfl rfl rfl (by simp; rfl) ?_))
       have ho := z0d h11
       refine z0f ho ?_
       simp [z2y]
      ·rw [if_neg c669] at h11
       have c669e := eq_false c669
       refine z0n rfl (by simp [c669e]) (z0i rfl (z0g (z0a (zr rfl rfl rfl (by simp; rfl) ?_))))
       have ho := z0d h11
       refine z0f ho ?_
       simp [z2y]
     ·rw [if_neg c667] at h10
      refine z0n rfl (by simp [c667]) (z0V rfl (z0v ?_))
      obtain ⟨rr4, h11, ho4⟩ := z0j h10
      have hs4 := hr4 _ ho4
      subst hs4
      refine z0m ho4 (z0e rfl (z0a ?_))
      obtain ⟨v398, f670, h12⟩ := z0h h11
      obtain ⟨f670a, f670b, f670c, f670d⟩ := zji f670
      obtain ⟨f670e, f670f⟩ := zcM f670a f670b
      have f670d := f670d.symm
      try simp only [Int.reduceToNat, Int.toNat_natCast] at f670d
      refine zr rfl rfl rfl (by simp [f670a, f670b, f670c, f670d, f670e, f670f]; rfl) ?_
      refine z0g ?_
      have ho := z0d h12
      refine z0f ho ?_
      simp [z3g]
    ·rw [if_neg c660] at h9
     have c660e := eq_false c660
     refine z0n rfl (by simp [c660e]) (z0V rfl (z0v ?_))
     obtain ⟨rr3, h10, ho3⟩ := z0j h9
     have hs3 := hr3 _ ho3
     subst hs3
     refine z0m ho3 (z0e rfl (z0a ?_))
     obtain ⟨f671, h11⟩ := z7I h10
     refine zr rfl rfl rfl (by simp [f671]; rfl) ?_
     refine z0g (z0a (zr rfl rfl rfl (by simp; rfl) ?_))
     have ho := z0d h11
     refine z0f ho ?_
     simp [z3o]
   ·rw [if_neg c636] at h7
    refine z0n rfl (by simp [c636]) (z0V rfl (z0v ?_))
    obtain ⟨rr2, h8, ho2⟩ := z0j h7
    have hs2 := hr2 _ ho2
    subst hs2
    refine z0m ho2 (z0e rfl (z0a ?_))
    obtain ⟨f672, h9⟩ := z7I h8
    refine zr rfl rfl rfl (by simp [f672]; rfl) ?_
    refine z0g (z0a (zr rfl rfl rfl (by simp; rfl) ?_))
    have ho := z0d h9
    refine z0f ho ?_
    simp [z3p]
  ·rw [if_neg c561] at h3
   refine z0n rfl (by simp [c561]) (z0V rfl (z0v ?_))
   obtain ⟨rr1, h4, ho1⟩ := z0j h3
   have hs1 := hr1 _ ho1
   subst hs1
   refine z0m ho1 (z0e rfl (z0a (zq rfl (zr rfl rfl rfl (by simp; rfl) ?_))))
   refine z0a (z1t rfl ?_)
   cases h4
   simp
def z4v (a0 : Tape) (a1 : Int) (a2 : Int) : Option (DFA × Tape) :=
  (z1B a0 6).bind fun v6 =>
  if v6.1 = 1 then
    (z3J v6.2 a1 a2).bind fun v7 =>
    some (v7.1, v7.2)
  else
    if v6.1 = 2 then
      (z2x v6.2 a1 (if 4 < a2 then 4 else a2)).bind fun v8 =>
      some (v8.1, v8.2)
    else
      if v6.1 = 3 then
        (z3r v6.2 a1).bind fun v9 =>
        some (v9.1, v9.2)
      else
        (z4u v6.2 a1 a2).bind fun v10 =>
        some (v10.1, v10.2)
theorem zcE {a0 : Tape} {a1 : Int} {a2 : Int} {r : DFA × Tape} (h0 : z4v a0 a1 a2 = some r) : L 12 [.vr [.sl a0.l.length (a0.l.map fun x0 => .sc (.int .i64 x0)), .sc (.int .i64 a0.at_)], .sc (.int .i64 a1), .sc (.int .i64 a2)] = some (.agg [.sc (.int .i64 r.1.letters), .sc (.int .i64 r.1.start), .os 1 r.1.final.length (r.1.final.map fun x0 => .sc (.bool x0)), .os 1 r.1.next.length (r.1.next.map fun x0 => .os 1 x0.length (x0.map fun x1 => .sc (.int .i64 x1)))], [.vr [.sl r.2.l.length (r.2.l.map fun x0 => .sc (.int .i64 x0)), .sc (.int .i64 r.2.at_)], .dead, .dead]) := by
  simp only [z4v] at h0
  refine z2S zva zws (z1w zy8 ⟨of_decide_eq_true rfl, of_decide_eq_true rfl⟩ ?_)
  simp only [z1E, z1A, z1y, z1G, z3i]
  refine zq rfl (zr rfl rfl rfl (by simp; rfl) ?_)
  refine z0a (zq rfl (zq rfl ?_))
  obtain ⟨v6, f9, h1⟩ := z0h h0
  have f9k := z1D f9
  try simp at f9k
  refine zr rfl rfl rfl (by simp [f9k]; rfl) ?_
  refine z0a (zb rfl (zq rfl (zr rfl rfl rfl (by simp; rfl) ?_)))
  refine z0a ?_
  by_cases c10 : v6.1 = 1
  ·rw [if_pos c10] at h1
   have c10e := eq_true c10
   refine z0u rfl (by simp [c10e]) (zq rfl ?_)
   obtain ⟨v7, f11, h2⟩ := z0h h1
   have f11k := z9N f11
   try simp at f11k
   refine zr rfl rfl rfl (by simp [f11k]; rfl) ?_
   refine z0a (z1t rfl (z1M (z1b ?_)))
   cases h2
   simp
  ·rw [if_neg c10] at h1
   have c10e := eq_false c10
   refine z0n rfl (by simp [c10e]) (zq rfl (zr rfl rfl rfl (by simp; rfl) ?_))
   refine z0a ?_
   by_cases c12 : v6.1 = 2
   ·rw [if_pos c12] at h1
    have c12e := eq_true c12
    refine z0u rfl (by simp [c12e]) (zq rfl ?_)
    obtain ⟨v8, f13, h2⟩ := z0h h1
    have f13k := z7C f13
    try simp at f13k
    refine zr rfl rfl rfl (by simp [f13k]; rfl) ?_
    refine z0a (z1t rfl (z1M (z1b ?_)))
    cases h2
    simp
   ·rw [if_neg c12] at h1
    have c12e := eq_false c12
    refine z0n rfl (by simp [c12e]) (zq rfl (zr rfl rfl rfl (by simp; rfl) ?_))
    refine z0a ?_
    by_cases c14 : v6.1 = 3
    ·rw [if_pos c14] at h1
     have c14e := eq_true c14
     refine z0u rfl (by simp [c14e]) (zq rfl ?_)
     obtain ⟨v9, f15, h2⟩ := z0h h1
     have f15k := z8R f15
     try simp at f15k
     refine zr rfl rfl rfl (by simp [f15k]; rfl) ?_
     refine z0a (z1t rfl (z1M (z1b ?_)))
     cases h2
     simp
    ·rw [if_neg c14] at h1
     have c14e := eq_false c14
     refine z0n rfl (by simp [c14e]) (z0i rfl (z0g (z0a (zq rfl ?_))))
     obtain ⟨v10, f16, h2⟩ := z0h h1
     have f16k := z8w f16
     try simp at f16k
     refine zr rfl rfl rfl (by simp [f16k]; rfl) ?_
     refine z0a (z1t rfl ?_)
     cases h2
     simp
end
end Go.Proofs.Ytbnnipkanechoaa
end
section
namespace Go.Proofs.Ytbnnipkanechoaa
open Go
structure TapeOk (t : Tape) : Prop where
  a0 : 0 ≤ t.at_
  a1 : t.at_ ≤ t.l.length
  a2 : t.l.length ≤ 80
theorem zjs (x n : Int) (h1 : 1 ≤ n) (h2 : n < 4611686018427387904) : ∃ v, zaY x n = some v ∧ 0 ≤ v ∧ v < n := by
  have hx : x.tmod n < n := Int.tmod_lt_of_pos _ (by omega)
  have hy : -n < x.tmod n := Int.lt_tmod_of_pos x (by omega)
  unfold zaY
  rw [if_neg (by omega), z0Y _ (by omega)]
  split
  · rw [z2q (by omega) (by omega)]; exact ⟨_, rfl, by omega, by omega⟩
  · exact ⟨_, rfl, by omega, by omega⟩
theorem z6j {t : Tape} (ht : TapeOk t) (n : Int) (h1 : 1 ≤ n) (h2 : n < 4611686018427387904) : ∃ v t', z1B t n = some (v, t') ∧ 0 ≤ v ∧ v < n ∧ TapeOk t' := by
  obtain ⟨a0, a1, a2⟩ := ht
  unfold z1B
  split
  · exact ⟨_, _, rfl, by omega, by omega, a0, a1, a2⟩
  · rename_i hlt
    rw [z2q (x := t.at_ + 1) (by omega) (by omega), z2q (by omega) (by omega)]
    obtain ⟨k, hk⟩ := Int.eq_ofNat_of_zero_le a0
    have e : t.at_ + 1 - 1 = (k : Int) := by omega
    rw [e, z2p (by omega)]
    obtain ⟨v, hv, h3, h4⟩ := zjs t.l[k] n h1 h2
    simp only [Option.bind_some, hv]
    exact ⟨_, _, rfl, h3, h4, by simp only; omega, by simp only; omega, a2⟩
theorem zrT (l : List Int) : ∃ t, zaX l = some t ∧ TapeOk t := by
  unfold zaX
  split
  · rename_i h
    have := zhV (xs := l) (k := 80) (by omega)
    simp only [Int.cast_ofNat_Int] at this
    rw [this]
    exact ⟨_, rfl, by simp, by simp, by simp only [List.length_take]; omega⟩
  · exact ⟨_, rfl, by simp, by simp, by simp; omega⟩
end Go.Proofs.Ytbnnipkanechoaa
end
section
namespace Go.Proofs.Ytbnnipkanechoaa
open Go
def z8d (m n : Nat) (r : List Int) : Prop := r.length = m ∧ ∀ x ∈ r, 0 ≤ x ∧ x < n
structure DfaOk (d : DFA) (m n : Nat) : Prop where
  lt : d.letters = m
  m1 : 1 ≤ m
  m6 : m ≤ 6
  n1 : 1 ≤ n
  fin : d.final.length = n
  nl : d.next.length = n
  s0 : 0 ≤ d.start
  s1 : d.start < n
  row : ∀ r ∈ d.next, z8d m n r
theorem zgk {σ τ ρ : Type} {b : σ → Option (σ ⊕ (τ ⊕ ρ))} (I : σ → Prop) (m : σ → Nat) (Post : τ → Prop) {s : σ} (hI : I s) (hm : m s < LFm)
    (step : ∀ s, I s → (∃ s', b s = some (.inl s') ∧ I s' ∧ m s' < m s) ∨ (∃ r, b s = some (.inr (.inl r)) ∧ Post r)) : ∃ r, z0W b LFm s = some (.inl r) ∧ Post r := by
  obtain ⟨r, h1, r', h2, h3⟩ := z2a I m (fun r => ∃ t, r = .inl t ∧ Post t) (fun s hs => (step s hs).imp id fun ⟨r, h, hp⟩ => ⟨_, h, r, rfl, hp⟩) LFm s hI hm
  exact ⟨r', by rw [h1, h2], h3⟩
theorem zaT {α : Type} {l : List α} {x y : α} : y ∈ l ++ [x] ↔ y ∈ l ∨ y = x := by simp
theorem zqk {t : Tape} (ht : TapeOk t) (m most : Nat) (hm : 1 ≤ m ∧ m ≤ 6) (hk : 1 ≤ most ∧ most ≤ 1000) : ∃ d t' n, z4u t m most = some (d, t') ∧ DfaOk d m n ∧ n ≤ most ∧ TapeOk t' := by
  unfold z4u
  obtain ⟨v, t1, e1, v0, v1, ht1⟩ := z6j ht (most : Int) (by omega) (by omega)
  simp only [e1, Option.bind_some]
  obtain ⟨k, rfl⟩ := Int.eq_ofNat_of_zero_le v0
  have hw : IntKind.i64.wrap (1 + (k : Int)) = ((k + 1 : Nat) : Int) := by rw [z2q (by omega) (by omega)]; omega
  rw [hw]
  obtain ⟨s, t2, e2, s0, s1, ht2⟩ := z6j ht1 ((k + 1 : Nat) : Int) (by omega) (by omega)
  simp only [e2, Option.bind_some]
  refine Exists.elim (z2a (b := z4P m ((k : Int), t1) (s, t2)) (fun z => 0 ≤ z.1 ∧ z.1 ≤ (k + 1 : Nat) ∧ TapeOk ⟨z.2.1, z.2.2.1⟩ ∧ (z.2.2.2.1.length : Int) = z.1 ∧ (z.2.2.2.2.length : Int) = z.1 ∧ ∀ r ∈ z.2.2.2.2, z8d m (k + 1) r) (fun z => k + 2 - z.1.toNat)
    (fun r => DfaOk r.1 m (k + 1) ∧ TapeOk r.2) ?_ LFm (0, t2.l, t2.at_, [], []) ⟨by simp, by simp; omega, ht2, by simp, by simp, by simp⟩ (by simp only [LFm]; omega)) fun r h => ⟨r.1, r.2, k + 1, h.1, h.2.1, by omega, h.2.2⟩
  rintro ⟨i, tl, ta, fs, rs⟩ ⟨i0, i1, i2, i3, i4, i5⟩
  simp only at i0 i1 i2 i3 i4 i5 ⊢
  simp only [z4P, hw]
  by_cases hi : i < ((k + 1 : Nat) : Int)
  · left
    rw [if_pos hi]
    obtain ⟨u, t3, e3, u0, u1, ht3⟩ := z6j i2 2 (by omega) (by omega)
    simp only [e3, Option.bind_some]
    rw [z0Y _ (by unfold z2Z; omega)]
    refine Exists.elim (zgk (b := z4t m ((k : Int), t1) i fs rs (u, t3)) (fun z => 0 ≤ z.1 ∧ z.1 ≤ m ∧ TapeOk ⟨z.2.1, z.2.2.1⟩ ∧ (z.2.2.2.length : Int) = z.1 ∧ ∀ x ∈ z.2.2.2, 0 ≤ x ∧ x < (k + 1 : Nat)) (fun z => m + 1 - z.1.toNat)
      (fun z => z.1 = i + 1 ∧ TapeOk ⟨z.2.1, z.2.2.1⟩ ∧ (z.2.2.2.1.length : Int) = i + 1 ∧ (z.2.2.2.2.length : Int) = i + 1 ∧ ∀ r ∈ z.2.2.2.2, z8d m (k + 1) r) (s := (0, t3.l, t3.at_, [])) ⟨by simp, by simp, ht3, by simp, by simp⟩ (by simp only [LFm]; omega) ?_) fun r h => ⟨_, h.1, ⟨by have := h.2.1; omega, by have := h.2.1; omega, h.2.2.1, by have := h.2.1; have := h.2.2.2.1; omega, by have := h.2.1; have := h.2.2.2.2.1; omega, h.2.2.2.2.2⟩, by have := h.2.1; omega⟩
    rintro ⟨j, ul, ua, row⟩ ⟨j0, j1, j2, j3, j4⟩
    simp only at j0 j1 j2 j3 j4 ⊢
    simp only [z4t, hw]
    by_cases hj : j < (m : Int)
    · left
      rw [if_pos hj]
      obtain ⟨x, t4, e4, x0, x1, ht4⟩ := z6j j2 ((k + 1 : Nat) : Int) (by omega) (by omega)
      simp only [e4, Option.bind_some]
      rw [z0Y _ (by unfold z2Z; omega), z2q (by omega) (by omega)]
      refine ⟨_, rfl, ⟨by simp only; omega, by simp only; omega, ht4, by simp only [List.length_append, List.length_singleton]; omega, fun y hy => ?_⟩, by simp only; omega⟩
      rcases zaT.1 hy with h | rfl
      · exact j4 y h
      · exact ⟨x0, x1⟩
    · right
      rw [if_neg hj, z0Y _ (by unfold z2Z; omega), z2q (by omega) (by omega)]
      refine ⟨_, rfl, by simp only, j2, by simp only [List.length_append, List.length_singleton]; omega, by simp only [List.length_append, List.length_singleton]; omega, fun y hy => ?_⟩
      rcases zaT.1 hy with h | rfl
      · exact i5 y h
      · exact ⟨by omega, j4⟩
  · right
    rw [if_neg hi]
    exact ⟨_, rfl, ⟨rfl, hm.1, hm.2, by omega, by simp only; omega, by simp only; omega, s0, s1, i5⟩, i2⟩
theorem zme {t : Tape} (ht : TapeOk t) : ∃ m t', z3K t = some (((m : Nat) : Int), t') ∧ 1 ≤ m ∧ m ≤ 2 ∧ TapeOk t' := by
  unfold z3K
  obtain ⟨v, t1, e1, v0, v1, ht1⟩ := z6j ht 8 (by omega) (by omega)
  simp only [e1, Option.bind_some]
  obtain ⟨k, rfl⟩ := Int.eq_ofNat_of_zero_le v0
  have : zsq .i64 (k : Int) 7 = ((k / 7 : Nat) : Int) := by
    unfold zsq
    rw [show ((k : Int).tdiv 7) = ((k / 7 : Nat) : Int) by rfl, z2q (by omega) (by omega)]
  rw [this, z2q (by omega) (by omega)]
  exact ⟨2 - k / 7, t1, by congr 2; omega, by omega, by omega, ht1⟩
end Go.Proofs.Ytbnnipkanechoaa
end
section
namespace Go.Proofs.Ytbnnipkanechoaa
open Go
set_option maxRecDepth 100000
theorem zkb {m n : Nat} {rs : List (List Int)} (h : ∀ r ∈ rs, z8d m n r) {r' : List Int} (hr : z8d m n r') (i : Nat) : ∀ r ∈ rs.set i r', z8d m n r := fun r hm => by
  rcases List.mem_or_eq_of_mem_set hm with h' | rfl
  · exact h r h'
  · exact hr
theorem znE {m n : Nat} {r : List Int} (h : z8d m n r) {x : Int} (hx : 0 ≤ x ∧ x < n) (j : Nat) : z8d m n (r.set j x) := ⟨by simp [h.1], fun y hy => by
  rcases List.mem_or_eq_of_mem_set hy with h' | rfl
  · exact h.2 y h'
  · exact hx⟩
theorem znF {m n : Nat} {rs : List (List Int)} (h : ∀ r ∈ rs, z8d m n r) {k : Nat} (hk : k < rs.length) : z8d m n rs[k] := h _ (List.getElem_mem hk)
theorem zm8 {t : Tape} (ht : TapeOk t) (m most : Nat) (hm : 1 ≤ m ∧ m ≤ 6) (hk : 1 ≤ most ∧ most ≤ 1000) : ∃ d t' n, z3J t m most = some (d, t') ∧ DfaOk d m n ∧ n ≤ most ∧ TapeOk t' := by
  unfold z3J
  obtain ⟨d, t1, n, e1, hd, hn, ht1⟩ := zqk ht m most hm hk
  simp only [e1, Option.bind_some]
  refine Exists.elim (z2a (b := z3C (d, t1)) (fun z => 0 ≤ z.1 ∧ z.1 ≤ n ∧ z.2.length = n ∧ ∀ r ∈ z.2, z8d m n r) (fun z => n + 1 - z.1.toNat) (fun r => DfaOk r.1 m n ∧ TapeOk r.2) ?_ LFm (0, d.next) ⟨by simp, by simp, hd.nl, hd.row⟩ (by simp only [LFm]; omega)) fun r h => ⟨r.1, r.2, n, h.1, h.2.1, hn, h.2.2⟩
  rintro ⟨i, rs⟩ ⟨i0, i1, i2, i3⟩
  simp only at i0 i1 i2 i3 ⊢
  simp only [z3C, hd.nl]
  obtain ⟨i, rfl⟩ := Int.eq_ofNat_of_zero_le i0
  by_cases hi : (i : Int) < n
  · left
    rw [if_pos hi, z2p (by omega)]
    simp only [Option.bind_some]
    have hri := znF i3 (show i < rs.length by omega)
    refine Exists.elim (zgk (b := z3B (i : Int) rs[i]) (fun z => 0 ≤ z.1 ∧ z.1 ≤ m ∧ z.2.length = n ∧ ∀ r ∈ z.2, z8d m n r) (fun z => m + 1 - z.1.toNat) (fun z => z.1 = (i : Int) + 1 ∧ z.2.length = n ∧ ∀ r ∈ z.2, z8d m n r) (s := (0, rs)) ⟨by simp, by simp, i2, i3⟩ (by simp only [LFm]; omega) ?_) fun r h => ⟨_, h.1, ⟨by have := h.2.1; omega, by have := h.2.1; omega, h.2.2.1, h.2.2.2⟩, by have := h.2.1; omega⟩
    rintro ⟨j, us⟩ ⟨j0, j1, j2, j3⟩
    simp only at j0 j1 j2 j3 ⊢
    obtain ⟨j, rfl⟩ := Int.eq_ofNat_of_zero_le j0
    simp only [z3B, hri.1]
    rw [z2p (by omega)]
    simp only [Option.bind_some]
    have hui := znF j3 (show i < us.length by omega)
    by_cases hj : (j : Int) < m
    · left
      rw [if_pos hj, z2p (by rw [hui.1]; omega), z2q (by omega) (by omega)]
      simp only [Option.bind_some]
      refine ⟨_, rfl, ⟨by simp only; omega, by simp only; omega, by simp only [List.length_set]; exact j2, zkb j3 (znE hui ?_ _) _⟩, by simp only; omega⟩
      have := hui.2 _ (List.getElem_mem (show j < us[i].length by rw [hui.1]; omega))
      split <;> omega
    · right
      rw [if_neg hj, z2q (by omega) (by omega)]
      exact ⟨_, rfl, rfl, j2, j3⟩
  · right
    rw [if_neg hi]
    exact ⟨_, rfl, ⟨hd.lt, hd.m1, hd.m6, hd.n1, hd.fin, by simp only; omega, by simp, by simp only; have := hd.n1; omega, i3⟩, ht1⟩
theorem zpk (m n : Nat) (hn : 1 ≤ n) : z8d m n (List.replicate m 0) := ⟨by simp, fun x hx => by rw [(List.mem_replicate.1 hx).2]; omega⟩
theorem zqK {xs : List Int} {k : Nat} (h : k < xs.length) : z7V xs 0 (k : Int) = some (xs.take k) := zhV (by omega)
theorem zqJ {xs : List Int} {k : Nat} (h : k < xs.length) : z7V xs ((k : Int) + 1) (xs.length : Int) = some (xs.drop (k + 1)) := by
  have := zjj (xs := xs) (k := k + 1) (by omega)
  rwa [show ((k + 1 : Nat) : Int) = (k : Int) + 1 by omega] at this
theorem zpr {t : Tape} (ht : TapeOk t) (m most : Nat) (hm : 1 ≤ m ∧ m ≤ 6) (hk : 1 ≤ most ∧ most ≤ 1000) : ∃ d t' n, z2x t m most = some (d, t') ∧ DfaOk d m n ∧ n ≤ most ∧ TapeOk t' := by
  unfold z2x
  obtain ⟨v, t1, e1, v0, v1, ht1⟩ := z6j ht (most : Int) (by omega) (by omega)
  simp only [e1, Option.bind_some]
  obtain ⟨k, rfl⟩ := Int.eq_ofNat_of_zero_le v0
  have hw : IntKind.i64.wrap (1 + (k : Int)) = ((k + 1 : Nat) : Int) := by rw [z2q (by omega) (by omega)]; omega
  rw [hw]
  obtain ⟨s, t2, e2, s0, s1, ht2⟩ := z6j ht1 ((k + 1 : Nat) : Int) (by omega) (by omega)
  simp only [e2, Option.bind_some]
  refine Exists.elim (z2a (b := z2G m ((k : Int), t1) (s, t2)) (fun z => 0 ≤ z.1 ∧ z.1 ≤ (k + 1 : Nat) ∧ TapeOk ⟨z.2.1, z.2.2.1⟩ ∧ (z.2.2.2.1.length : Int) = z.1 ∧ (z.2.2.2.2.length : Int) = z.1 ∧ ∀ r ∈ z.2.2.2.2, z8d m (k + 1) r) (fun z => k + 2 - z.1.toNat)
    (fun r => DfaOk r.1 m (k + 1) ∧ TapeOk r.2) ?_ LFm (0, t2.l, t2.at_, [], []) ⟨by simp, by simp; omega, ht2, by simp, by simp, by simp⟩ (by simp only [LFm]; omega)) fun r h => ⟨r.1, r.2, k + 1, h.1, h.2.1, by omega, h.2.2⟩
  rintro ⟨i, tl, ta, fs, rs⟩ ⟨i0, i1, i2, i3, i4, i5⟩
  simp only at i0 i1 i2 i3 i4 i5 ⊢
  simp only [z2G, hw]
  by_cases hi : i < ((k + 1 : Nat) : Int)
  · left
    rw [if_pos hi]
    obtain ⟨u, t3, e3, u0, u1, ht3⟩ := z6j i2 2 (by omega) (by omega)
    simp only [e3, Option.bind_some]
    rw [z0Y _ (by unfold z2Z; omega), z0Y _ (by unfold z1Y; omega), z0Y _ (by unfold z2Z; omega), z2q (by omega) (by omega)]
    refine ⟨_, rfl, ⟨by simp only; omega, by simp only; omega, ht3, by simp only [List.length_append, List.length_singleton]; omega, by simp only [List.length_append, List.length_singleton]; omega, fun y hy => ?_⟩, by simp only; omega⟩
    rcases zaT.1 hy with h | rfl
    · exact i5 y h
    · exact zpk m (k + 1) (by omega)
  · right
    rw [if_neg hi]
    refine Exists.elim (z2a (b := z2F m ((k : Int), t1) (s, t2) fs) (fun z => 0 ≤ z.1 ∧ z.1 ≤ m ∧ TapeOk ⟨z.2.1, z.2.2.1⟩ ∧ z.2.2.2.length = k + 1 ∧ ∀ r ∈ z.2.2.2, z8d m (k + 1) r) (fun z => m + 1 - z.1.toNat)
      (fun r => DfaOk r.1 m (k + 1) ∧ TapeOk r.2) ?_ LFm (0, tl, ta, rs) ⟨by simp, by simp, i2, by simp only; omega, i5⟩ (by simp only [LFm]; omega)) fun r h => ⟨r, by rw [h.1]; rfl, h.2⟩
    rintro ⟨a, ul, ua, us⟩ ⟨a0, a1, a2, a3, a4⟩
    simp only at a0 a1 a2 a3 a4 ⊢
    obtain ⟨a, rfl⟩ := Int.eq_ofNat_of_zero_le a0
    simp only [z2F]
    by_cases ha : (a : Int) < m
    · left
      rw [if_pos ha]
      refine Exists.elim (zgk (b := z2u ((k : Int), t1) (a : Int) ul ua us) (fun z => 0 ≤ z.1 ∧ z.1 ≤ (k + 1 : Nat) ∧ (z.2.length : Int) = z.1 ∧ ∀ x ∈ z.2, 0 ≤ x ∧ x < (k + 1 : Nat)) (fun z => k + 2 - z.1.toNat)
        (fun z => z.1 = (a : Int) + 1 ∧ TapeOk ⟨z.2.1, z.2.2.1⟩ ∧ z.2.2.2.length = k + 1 ∧ ∀ r ∈ z.2.2.2, z8d m (k + 1) r) (s := (0, [])) ⟨by simp, by simp; omega, by simp, by simp⟩ (by simp only [LFm]; omega) ?_) fun r h => ⟨_, h.1, ⟨by have := h.2.1; omega, by have := h.2.1; omega, h.2.2.1, h.2.2.2.1, h.2.2.2.2⟩, by have := h.2.1; omega⟩
      rintro ⟨q, left⟩ ⟨q0, q1, q2, q3⟩
      simp only at q0 q1 q2 q3 ⊢
      simp only [z2u, hw]
      by_cases hq : q < ((k + 1 : Nat) : Int)
      · left
        rw [if_pos hq, z0Y _ (by unfold z2Z; omega), z2q (by omega) (by omega)]
        refine ⟨_, rfl, ⟨by simp only; omega, by simp only; omega, by simp only [List.length_append, List.length_singleton]; omega, fun y hy => ?_⟩, by simp only; omega⟩
        rcases zaT.1 hy with h | rfl
        · exact q3 y h
        · omega
      · right
        rw [if_neg hq]
        refine Exists.elim (zgk (b := z2t ((k : Int), t1) (a : Int)) (fun z => 0 ≤ z.1 ∧ z.1 ≤ (k + 1 : Nat) ∧ TapeOk ⟨z.2.1, z.2.2.1⟩ ∧ z.2.2.2.1.length = k + 1 ∧ (∀ r ∈ z.2.2.2.1, z8d m (k + 1) r) ∧ (z.2.2.2.2.length : Int) = (k + 1 : Nat) - z.1 ∧ ∀ x ∈ z.2.2.2.2, 0 ≤ x ∧ x < (k + 1 : Nat)) (fun z => k + 2 - z.1.toNat)
          (fun z => z.1 = (a : Int) + 1 ∧ TapeOk ⟨z.2.1, z.2.2.1⟩ ∧ z.2.2.2.length = k + 1 ∧ ∀ r ∈ z.2.2.2, z8d m (k + 1) r) (s := (0, ul, ua, us, left)) ⟨by simp, by simp; omega, a2, a3, a4, by simp only; omega, q3⟩ (by simp only [LFm]; omega) ?_) fun r h => ⟨r, by rw [h.1]; rfl, h.2⟩
        rintro ⟨p, xl, xa, xs, lf⟩ ⟨p0, p1, p2, p3, p4, p5, p6⟩
        simp only at p0 p1 p2 p3 p4 p5 p6 ⊢
        obtain ⟨p, rfl⟩ := Int.eq_ofNat_of_zero_le p0
        simp only [z2t, hw]
        by_cases hp : (p : Int) < ((k + 1 : Nat) : Int)
        · left
          rw [if_pos hp]
          obtain ⟨x, t4, e4, x0, x1, ht4⟩ := z6j p2 (lf.length : Int) (by omega) (by omega)
          obtain ⟨x, rfl⟩ := Int.eq_ofNat_of_zero_le x0
          have hrp := znF p4 (show p < xs.length by omega)
          have hlx : x < lf.length := by omega
          simp only [e4, Option.bind_some]
          rw [z2p (show p < xs.length by omega)]
          simp only [Option.bind_some]
          rw [z2p hlx]
          simp only [Option.bind_some]
          rw [z2p (show a < xs[p].length by rw [hrp.1]; omega), z2q (x := (x : Int) + 1) (by omega) (by omega), zqK hlx]
          simp only [Option.bind_some]
          rw [zqJ hlx]
          simp only [Option.bind_some]
          rw [z0Y _ (by unfold z2Z; simp only [List.length_take]; omega), z0Y _ (by unfold z2Z; simp only [List.length_take, List.length_drop]; omega), z2q (by omega) (by omega)]
          refine ⟨_, rfl, ⟨by simp only; omega, by simp only; omega, ht4, by simp only [List.length_set]; exact p3, zkb p4 (znE hrp (p6 _ (List.getElem_mem hlx)) _) _, by simp only [List.length_append, List.length_take, List.length_drop]; omega, fun y hy => ?_⟩, by simp only; omega⟩
          rcases List.mem_append.1 hy with h | h
          · exact p6 y (List.mem_of_mem_take h)
          · exact p6 y (List.mem_of_mem_drop h)
        · right
          rw [if_neg hp, z2q (by omega) (by omega)]
          exact ⟨_, rfl, rfl, p2, p3, p4⟩
    · right
      rw [if_neg ha]
      exact ⟨_, rfl, ⟨rfl, hm.1, hm.2, by omega, by simp only; omega, a3, s0, s1, a4⟩, a2⟩
end Go.Proofs.Ytbnnipkanechoaa
end
section
namespace Go.Proofs.Ytbnnipkanechoaa
open Go
noncomputable section
set_option maxRecDepth 100000
set_option maxHeartbeats 1000000
def z4N (a0 : Int) : Option (Bool) :=
  if 1 ≤ a0 then
    some (decide (a0 ≤ 6))
  else
    some false
theorem zak {a0 : Int} {r : Bool} (h0 : z4N a0 = some r) : L 59 [.sc (.int .i64 a0)] = some (.sc (.bool r), [.dead]) := by
  simp only [z4N] at h0
  refine z2S zuH zw2 (z1w zxI ⟨of_decide_eq_true rfl, of_decide_eq_true rfl⟩ ?_)
  simp only [z1E, z1A, z1y, z1G, z3i]
  refine zq rfl (zr rfl rfl rfl (by simp; rfl) ?_)
  refine z0a (zq rfl ?_)
  by_cases c2 : 1 ≤ a0
  ·rw [if_pos c2] at h0
   refine zr rfl rfl rfl (by simp [c2]; rfl) ?_
   refine z0a (z1t rfl ?_)
   cases h0
   simp
  ·rw [if_neg c2] at h0
   refine zr rfl rfl rfl (by simp [c2]; rfl) ?_
   refine z0a (z1t rfl ?_)
   cases h0
   simp
def z7u (a0 : DFA) (w24 : Int) (v30 : List Int) : Int → Option (Int ⊕ (Int ⊕ Int))
  | w32 =>
  if w32 < (v30.length : Int) then
    (atI v30 w32).bind fun v34 =>
    if v34 < 0 then
      z1l <|
      z1l <|
      some 4
    else
      if (a0.final.length : Int) ≤ v34 then
        z1l <|
        z1l <|
        some 4
      else
        z0B (IntKind.i64.wrap (w32 + 1))
  else
    z1l <|
    z0B (IntKind.i64.wrap (w24 + 1))
def z3Z (a0 : DFA) (w24 : Int) (v30 : List Int) : Int → Fr
  | w32 => ⟨64, [(1, .one (.a 1 [] (0))), (3, .one (.t none (.sc (.int .i64 (a0.final.length : Int))))), (38, .one (.t none (.sl a0.next.length (a0.next.map fun x0 => .sl x0.length (x0.map fun x1 => .sc (.int .i64 x1)))))), (39, .one (.t none (.sc (.int .i64 (a0.next.length : Int))))), (40, .one (.t none (.sc (.int .i64 w24)))), (49, .one (.t none (.sl v30.length (v30.map fun x0 => .sc (.int .i64 x0))))), (50, .one (.t none (.sc (.int .i64 (v30.length : Int))))), (51, .one (.t none (.sc (.int .i64 w32))))], [(1, .vr [.sc (.int .i64 a0.letters), .sc (.int .i64 a0.start), .sl a0.final.length (a0.final.map fun x0 => .sc (.bool x0)), .sl a0.next.length (a0.next.map fun x0 => .sl x0.length (x0.map fun x1 => .sc (.int .i64 x1)))])]⟩
def z5q (a0 : DFA) : Int → Option (Int ⊕ Int)
  | w24 =>
  if w24 < (a0.next.length : Int) then
    (atI a0.next w24).bind fun v30 =>
    if (v30.length : Int) = a0.letters then
      z0W (z7u a0 w24 v30) LFm 0
    else
      z1l <|
      some 4
  else
    z1l <|
    some 0
def z4p (a0 : DFA) : Int → Fr
  | w24 => ⟨64, [(1, .one (.a 1 [] (0))), (3, .one (.t none (.sc (.int .i64 (a0.final.length : Int))))), (38, .one (.t none (.sl a0.next.length (a0.next.map fun x0 => .sl x0.length (x0.map fun x1 => .sc (.int .i64 x1)))))), (39, .one (.t none (.sc (.int .i64 (a0.next.length : Int))))), (40, .one (.t none (.sc (.int .i64 w24))))], [(1, .vr [.sc (.int .i64 a0.letters), .sc (.int .i64 a0.start), .sl a0.final.length (a0.final.map fun x0 => .sc (.bool x0)), .sl a0.next.length (a0.next.map fun x0 => .sl x0.length (x0.map fun x1 => .sc (.int .i64 x1)))])]⟩
def z4H (a0 : DFA) : Option (Int) :=
  (z4N a0.letters).bind fun v18 =>
  if v18 = true then
    if 512 < (a0.final.length : Int) then
      some 3
    else
      if (a0.final.length : Int) = 0 then
        some 4
      else
        if (a0.next.length : Int) = (a0.final.length : Int) then
          if a0.start < 0 then
            some 4
          else
            if (a0.final.length : Int) ≤ a0.start then
              some 4
            else
              z0W (z5q a0) LFm 0
        else
          some 4
  else
    some 1
theorem zc8 {a0 : DFA} {r : Int} (h0 : z4H a0 = some r) : L 60 [.agg [.sc (.int .i64 a0.letters), .sc (.int .i64 a0.start), .sl a0.final.length (a0.final.map fun x0 => .sc (.bool x0)), .sl a0.next.length (a0.next.map fun x0 => .sl x0.length (x0.map fun x1 => .sc (.int .i64 x1)))]] = some (.sc (.int .i64 r), [.dead]) := by
  simp only [z4H] at h0
  refine z2S zuG zw1 (z1w zxH ⟨of_decide_eq_true rfl, of_decide_eq_true rfl⟩ ?_)
  simp only [z1E, z1A, z1y, z1G, z3i]
  refine zq rfl (zr rfl rfl rfl (by simp; rfl) ?_)
  refine z0a (zq rfl (zr rfl rfl rfl (by simp; rfl) ?_))
  refine z0a (zq rfl (zq rfl ?_))
  obtain ⟨v18, f53, h1⟩ := z0h h0
  have f53k := zak f53
  try simp at f53k
  refine zr rfl rfl rfl (by simp [f53k]; rfl) ?_
  refine z0a ?_
  by_cases c54 : v18 = true
  ·rw [if_pos c54] at h1
   refine z0n rfl (by simp [c54]) (z0i rfl (z0a (zq rfl (zq rfl (zr rfl rfl rfl (by simp; rfl) ?_)))))
   refine z0a ?_
   by_cases c55 : 512 < (a0.final.length : Int)
   ·rw [if_pos c55] at h1
    refine z0u rfl (by simp [c55]) (zq rfl (zr rfl rfl rfl (by simp; rfl) ?_))
    refine z0a (z1t rfl (z1b ?_))
    cases h1
    simp [c54]
   ·rw [if_neg c55] at h1
    refine z0n rfl (by simp [c55]) (z0i rfl (z0a (zq rfl (zq rfl ?_))))
    by_cases c56 : (a0.final.length : Int) = 0
    ·rw [if_pos c56] at h1
     have c56e := eq_true c56
     have c56s : a0.final = [] := by simpa [List.length_pos_iff] using c56
     refine zr rfl rfl rfl (by simp [c56e, c56s]; rfl) ?_
     refine z0a (z0u rfl (by simp) (zq rfl (zr rfl rfl rfl (by simp; rfl) ?_)))
     refine z0a (z1t rfl (z1b ?_))
     cases h1
     simp [c54]
    ·rw [if_neg c56] at h1
     have c56e := eq_false c56
     have c56s : a0.final ≠ [] := by simpa [List.length_pos_iff] using c56
     by_cases c57 : (a0.next.length : Int) = (a0.final.length : Int)
     ·rw [if_pos c57] at h1
      have c57e := eq_true c57
      by_cases c58 : a0.start < 0
      ·rw [if_pos c58] at h1
       refine zr rfl rfl rfl (by simp [c56e, c56s, c57e, c58]; rfl) ?_
       refine z0a (z0u rfl (by simp) (zq rfl (zr rfl rfl rfl (by simp; rfl) ?_)))
       refine z0a (z1t rfl (z1b ?_))
       cases h1
       simp [c54]
      ·rw [if_neg c58] at h1
       refine zr rfl rfl rfl (by simp [c56e, c56s, c57e, c58]; rfl) ?_
       refine z0a ?_
       by_cases c59 : (a0.final.length : Int) ≤ a0.start
       ·rw [if_pos c59] at h1
        refine z0u rfl (by simp [c59]) (zq rfl (zr rfl rfl rfl (by simp; rfl) ?_))
        refine z0a (z1t rfl (z1b ?_))
        cases h1
        simp [c54]
       ·rw [if_neg c59] at h1
        refine z0n rfl (by simp [c59]) (z0i rfl (z0a (zq rfl (zq rfl (zr rfl rfl rfl (by simp; rfl) ?_)))))
        refine z0a (zb rfl (z0C h1 (z4p a0) rfl rfl (by simp [z4p]) fun s o1 h2 hr1 => ?_))
        obtain ⟨w24, hs1⟩ : ∃ y, y = s := ⟨_, rfl⟩
        subst hs1
        simp only [z5q] at h2
        simp only [z4p]
        refine zq rfl (zr rfl rfl rfl (by simp; rfl) ?_)
        refine z0a (zq rfl ?_)
        by_cases c90 : w24 < (a0.next.length : Int)
        ·rw [if_pos c90] at h2
         refine z0u rfl (by simp [c90]) (z0i rfl (z0a (zq rfl (zb rfl (zq rfl ?_)))))
         obtain ⟨v30, f91, h3⟩ := z0R h2
         refine zr rfl rfl rfl (by simp [f91]; rfl) ?_
         refine z0a (zq rfl (zq rfl (zr rfl rfl rfl (by simp; rfl) ?_)))
         refine z0a ?_
         by_cases c92 : (v30.length : Int) = a0.letters
         ·rw [if_pos c92] at h3
          have c92e := eq_true c92
          refine z0n rfl (by simp [c92e]) (z0i rfl (z0a (zq rfl (zr rfl rfl rfl (by simp; rfl) ?_))))
          refine z0a (zb rfl (z0C h3 (z3Z a0 w24 v30) rfl rfl (by simp [z3Z]) fun s o2 h4 hr2 => ?_))
          obtain ⟨w32, hs2⟩ : ∃ y, y = s := ⟨_, rfl⟩
          subst hs2
          simp only [z7u] at h4
          simp only [z3Z]
          refine zq rfl (zr rfl rfl rfl (by simp; rfl) ?_)
          refine z0a (zq rfl ?_)
          by_cases c101 : w32 < (v30.length : Int)
          ·rw [if_pos c101] at h4
           refine z0u rfl (by simp [c101]) (z0i rfl (z0a (zq rfl (zb rfl (zq rfl ?_)))))
           obtain ⟨v34, f102, h5⟩ := z0R h4
           refine zr rfl rfl rfl (by simp [f102]; rfl) ?_
           refine z0a (zq rfl ?_)
           by_cases c103 : v34 < 0
           ·rw [if_pos c103] at h5
            refine zr rfl rfl rfl (by simp [c103]; rfl) ?_
            refine z0a (z0u rfl (by simp) (zq rfl (zr rfl rfl rfl (by simp; rfl) ?_)))
            refine z0a (z1t rfl (z1M (z1b ?_)))
            obtain ⟨rr2, h6, ho2⟩ := z0j h5
            have hs2 := hr2 _ ho2
            subst hs2
            refine z3Y ho2 (z1M (z1M (z1b ?_)))
            obtain ⟨rr1, h7, ho1⟩ := z0j h6
            have hs1 := hr1 _ ho1
            subst hs1
            refine z3Y ho1 (z1M (z1b ?_))
            cases h7
            simp
           ·rw [if_neg c103] at h5
            refine zr rfl rfl rfl (by simp [c103]; rfl) ?_
            refine z0a ?_
            by_cases c104 : (a0.final.length : Int) ≤ v34
            ·rw [if_pos c104] at h5
             refine z0u rfl (by simp [c104]) (zq rfl (zr rfl rfl rfl (by simp; rfl) ?_))
             refine z0a (z1t rfl (z1M (z1b ?_)))
             obtain ⟨rr2, h6, ho2⟩ := z0j h5
             have hs2 := hr2 _ ho2
             subst hs2
             refine z3Y ho2 (z1M (z1M (z1b ?_)))
             obtain ⟨rr1, h7, ho1⟩ := z0j h6
             have hs1 := hr1 _ ho1
             subst hs1
             refine z3Y ho1 (z1M (z1b ?_))
             cases h7
             simp
            ·rw [if_neg c104] at h5
             refine z0n rfl (by simp [c104]) (z0i rfl (z0g (z0a (zr rfl rfl rfl (by simp; rfl) ?_))))
             have ho := z0d h5
             refine z0f ho ?_
             simp [z3Z]
          ·rw [if_neg c101] at h4
           refine z0n rfl (by simp [c101]) (z0V rfl (z0v ?_))
           obtain ⟨rr2, h5, ho2⟩ := z0j h4
           have hs2 := hr2 _ ho2
           subst hs2
           refine z0m ho2 (z0e rfl (z0g (z0a (zr rfl rfl rfl (by simp; rfl) ?_))))
           have ho := z0d h5
           refine z0f ho ?_
           simp [z4p]
         ·rw [if_neg c92] at h3
          have c92e := eq_false c92
          refine z0u rfl (by simp [c92e]) (zq rfl (zr rfl rfl rfl (by simp; rfl) ?_))
          refine z0a (z1t rfl (z1b (z1M (z1b ?_))))
          obtain ⟨rr1, h4, ho1⟩ := z0j h3
          have hs1 := hr1 _ ho1
          subst hs1
          refine z3Y ho1 (z1M (z1b ?_))
          cases h4
          simp
        ·rw [if_neg c90] at h2
         refine z0n rfl (by simp [c90]) (z0V rfl (z0v ?_))
         obtain ⟨rr1, h3, ho1⟩ := z0j h2
         have hs1 := hr1 _ ho1
         subst hs1
         refine z0m ho1 (z0e rfl (z0a (zq rfl (zr rfl rfl rfl (by simp; rfl) ?_))))
         refine z0a (z1t rfl ?_)
         cases h3
         simp
     ·rw [if_neg c57] at h1
      have c57e := eq_false c57
      refine zr rfl rfl rfl (by simp [c56e, c56s, c57e]; rfl) ?_
      refine z0a (z0u rfl (by simp) (zq rfl (zr rfl rfl rfl (by simp; rfl) ?_)))
      refine z0a (z1t rfl (z1b ?_))
      cases h1
      simp [c54]
  ·rw [if_neg c54] at h1
   refine z0u rfl (by simp [c54]) (zq rfl (zr rfl rfl rfl (by simp; rfl) ?_))
   refine z0a (z1t rfl (z1b ?_))
   cases h1
   simp [c54]
def z4R (a0 : DFA) (w22 : Int) (v28 : List Int) : Int → Option (Int ⊕ (Int ⊕ Int))
  | w30 =>
  if w30 < (v28.length : Int) then
    (atI v28 w30).bind fun v32 =>
    if v32 < 0 then
      z1l <|
      z1l <|
      some 4
    else
      if (a0.final.length : Int) ≤ v32 then
        z1l <|
        z1l <|
        some 4
      else
        z0B (IntKind.i64.wrap (w30 + 1))
  else
    z1l <|
    z0B (IntKind.i64.wrap (w22 + 1))
def z4Q (a0 : DFA) (w22 : Int) (v28 : List Int) : Int → Fr
  | w30 => ⟨64, [(1, .one (.a 1 [] (0))), (3, .one (.t none (.sc (.int .i64 (a0.final.length : Int))))), (38, .one (.t none (.sl a0.next.length (a0.next.map fun x0 => .sl x0.length (x0.map fun x1 => .sc (.int .i64 x1)))))), (39, .one (.t none (.sc (.int .i64 (a0.next.length : Int))))), (40, .one (.t none (.sc (.int .i64 w22)))), (49, .one (.t none (.sl v28.length (v28.map fun x0 => .sc (.int .i64 x0))))), (50, .one (.t none (.sc (.int .i64 (v28.length : Int))))), (51, .one (.t none (.sc (.int .i64 w30))))], [(1, .vr [.sc (.int .i64 a0.letters), .sc (.int .i64 a0.start), .sl a0.final.length (a0.final.map fun x0 => .sc (.bool x0)), .sl a0.next.length (a0.next.map fun x0 => .sl x0.length (x0.map fun x1 => .sc (.int .i64 x1)))])]⟩
def z3O (a0 : DFA) : Int → Option (Int ⊕ Int)
  | w22 =>
  if w22 < (a0.next.length : Int) then
    (atI a0.next w22).bind fun v28 =>
    if (v28.length : Int) = a0.letters then
      z0W (z4R a0 w22 v28) LFm 0
    else
      z1l <|
      some 4
  else
    z1l <|
    some 0
def z5j (a0 : DFA) : Int → Fr
  | w22 => ⟨64, [(1, .one (.a 1 [] (0))), (3, .one (.t none (.sc (.int .i64 (a0.final.length : Int))))), (38, .one (.t none (.sl a0.next.length (a0.next.map fun x0 => .sl x0.length (x0.map fun x1 => .sc (.int .i64 x1)))))), (39, .one (.t none (.sc (.int .i64 (a0.next.length : Int))))), (40, .one (.t none (.sc (.int .i64 w22))))], [(1, .vr [.sc (.int .i64 a0.letters), .sc (.int .i64 a0.start), .sl a0.final.length (a0.final.map fun x0 => .sc (.bool x0)), .sl a0.next.length (a0.next.map fun x0 => .sl x0.length (x0.map fun x1 => .sc (.int .i64 x1)))])]⟩
def z6g (a0 : DFA) : Option (Int) :=
  if a0.letters < 1 then
    some 1
  else
    if 6 < a0.letters then
      some 1
    else
      if 512 < (a0.final.length : Int) then
        some 3
      else
        if (a0.next.length : Int) = (a0.final.length : Int) then
          if a0.start < 0 then
            some 4
          else
            if (a0.final.length : Int) ≤ a0.start then
              some 4
            else
              z0W (z3O a0) LFm 0
        else
          some 4
theorem zes {a0 : DFA} {r : Int} (h0 : z6g a0 = some r) : L 62 [.agg [.sc (.int .i64 a0.letters), .sc (.int .i64 a0.start), .sl a0.final.length (a0.final.map fun x0 => .sc (.bool x0)), .sl a0.next.length (a0.next.map fun x0 => .sl x0.length (x0.map fun x1 => .sc (.int .i64 x1)))]] = some (.sc (.int .i64 r), [.dead]) := by
  simp only [z6g] at h0
  refine z2S zuE zvZ (z1w zxF ⟨of_decide_eq_true rfl, of_decide_eq_true rfl⟩ ?_)
  simp only [z1E, z1A, z1y, z1G, z3i]
  refine zq rfl (zr rfl rfl rfl (by simp; rfl) ?_)
  refine z0a (zq rfl (zq rfl ?_))
  by_cases c52 : a0.letters < 1
  ·rw [if_pos c52] at h0
   refine zr rfl rfl rfl (by simp [c52]; rfl) ?_
   refine z0a (z0u rfl (by simp) (zq rfl (zr rfl rfl rfl (by simp; rfl) ?_)))
   refine z0a (z1t rfl (z1b ?_))
   cases h0
   simp
  ·rw [if_neg c52] at h0
   refine zr rfl rfl rfl (by simp [c52]; rfl) ?_
   refine z0a ?_
   by_cases c53 : 6 < a0.letters
   ·rw [if_pos c53] at h0
    refine z0u rfl (by simp [c53]) (zq rfl (zr rfl rfl rfl (by simp; rfl) ?_))
    refine z0a (z1t rfl (z1b ?_))
    cases h0
    simp
   ·rw [if_neg c53] at h0
    refine z0n rfl (by simp [c53]) (z0i rfl (z0a (zq rfl (zr rfl rfl rfl (by simp; rfl) ?_))))
    refine z0a (zq rfl (zq rfl (zr rfl rfl rfl (by simp; rfl) ?_)))
    refine z0a ?_
    by_cases c54 : 512 < (a0.final.length : Int)
    ·rw [if_pos c54] at h0
     refine z0u rfl (by simp [c54]) (zq rfl (zr rfl rfl rfl (by simp; rfl) ?_))
     refine z0a (z1t rfl (z1b ?_))
     cases h0
     simp
    ·rw [if_neg c54] at h0
     refine z0n rfl (by simp [c54]) (z0i rfl (z0a (zq rfl (zq rfl ?_))))
     by_cases c55 : (a0.next.length : Int) = (a0.final.length : Int)
     ·rw [if_pos c55] at h0
      have c55e := eq_true c55
      by_cases c56 : a0.start < 0
      ·rw [if_pos c56] at h0
       refine zr rfl rfl rfl (by simp [c55e, c56]; rfl) ?_
       refine z0a (z0u rfl (by simp) (zq rfl (zr rfl rfl rfl (by simp; rfl) ?_)))
       refine z0a (z1t rfl (z1b ?_))
       cases h0
       simp
      ·rw [if_neg c56] at h0
       refine zr rfl rfl rfl (by simp [c55e, c56]; rfl) ?_
       refine z0a ?_
       by_cases c57 : (a0.final.length : Int) ≤ a0.start
       ·rw [if_pos c57] at h0
        refine z0u rfl (by simp [c57]) (zq rfl (zr rfl rfl rfl (by simp; rfl) ?_))
        refine z0a (z1t rfl (z1b ?_))
        cases h0
        simp
       ·rw [if_neg c57] at h0
        refine z0n rfl (by simp [c57]) (z0i rfl (z0a (zq rfl (zq rfl (zr rfl rfl rfl (by simp; rfl) ?_)))))
        refine z0a (zb rfl (z0C h0 (z5j a0) rfl rfl (by simp [z5j]) fun s o1 h1 hr1 => ?_))
        obtain ⟨w22, hs1⟩ : ∃ y, y = s := ⟨_, rfl⟩
        subst hs1
        simp only [z3O] at h1
        simp only [z5j]
        refine zq rfl (zr rfl rfl rfl (by simp; rfl) ?_)
        refine z0a (zq rfl ?_)
        by_cases c88 : w22 < (a0.next.length : Int)
        ·rw [if_pos c88] at h1
         refine z0u rfl (by simp [c88]) (z0i rfl (z0a (zq rfl (zb rfl (zq rfl ?_)))))
         obtain ⟨v28, f89, h2⟩ := z0R h1
         refine zr rfl rfl rfl (by simp [f89]; rfl) ?_
         refine z0a (zq rfl (zq rfl (zr rfl rfl rfl (by simp; rfl) ?_)))
         refine z0a ?_
         by_cases c90 : (v28.length : Int) = a0.letters
         ·rw [if_pos c90] at h2
          have c90e := eq_true c90
          refine z0n rfl (by simp [c90e]) (z0i rfl (z0a (zq rfl (zr rfl rfl rfl (by simp; rfl) ?_))))
          refine z0a (zb rfl (z0C h2 (z4Q a0 w22 v28) rfl rfl (by simp [z4Q]) fun s o2 h3 hr2 => ?_))
          obtain ⟨w30, hs2⟩ : ∃ y, y = s := ⟨_, rfl⟩
          subst hs2
          simp only [z4R] at h3
          simp only [z4Q]
          refine zq rfl (zr rfl rfl rfl (by simp; rfl) ?_)
          refine z0a (zq rfl ?_)
          by_cases c99 : w30 < (v28.length : Int)
          ·rw [if_pos c99] at h3
           refine z0u rfl (by simp [c99]) (z0i rfl (z0a (zq rfl (zb rfl (zq rfl ?_)))))
           obtain ⟨v32, f100, h4⟩ := z0R h3
           refine zr rfl rfl rfl (by simp [f100]; rfl) ?_
           refine z0a (zq rfl ?_)
           by_cases c101 : v32 < 0
           ·rw [if_pos c101] at h4
            refine zr rfl rfl rfl (by simp [c101]; rfl) ?_
            refine z0a (z0u rfl (by simp) (zq rfl (zr rfl rfl rfl (by simp; rfl) ?_)))
            refine z0a (z1t rfl (z1M (z1b ?_)))
            obtain ⟨rr2, h5, ho2⟩ := z0j h4
            have hs2 := hr2 _ ho2
            subst hs2
            refine z3Y ho2 (z1M (z1M (z1b ?_)))
            obtain ⟨rr1, h6, ho1⟩ := z0j h5
            have hs1 := hr1 _ ho1
            subst hs1
            refine z3Y ho1 (z1M (z1b ?_))
            cases h6
            simp
           ·rw [if_neg c101] at h4
            refine zr rfl rfl rfl (by simp [c101]; rfl) ?_
            refine z0a ?_
            by_cases c102 : (a0.final.length : Int) ≤ v32
            ·rw [if_pos c102] at h4
             refine z0u rfl (by simp [c102]) (zq rfl (zr rfl rfl rfl (by simp; rfl) ?_))
             refine z0a (z1t rfl (z1M (z1b ?_)))
             obtain ⟨rr2, h5, ho2⟩ := z0j h4
             have hs2 := hr2 _ ho2
             subst hs2
             refine z3Y ho2 (z1M (z1M (z1b ?_)))
             obtain ⟨rr1, h6, ho1⟩ := z0j h5
             have hs1 := hr1 _ ho1
             subst hs1
             refine z3Y ho1 (z1M (z1b ?_))
             cases h6
             simp
            ·rw [if_neg c102] at h4
             refine z0n rfl (by simp [c102]) (z0i rfl (z0g (z0a (zr rfl rfl rfl (by simp; rfl) ?_))))
             have ho := z0d h4
             refine z0f ho ?_
             simp [z4Q]
          ·rw [if_neg c99] at h3
           refine z0n rfl (by simp [c99]) (z0V rfl (z0v ?_))
           obtain ⟨rr2, h4, ho2⟩ := z0j h3
           have hs2 := hr2 _ ho2
           subst hs2
           refine z0m ho2 (z0e rfl (z0g (z0a (zr rfl rfl rfl (by simp; rfl) ?_))))
           have ho := z0d h4
           refine z0f ho ?_
           simp [z5j]
         ·rw [if_neg c90] at h2
          have c90e := eq_false c90
          refine z0u rfl (by simp [c90e]) (zq rfl (zr rfl rfl rfl (by simp; rfl) ?_))
          refine z0a (z1t rfl (z1b (z1M (z1b ?_))))
          obtain ⟨rr1, h3, ho1⟩ := z0j h2
          have hs1 := hr1 _ ho1
          subst hs1
          refine z3Y ho1 (z1M (z1b ?_))
          cases h3
          simp
        ·rw [if_neg c88] at h1
         refine z0n rfl (by simp [c88]) (z0V rfl (z0v ?_))
         obtain ⟨rr1, h2, ho1⟩ := z0j h1
         have hs1 := hr1 _ ho1
         subst hs1
         refine z0m ho1 (z0e rfl (z0a (zq rfl (zr rfl rfl rfl (by simp; rfl) ?_))))
         refine z0a (z1t rfl ?_)
         cases h2
         simp
     ·rw [if_neg c55] at h0
      have c55e := eq_false c55
      refine zr rfl rfl rfl (by simp [c55e]; rfl) ?_
      refine z0a (z0u rfl (by simp) (zq rfl (zr rfl rfl rfl (by simp; rfl) ?_)))
      refine z0a (z1t rfl (z1b ?_))
      cases h0
      simp
def z4i (a0 : DFA) : Option (Int) :=
  (z6g a0).bind fun v2 =>
  if v2 = 0 then
    if 12 < (a0.final.length : Int) then
      some 3
    else
      some 0
  else
    some v2
theorem zb6 {a0 : DFA} {r : Int} (h0 : z4i a0 = some r) : L 35 [.agg [.sc (.int .i64 a0.letters), .sc (.int .i64 a0.start), .sl a0.final.length (a0.final.map fun x0 => .sc (.bool x0)), .sl a0.next.length (a0.next.map fun x0 => .sl x0.length (x0.map fun x1 => .sc (.int .i64 x1)))]] = some (.sc (.int .i64 r), [.dead]) := by
  simp only [z4i] at h0
  refine z2S zuX zwi (z1w zxY ⟨of_decide_eq_true rfl, of_decide_eq_true rfl⟩ ?_)
  simp only [z1E, z1A, z1y, z1G, z3i]
  refine zq rfl (zr rfl rfl rfl (by simp; rfl) ?_)
  refine z0a (zq rfl (zq rfl ?_))
  obtain ⟨v2, f4, h1⟩ := z0h h0
  have f4k := zes f4
  try simp at f4k
  refine zr rfl rfl rfl (by simp [f4k]; rfl) ?_
  refine z0a (zq rfl (zr rfl rfl rfl (by simp; rfl) ?_))
  refine z0a ?_
  by_cases c5 : v2 = 0
  ·rw [if_pos c5] at h1
   have c5e := eq_true c5
   refine z0n rfl (by simp [c5e]) (z0i rfl (z0a (zq rfl (zq rfl (zr rfl rfl rfl (by simp; rfl) ?_)))))
   refine z0a ?_
   by_cases c6 : 12 < (a0.final.length : Int)
   ·rw [if_pos c6] at h1
    refine z0u rfl (by simp [c6]) (zq rfl (zr rfl rfl rfl (by simp; rfl) ?_))
    refine z0a (z1t rfl (z1b ?_))
    cases h1
    simp
   ·rw [if_neg c6] at h1
    refine z0n rfl (by simp [c6]) (z0i rfl (z0a (zq rfl (zr rfl rfl rfl (by simp; rfl) ?_))))
    refine z0a (z1t rfl ?_)
    cases h1
    simp
  ·rw [if_neg c5] at h1
   have c5e := eq_false c5
   refine z0u rfl (by simp [c5e]) (zq rfl (zr rfl rfl rfl (by simp; rfl) ?_))
   refine z0a (z1t rfl (z1b ?_))
   cases h1
   simp
def z8N (a0 : DFA) : Option (Int) :=
  (z4H a0).bind fun v2 =>
  if v2 = 0 then
    if 12 < (a0.final.length : Int) then
      some 3
    else
      some 0
  else
    some v2
theorem zhO {a0 : DFA} {r : Int} (h0 : z8N a0 = some r) : L 29 [.agg [.sc (.int .i64 a0.letters), .sc (.int .i64 a0.start), .sl a0.final.length (a0.final.map fun x0 => .sc (.bool x0)), .sl a0.next.length (a0.next.map fun x0 => .sl x0.length (x0.map fun x1 => .sc (.int .i64 x1)))]] = some (.sc (.int .i64 r), [.dead]) := by
  simp only [z8N] at h0
  refine z2S zv3 zwn (z1w zy3 ⟨of_decide_eq_true rfl, of_decide_eq_true rfl⟩ ?_)
  simp only [z1E, z1A, z1y, z1G, z3i]
  refine zq rfl (zr rfl rfl rfl (by simp; rfl) ?_)
  refine z0a (zq rfl (zq rfl ?_))
  obtain ⟨v2, f4, h1⟩ := z0h h0
  have f4k := zc8 f4
  try simp at f4k
  refine zr rfl rfl rfl (by simp [f4k]; rfl) ?_
  refine z0a (zq rfl (zr rfl rfl rfl (by simp; rfl) ?_))
  refine z0a ?_
  by_cases c5 : v2 = 0
  ·rw [if_pos c5] at h1
   have c5e := eq_true c5
   refine z0n rfl (by simp [c5e]) (z0i rfl (z0a (zq rfl (zq rfl (zr rfl rfl rfl (by simp; rfl) ?_)))))
   refine z0a ?_
   by_cases c6 : 12 < (a0.final.length : Int)
   ·rw [if_pos c6] at h1
    refine z0u rfl (by simp [c6]) (zq rfl (zr rfl rfl rfl (by simp; rfl) ?_))
    refine z0a (z1t rfl (z1b ?_))
    cases h1
    simp
   ·rw [if_neg c6] at h1
    refine z0n rfl (by simp [c6]) (z0i rfl (z0a (zq rfl (zr rfl rfl rfl (by simp; rfl) ?_))))
    refine z0a (z1t rfl ?_)
    cases h1
    simp
  ·rw [if_neg c5] at h1
   have c5e := eq_false c5
   refine z0u rfl (by simp [c5e]) (zq rfl (zr rfl rfl rfl (by simp; rfl) ?_))
   refine z0a (z1t rfl (z1b ?_))
   cases h1
   simp
def z8O (a0 : DFA) : Option (Int) :=
  chk (¬ (IntKind.u64.wrap (a0.final.length : Int)) < 0) <|
  some (IntKind.i64.wrap ((zg6 .i64 1 (IntKind.u64.wrap (a0.final.length : Int))) - 1))
theorem zhP {a0 : DFA} {r : Int} (h0 : z8O a0 = some r) : L 71 [.agg [.sc (.int .i64 a0.letters), .sc (.int .i64 a0.start), .sl a0.final.length (a0.final.map fun x0 => .sc (.bool x0)), .sl a0.next.length (a0.next.map fun x0 => .sl x0.length (x0.map fun x1 => .sc (.int .i64 x1)))]] = some (.sc (.int .i64 r), [.dead]) := by
  simp only [z8O] at h0
  refine z2S zuy zvT (z1w zxz ⟨of_decide_eq_true rfl, of_decide_eq_true rfl⟩ ?_)
  simp only [z1E, z1A, z1y, z1G, z3i]
  refine zq rfl (zr rfl rfl rfl (by simp; rfl) ?_)
  refine z0a (zq rfl ?_)
  obtain ⟨f2, h1⟩ := z1H h0
  refine zr rfl rfl rfl (by simp [f2]; rfl) ?_
  refine z0a (z1t rfl ?_)
  cases h1
  simp
def z5c (a0 : DFA) (a1 : Int) (a2 : Int) : Int × Int → Option ((Int × Int) ⊕ Int)
  | (w11, w12) =>
  if w12 < (a0.final.length : Int) then
    chk (¬ (IntKind.u64.wrap w12) < 0) <|
    if (z2o .i64 (z1a .i64 a1 (IntKind.u64.wrap w12)) 1) = 1 then
      (atI a0.next w12).bind fun v15 =>
      (atI v15 a2).bind fun v16 =>
      chk (¬ (IntKind.u64.wrap v16) < 0) <|
      z0B (orI .i64 w11 (zg6 .i64 1 (IntKind.u64.wrap v16)), IntKind.i64.wrap (w12 + 1))
    else
      z0B (w11, IntKind.i64.wrap (w12 + 1))
  else
    z1l <|
    some w11
def z4g (a0 : DFA) (a1 : Int) (a2 : Int) : Int × Int → Fr
  | (w11, w12) => ⟨35, [(1, .one (.t none (.sc (.int .i64 a1)))), (2, .one (.t none (.sc (.int .i64 a2)))), (3, .one (.a 3 [] (0))), (7, .one (.t none (.sc (.int .i64 w11)))), (11, .one (.t none (.sc (.int .i64 (a0.final.length : Int))))), (12, .one (.t none (.sc (.int .i64 w12))))], [(3, .vr [.sc (.int .i64 a0.letters), .sc (.int .i64 a0.start), .sl a0.final.length (a0.final.map fun x0 => .sc (.bool x0)), .sl a0.next.length (a0.next.map fun x0 => .sl x0.length (x0.map fun x1 => .sc (.int .i64 x1)))])]⟩
def z6c (a0 : DFA) (a1 : Int) (a2 : Int) : Option (Int) :=
  z0W (z5c a0 a1 a2) LFm (0, 0)
theorem zdY {a0 : DFA} {a1 : Int} {a2 : Int} {r : Int} (h0 : z6c a0 a1 a2 = some r) : L 73 [.agg [.sc (.int .i64 a0.letters), .sc (.int .i64 a0.start), .sl a0.final.length (a0.final.map fun x0 => .sc (.bool x0)), .sl a0.next.length (a0.next.map fun x0 => .sl x0.length (x0.map fun x1 => .sc (.int .i64 x1)))], .sc (.int .i64 a1), .sc (.int .i64 a2)] = some (.sc (.int .i64 r), [.dead, .dead, .dead]) := by
  simp only [z6c] at h0
  refine z2S zuw zvR (z1w zxx ⟨of_decide_eq_true rfl, of_decide_eq_true rfl⟩ ?_)
  simp only [z1E, z1A, z1y, z1G, z3i]
  refine zq rfl (zr rfl rfl rfl (by simp; rfl) ?_)
  refine z0a (zq rfl (zr rfl rfl rfl (by simp; rfl) ?_))
  refine z0a (zq rfl (zq rfl (zr rfl rfl rfl (by simp; rfl) ?_)))
  refine z0a (zb rfl (z0C h0 (z4g a0 a1 a2) rfl rfl (by simp [z4g]) fun s o1 h1 hr1 => ?_))
  obtain ⟨w11, w12⟩ := s
  simp only [z5c] at h1
  simp only [z4g]
  refine zq rfl (zr rfl rfl rfl (by simp; rfl) ?_)
  refine z0a (zq rfl ?_)
  by_cases c31 : w12 < (a0.final.length : Int)
  ·rw [if_pos c31] at h1
   refine z0u rfl (by simp [c31]) (z0i rfl (z0a (zq rfl (zb rfl (zq rfl (zr rfl rfl rfl (by simp; rfl) ?_))))))
   refine z0a (zq rfl ?_)
   obtain ⟨f32, h2⟩ := z1H h1
   refine zr rfl rfl rfl (by simp [f32]; rfl) ?_
   refine z0a ?_
   by_cases c33 : (z2o .i64 (z1a .i64 a1 (IntKind.u64.wrap w12)) 1) = 1
   ·rw [if_pos c33] at h2
    have c33e := eq_true c33
    refine z0u rfl (by simp [c33e]) ?_
    obtain ⟨v15, f34, h3⟩ := z0R h2
    obtain ⟨v16, f35, h4⟩ := z0R h3
    obtain ⟨f36, h5⟩ := z1H h4
    refine zr rfl rfl rfl (by simp [f34, f35, f36]; rfl) ?_
    refine z0g (z0a (zr rfl rfl rfl (by simp; rfl) ?_))
    have ho := z0d h5
    refine z0f ho ?_
    simp [z4g]
   ·rw [if_neg c33] at h2
    have c33e := eq_false c33
    refine z0n rfl (by simp [c33e]) (z0i rfl (z0g (z0a (zr rfl rfl rfl (by simp; rfl) ?_))))
    have ho := z0d h2
    refine z0f ho ?_
    simp [z4g]
  ·rw [if_neg c31] at h1
   refine z0n rfl (by simp [c31]) (z0V rfl (z0v ?_))
   obtain ⟨rr1, h2, ho1⟩ := z0j h1
   have hs1 := hr1 _ ho1
   subst hs1
   refine z0m ho1 (z0e rfl (z0a (zq rfl (zr rfl rfl rfl (by simp; rfl) ?_))))
   refine z0a (z1t rfl ?_)
   cases h2
   simp
def z5H (a0 : DFA) (a1 : Int) (a2 : Int) : Int × Int → Option ((Int × Int) ⊕ Int)
  | (w11, w12) =>
  if w12 < (a0.next.length : Int) then
    (atI a0.next w12).bind fun v15 =>
    chk (¬ w12 < 0) <|
    if (z2o .i64 (z1a .i64 a1 w12) 1) = 1 then
      (atI v15 a2).bind fun v16 =>
      chk (¬ v16 < 0) <|
      z0B (orI .i64 w11 (zg6 .i64 1 v16), IntKind.i64.wrap (w12 + 1))
    else
      z0B (w11, IntKind.i64.wrap (w12 + 1))
  else
    z1l <|
    some w11
def z4K (a0 : DFA) (a1 : Int) (a2 : Int) : Int × Int → Fr
  | (w11, w12) => ⟨32, [(1, .one (.t none (.sc (.int .i64 a1)))), (2, .one (.t none (.sc (.int .i64 a2)))), (7, .one (.t none (.sc (.int .i64 w11)))), (11, .one (.t none (.sl a0.next.length (a0.next.map fun x0 => .sl x0.length (x0.map fun x1 => .sc (.int .i64 x1)))))), (12, .one (.t none (.sc (.int .i64 (a0.next.length : Int))))), (13, .one (.t none (.sc (.int .i64 w12))))], []⟩
def z5t (a0 : DFA) (a1 : Int) (a2 : Int) : Option (Int) :=
  z0W (z5H a0 a1 a2) LFm (0, 0)
theorem z9Y {a0 : DFA} {a1 : Int} {a2 : Int} {r : Int} (h0 : z5t a0 a1 a2 = some r) : L 51 [.agg [.sc (.int .i64 a0.letters), .sc (.int .i64 a0.start), .sl a0.final.length (a0.final.map fun x0 => .sc (.bool x0)), .sl a0.next.length (a0.next.map fun x0 => .sl x0.length (x0.map fun x1 => .sc (.int .i64 x1)))], .sc (.int .i64 a1), .sc (.int .i64 a2)] = some (.sc (.int .i64 r), [.dead, .dead, .dead]) := by
  simp only [z5t] at h0
  refine z2S zuK zw5 (z1w zxL ⟨of_decide_eq_true rfl, of_decide_eq_true rfl⟩ ?_)
  simp only [z1E, z1A, z1y, z1G, z3i]
  refine zq rfl (zr rfl rfl rfl (by simp; rfl) ?_)
  refine z0a (zq rfl (zr rfl rfl rfl (by simp; rfl) ?_))
  refine z0a (zq rfl (zq rfl (zr rfl rfl rfl (by simp; rfl) ?_)))
  refine z0a (zb rfl (z0C h0 (z4K a0 a1 a2) rfl rfl (by simp [z4K]) fun s o1 h1 hr1 => ?_))
  obtain ⟨w11, w12⟩ := s
  simp only [z5H] at h1
  simp only [z4K]
  refine zq rfl (zr rfl rfl rfl (by simp; rfl) ?_)
  refine z0a (zq rfl ?_)
  by_cases c29 : w12 < (a0.next.length : Int)
  ·rw [if_pos c29] at h1
   refine z0u rfl (by simp [c29]) (z0i rfl (z0a (zq rfl (zb rfl (zq rfl ?_)))))
   obtain ⟨v15, f30, h2⟩ := z0R h1
   refine zr rfl rfl rfl (by simp [f30]; rfl) ?_
   refine z0a (zq rfl ?_)
   obtain ⟨f31, h3⟩ := z1H h2
   refine zr rfl rfl rfl (by simp [f31]; rfl) ?_
   refine z0a ?_
   by_cases c32 : (z2o .i64 (z1a .i64 a1 w12) 1) = 1
   ·rw [if_pos c32] at h3
    have c32e := eq_true c32
    refine z0u rfl (by simp [c32e]) ?_
    obtain ⟨v16, f33, h4⟩ := z0R h3
    obtain ⟨f34, h5⟩ := z1H h4
    refine zr rfl rfl rfl (by simp [f33, f34]; rfl) ?_
    refine z0g (z0a (zr rfl rfl rfl (by simp; rfl) ?_))
    have ho := z0d h5
    refine z0f ho ?_
    simp [z4K]
   ·rw [if_neg c32] at h3
    have c32e := eq_false c32
    refine z0n rfl (by simp [c32e]) (z0i rfl (z0g (z0a (zr rfl rfl rfl (by simp; rfl) ?_))))
    have ho := z0d h3
    refine z0f ho ?_
    simp [z4K]
  ·rw [if_neg c29] at h1
   refine z0n rfl (by simp [c29]) (z0V rfl (z0v ?_))
   obtain ⟨rr1, h2, ho1⟩ := z0j h1
   have hs1 := hr1 _ ho1
   subst hs1
   refine z0m ho1 (z0e rfl (z0a (zq rfl (zr rfl rfl rfl (by simp; rfl) ?_))))
   refine z0a (z1t rfl ?_)
   cases h2
   simp
def z3e (a0 : Int) (a1 : Int) : Option (Bool) :=
  some (decide ((zgC .i64 a1 a0) = 0))
theorem z5f {a0 : Int} {a1 : Int} {r : Bool} (h0 : z3e a0 a1 = some r) : L 58 [.sc (.int .i64 a0), .sc (.int .i64 a1)] = some (.sc (.bool r), [.dead, .dead]) := by
  simp only [z3e] at h0
  refine z2S zuI zw3 (z1w zxJ ⟨of_decide_eq_true rfl, of_decide_eq_true rfl⟩ ?_)
  simp only [z1E, z1A, z1y, z1G, z3i]
  refine zq rfl (zr rfl rfl rfl (by simp; rfl) ?_)
  refine z0a (zq rfl (zr rfl rfl rfl (by simp; rfl) ?_))
  refine z0a (z1t rfl ?_)
  cases h0
  simp
def z4k (a0 : DFA) (w77 : Int) : Int × List Bool × List Int × List ByteArray → Option ((Int × List Bool × List Int × List ByteArray) ⊕ ((Int × List Bool × List Int × List ByteArray) ⊕ (List Int × List ByteArray)))
  | (w105, w106, w107, w108) =>
  if w105 < a0.letters then
    (atI w107 w77).bind fun v114 =>
    (z5t a0 v114 w105).bind fun v115 =>
    (atI w106 v115).bind fun v116 =>
    if v116 = true then
      z0B (IntKind.i64.wrap (w105 + 1), w106, w107, w108)
    else
      chk (z2Z 8 (w107.length + 1)) <|
      (atI w108 w77).bind fun v118 =>
      chk (z9S v118 ⟨#[UInt8.ofNat (IntKind.u8.wrap (IntKind.i64.wrap (97 + w105))).toNat]⟩) <|
      chk (z2Z 16 (w108.length + 1)) <|
      z0B (IntKind.i64.wrap (w105 + 1), (w106.set v115.toNat true), w107 ++ [v115], w108 ++ [v118 ++ ⟨#[UInt8.ofNat (IntKind.u8.wrap (IntKind.i64.wrap (97 + w105))).toNat]⟩])
  else
    z1l <|
    z0B (IntKind.i64.wrap (w77 + 1), w106, w107, w108)
def z4j (a0 : DFA) (w77 : Int) : Int × List Bool × List Int × List ByteArray → Fr
  | (w105, w106, w107, w108) => ⟨69, [(2, .one (.a 2 [] (0))), (6, .one (.h 6 [])), (7, .one (.h 7 [])), (8, .one (.h 8 [])), (9, .one (.t none (.sc (.int .i64 w77)))), (30, .one (.t none (.sc (.int .i64 a0.letters)))), (31, .one (.t none (.sc (.int .i64 w105))))], [(2, .vr [.sc (.int .i64 a0.letters), .sc (.int .i64 a0.start), .sl a0.final.length (a0.final.map fun x0 => .sc (.bool x0)), .sl a0.next.length (a0.next.map fun x0 => .sl x0.length (x0.map fun x1 => .sc (.int .i64 x1)))]), (6, .os 1 w106.length (w106.map fun x0 => .sc (.bool x0))), (7, .os 1 w107.length (w107.map fun x0 => .sc (.int .i64 x0))), (8, .os 1 w108.length (w108.map fun x0 => .sc (.string x0)))]⟩
def z6Y (a0 : DFA) : Int × List Bool × List Int × List ByteArray → Option ((Int × List Bool × List Int × List ByteArray) ⊕ (List Int × List ByteArray))
  | (w77, w78, w79, w80) =>
  if w77 < (w79.length : Int) then
    z0W (z4k a0 w77) LFm (0, w78, w79, w80)
  else
    z1l <|
    some (w79, w80)
def z5e (a0 : DFA) : Int × List Bool × List Int × List ByteArray → Fr
  | (w77, w78, w79, w80) => ⟨69, [(2, .one (.a 2 [] (0))), (6, .one (.h 6 [])), (7, .one (.h 7 [])), (8, .one (.h 8 [])), (9, .one (.t none (.sc (.int .i64 w77))))], [(2, .vr [.sc (.int .i64 a0.letters), .sc (.int .i64 a0.start), .sl a0.final.length (a0.final.map fun x0 => .sc (.bool x0)), .sl a0.next.length (a0.next.map fun x0 => .sl x0.length (x0.map fun x1 => .sc (.int .i64 x1)))]), (6, .os 1 w78.length (w78.map fun x0 => .sc (.bool x0))), (7, .os 1 w79.length (w79.map fun x0 => .sc (.int .i64 x0))), (8, .os 1 w80.length (w80.map fun x0 => .sc (.string x0)))]⟩
def z6f (a0 : DFA) (a1 : Int) : Option (List Int × List ByteArray) :=
  chk (¬ (a0.final.length : Int) < 0) <|
  chk (z1Y 1 (zg6 .i64 1 (a0.final.length : Int))) <|
  chk (0 ≤ a1 ∧ a1 < (zg6 .i64 1 (a0.final.length : Int))) <|
  z0W (z6Y a0) LFm (0, ((List.replicate (zg6 .i64 1 (a0.final.length : Int)).toNat (false : Bool)).set a1.toNat true), [a1], [ByteArray.empty])
theorem zee {a0 : DFA} {a1 : Int} {r : List Int × List ByteArray} (h0 : z6f a0 a1 = some r) : L 57 [.agg [.sc (.int .i64 a0.letters), .sc (.int .i64 a0.start), .sl a0.final.length (a0.final.map fun x0 => .sc (.bool x0)), .sl a0.next.length (a0.next.map fun x0 => .sl x0.length (x0.map fun x1 => .sc (.int .i64 x1)))], .sc (.int .i64 a1)] = some (.tup [.os 1 r.1.length (r.1.map fun x0 => .sc (.int .i64 x0)), .os 1 r.2.length (r.2.map fun x0 => .sc (.string x0))], [.dead, .dead]) := by
  simp only [z6f] at h0
  refine z2S zuJ zw4 (z1w zxK ⟨of_decide_eq_true rfl, of_decide_eq_true rfl⟩ ?_)
  simp only [z1E, z1A, z1y, z1G, z3i]
  refine zq rfl (zr rfl rfl rfl (by simp; rfl) ?_)
  refine z0a (zq rfl ?_)
  obtain ⟨f84, h1⟩ := z1H h0
  obtain ⟨f85, h2⟩ := zst h1
  refine zr rfl rfl rfl (by simp [f84, f85]; rfl) ?_
  refine z0a (zq rfl ?_)
  obtain ⟨f86, h3⟩ := z1H h2
  obtain ⟨f86a, f86b⟩ := f86
  have f86c : a1.toNat < (zg6 .i64 1 (a0.final.length : Int)).toNat := by omega
  have f86d : a1.toNat + 1 ≤ (zg6 .i64 1 (a0.final.length : Int)).toNat := by omega
  refine zr rfl rfl rfl (by simp [f85, f86a, f86b, f86c, f86d]; rfl) ?_
  refine z0a (zq rfl (zr rfl rfl rfl (by simp; rfl) ?_))
  refine z0a (zq rfl (zq rfl (zr rfl rfl rfl (by simp; rfl) ?_)))
  refine z0a (zb rfl (z0C h3 (z5e a0) rfl rfl (by simp [z5e]) fun s o1 h4 hr1 => ?_))
  obtain ⟨w77, w78, w79, w80⟩ := s
  simp only [z6Y] at h4
  simp only [z5e]
  refine zq rfl (zq rfl (zr rfl rfl rfl (by simp; rfl) ?_))
  refine z0a ?_
  by_cases c139 : w77 < (w79.length : Int)
  ·rw [if_pos c139] at h4
   refine z0u rfl (by simp [c139]) (z0i rfl (z0a (zq rfl (zb rfl (zq rfl (zr rfl rfl rfl (by simp; rfl) ?_))))))
   refine z0a (zb rfl (z0C h4 (z4j a0 w77) rfl rfl (by simp [z4j]) fun s o2 h5 hr2 => ?_))
   obtain ⟨w105, w106, w107, w108⟩ := s
   simp only [z4k] at h5
   simp only [z4j]
   refine zq rfl (zr rfl rfl rfl (by simp; rfl) ?_)
   refine z0a (zq rfl ?_)
   by_cases c158 : w105 < a0.letters
   ·rw [if_pos c158] at h5
    refine z0u rfl (by simp [c158]) (z0i rfl (z0a (zq rfl (zb rfl (zq rfl (zr rfl rfl rfl (by simp; rfl) ?_))))))
    refine z0a (zq rfl ?_)
    obtain ⟨v114, f159, h6⟩ := z0R h5
    obtain ⟨v115, f160, h7⟩ := z0h h6
    have f160k := z9Y f160
    try simp at f160k
    refine z1s rfl rfl rfl rfl ?_; repeat' ((first | refine z0z rfl rfl fun Q' hQ => ?_ | refine z0q rfl fun Q' hQ => ?_); simp [f159, f160k]; refine hQ.out _ ?_; clear hQ; clear Q')
    refine z0a (zq rfl ?_)
    obtain ⟨v116, f161, h8⟩ := z0R h7
    refine zr rfl rfl rfl (by simp [f161]; rfl) ?_
    refine z0a ?_
    by_cases c162 : v116 = true
    ·rw [if_pos c162] at h8
     refine z0n rfl (by simp [c162]) (z0i rfl (z0g (z0a (zr rfl rfl rfl (by simp; rfl) ?_))))
     have ho := z0d h8
     refine z0f ho ?_
     simp [z4j, c162]
    ·rw [if_neg c162] at h8
     refine z0u rfl (by simp [c162]) (zq rfl (zr rfl rfl rfl (by simp [f161]; rfl) ?_))
     refine z0a (zq rfl ?_)
     obtain ⟨f163, h9⟩ := z7I h8
     refine zr rfl rfl rfl (by simp [f163]; rfl) ?_
     refine z0a ?_
     obtain ⟨v118, f164, h10⟩ := z0R h9
     obtain ⟨f165, h11⟩ := z1H h10
     obtain ⟨f166, h12⟩ := z7I h11
     refine z1s rfl rfl rfl rfl ?_; repeat' ((first | refine z0z rfl rfl fun Q' hQ => ?_ | refine z0q rfl fun Q' hQ => ?_); simp [f164, f165, f166]; refine hQ.out _ ?_; clear hQ; clear Q')
     refine z0g (z0a (zr rfl rfl rfl (by simp; rfl) ?_))
     have ho := z0d h12
     refine z0f ho ?_
     simp [z4j, c162]
   ·rw [if_neg c158] at h5
    refine z0n rfl (by simp [c158]) (z0V rfl (z0v ?_))
    obtain ⟨rr2, h6, ho2⟩ := z0j h5
    have hs2 := hr2 _ ho2
    subst hs2
    refine z0m ho2 (z0e rfl (z0g (z0a (zr rfl rfl rfl (by simp; rfl) ?_))))
    have ho := z0d h6
    refine z0f ho ?_
    simp [z5e]
  ·rw [if_neg c139] at h4
   refine z0n rfl (by simp [c139]) (z0V rfl (z0v ?_))
   obtain ⟨rr1, h5, ho1⟩ := z0j h4
   have hs1 := hr1 _ ho1
   subst hs1
   refine z0m ho1 (z0e rfl (z0a (zq rfl (zr rfl rfl rfl (by simp; rfl) ?_))))
   refine z0a (z1t rfl ?_)
   cases h5
   simp
def z4G (a0 : DFA) (w53 : Int) : Int × List Int × List ByteArray × (List (Int × Bool)) → Option ((Int × List Int × List ByteArray × (List (Int × Bool))) ⊕ ((Int × List Int × List ByteArray × (List (Int × Bool))) ⊕ (List Int × List ByteArray)))
  | (w73, w74, w75, w76) =>
  if w73 < a0.letters then
    (atI w74 w53).bind fun v80 =>
    (z6c a0 v80 w73).bind fun v81 =>
    if ((zef v81 w76).getD false) = true then
      z0B (IntKind.i64.wrap (w73 + 1), w74, w75, w76)
    else
      (atI w75 w53).bind fun v82 =>
      chk (z2Z 8 (w74.length + 1)) <|
      chk (z9S v82 ⟨#[UInt8.ofNat (IntKind.u8.wrap (IntKind.i64.wrap (97 + w73))).toNat]⟩) <|
      chk (z2Z 16 (w75.length + 1)) <|
      z0B (IntKind.i64.wrap (w73 + 1), w74 ++ [v81], w75 ++ [v82 ++ ⟨#[UInt8.ofNat (IntKind.u8.wrap (IntKind.i64.wrap (97 + w73))).toNat]⟩], zg7 v81 true w76)
  else
    z1l <|
    z0B (IntKind.i64.wrap (w53 + 1), w74, w75, w76)
def z4F (a0 : DFA) (w53 : Int) : Int × List Int × List ByteArray × (List (Int × Bool)) → Fr
  | (w73, w74, w75, w76) => ⟨62, [(2, .one (.a 2 [] (0))), (6, .one (.h 6 [])), (7, .one (.h 7 [])), (8, .one (.h 8 [])), (9, .one (.t none (.sc (.int .i64 w53)))), (10, .one (.t none (.sc (.int .i64 w73))))], [(2, .vr [.sc (.int .i64 a0.letters), .sc (.int .i64 a0.start), .sl a0.final.length (a0.final.map fun x0 => .sc (.bool x0)), .sl a0.next.length (a0.next.map fun x0 => .sl x0.length (x0.map fun x1 => .sc (.int .i64 x1)))]), (6, .os 1 w74.length (w74.map fun x0 => .sc (.int .i64 x0))), (7, .os 1 w75.length (w75.map fun x0 => .sc (.string x0))), (8, .mp (some .i64) (w76.map fun x0 => (.int .i64 x0.1, .bool x0.2)))]⟩
def z7z (a0 : DFA) : Int × List Int × List ByteArray × (List (Int × Bool)) → Option ((Int × List Int × List ByteArray × (List (Int × Bool))) ⊕ (List Int × List ByteArray))
  | (w53, w54, w55, w56) =>
  if w53 < (w54.length : Int) then
    z0W (z4G a0 w53) LFm (0, w54, w55, w56)
  else
    z1l <|
    some (w54, w55)
def z5F (a0 : DFA) : Int × List Int × List ByteArray × (List (Int × Bool)) → Fr
  | (w53, w54, w55, w56) => ⟨62, [(2, .one (.a 2 [] (0))), (6, .one (.h 6 [])), (7, .one (.h 7 [])), (8, .one (.h 8 [])), (9, .one (.t none (.sc (.int .i64 w53))))], [(2, .vr [.sc (.int .i64 a0.letters), .sc (.int .i64 a0.start), .sl a0.final.length (a0.final.map fun x0 => .sc (.bool x0)), .sl a0.next.length (a0.next.map fun x0 => .sl x0.length (x0.map fun x1 => .sc (.int .i64 x1)))]), (6, .os 1 w54.length (w54.map fun x0 => .sc (.int .i64 x0))), (7, .os 1 w55.length (w55.map fun x0 => .sc (.string x0))), (8, .mp (some .i64) (w56.map fun x0 => (.int .i64 x0.1, .bool x0.2)))]⟩
def z4e (a0 : DFA) (a1 : Int) : Option (List Int × List ByteArray) :=
  z0W (z7z a0) LFm (0, [a1], [ByteArray.empty], zg7 a1 true ([] : List (Int × Bool)))
theorem z5E {a0 : DFA} {a1 : Int} {r : List Int × List ByteArray} (h0 : z4e a0 a1 = some r) : L 43 [.agg [.sc (.int .i64 a0.letters), .sc (.int .i64 a0.start), .sl a0.final.length (a0.final.map fun x0 => .sc (.bool x0)), .sl a0.next.length (a0.next.map fun x0 => .sl x0.length (x0.map fun x1 => .sc (.int .i64 x1)))], .sc (.int .i64 a1)] = some (.tup [.os 1 r.1.length (r.1.map fun x0 => .sc (.int .i64 x0)), .os 1 r.2.length (r.2.map fun x0 => .sc (.string x0))], [.dead, .dead]) := by
  simp only [z4e] at h0
  refine z2S zuP zwa (z1w zxQ ⟨of_decide_eq_true rfl, of_decide_eq_true rfl⟩ ?_)
  simp only [z1E, z1A, z1y, z1G, z3i]
  refine zq rfl (zr rfl rfl rfl (by simp; rfl) ?_)
  refine z0a (zq rfl (zr rfl rfl rfl (by simp; rfl) ?_))
  refine z0a (zq rfl (zr rfl rfl rfl (by simp; rfl) ?_))
  refine z0a (zq rfl (zq rfl (zr rfl rfl rfl (by simp; rfl) ?_)))
  refine z0a (zb rfl (z0C h0 (z5F a0) rfl rfl (by simp [z5F]) fun s o1 h1 hr1 => ?_))
  obtain ⟨w53, w54, w55, w56⟩ := s
  simp only [z7z] at h1
  simp only [z5F]
  refine zq rfl (zq rfl (zr rfl rfl rfl (by simp; rfl) ?_))
  refine z0a ?_
  by_cases c118 : w53 < (w54.length : Int)
  ·rw [if_pos c118] at h1
   refine z0u rfl (by simp [c118]) (z0i rfl (z0a (zq rfl (zb rfl (zq rfl (zr rfl rfl rfl (by simp; rfl) ?_))))))
   refine z0a (zb rfl (z0C h1 (z4F a0 w53) rfl rfl (by simp [z4F]) fun s o2 h2 hr2 => ?_))
   obtain ⟨w73, w74, w75, w76⟩ := s
   simp only [z4G] at h2
   simp only [z4F]
   refine zq rfl (zq rfl (zr rfl rfl rfl (by simp; rfl) ?_))
   refine z0a ?_
   by_cases c135 : w73 < a0.letters
   ·rw [if_pos c135] at h2
    refine z0u rfl (by simp [c135]) (z0i rfl (z0a (zq rfl (zb rfl (zq rfl ?_)))))
    obtain ⟨v80, f136, h3⟩ := z0R h2
    obtain ⟨v81, f137, h4⟩ := z0h h3
    have f137k := zdY f137
    try simp at f137k
    refine z1s rfl rfl rfl rfl ?_; repeat' ((first | refine z0z rfl rfl fun Q' hQ => ?_ | refine z0q rfl fun Q' hQ => ?_); simp [f136, f137k]; refine hQ.out _ ?_; clear hQ; clear Q')
    refine z0a (zq rfl (zr rfl rfl rfl (by simp; rfl) ?_))
    refine z0a ?_
    by_cases c138 : ((zef v81 w76).getD false) = true
    ·rw [if_pos c138] at h4
     refine z0n rfl (by simp [c138]) (z0i rfl (z0g (z0a (zr rfl rfl rfl (by simp; rfl) ?_))))
     have ho := z0d h4
     refine z0f ho ?_
     simp [z4F, c138]
    ·rw [if_neg c138] at h4
     refine z0u rfl (by simp [c138]) (zq rfl (zr rfl rfl rfl (by simp; rfl) ?_))
     refine z0a ?_
     obtain ⟨v82, f139, h5⟩ := z0R h4
     obtain ⟨f140, h6⟩ := z7I h5
     obtain ⟨f141, h7⟩ := z1H h6
     obtain ⟨f142, h8⟩ := z7I h7
     refine zfL rfl rfl rfl rfl ?_
     refine z1I rfl rfl (by simp [z0c, z0b, f139, f140, f141, f142]; rfl) ?_
     refine z1I rfl rfl (by simp [z0c, z0b, f139, f140, f141, f142]; rfl) ?_
     refine z1I rfl rfl (by simp [z0c, z0b, f139, f140, f141, f142]; rfl) ?_
     refine z1I rfl rfl (by simp [z0c, z0b, f139, f140, f141, f142]; rfl) ?_
     refine z1I rfl rfl (by simp [z0c, z0b, f139, f140, f141, f142]; rfl) ?_
     refine z1I rfl rfl (by simp [z0c, z0b, f139, f140, f141, f142]; rfl) ?_
     refine z1I rfl rfl (by simp [z0c, z0b, f139, f140, f141, f142]; rfl) ?_
     refine z1I rfl rfl (by simp [z0c, z0b, f139, f140, f141, f142]; rfl) ?_
     refine z1I rfl rfl (by simp [z0c, z0b, f139, f140, f141, f142]; rfl) ?_
     refine z1I rfl rfl (by simp [z0c, z0b, f139, f140, f141, f142]; rfl) ?_
     refine z7y ?_
     refine z1I rfl rfl (by simp [z0c, z0b, f139, f140, f141, f142]; rfl) ?_
     refine z7y ?_
     refine z1I rfl rfl (by simp [z0c, z0b, f139, f140, f141, f142]; rfl) ?_
     refine z1I rfl rfl (by simp [z0c, z0b, f139, f140, f141, f142]; rfl) ?_
     refine z1I rfl rfl (by simp [z0c, z0b, f139, f140, f141, f142]; rfl) ?_
     refine z1I rfl rfl (by simp [z0c, z0b, f139, f140, f141, f142]; rfl) ?_
     refine z1I rfl rfl (by simp [z0c, z0b, f139, f140, f141, f142]; rfl) ?_
     refine z1I rfl rfl (by simp [z0c, z0b, f139, f140, f141, f142]; rfl) ?_
     refine z1I rfl rfl (by simp [z0c, z0b, f139, f140, f141, f142]; rfl) ?_
     refine z1I rfl rfl (by simp [z0c, z0b, f139, f140, f141, f142]; rfl) ?_
     refine z8v ?_
     refine ⟨?_, ?_⟩
     ·refine z1I rfl rfl (by simp [z0c, z0b, f139, f140, f141, f142]; rfl) ?_
      refine z1I rfl rfl (by simp [z0c, z0b, f139, f140, f141, f142]; rfl) ?_
      refine z1I rfl rfl (by simp [z0c, z0b, f139, f140, f141, f142]; rfl) ?_
      refine z7y ?_
      refine z1I rfl rfl (by simp [z0c, z0b, f139, f140, f141, f142]; rfl) ?_
      refine z1I rfl rfl (by simp [z0c, z0b, f139, f140, f141, f142]; rfl) ?_
      refine z1I rfl rfl (by simp [z0c, z0b, f139, f140, f141, f142]; rfl) ?_
      refine z1I rfl rfl (by simp [z0c, z0b, f139, f140, f141, f142]; rfl) ?_
      refine z1I rfl rfl (by simp [z0c, z0b, f139, f140, f141, f142]; rfl) ?_
      refine z8v ?_
      refine ⟨?_, ?_⟩
      ·refine z1I rfl rfl (by simp [z0c, z0b, f139, f140, f141, f142]; rfl) ?_
       refine z1I rfl rfl (by simp [z0c, z0b, f139, f140, f141, f142]; rfl) ?_
       refine z1I rfl rfl (by simp [z0c, z0b, f139, f140, f141, f142]; rfl) ?_
       refine z1I rfl rfl (by simp [z0c, z0b, f139, f140, f141, f142]; rfl) ?_
       refine z1I rfl rfl (by simp [z0c, z0b, f139, f140, f141, f142]; rfl) ?_
       refine z8v ?_
       simp [z8A, f139, f140, f141, f142]
      simp [z8A, f139, f140, f141, f142]
     refine ⟨?_, ?_⟩
     ·refine z1I rfl rfl (by simp [z0c, z0b, f139, f140, f141, f142]; rfl) ?_
      refine z1I rfl rfl (by simp [z0c, z0b, f139, f140, f141, f142]; rfl) ?_
      refine z1I rfl rfl (by simp [z0c, z0b, f139, f140, f141, f142]; rfl) ?_
      refine z7y ?_
      refine z1I rfl rfl (by simp [z0c, z0b, f139, f140, f141, f142]; rfl) ?_
      refine z7y ?_
      refine z1I rfl rfl (by simp [z0c, z0b, f139, f140, f141, f142]; rfl) ?_
      refine z1I rfl rfl (by simp [z0c, z0b, f139, f140, f141, f142]; rfl) ?_
      refine z1I rfl rfl (by simp [z0c, z0b, f139, f140, f141, f142]; rfl) ?_
      refine z1I rfl rfl (by simp [z0c, z0b, f139, f140, f141, f142]; rfl) ?_
      refine z1I rfl rfl (by simp [z0c, z0b, f139, f140, f141, f142]; rfl) ?_
      refine z8v ?_
      refine ⟨?_, ?_⟩
      ·refine z1I rfl rfl (by simp [z0c, z0b, f139, f140, f141, f142]; rfl) ?_
       refine z1I rfl rfl (by simp [z0c, z0b, f139, f140, f141, f142]; rfl) ?_
       refine z1I rfl rfl (by simp [z0c, z0b, f139, f140, f141, f142]; rfl) ?_
       refine z1I rfl rfl (by simp [z0c, z0b, f139, f140, f141, f142]; rfl) ?_
       refine z1I rfl rfl (by simp [z0c, z0b, f139, f140, f141, f142]; rfl) ?_
       refine z8v ?_
       simp [z8A, f139, f140, f141, f142]
      refine ⟨?_, ?_⟩
      ·refine z1I rfl rfl (by simp [z0c, z0b, f139, f140, f141, f142]; rfl) ?_
       refine z1I rfl rfl (by simp [z0c, z0b, f139, f140, f141, f142]; rfl) ?_
       refine z1I rfl rfl (by simp [z0c, z0b, f139, f140, f141, f142]; rfl) ?_
       refine z1I rfl rfl (by simp [z0c, z0b, f139, f140, f141, f142]; rfl) ?_
       refine z1I rfl rfl (by simp [z0c, z0b, f139, f140, f141, f142]; rfl) ?_
       refine z1I rfl rfl (by simp [z0c, z0b, f139, f140, f141, f142]; rfl) ?_
       refine z8v ?_
       simp [z8A, f139, f140, f141, f142]
      simp [z8A, f139, f140, f141, f142]
     refine zfC rfl (by simp [f139, f140, f141, f142]; rfl) ?_
     refine z0g (z0a (zr rfl rfl rfl (by simp; rfl) ?_))
     have ho := z0d h8
     refine z0f ho ?_
     simp [z4F, c138]
   ·rw [if_neg c135] at h2
    refine z0n rfl (by simp [c135]) (z0V rfl (z0v ?_))
    obtain ⟨rr2, h3, ho2⟩ := z0j h2
    have hs2 := hr2 _ ho2
    subst hs2
    refine z0m ho2 (z0e rfl (z0g (z0a (zr rfl rfl rfl (by simp; rfl) ?_))))
    have ho := z0d h3
    refine z0f ho ?_
    simp [z5F]
  ·rw [if_neg c118] at h1
   refine z0n rfl (by simp [c118]) (z0V rfl (z0v ?_))
   obtain ⟨rr1, h2, ho1⟩ := z0j h1
   have hs1 := hr1 _ ho1
   subst hs1
   refine z0m ho1 (z0e rfl (z0a (zq rfl (zr rfl rfl rfl (by simp; rfl) ?_))))
   refine z0a (z1t rfl ?_)
   cases h2
   simp
def zaM : Int × Int → Option ((Int × Int) ⊕ Int)
  | (w3, w4) =>
  if 0 < w3 then
    chk (¬ 1 < 0) <|
    z0B (z1a .i64 w3 1, IntKind.i64.wrap (w4 + (z2o .i64 w3 1)))
  else
    z1l <|
    some w4
def z6s : Int × Int → Fr
  | (w3, w4) => ⟨13, [(0, .one (.t none (.sc (.int .i64 w3)))), (3, .one (.t none (.sc (.int .i64 w4))))], []⟩
def z4o (a0 : Int) : Option (Int) :=
  z0W (zaM) LFm (a0, 0)
theorem z4n {a0 : Int} {r : Int} (h0 : z4o a0 = some r) : L 18 [.sc (.int .i64 a0)] = some (.sc (.int .i64 r), [.dead]) := by
  simp only [z4o] at h0
  refine z2S zv5 zwp (z1w zy5 ⟨of_decide_eq_true rfl, of_decide_eq_true rfl⟩ ?_)
  simp only [z1E, z1A, z1y, z1G, z3i]
  refine zq rfl (zr rfl rfl rfl (by simp; rfl) ?_)
  refine z0a (zq rfl (zr rfl rfl rfl (by simp; rfl) ?_))
  refine z0a (zq rfl (zb rfl (z0C h0 z6s rfl rfl (by simp [z6s]) fun s o1 h1 hr1 => ?_)))
  obtain ⟨w3, w4⟩ := s
  simp only [zaM] at h1
  simp only [z6s]
  refine zq rfl (zq rfl (zr rfl rfl rfl (by simp; rfl) ?_))
  refine z0a ?_
  by_cases c11 : 0 < w3
  ·rw [if_pos c11] at h1
   refine z0u rfl (by simp [c11]) (z0i rfl (z0a (zq rfl (zb rfl (zr rfl rfl rfl (by simp; rfl) ?_)))))
   refine z0g (z0a ?_)
   obtain ⟨f12, h2⟩ := z1H h1
   refine zr rfl rfl rfl (by simp [f12]; rfl) ?_
   have ho := z0d h2
   refine z0f ho ?_
   simp [z6s]
  ·rw [if_neg c11] at h1
   refine z0n rfl (by simp [c11]) (z0V rfl (z0v ?_))
   obtain ⟨rr1, h2, ho1⟩ := z0j h1
   have hs1 := hr1 _ ho1
   subst hs1
   refine z0m ho1 (z0e rfl (z0a (zq rfl (zr rfl rfl rfl (by simp; rfl) ?_))))
   refine z0a (z1t rfl ?_)
   cases h2
   simp
def z2L (a0 : Int) : Option (Int) :=
  chk (¬ 1 < 0) <|
  chk (¬ 2 < 0) <|
  chk (¬ 4 < 0) <|
  chk (¬ 8 < 0) <|
  chk (¬ 16 < 0) <|
  chk (¬ 32 < 0) <|
  some (z2o .i64 (IntKind.i64.wrap (IntKind.u64.wrap ((IntKind.u64.wrap ((IntKind.u64.wrap ((z2o .u64 (IntKind.u64.wrap ((z1a .u64 (IntKind.u64.wrap ((z2o .u64 (z1a .u64 (IntKind.u64.wrap ((z2o .u64 (z1a .u64 a0 1) 6148914691236517205) + (z2o .u64 a0 6148914691236517205))) 2) 3689348814741910323) + (z2o .u64 (IntKind.u64.wrap ((z2o .u64 (z1a .u64 a0 1) 6148914691236517205) + (z2o .u64 a0 6148914691236517205))) 3689348814741910323))) 4) + (IntKind.u64.wrap ((z2o .u64 (z1a .u64 (IntKind.u64.wrap ((z2o .u64 (z1a .u64 a0 1) 6148914691236517205) + (z2o .u64 a0 6148914691236517205))) 2) 3689348814741910323) + (z2o .u64 (IntKind.u64.wrap ((z2o .u64 (z1a .u64 a0 1) 6148914691236517205) + (z2o .u64 a0 6148914691236517205))) 3689348814741910323))))) 1085102592571150095) + (z1a .u64 (z2o .u64 (IntKind.u64.wrap ((z1a .u64 (IntKind.u64.wrap ((z2o .u64 (z1a .u64 (IntKind.u64.wrap ((z2o .u64 (z1a .u64 a0 1) 6148914691236517205) + (z2o .u64 a0 6148914691236517205))) 2) 3689348814741910323) + (z2o .u64 (IntKind.u64.wrap ((z2o .u64 (z1a .u64 a0 1) 6148914691236517205) + (z2o .u64 a0 6148914691236517205))) 3689348814741910323))) 4) + (IntKind.u64.wrap ((z2o .u64 (z1a .u64 (IntKind.u64.wrap ((z2o .u64 (z1a .u64 a0 1) 6148914691236517205) + (z2o .u64 a0 6148914691236517205))) 2) 3689348814741910323) + (z2o .u64 (IntKind.u64.wrap ((z2o .u64 (z1a .u64 a0 1) 6148914691236517205) + (z2o .u64 a0 6148914691236517205))) 3689348814741910323))))) 1085102592571150095) 8))) + (z1a .u64 (IntKind.u64.wrap ((z2o .u64 (IntKind.u64.wrap ((z1a .u64 (IntKind.u64.wrap ((z2o .u64 (z1a .u64 (IntKind.u64.wrap ((z2o .u64 (z1a .u64 a0 1) 6148914691236517205) + (z2o .u64 a0 6148914691236517205))) 2) 3689348814741910323) + (z2o .u64 (IntKind.u64.wrap ((z2o .u64 (z1a .u64 a0 1) 6148914691236517205) + (z2o .u64 a0 6148914691236517205))) 3689348814741910323))) 4) + (IntKind.u64.wrap ((z2o .u64 (z1a .u64 (IntKind.u64.wrap ((z2o .u64 (z1a .u64 a0 1) 6148914691236517205) + (z2o .u64 a0 6148914691236517205))) 2) 3689348814741910323) + (z2o .u64 (IntKind.u64.wrap ((z2o .u64 (z1a .u64 a0 1) 6148914691236517205) + (z2o .u64 a0 6148914691236517205))) 3689348814741910323))))) 1085102592571150095) + (z1a .u64 (z2o .u64 (IntKind.u64.wrap ((z1a .u64 (IntKind.u64.wrap ((z2o .u64 (z1a .u64 (IntKind.u64.wrap ((z2o .u64 (z1a .u64 a0 1) 6148914691236517205) + (z2o .u64 a0 6148914691236517205))) 2) 3689348814741910323) + (z2o .u64 (IntKind.u64.wrap ((z2o .u64 (z1a .u64 a0 1) 6148914691236517205) + (z2o .u64 a0 6148914691236517205))) 3689348814741910323))) 4) + (IntKind.u64.wrap ((z2o .u64 (z1a .u64 (IntKind.u64.wrap ((z2o .u64 (z1a .u64 a0 1) 6148914691236517205) + (z2o .u64 a0 6148914691236517205))) 2) 3689348814741910323) + (z2o .u64 (IntKind.u64.wrap ((z2o .u64 (z1a .u64 a0 1) 6148914691236517205) + (z2o .u64 a0 6148914691236517205))) 3689348814741910323))))) 1085102592571150095) 8))) 16))) + (z1a .u64 (IntKind.u64.wrap ((IntKind.u64.wrap ((z2o .u64 (IntKind.u64.wrap ((z1a .u64 (IntKind.u64.wrap ((z2o .u64 (z1a .u64 (IntKind.u64.wrap ((z2o .u64 (z1a .u64 a0 1) 6148914691236517205) + (z2o .u64 a0 6148914691236517205))) 2) 3689348814741910323) + (z2o .u64 (IntKind.u64.wrap ((z2o .u64 (z1a .u64 a0 1) 6148914691236517205) + (z2o .u64 a0 6148914691236517205))) 3689348814741910323))) 4) + (IntKind.u64.wrap ((z2o .u64 (z1a .u64 (IntKind.u64.wrap ((z2o .u64 (z1a .u64 a0 1) 6148914691236517205) + (z2o .u64 a0 6148914691236517205))) 2) 3689348814741910323) + (z2o .u64 (IntKind.u64.wrap ((z2o .u64 (z1a .u64 a0 1) 6148914691236517205) + (z2o .u64 a0 6148914691236517205))) 3689348814741910323))))) 1085102592571150095) + (z1a .u64 (z2o .u64 (IntKind.u64.wrap ((z1a .u64 (IntKind.u64.wrap ((z2o .u64 (z1a .u64 (IntKind.u64.wrap ((z2o .u64 (z1a .u64 a0 1) 6148914691236517205) + (z2o .u64 a0 6148914691236517205))) 2) 3689348814741910323) + (z2o .u64 (IntKind.u64.wrap ((z2o .u64 (z1a .u64 a0 1) 6148914691236517205) + (z2o .u64 a0 6148914691236517205))) 3689348814741910323))) 4) + (IntKind.u64.wrap ((z2o .u64 (z1a .u64 (IntKind.u64.wrap ((z2o .u64 (z1a .u64 a0 1) 6148914691236517205) + (z2o .u64 a0 6148914691236517205))) 2) 3689348814741910323) + (z2o .u64 (IntKind.u64.wrap ((z2o .u64 (z1a .u64 a0 1) 6148914691236517205) + (z2o .u64 a0 6148914691236517205))) 3689348814741910323))))) 1085102592571150095) 8))) + (z1a .u64 (IntKind.u64.wrap ((z2o .u64 (IntKind.u64.wrap ((z1a .u64 (IntKind.u64.wrap ((z2o .u64 (z1a .u64 (IntKind.u64.wrap ((z2o .u64 (z1a .u64 a0 1) 6148914691236517205) + (z2o .u64 a0 6148914691236517205))) 2) 3689348814741910323) + (z2o .u64 (IntKind.u64.wrap ((z2o .u64 (z1a .u64 a0 1) 6148914691236517205) + (z2o .u64 a0 6148914691236517205))) 3689348814741910323))) 4) + (IntKind.u64.wrap ((z2o .u64 (z1a .u64 (IntKind.u64.wrap ((z2o .u64 (z1a .u64 a0 1) 6148914691236517205) + (z2o .u64 a0 6148914691236517205))) 2) 3689348814741910323) + (z2o .u64 (IntKind.u64.wrap ((z2o .u64 (z1a .u64 a0 1) 6148914691236517205) + (z2o .u64 a0 6148914691236517205))) 3689348814741910323))))) 1085102592571150095) + (z1a .u64 (z2o .u64 (IntKind.u64.wrap ((z1a .u64 (IntKind.u64.wrap ((z2o .u64 (z1a .u64 (IntKind.u64.wrap ((z2o .u64 (z1a .u64 a0 1) 6148914691236517205) + (z2o .u64 a0 6148914691236517205))) 2) 3689348814741910323) + (z2o .u64 (IntKind.u64.wrap ((z2o .u64 (z1a .u64 a0 1) 6148914691236517205) + (z2o .u64 a0 6148914691236517205))) 3689348814741910323))) 4) + (IntKind.u64.wrap ((z2o .u64 (z1a .u64 (IntKind.u64.wrap ((z2o .u64 (z1a .u64 a0 1) 6148914691236517205) + (z2o .u64 a0 6148914691236517205))) 2) 3689348814741910323) + (z2o .u64 (IntKind.u64.wrap ((z2o .u64 (z1a .u64 a0 1) 6148914691236517205) + (z2o .u64 a0 6148914691236517205))) 3689348814741910323))))) 1085102592571150095) 8))) 16))) 32)))) 127)
theorem z7W {a0 : Int} {r : Int} (h0 : z2L a0 = some r) : L 91 [.sc (.int .u64 a0)] = some (.sc (.int .i64 r), [.dead]) := by
  simp only [z2L] at h0
  refine z2S zuq zvL (z1w zxr ⟨of_decide_eq_true rfl, of_decide_eq_true rfl⟩ ?_)
  simp only [z1E, z1A, z1y, z1G, z3i]
  refine zq rfl (zr rfl rfl rfl (by simp; rfl) ?_)
  refine z0a (zq rfl ?_)
  obtain ⟨f7, h1⟩ := z1H h0
  refine zr rfl rfl rfl (by simp [f7]; rfl) ?_
  refine z0a (zq rfl ?_)
  obtain ⟨f8, h2⟩ := z1H h1
  refine zr rfl rfl rfl (by simp [f8]; rfl) ?_
  refine z0a (zq rfl ?_)
  obtain ⟨f9, h3⟩ := z1H h2
  refine zr rfl rfl rfl (by simp [f9]; rfl) ?_
  refine z0a (zq rfl ?_)
  obtain ⟨f10, h4⟩ := z1H h3
  refine zr rfl rfl rfl (by simp [f10]; rfl) ?_
  refine z0a (zq rfl ?_)
  obtain ⟨f11, h5⟩ := z1H h4
  refine zr rfl rfl rfl (by simp [f11]; rfl) ?_
  refine z0a (zq rfl ?_)
  obtain ⟨f12, h6⟩ := z1H h5
  refine zr rfl rfl rfl (by simp [f12]; rfl) ?_
  refine z0a (zq rfl (zr rfl rfl rfl (by simp; rfl) ?_))
  refine z0a (z1t rfl ?_)
  cases h6
  simp
def z3S (a0 : Int) : Option (Int) :=
  (z2L a0).bind fun v2 =>
  some v2
theorem z8B {a0 : Int} {r : Int} (h0 : z3S a0 = some r) : L 78 [.sc (.int .u64 a0)] = some (.sc (.int .i64 r), [.dead]) := by
  simp only [z3S] at h0
  refine z2S zut zvO (z1w zxu ⟨of_decide_eq_true rfl, of_decide_eq_true rfl⟩ ?_)
  simp only [z1E, z1A, z1y, z1G, z3i]
  refine zq rfl (zr rfl rfl rfl (by simp; rfl) ?_)
  refine z0a (zq rfl (z0n rfl (by simp) (z0i rfl (z0a (zq rfl ?_)))))
  obtain ⟨v2, f2, h1⟩ := z0h h0
  have f2k := z7W f2
  try simp at f2k
  refine zr rfl rfl rfl (by simp [f2k]; rfl) ?_
  refine z0a (z1t rfl ?_)
  cases h1
  simp
def z5s (a0 : Int) : Option (Int) :=
  (z3S (IntKind.u64.wrap a0)).bind fun v2 =>
  some v2
theorem z9X {a0 : Int} {r : Int} (h0 : z5s a0 = some r) : L 68 [.sc (.int .i64 a0)] = some (.sc (.int .i64 r), [.dead]) := by
  simp only [z5s] at h0
  refine z2S zuB zvW (z1w zxC ⟨of_decide_eq_true rfl, of_decide_eq_true rfl⟩ ?_)
  simp only [z1E, z1A, z1y, z1G, z3i]
  refine zq rfl (zr rfl rfl rfl (by simp; rfl) ?_)
  refine z0a (zq rfl ?_)
  obtain ⟨v2, f2, h1⟩ := z0h h0
  have f2k := z8B f2
  try simp at f2k
  refine zr rfl rfl rfl (by simp [f2k]; rfl) ?_
  refine z0a (z1t rfl ?_)
  cases h1
  simp
end
end Go.Proofs.Ytbnnipkanechoaa
end
section
namespace Go.Proofs.Ytbnnipkanechoaa
open Go
set_option maxRecDepth 100000
theorem zcI {a : Nat} (h : a < 2 ^ 62) : IntKind.i64.wrap (a : Int) = (a : Int) := z2q (by omega) (by omega)
theorem zbh {a b : Nat} (ha : a < 2 ^ 62) (hb : b < 2 ^ 62) : z2o .i64 (a : Int) (b : Int) = ((a &&& b : Nat) : Int) := by
  unfold z2o
  have e : (BitVec.ofInt IntKind.i64.bits (a : Int) &&& BitVec.ofInt IntKind.i64.bits (b : Int)).toNat = a &&& b := by
    show (BitVec.ofInt 64 (a : Int) &&& BitVec.ofInt 64 (b : Int)).toNat = _
    rw [BitVec.toNat_and, BitVec.toNat_ofInt, BitVec.toNat_ofInt]
    have h1 : ((a : Int) % ((2 ^ 64 : Nat) : Int)).toNat = a := by omega
    have h2 : ((b : Int) % ((2 ^ 64 : Nat) : Int)).toNat = b := by omega
    rw [h1, h2]
  rw [e]
  exact zcI (Nat.lt_of_le_of_lt Nat.and_le_left ha)
theorem zrO {a b k : Nat} (ha : a < 2 ^ k) (hb : b < 2 ^ k) : a ||| b < 2 ^ k := Nat.or_lt_two_pow ha hb
theorem znO {a b : Nat} (ha : a < 2 ^ 62) (hb : b < 2 ^ 62) : orI .i64 (a : Int) (b : Int) = ((a ||| b : Nat) : Int) := by
  unfold orI
  have e : (BitVec.ofInt IntKind.i64.bits (a : Int) ||| BitVec.ofInt IntKind.i64.bits (b : Int)).toNat = a ||| b := by
    show (BitVec.ofInt 64 (a : Int) ||| BitVec.ofInt 64 (b : Int)).toNat = _
    rw [BitVec.toNat_or, BitVec.toNat_ofInt, BitVec.toNat_ofInt]
    have h1 : ((a : Int) % ((2 ^ 64 : Nat) : Int)).toNat = a := by omega
    have h2 : ((b : Int) % ((2 ^ 64 : Nat) : Int)).toNat = b := by omega
    rw [h1, h2]
  rw [e]
  exact zcI (zrO ha hb)
theorem zjR {a b : Nat} (ha : a < 2 ^ 62) (hb : b < 2 ^ 62) : zgC .i64 (a : Int) (b : Int) = 0 ↔ a &&& b = a := by
  unfold zgC
  have e : (BitVec.ofInt IntKind.i64.bits (a : Int) &&& ~~~ BitVec.ofInt IntKind.i64.bits (b : Int)).toNat = (BitVec.ofNat 64 a &&& ~~~ BitVec.ofNat 64 b).toNat := by
    show (BitVec.ofInt 64 (a : Int) &&& ~~~ BitVec.ofInt 64 (b : Int)).toNat = _
    congr 2
  rw [e]
  have hle : (BitVec.ofNat 64 a &&& ~~~ BitVec.ofNat 64 b).toNat ≤ a := by
    rw [BitVec.toNat_and]
    refine Nat.le_trans Nat.and_le_left ?_
    simp only [BitVec.toNat_ofNat]
    omega
  rw [zcI (by omega)]
  have ta : ∀ i, (BitVec.ofNat 64 a).toNat.testBit i = a.testBit i := fun i => by
    rw [BitVec.toNat_ofNat, Nat.mod_eq_of_lt (by omega)]
  have tb : ∀ i, (BitVec.ofNat 64 b).toNat.testBit i = b.testBit i := fun i => by
    rw [BitVec.toNat_ofNat, Nat.mod_eq_of_lt (by omega)]
  have hz : ∀ i, (BitVec.ofNat 64 a &&& ~~~ BitVec.ofNat 64 b).toNat.testBit i = (a.testBit i && !(b.testBit i)) := fun i => by
    rw [BitVec.testBit_toNat, BitVec.getLsbD_and, BitVec.getLsbD_not]
    by_cases hi : i < 64
    · simp only [hi, decide_true, Bool.true_and]
      rw [← BitVec.testBit_toNat, ← BitVec.testBit_toNat, ta, tb]
    · have : a.testBit i = false := Nat.testBit_lt_two_pow (Nat.lt_of_lt_of_le ha (Nat.pow_le_pow_right (by omega) (by omega)))
      rw [← BitVec.testBit_toNat, ta, this]; simp
  constructor
  · intro h
    have h0 : (BitVec.ofNat 64 a &&& ~~~ BitVec.ofNat 64 b).toNat = 0 := by omega
    apply Nat.eq_of_testBit_eq
    intro i
    have := hz i
    rw [h0, Nat.zero_testBit] at this
    rw [Nat.testBit_and]
    revert this
    cases a.testBit i <;> cases b.testBit i <;> simp
  · intro h
    have : (BitVec.ofNat 64 a &&& ~~~ BitVec.ofNat 64 b).toNat = 0 := by
      apply Nat.eq_of_testBit_eq
      intro i
      have e2 : (a &&& b).testBit i = a.testBit i := by rw [h]
      rw [Nat.testBit_and] at e2
      rw [hz, Nat.zero_testBit]
      revert e2
      cases a.testBit i <;> cases b.testBit i <;> simp
    omega
theorem zpc {a q : Nat} (hq : q ≤ 64) : z1a .i64 (a : Int) (q : Int) = ((a >>> q : Nat) : Int) := by
  unfold z1a
  have e : min ((q : Int).toNat) IntKind.i64.bits = q := by
    show min ((q : Int).toNat) 64 = q
    omega
  rw [e, Nat.shiftRight_eq_div_pow, Int.fdiv_eq_ediv_of_nonneg _ (by exact Int.pow_nonneg (by omega))]
  simp
theorem z6r {q : Nat} (hq : q ≤ 61) : zg6 .i64 1 (q : Int) = ((2 ^ q : Nat) : Int) := by
  rw [znt]
  have e : min ((q : Int).toNat) IntKind.i64.bits = q := by
    show min ((q : Int).toNat) 64 = q
    omega
  rw [e, Int.one_mul]
  have : ((2 : Int) ^ q) = ((2 ^ q : Nat) : Int) := by simp
  rw [this]
  exact zcI (Nat.pow_lt_pow_right (by omega) (by omega))
theorem zgz {a q : Nat} (ha : a < 2 ^ 62) (hq : q ≤ 64) : (z2o .i64 (z1a .i64 (a : Int) (q : Int)) 1 = 1) ↔ a.testBit q = true := by
  rw [zpc hq, show (1 : Int) = ((1 : Nat) : Int) from rfl, zbh (by rw [Nat.shiftRight_eq_div_pow]; exact Nat.lt_of_le_of_lt (Nat.div_le_self _ _) ha) (by decide), Nat.testBit]
  have : (1 &&& a >>> q) = (a >>> q) &&& 1 := Nat.and_comm ..
  rw [this]
  have h2 := Nat.and_one_is_mod (a >>> q)
  rw [h2]
  simp only [bne_iff_ne, ne_eq]
  omega
theorem ziG {q : Nat} (h : q < 2 ^ 62) : IntKind.u64.wrap (q : Int) = (q : Int) := by rw [IntKind.wrap_u64]; omega
def zhZ (rows : List (List Int)) (s a : Nat) : Nat → Nat
  | 0 => 0
  | q + 1 => if s.testBit q = true then zhZ rows s a q ||| 2 ^ ((rows.getD q []).getD a 0).toNat else zhZ rows s a q
def mvN (d : DFA) (s a : Nat) : Nat := zhZ d.next s a d.next.length
theorem zdW {d : DFA} {m n : Nat} (hd : DfaOk d m n) {q a : Nat} (hq : q < n) (ha : a < m) : ∃ h1 : q < d.next.length, ∃ h2 : a < d.next[q].length, (d.next.getD q []).getD a 0 = d.next[q][a] ∧ 0 ≤ d.next[q][a] ∧ d.next[q][a] < n := by
  have h1 : q < d.next.length := by rw [hd.nl]; exact hq
  have hr := hd.row _ (List.getElem_mem h1)
  have h2 : a < d.next[q].length := by rw [hr.1]; exact ha
  exact ⟨h1, h2, by simp [List.getD, h1, h2], hr.2 _ (List.getElem_mem h2)⟩
theorem zkh {d : DFA} {m n : Nat} (hd : DfaOk d m n) {s a : Nat} (ha : a < m) (p : Nat) : ∀ q, q ≤ n → ((zhZ d.next s a q).testBit p = true ↔ ∃ i, i < q ∧ s.testBit i = true ∧ ((d.next.getD i []).getD a 0).toNat = p)
  | 0, _ => by simp [zhZ]
  | q + 1, hq => by
    have ih := zkh hd (s := s) ha p q (by omega)
    unfold zhZ
    by_cases hb : s.testBit q = true
    · rw [if_pos hb, Nat.testBit_or, Bool.or_eq_true, ih, Nat.testBit_two_pow]
      constructor
      · rintro (⟨i, h1, h2, h3⟩ | h)
        · exact ⟨i, by omega, h2, h3⟩
        · exact ⟨q, by omega, hb, by simpa using h⟩
      · rintro ⟨i, h1, h2, h3⟩
        by_cases e : i = q
        · subst e; right; simpa using h3
        · left; exact ⟨i, by omega, h2, h3⟩
    · rw [if_neg hb, ih]
      constructor
      · rintro ⟨i, h1, h2, h3⟩; exact ⟨i, by omega, h2, h3⟩
      · rintro ⟨i, h1, h2, h3⟩
        by_cases e : i = q
        · subst e; exact absurd h2 hb
        · exact ⟨i, by omega, h2, h3⟩
theorem ze3 {d : DFA} {m n : Nat} (hd : DfaOk d m n) {s a : Nat} (ha : a < m) : ∀ q, q ≤ n → zhZ d.next s a q < 2 ^ n
  | 0, _ => Nat.two_pow_pos n
  | q + 1, hq => by
    have ih := ze3 hd (s := s) ha q (by omega)
    unfold zhZ
    split
    · obtain ⟨h1, h2, e, h3, h4⟩ := zdW hd (q := q) (by omega) ha
      refine zrO ih (Nat.pow_lt_pow_right (by omega) ?_)
      rw [e]; omega
    · exact ih
theorem zgf {d : DFA} {m n : Nat} (hd : DfaOk d m n) {s a : Nat} (ha : a < m) (p : Nat) : (mvN d s a).testBit p = true ↔ ∃ i, i < n ∧ s.testBit i = true ∧ ((d.next.getD i []).getD a 0).toNat = p := by
  unfold mvN; rw [hd.nl]; exact zkh hd ha p n (Nat.le_refl _)
theorem zfN {d : DFA} {m n : Nat} (hd : DfaOk d m n) {s a : Nat} (ha : a < m) : mvN d s a < 2 ^ n := by
  unfold mvN; rw [hd.nl]; exact ze3 hd ha n (Nat.le_refl _)
theorem zcb {n : Nat} (h : n ≤ 12) : 2 ^ n ≤ 4096 := Nat.pow_le_pow_right (n := 2) (by omega) h
theorem znT {d : DFA} {m n : Nat} (hd : DfaOk d m n) (hn : n ≤ 12) {s a : Nat} (hs : s < 2 ^ n) (ha : a < m) : z5t d (s : Int) (a : Int) = some ((mvN d s a : Nat) : Int) := by
  have h12 := zcb hn
  unfold z5t mvN
  refine z1C (s := ((0 : Int), (0 : Int))) n (fun q => (((zhZ d.next s a q : Nat) : Int), (q : Int))) rfl (by simp only [LFm]; omega) (fun q hq => ?_) ?_
  · have hlt := ze3 hd (s := s) ha q (by omega)
    obtain ⟨h1, h2, e, h3, h4⟩ := zdW hd (q := q) hq ha
    simp only [z5H]
    rw [if_pos (by omega), z2p h1]
    simp only [Option.bind_some]
    rw [z0Y _ (by omega), z1R (by omega)]
    by_cases hb : s.testBit q = true
    · rw [if_pos ((zgz (by omega) (by omega)).2 hb), z2p h2]
      simp only [Option.bind_some]
      obtain ⟨v, hv⟩ := Int.eq_ofNat_of_zero_le h3
      rw [z0Y _ (by omega), hv, z6r (by omega), znO (by omega) (Nat.pow_lt_pow_right (by omega) (by omega))]
      simp only [zhZ]
      rw [if_pos hb, e, hv, Int.toNat_natCast]
    · rw [if_neg (fun h => hb ((zgz (by omega) (by omega)).1 h))]
      simp only [zhZ]
      rw [if_neg hb]
  · simp only [z5H]
    rw [if_neg (by rw [hd.nl]; omega), hd.nl]
theorem zoX {d : DFA} {m n : Nat} (hd : DfaOk d m n) (hn : n ≤ 12) {s a : Nat} (hs : s < 2 ^ n) (ha : a < m) : z6c d (s : Int) (a : Int) = some ((mvN d s a : Nat) : Int) := by
  have h12 := zcb hn
  unfold z6c mvN
  refine z1C (s := ((0 : Int), (0 : Int))) n (fun q => (((zhZ d.next s a q : Nat) : Int), (q : Int))) rfl (by simp only [LFm]; omega) (fun q hq => ?_) ?_
  · have hlt := ze3 hd (s := s) ha q (by omega)
    obtain ⟨h1, h2, e, h3, h4⟩ := zdW hd (q := q) hq ha
    simp only [z5c]
    rw [if_pos (by rw [hd.fin]; omega), ziG (by omega), z0Y _ (by omega), z1R (by omega)]
    by_cases hb : s.testBit q = true
    · rw [if_pos ((zgz (by omega) (by omega)).2 hb), z2p h1]
      simp only [Option.bind_some]
      rw [z2p h2]
      simp only [Option.bind_some]
      obtain ⟨v, hv⟩ := Int.eq_ofNat_of_zero_le h3
      rw [hv, ziG (by omega), z0Y _ (by omega), z6r (by omega), znO (by omega) (Nat.pow_lt_pow_right (by omega) (by omega))]
      simp only [zhZ]
      rw [if_pos hb, e, hv, Int.toNat_natCast]
    · rw [if_neg (fun h => hb ((zgz (by omega) (by omega)).1 h))]
      simp only [zhZ]
      rw [if_neg hb]
  · simp only [z5c]
    rw [if_neg (by rw [hd.fin]; omega), hd.nl]
end Go.Proofs.Ytbnnipkanechoaa
end
section
namespace Go.Proofs.Ytbnnipkanechoaa
open Go
set_option maxRecDepth 100000
def zri (d : DFA) (r : List Int) : Bool := decide ((r.length : Int) = d.letters) && r.all fun x => decide (0 ≤ x ∧ x < (d.final.length : Int))
def z8J (d : DFA) : Bool := decide (d.next.length = d.final.length) && decide (0 ≤ d.start ∧ d.start < (d.final.length : Int)) && d.next.all (zri d)
def zq4 (d : DFA) : Int := if d.letters < 1 ∨ 6 < d.letters then 1 else if 512 < d.final.length then 3 else if z8J d = true then 0 else 4
def zrp (d : DFA) : Prop := d.final.length < 2 ^ 61 ∧ d.next.length < 2 ^ 61 ∧ ∀ r ∈ d.next, r.length < 2 ^ 61
theorem zjU {d : DFA} (hc : zrp d) : z0W (z3O d) LFm 0 = some (if d.next.all (zri d) = true then 0 else 4) := by
  rw [zi7 (l := d.next) ([] : List Int) (zri d) (A := some 4) (B := some 0) (by have := hc.2.1; omega) (fun k hk => ?_) ?_]
  · split <;> rfl
  · simp only [z3O]
    rw [if_neg (by omega)]
  · simp only [z3O]
    have hkl := hc.2.1
    have hrl := hc.2.2 _ (List.getElem_mem hk)
    rw [if_pos (by omega), z2p hk]
    simp only [Option.bind_some, List.getD, List.getElem?_eq_getElem hk, Option.getD_some]
    by_cases hl : (d.next[k].length : Int) = d.letters
    · rw [if_pos hl]
      rw [zi7 (l := d.next[k]) (0 : Int) (fun x => decide (0 ≤ x ∧ x < (d.final.length : Int))) (A := z1l (some 4)) (B := z0B ((k + 1 : Nat) : Int)) (by omega) (fun j hj => ?_) ?_]
      · simp only [zri, hl, decide_true, Bool.true_and]
      · simp only [z4R]
        rw [if_neg (by omega), z1R (by omega)]
      · simp only [z4R]
        rw [if_pos (by omega), z2p hj]
        simp only [Option.bind_some, List.getD, List.getElem?_eq_getElem hj, Option.getD_some]
        by_cases h1 : d.next[k][j] < 0
        · rw [if_pos h1, if_neg (by simp; omega)]
        · rw [if_neg h1]
          by_cases h2 : (d.final.length : Int) ≤ d.next[k][j]
          · rw [if_pos h2, if_neg (by simp; omega)]
          · rw [if_neg h2, if_pos (by simp; omega), z1R (by omega)]
    · rw [if_neg hl]
      rw [if_neg (by simp [zri, hl])]
theorem zoB {d : DFA} (hc : zrp d) : z6g d = some (zq4 d) := by
  unfold z6g zq4
  by_cases h1 : d.letters < 1
  · rw [if_pos h1, if_pos (.inl h1)]
  rw [if_neg h1]
  by_cases h2 : 6 < d.letters
  · rw [if_pos h2, if_pos (.inr h2)]
  have hno : ¬ (d.letters < 1 ∨ 6 < d.letters) := by omega
  rw [if_neg h2, if_neg hno]
  by_cases h3 : 512 < (d.final.length : Int)
  · have h3' : 512 < d.final.length := by omega
    rw [if_pos h3, if_pos h3']
  have h3' : ¬ 512 < d.final.length := by omega
  rw [if_neg h3, if_neg h3']
  by_cases h4 : (d.next.length : Int) = (d.final.length : Int)
  · rw [if_pos h4]
    by_cases h5 : d.start < 0
    · rw [if_pos h5, if_neg (by simp [z8J]; omega)]
    rw [if_neg h5]
    by_cases h6 : (d.final.length : Int) ≤ d.start
    · rw [if_pos h6, if_neg (by simp [z8J]; omega)]
    rw [if_neg h6, zjU hc]
    congr 1
    have e1 : decide (d.next.length = d.final.length) = true := by simp; omega
    have e2 : decide (0 ≤ d.start ∧ d.start < (d.final.length : Int)) = true := by simp; omega
    simp only [z8J, e1, e2, Bool.true_and]
  · rw [if_neg h4, if_neg (by simp [z8J]; omega)]
theorem zrd (d : DFA) : z5q d = z3O d := rfl
theorem znI {d : DFA} (hc : zrp d) : z4H d = some (zq4 d) := by
  unfold z4H z4N zq4
  by_cases h1 : 1 ≤ d.letters
  · rw [if_pos h1]
    simp only [Option.bind_some]
    by_cases h2 : 6 < d.letters
    · have hno : d.letters < 1 ∨ 6 < d.letters := .inr h2
      rw [if_neg (by simp; omega), if_pos hno]
    · have hno : ¬ (d.letters < 1 ∨ 6 < d.letters) := by omega
      rw [if_pos (by simp; omega), if_neg hno]
      by_cases h3 : 512 < (d.final.length : Int)
      · have h3' : 512 < d.final.length := by omega
        rw [if_pos h3, if_pos h3']
      have h3' : ¬ 512 < d.final.length := by omega
      rw [if_neg h3, if_neg h3']
      by_cases h0 : (d.final.length : Int) = 0
      · rw [if_pos h0, if_neg (by simp [z8J]; omega)]
      rw [if_neg h0]
      by_cases h4 : (d.next.length : Int) = (d.final.length : Int)
      · rw [if_pos h4]
        by_cases h5 : d.start < 0
        · rw [if_pos h5, if_neg (by simp [z8J]; omega)]
        rw [if_neg h5]
        by_cases h6 : (d.final.length : Int) ≤ d.start
        · rw [if_pos h6, if_neg (by simp [z8J]; omega)]
        rw [if_neg h6, zrd, zjU hc]
        congr 1
        have e1 : decide (d.next.length = d.final.length) = true := by simp; omega
        have e2 : decide (0 ≤ d.start ∧ d.start < (d.final.length : Int)) = true := by simp; omega
        simp only [z8J, e1, e2, Bool.true_and]
      · rw [if_neg h4, if_neg (by simp [z8J]; omega)]
  · rw [if_neg h1]
    simp only [Option.bind_some]
    have hno : d.letters < 1 ∨ 6 < d.letters := by omega
    rw [if_pos hno]
    rfl
def zrm (d : DFA) : Int := if zq4 d = 0 then (if 12 < d.final.length then 3 else 0) else zq4 d
theorem ziJ {d : DFA} (hc : zrp d) : z4i d = some (zrm d) := by
  unfold z4i zrm
  rw [zoB hc]
  simp only [Option.bind_some]
  split
  · split
    · rw [if_pos (by omega)]
    · rw [if_neg (by omega)]
  · rfl
theorem zsm {d : DFA} (hc : zrp d) : z8N d = some (zrm d) := by
  unfold z8N zrm
  rw [znI hc]
  simp only [Option.bind_some]
  split
  · split
    · rw [if_pos (by omega)]
    · rw [if_neg (by omega)]
  · rfl
theorem zrx {d : DFA} {m n : Nat} (hd : DfaOk d m n) (hn : n ≤ 512) : zq4 d = 0 := by
  have h1 := hd.lt
  have h2 := hd.m1
  have h3 := hd.m6
  have hf := hd.fin
  have hl := hd.nl
  unfold zq4
  rw [if_neg (by omega), if_neg (by omega), if_pos]
  have e1 : decide (d.next.length = d.final.length) = true := by simp; omega
  have e2 : decide (0 ≤ d.start ∧ d.start < (d.final.length : Int)) = true := by have := hd.s0; have := hd.s1; simp; omega
  simp only [z8J, e1, e2, Bool.true_and, List.all_eq_true]
  intro r hr
  obtain ⟨a, b⟩ := hd.row r hr
  have e3 : decide ((r.length : Int) = d.letters) = true := by simp; omega
  simp only [zri, e3, Bool.true_and, List.all_eq_true, decide_eq_true_eq]
  intro x hx
  have := b x hx
  omega
theorem zqf {d : DFA} {m n : Nat} (hd : DfaOk d m n) (hn : n ≤ 12) : zrm d = 0 := by
  have hf := hd.fin
  unfold zrm
  rw [zrx hd (by omega), if_pos rfl, if_neg (by omega)]
theorem zql {d : DFA} {m n : Nat} (hd : DfaOk d m n) (hn : n ≤ 12) : zrp d := ⟨by rw [hd.fin]; omega, by rw [hd.nl]; omega, fun r hr => by have := (hd.row r hr).1; have := hd.m6; omega⟩
def zrw (m : Nat) (w : ByteArray) : Prop := w.size ≤ 2048 ∧ ∀ c ∈ w.data.toList, 97 ≤ c.toNat ∧ c.toNat < 97 + m
instance (m : Nat) (w : ByteArray) : Decidable (zrw m w) := by unfold zrw; exact inferInstance
theorem zsn {d : DFA} {m n : Nat} (hd : DfaOk d m n) (hn : n ≤ 12) : z8O d = some (((2 ^ n - 1 : Nat) : Int)) := by
  have h12 := zcb hn
  have hp := Nat.two_pow_pos n
  unfold z8O
  rw [hd.fin, ziG (by omega), z0Y _ (by omega), z6r (by omega), z2q (by omega) (by omega)]
  congr 1
  omega
theorem zaq {r p : Nat} (hr : r < 2 ^ 62) (hp : p < 2 ^ 62) : z3e (r : Int) (p : Int) = some (decide (p &&& r = p)) := by
  unfold z3e
  congr 1
  rw [Bool.eq_iff_iff]; simp only [decide_eq_true_eq]
  exact zjR hp hr
def zhL (d : DFA) : Nat → List UInt8 → Nat
  | s, [] => s
  | s, c :: w => zhL d (mvN d s (c.toNat - 97)) w
theorem zaj (d : DFA) : ∀ (s : Nat) (u v : List UInt8), zhL d s (u ++ v) = zhL d (zhL d s u) v
  | s, [], v => rfl
  | s, c :: u, v => by simp only [List.cons_append, zhL, zaj]
theorem znB {d : DFA} {m n : Nat} (hd : DfaOk d m n) : ∀ {w : List UInt8} {s : Nat}, s < 2 ^ n → (∀ c ∈ w, 97 ≤ c.toNat ∧ c.toNat < 97 + m) → zhL d s w < 2 ^ n
  | [], s, hs, _ => hs
  | c :: w, s, hs, hw => by
    have hc := hw c (List.mem_cons_self ..)
    exact znB (w := w) (s := mvN d s (c.toNat - 97)) hd (zfN hd (by omega)) fun c' hc' => hw c' (List.mem_cons_of_mem _ hc')
end Go.Proofs.Ytbnnipkanechoaa
end
section
namespace Go.Proofs.Ytbnnipkanechoaa
open Go
set_option maxRecDepth 100000
def zsu (a : Nat) : ByteArray := ⟨#[UInt8.ofNat (97 + a)]⟩
abbrev RS := List Nat × List ByteArray
def zg3 (d : DFA) (i a : Nat) (st : RS) : RS := if mvN d (st.1.getD i 0) a ∈ st.1 then st else (st.1 ++ [mvN d (st.1.getD i 0) a], st.2 ++ [st.2.getD i ByteArray.empty ++ zsu a])
def z6D (d : DFA) (i : Nat) (st : RS) : Nat → RS
  | 0 => st
  | a + 1 => zg3 d i a (z6D d i st a)
def z6i (d : DFA) (m s : Nat) : Nat → RS
  | 0 => ([s], [ByteArray.empty])
  | k + 1 => if k < (z6i d m s k).1.length then z6D d k (z6i d m s k) m else z6i d m s k
structure RInv (d : DFA) (m n s : Nat) (st : RS) : Prop where
  nd : st.1.Nodup
  lt : ∀ x ∈ st.1, x < 2 ^ n
  len : st.2.length = st.1.length
  f0 : st.1[0]? = some s
  w0 : st.2[0]? = some ByteArray.empty
  ok : ∀ i, i < st.1.length → (st.2.getD i ByteArray.empty).size ≤ i ∧ (∀ c ∈ (st.2.getD i ByteArray.empty).data.toList, 97 ≤ c.toNat ∧ c.toNat < 97 + m) ∧ zhL d s (st.2.getD i ByteArray.empty).data.toList = st.1.getD i 0
theorem z8t {α : Type} {l r : List α} {i : Nat} (d : α) (h : i < l.length) : (l ++ r).getD i d = l.getD i d := by
  rw [List.getD, List.getD, List.getElem?_append_left h]
theorem zeg {α : Type} {l : List α} {x d : α} {i : Nat} (h : i = l.length) : (l ++ [x]).getD i d = x := by
  subst h; simp [List.getD]
theorem z1q {l : List Nat} {i : Nat} (h : i < l.length) : l.getD i 0 ∈ l := by
  rw [List.getD, List.getElem?_eq_getElem h]; exact List.getElem_mem h
theorem zo8 {α : Type} : ∀ {l r : List α}, l.Nodup → (∀ x ∈ l, x ∈ r) → l.length ≤ r.length
  | [], r, _, _ => by simp
  | x :: l, r, hn, hs => by
    obtain ⟨a, b, rfl⟩ := List.append_of_mem (hs x (List.mem_cons_self ..))
    have hn' := List.nodup_cons.1 hn
    have := zo8 (r := a ++ b) hn'.2 fun y hy => by
      have h1 := hs y (List.mem_cons_of_mem _ hy)
      have hne : y ≠ x := fun e => hn'.1 (e ▸ hy)
      rcases List.mem_append.1 h1 with h | h
      · exact List.mem_append.2 (.inl h)
      · rcases List.mem_cons.1 h with h | h
        · exact absurd h hne
        · exact List.mem_append.2 (.inr h)
    simp only [List.length_cons, List.length_append] at *
    omega
theorem z1m {l : List Nat} {N : Nat} (hn : l.Nodup) (hl : ∀ x ∈ l, x < N) : l.length ≤ N := by
  have := zo8 hn (r := List.range N) fun x hx => List.mem_range.2 (hl x hx)
  simpa using this
theorem zo7 (a : Nat) : (zsu a).data.toList = [UInt8.ofNat (97 + a)] := rfl
theorem zpQ (u v : ByteArray) : (u ++ v).data.toList = u.data.toList ++ v.data.toList := by simp
theorem zpP (u v : ByteArray) : (u ++ v).size = u.size + v.size := by simp
theorem zb1 (a : Nat) : (zsu a).size = 1 := rfl
theorem zkm {a : Nat} (h : a < 26) : (UInt8.ofNat (97 + a)).toNat = 97 + a := by simp [UInt8.toNat_ofNat']; omega
theorem zpa {d : DFA} {m n s : Nat} (hd : DfaOk d m n) {st : RS} (h : RInv d m n s st) {i a : Nat} (hi : i < st.1.length) (ha : a < m) :
    RInv d m n s (zg3 d i a st) ∧ mvN d (st.1.getD i 0) a ∈ (zg3 d i a st).1 ∧ ∃ S W, (zg3 d i a st).1 = st.1 ++ S ∧ (zg3 d i a st).2 = st.2 ++ W := by
  have hm6 := hd.m6
  unfold zg3
  split
  · rename_i hm
    exact ⟨h, hm, [], [], by simp, by simp⟩
  · rename_i hm
    obtain ⟨o1, o2, o3⟩ := h.ok i hi
    refine ⟨⟨?_, ?_, by simp [h.len], ?_, ?_, ?_⟩, by simp, _, _, rfl, rfl⟩
    · refine List.nodup_append.2 ⟨h.nd, by simp, fun x hx y hy => ?_⟩
      obtain rfl : y = _ := by simpa using hy
      exact fun e => hm (e ▸ hx)
    · intro x hx
      rcases List.mem_append.1 hx with hx | hx
      · exact h.lt x hx
      · obtain rfl : x = _ := by simpa using hx
        exact zfN hd ha
    · rw [List.getElem?_append_left (by omega)]; exact h.f0
    · rw [List.getElem?_append_left (by rw [h.len]; omega)]; exact h.w0
    · intro j hj
      simp only [List.length_append, List.length_singleton] at hj
      by_cases e : j = st.1.length
      · rw [zeg e, zeg (by rw [h.len]; exact e), zpP, zpQ, zo7, zb1, zaj, o3]
        refine ⟨by omega, fun c hc => ?_, ?_⟩
        · rcases List.mem_append.1 hc with hc | hc
          · exact o2 c hc
          · obtain rfl := List.mem_singleton.1 hc
            rw [zkm (by omega)]; omega
        · simp only [zhL]
          rw [zkm (by omega), Nat.add_sub_cancel_left]
      · rw [z8t _ (show j < st.2.length by rw [h.len]; omega), z8t _ (show j < st.1.length by omega)]
        exact h.ok j (by omega)
theorem zec {d : DFA} {m n s : Nat} (hd : DfaOk d m n) {st : RS} (h : RInv d m n s st) {i : Nat} (hi : i < st.1.length) : ∀ a, a ≤ m →
    RInv d m n s (z6D d i st a) ∧ (∀ b, b < a → mvN d (st.1.getD i 0) b ∈ (z6D d i st a).1) ∧ (∃ S W, (z6D d i st a).1 = st.1 ++ S ∧ (z6D d i st a).2 = st.2 ++ W)
  | 0, _ => ⟨h, fun b hb => by omega, [], [], by simp [z6D], by simp [z6D]⟩
  | a + 1, ha => by
    obtain ⟨h1, h2, S, W, h3, h4⟩ := zec hd h hi a (by omega)
    have hi' : i < (z6D d i st a).1.length := by rw [h3, List.length_append]; omega
    obtain ⟨k1, k2, S', W', k3, k4⟩ := zpa hd h1 hi' (show a < m by omega)
    have e : (z6D d i st a).1.getD i 0 = st.1.getD i 0 := by rw [h3, z8t _ hi]
    rw [e] at k2
    refine ⟨k1, fun b hb => ?_, S ++ S', W ++ W', by rw [z6D, k3, h3, List.append_assoc], by rw [z6D, k4, h4, List.append_assoc]⟩
    by_cases hb' : b = a
    · subst hb'; exact k2
    · rw [z6D, k3]; exact List.mem_append.2 (.inl (h2 b (by omega)))
theorem z8L {d : DFA} {m n s : Nat} (hd : DfaOk d m n) (hs : s < 2 ^ n) : ∀ k, RInv d m n s (z6i d m s k) ∧ ∀ j, j < k → j < (z6i d m s k).1.length → ∀ a, a < m → mvN d ((z6i d m s k).1.getD j 0) a ∈ (z6i d m s k).1
  | 0 => ⟨⟨by simp [z6i], by simpa [z6i] using hs, rfl, rfl, rfl, fun i hi => by
      obtain rfl : i = 0 := by simpa [z6i] using hi
      exact ⟨Nat.le_refl _, fun c hc => by simp [z6i, List.getD] at hc, rfl⟩⟩, fun j hj => by omega⟩
  | k + 1 => by
    obtain ⟨h1, h2⟩ := z8L hd hs k
    unfold z6i
    split
    · rename_i hk
      obtain ⟨k1, k2, S, W, k3, k4⟩ := zec hd h1 hk m (Nat.le_refl _)
      refine ⟨k1, fun j hj hjl a ha => ?_⟩
      by_cases e : j = k
      · subst e
        have := k2 a ha
        rwa [show (z6D d j (z6i d m s j) m).1.getD j 0 = (z6i d m s j).1.getD j 0 by rw [k3, z8t _ hk]]
      · have hj' : j < (z6i d m s k).1.length := by omega
        have := h2 j (by omega) hj' a ha
        rw [show (z6D d k (z6i d m s k) m).1.getD j 0 = (z6i d m s k).1.getD j 0 by rw [k3, z8t _ hj'], k3]
        exact List.mem_append.2 (.inl this)
    · rename_i hk
      exact ⟨h1, fun j hj hjl a ha => h2 j (by omega) hjl a ha⟩
theorem zg9 {d : DFA} {m n s : Nat} (hd : DfaOk d m n) (hs : s < 2 ^ n) (k : Nat) : (z6i d m s k).1.length ≤ 2 ^ n := z1m (z8L hd hs k).1.nd (z8L hd hs k).1.lt
theorem zcJ {d : DFA} {m s : Nat} {k : Nat} (h : ¬ k < (z6i d m s k).1.length) : ∀ j, k ≤ j → z6i d m s j = z6i d m s k
  | 0, hj => by
    obtain rfl : k = 0 := by omega
    rfl
  | j + 1, hj => by
    by_cases e : k = j + 1
    · rw [e]
    · have ih := zcJ h j (by omega)
      rw [z6i, ih, if_neg (by omega)]
def z1p (d : DFA) (m n s : Nat) : RS := z6i d m s (2 ^ n)
theorem zcw {d : DFA} {m n s : Nat} (hd : DfaOk d m n) (hs : s < 2 ^ n) {x a : Nat} (hx : x ∈ (z1p d m n s).1) (ha : a < m) : mvN d x a ∈ (z1p d m n s).1 := by
  obtain ⟨i, hi, rfl⟩ := List.getElem_of_mem hx
  have hl := zg9 hd hs (2 ^ n)
  have := (z8L hd hs (2 ^ n)).2 i (by unfold z1p at hi; omega) hi a ha
  have e : (z6i d m s (2 ^ n)).1.getD i 0 = (z1p d m n s).1[i] := by
    show (z1p d m n s).1.getD i 0 = _
    rw [List.getD, List.getElem?_eq_getElem hi, Option.getD_some]
  rw [e] at this
  exact this
theorem z4I {d : DFA} {m n s : Nat} (hd : DfaOk d m n) (hs : s < 2 ^ n) : RInv d m n s (z1p d m n s) := (z8L hd hs _).1
def toI (l : List Nat) : List Int := l.map fun x => ((x : Nat) : Int)
theorem z0s (l : List Nat) : (toI l).length = l.length := by simp [toI]
theorem z6o (l : List Nat) (x : Nat) : toI (l ++ [x]) = toI l ++ [((x : Nat) : Int)] := by simp [toI]
theorem z2B {l : List Nat} {i : Nat} (h : i < l.length) : atI (toI l) (i : Int) = some ((l.getD i 0 : Nat) : Int) := by
  rw [z2p (by rw [z0s]; exact h)]
  simp [toI, List.getD, h]
theorem zg2 {l : List ByteArray} {i : Nat} (h : i < l.length) : atI l (i : Int) = some (l.getD i ByteArray.empty) := by
  rw [z2p h, List.getD, List.getElem?_eq_getElem h, Option.getD_some]
def zi2 (n : Nat) (S : List Nat) : List Bool := (List.range (2 ^ n)).map fun x => decide (x ∈ S)
theorem zrY {n : Nat} {S : List Nat} {x : Nat} (h : x < 2 ^ n) : atI (zi2 n S) (x : Int) = some (decide (x ∈ S)) := by
  rw [z2p (by simpa [zi2] using h)]; simp [zi2]
theorem znW {n : Nat} {S : List Nat} {x : Nat} : (zi2 n S).set x true = zi2 n (S ++ [x]) := by
  apply List.ext_getElem (by simp [zi2])
  intro i h1 h2
  simp only [zi2, List.getElem_set, List.getElem_map, List.getElem_range, List.mem_append, List.mem_singleton]
  by_cases e : x = i
  · subst e; simp
  · rw [if_neg e]
    have : ¬ i = x := fun h => e h.symm
    simp [this]
theorem znX {n s : Nat} : (List.replicate (2 ^ n) false).set s true = zi2 n [s] := by
  have : List.replicate (2 ^ n) false = zi2 n [] := by
    apply List.ext_getElem (by simp [zi2])
    intro i h1 h2
    simp [zi2]
  rw [this, znW]; rfl
def zo0 (S : List Nat) : List (Int × Bool) := S.map fun x => (((x : Nat) : Int), true)
theorem znZ (x : Nat) : ∀ S : List Nat, ((zef ((x : Nat) : Int) (zo0 S)).getD false) = decide (x ∈ S)
  | [] => rfl
  | y :: S => by
    have ih := znZ x S
    simp only [zo0, List.map_cons, zef]
    by_cases e : y = x
    · subst e; simp
    · rw [if_neg (by omega)]
      have : ¬ x = y := fun h => e h.symm
      simp only [List.mem_cons, this, false_or]
      exact ih
theorem map_set {x : Nat} : ∀ {S : List Nat}, x ∉ S → zg7 ((x : Nat) : Int) true (zo0 S) = zo0 (S ++ [x])
  | [], _ => rfl
  | y :: S, h => by
    have ih := map_set (x := x) (S := S) (fun hh => h (List.mem_cons_of_mem _ hh))
    have hne : y ≠ x := fun e => h (by simp [e])
    simp only [zo0, List.map_cons, zg7, List.cons_append]
    rw [if_neg (by omega)]
    congr 1
theorem zjt {a : Nat} (h : a < 26) : (⟨#[UInt8.ofNat (IntKind.u8.wrap (IntKind.i64.wrap (97 + (a : Int)))).toNat]⟩ : ByteArray) = zsu a := by
  rw [z2q (by omega) (by omega), zsL (by omega) (by omega)]
  have : (97 + (a : Int)).toNat = 97 + a := by omega
  rw [this]; rfl
theorem zjx {d : DFA} {m n s : Nat} (hd : DfaOk d m n) (hn : n ≤ 12) {st : RS} (h : RInv d m n s st) {i : Nat} (hi : i < st.1.length) :
    z0W (z4k d i) LFm (0, zi2 n st.1, toI st.1, st.2) = z0B (((i + 1 : Nat) : Int), zi2 n (z6D d i st m).1, toI (z6D d i st m).1, (z6D d i st m).2) := by
  have h12 := zcb hn
  have hm6 := hd.m6
  have hl := z1m h.nd h.lt
  refine z1C (s := ((0 : Int), zi2 n st.1, toI st.1, st.2)) m (fun a => ((a : Int), zi2 n (z6D d i st a).1, toI (z6D d i st a).1, (z6D d i st a).2)) rfl (by simp only [LFm]; omega) (fun a ha => ?_) ?_
  · obtain ⟨k1, _, S, W, k3, k4⟩ := zec hd h hi a (by omega)
    have hl2 := z1m k1.nd k1.lt
    have hi' : i < (z6D d i st a).1.length := by rw [k3, List.length_append]; omega
    have hx : (z6D d i st a).1.getD i 0 < 2 ^ n := k1.lt _ (z1q hi')
    obtain ⟨o1, _, _⟩ := k1.ok i hi'
    simp only [z4k]
    rw [if_pos (by rw [hd.lt]; omega), z2B hi']
    simp only [Option.bind_some]
    rw [znT hd hn hx ha]
    simp only [Option.bind_some]
    rw [zrY (zfN hd ha)]
    simp only [Option.bind_some, decide_eq_true_eq]
    rw [z1R (by omega), z6D]
    unfold zg3
    have hml := zfN hd (s := (z6D d i st a).1.getD i 0) ha
    have hlt := hd.lt
    clear hd h k3 k4
    revert hml
    generalize z6D d i st a = st' at *
    generalize mvN d (st'.1.getD i 0) a = x
    intro hml
    by_cases hm : x ∈ st'.1
    · rw [if_pos hm, if_pos hm]
    · rw [if_neg hm, if_neg hm, z0Y _ (by unfold z2Z; rw [z0s]; omega), zg2 (by rw [k1.len]; exact hi'), Option.bind_some]
      rw [zjt (by omega), z0Y _ (by unfold z9S; rw [zb1]; omega), z0Y _ (by unfold z2Z; rw [k1.len]; omega), Int.toNat_natCast, znW]
      rw [z6o]
  · simp only [z4k]
    rw [if_neg (by rw [hd.lt]; omega), z1R (by omega)]
theorem zpo {d : DFA} {m n s : Nat} (hd : DfaOk d m n) (hn : n ≤ 12) (hs : s < 2 ^ n) : z6f d (s : Int) = some (toI (z1p d m n s).1, (z1p d m n s).2) := by
  have h12 := zcb hn
  have hp := Nat.two_pow_pos n
  unfold z6f
  rw [hd.fin, z0Y _ (by omega), z6r (by omega), z0Y _ (by unfold z1Y; omega), z0Y _ (by omega), Int.toNat_natCast, Int.toNat_natCast, znX]
  refine zaZ (s := ((0 : Int), zi2 n [s], [(s : Int)], [ByteArray.empty])) (fun z => ∃ k : Nat, k ≤ 2 ^ n ∧ z = ((k : Int), zi2 n (z6i d m s k).1, toI (z6i d m s k).1, (z6i d m s k).2)) (fun z => 2 ^ n + 1 - z.1.toNat) ⟨0, by omega, rfl⟩ (by simp only [LFm]; omega) ?_
  rintro z ⟨k, hk, rfl⟩
  have hl := zg9 hd hs k
  simp only [z6Y]
  by_cases h : k < (z6i d m s k).1.length
  · left
    rw [if_pos (by rw [z0s]; omega), zjx hd hn (z8L hd hs k).1 h]
    refine ⟨_, rfl, ⟨k + 1, by omega, ?_⟩, by simp only; omega⟩
    rw [z6i, if_pos h]
  · right
    rw [if_neg (by rw [z0s]; omega)]
    unfold z1p
    rw [zcJ h _ hk]
theorem zjy {d : DFA} {m n s : Nat} (hd : DfaOk d m n) (hn : n ≤ 12) {st : RS} (h : RInv d m n s st) {i : Nat} (hi : i < st.1.length) :
    z0W (z4G d i) LFm (0, toI st.1, st.2, zo0 st.1) = z0B (((i + 1 : Nat) : Int), toI (z6D d i st m).1, (z6D d i st m).2, zo0 (z6D d i st m).1) := by
  have h12 := zcb hn
  have hm6 := hd.m6
  have hl := z1m h.nd h.lt
  refine z1C (s := ((0 : Int), toI st.1, st.2, zo0 st.1)) m (fun a => ((a : Int), toI (z6D d i st a).1, (z6D d i st a).2, zo0 (z6D d i st a).1)) rfl (by simp only [LFm]; omega) (fun a ha => ?_) ?_
  · obtain ⟨k1, _, S, W, k3, k4⟩ := zec hd h hi a (by omega)
    have hl2 := z1m k1.nd k1.lt
    have hi' : i < (z6D d i st a).1.length := by rw [k3, List.length_append]; omega
    have hx : (z6D d i st a).1.getD i 0 < 2 ^ n := k1.lt _ (z1q hi')
    obtain ⟨o1, _, _⟩ := k1.ok i hi'
    simp only [z4G]
    rw [if_pos (by rw [hd.lt]; omega), z2B hi']
    simp only [Option.bind_some]
    rw [zoX hd hn hx ha]
    simp only [Option.bind_some]
    rw [znZ]
    simp only [decide_eq_true_eq]
    rw [z1R (by omega), z6D]
    unfold zg3
    by_cases hm : mvN d ((z6D d i st a).1.getD i 0) a ∈ (z6D d i st a).1
    · rw [if_pos hm, if_pos hm]
    · rw [if_neg hm, if_neg hm, zg2 (by rw [k1.len]; exact hi'), Option.bind_some]
      rw [z0Y _ (by unfold z2Z; rw [z0s]; omega), zjt (by omega), z0Y _ (by unfold z9S; rw [zb1]; omega), z0Y _ (by unfold z2Z; rw [k1.len]; omega), map_set hm, z6o]
  · simp only [z4G]
    rw [if_neg (by rw [hd.lt]; omega), z1R (by omega)]
theorem zcV {d : DFA} {m n s : Nat} (hd : DfaOk d m n) (hn : n ≤ 12) (hs : s < 2 ^ n) : z4e d (s : Int) = some (toI (z1p d m n s).1, (z1p d m n s).2) := by
  have h12 := zcb hn
  have hp := Nat.two_pow_pos n
  unfold z4e
  refine zaZ (s := ((0 : Int), [(s : Int)], [ByteArray.empty], zo0 [s])) (fun z => ∃ k : Nat, k ≤ 2 ^ n ∧ z = ((k : Int), toI (z6i d m s k).1, (z6i d m s k).2, zo0 (z6i d m s k).1)) (fun z => 2 ^ n + 1 - z.1.toNat) ⟨0, by omega, rfl⟩ (by simp only [LFm]; omega) ?_
  rintro z ⟨k, hk, rfl⟩
  have hl := zg9 hd hs k
  simp only [z7z]
  by_cases h : k < (z6i d m s k).1.length
  · left
    rw [if_pos (by rw [z0s]; omega), zjy hd hn (z8L hd hs k).1 h]
    refine ⟨_, rfl, ⟨k + 1, by omega, ?_⟩, by simp only; omega⟩
    rw [z6i, if_pos h]
  · right
    rw [if_neg (by rw [z0s]; omega)]
    unfold z1p
    rw [zcJ h _ hk]
end Go.Proofs.Ytbnnipkanechoaa
end
section
namespace Go.Proofs.Ytbnnipkanechoaa
open Go
set_option maxRecDepth 100000
def zgG (p r : Nat) : Prop := p &&& r = p
theorem z5A {p r : Nat} : zgG p r ↔ ∀ q, p.testBit q = true → r.testBit q = true := by
  unfold zgG
  constructor
  · intro h q hq
    have : (p &&& r).testBit q = true := by rw [h]; exact hq
    rw [Nat.testBit_and, Bool.and_eq_true] at this
    exact this.2
  · intro h
    apply Nat.eq_of_testBit_eq
    intro q
    rw [Nat.testBit_and]
    cases hp : p.testBit q with
    | false => rfl
    | true => rw [h q hp]; rfl
theorem zp9 (p : Nat) : zgG p p := Nat.and_self p
theorem znl {p q r : Nat} (h1 : zgG p q) (h2 : zgG q r) : zgG p r := z5A.2 fun i hi => z5A.1 h2 i (z5A.1 h1 i hi)
theorem zhA {p q : Nat} (h1 : zgG p q) (h2 : zgG q p) : p = q := Nat.eq_of_testBit_eq fun i => by
  have a := z5A.1 h1 i
  have b := z5A.1 h2 i
  cases hp : p.testBit i <;> cases hq : q.testBit i <;> simp_all
theorem zqP {d : DFA} {m n : Nat} (hd : DfaOk d m n) {p r a : Nat} (ha : a < m) (h : zgG p r) : zgG (mvN d p a) (mvN d r a) := z5A.2 fun q hq => by
  obtain ⟨i, h1, h2, h3⟩ := (zgf hd ha q).1 hq
  exact (zgf hd ha q).2 ⟨i, h1, z5A.1 h i h2, h3⟩
theorem zka {d : DFA} {m n : Nat} (hd : DfaOk d m n) : ∀ {w : List UInt8} {p r : Nat}, (∀ c ∈ w, 97 ≤ c.toNat ∧ c.toNat < 97 + m) → zgG p r → zgG (zhL d p w) (zhL d r w)
  | [], p, r, _, h => h
  | c :: w, p, r, hw, h => zka (w := w) (p := mvN d p (c.toNat - 97)) (r := mvN d r (c.toNat - 97)) hd (fun c' hc' => hw c' (List.mem_cons_of_mem _ hc')) (zqP hd (by have := hw c (List.mem_cons_self ..); omega) h)
theorem zdZ {d : DFA} {m n s : Nat} (hd : DfaOk d m n) (hs : s < 2 ^ n) : ∀ {w : List UInt8} {x : Nat}, (∀ c ∈ w, 97 ≤ c.toNat ∧ c.toNat < 97 + m) → x ∈ (z1p d m n s).1 → zhL d x w ∈ (z1p d m n s).1
  | [], x, _, h => h
  | c :: w, x, hw, h => zdZ (w := w) (x := mvN d x (c.toNat - 97)) hd hs (fun c' hc' => hw c' (List.mem_cons_of_mem _ hc')) (zcw hd hs h (by have := hw c (List.mem_cons_self ..); omega))
theorem zca {d : DFA} {m n s : Nat} (hd : DfaOk d m n) (hs : s < 2 ^ n) : s ∈ (z1p d m n s).1 := by
  have := (z4I hd hs).f0
  exact List.mem_of_getElem? this
def zrs (d : DFA) (m : Nat) (p r : Nat) : Prop := ∃ w : List UInt8, (∀ c ∈ w, 97 ≤ c.toNat ∧ c.toNat < 97 + m) ∧ zgG p (zhL d r w)
theorem zoO {d : DFA} {m n p r : Nat} (hd : DfaOk d m n) (hr : r < 2 ^ n) : zrs d m p r ↔ ∃ x ∈ (z1p d m n r).1, zgG p x := by
  constructor
  · rintro ⟨w, h1, h2⟩
    exact ⟨_, zdZ hd hr h1 (zca hd hr), h2⟩
  · rintro ⟨x, hx, hs⟩
    obtain ⟨i, hi, rfl⟩ := List.getElem_of_mem hx
    obtain ⟨_, o2, o3⟩ := (z4I hd hr).ok i hi
    refine ⟨_, o2, ?_⟩
    rw [o3, List.getD, List.getElem?_eq_getElem hi, Option.getD_some]
    exact hs
theorem zl0 (d : DFA) (m p : Nat) : zrs d m p p := ⟨[], fun c hc => by simp at hc, zp9 p⟩
theorem zex {d : DFA} {m n p q r : Nat} (hd : DfaOk d m n) (h1 : zrs d m p q) (h2 : zrs d m q r) : zrs d m p r := by
  obtain ⟨u, u1, u2⟩ := h1
  obtain ⟨v, v1, v2⟩ := h2
  refine ⟨v ++ u, fun c hc => ?_, ?_⟩
  · rcases List.mem_append.1 hc with h | h
    · exact v1 c h
    · exact u1 c h
  · rw [zaj]
    exact znl u2 (zka hd u1 v2)
end Go.Proofs.Ytbnnipkanechoaa
end
