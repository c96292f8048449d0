/- Proved here: a part of the proof of the law at hand, in one text: no condition. -/
import Derived.Test.YtbnnipkanechoaaMImagesClasses2
import Derived.Test.YtbnnipkanechoaaProg
import Derived.KernelRfl
import Derived.WalkKit
import Derived.Below
set_option linter.unusedVariables false
set_option linter.unusedSimpArgs false
section
namespace Go.Proofs.Ytbnnipkanechoaa
open Go
set_option maxRecDepth 100000
@[simp] theorem ty3 : z3B Try.prog 3 = some ⟨.int .i64, 1, 8, (some [(.sc (.int .i64 0))])⟩ := by kernel_rfl
@[simp] theorem ty4 : z3B Try.prog 4 = some ⟨.bool, 1, 1, (some [(.sc (.bool false))])⟩ := by kernel_rfl
@[simp] theorem ty5 : z3B Try.prog 5 = some ⟨.int .u8, 1, 1, (some [(.sc (.int .u8 0))])⟩ := by kernel_rfl
@[simp] theorem ty9 : z3B Try.prog 9 = some ⟨.string, 1, 16, (some [(.sc (.string ByteArray.empty))])⟩ := by kernel_rfl
@[simp] theorem ty22 : z3B Try.prog 22 = some ⟨.slice 3, 1, 24, (some [(.os 1 0 [])])⟩ := by kernel_rfl
@[simp] theorem ty23 : z3B Try.prog 23 = some ⟨.pointer 60, 1, 8, (some [(.sc (.pointer none))])⟩ := by kernel_rfl
@[simp] theorem ty25 : z3B Try.prog 25 = some ⟨.slice 4, 1, 24, (some [(.os 1 0 [])])⟩ := by kernel_rfl
@[simp] theorem ty26 : z3B Try.prog 26 = some ⟨.slice 22, 1, 24, (some [(.os 1 0 [])])⟩ := by kernel_rfl
noncomputable def zue : Array Field := match Try.prog.underlying 28 with | some (.struct fs) => fs | _ => #[]
@[simp] theorem ty28 : z3B Try.prog 28 = some ⟨.struct zue, 4, 64, (some [(.sc (.int .i64 0)), (.sc (.int .i64 0)), (.os 1 0 []), (.os 1 0 [])])⟩ := by kernel_rfl
@[simp] theorem fi28_0 : z3X Try.prog 28 0 = some (0, 1, false) := by kernel_rfl
@[simp] theorem fi28_1 : z3X Try.prog 28 1 = some (1, 1, false) := by kernel_rfl
@[simp] theorem fi28_2 : z3X Try.prog 28 2 = some (2, 1, false) := by kernel_rfl
@[simp] theorem fi28_3 : z3X Try.prog 28 3 = some (3, 1, false) := by kernel_rfl
@[simp] theorem zu3 : zb1 Try.prog 28 = (some [(.sc (.int .i64 0)), (.sc (.int .i64 0)), (.os 1 0 []), (.os 1 0 [])]) := by kernel_rfl
@[simp] theorem bs28 (fr : Fr) (parts : List (Nat × Operand)) : zaa Try.prog fr 28 parts = match z8E fr (z3X Try.prog 28) ([(.sc (.int .i64 0)), (.sc (.int .i64 0)), (.os 1 0 []), (.os 1 0 [])].map (A.t none)) parts with | some xs => some (E.ag xs) | none => none := z5M zu3 fr parts
@[simp] theorem ty31 : z3B Try.prog 31 = some ⟨.slice 9, 1, 24, (some [(.os 1 0 [])])⟩ := by kernel_rfl
noncomputable def zud : Array Field := match Try.prog.underlying 33 with | some (.struct fs) => fs | _ => #[]
@[simp] theorem ty33 : z3B Try.prog 33 = some ⟨.struct zud, 6, 144, (some [(.os 1 0 []), (.os 1 0 []), (.os 1 0 []), (.os 1 0 []), (.os 1 0 []), (.os 1 0 [])])⟩ := by kernel_rfl
@[simp] theorem fi33_0 : z3X Try.prog 33 0 = some (0, 1, false) := by kernel_rfl
@[simp] theorem fi33_1 : z3X Try.prog 33 1 = some (1, 1, false) := by kernel_rfl
@[simp] theorem fi33_2 : z3X Try.prog 33 2 = some (2, 1, false) := by kernel_rfl
@[simp] theorem fi33_3 : z3X Try.prog 33 3 = some (3, 1, false) := by kernel_rfl
@[simp] theorem fi33_4 : z3X Try.prog 33 4 = some (4, 1, false) := by kernel_rfl
@[simp] theorem fi33_5 : z3X Try.prog 33 5 = some (5, 1, false) := by kernel_rfl
@[simp] theorem zu2 : zb1 Try.prog 33 = (some [(.os 1 0 []), (.os 1 0 []), (.os 1 0 []), (.os 1 0 []), (.os 1 0 []), (.os 1 0 [])]) := by kernel_rfl
@[simp] theorem bs33 (fr : Fr) (parts : List (Nat × Operand)) : zaa Try.prog fr 33 parts = match z8E fr (z3X Try.prog 33) ([(.os 1 0 []), (.os 1 0 []), (.os 1 0 []), (.os 1 0 []), (.os 1 0 []), (.os 1 0 [])].map (A.t none)) parts with | some xs => some (E.ag xs) | none => none := z5M zu2 fr parts
@[simp] theorem ty34 : z3B Try.prog 34 = some ⟨.int .i64, 1, 8, (some [(.sc (.int .i64 0))])⟩ := by kernel_rfl
@[simp] theorem ty41 : z3B Try.prog 41 = some ⟨.map 3 3, 1, 8, (some [(.sc (.map none))])⟩ := by kernel_rfl
@[simp] theorem mt41 : zgN Try.prog 41 = some ((some .i64), 3) := by kernel_rfl
@[simp] theorem zv41 : zlD Try.prog 3 = some (.int .i64 0) := by kernel_rfl
@[simp] theorem ty51 : z3B Try.prog 51 = some ⟨.int .u64, 1, 8, (some [(.sc (.int .u64 0))])⟩ := by kernel_rfl
noncomputable def zuc : Array Field := match Try.prog.underlying 60 with | some (.struct fs) => fs | _ => #[]
@[simp] theorem ty60 : z3B Try.prog 60 = some ⟨.struct zuc, 2, 32, (some [(.os 1 0 []), (.sc (.int .i64 0))])⟩ := by kernel_rfl
@[simp] theorem fi60_0 : z3X Try.prog 60 0 = some (0, 1, false) := by kernel_rfl
@[simp] theorem fi60_1 : z3X Try.prog 60 1 = some (1, 1, false) := by kernel_rfl
@[simp] theorem zu1 : zb1 Try.prog 60 = (some [(.os 1 0 []), (.sc (.int .i64 0))]) := by kernel_rfl
@[simp] theorem bs60 (fr : Fr) (parts : List (Nat × Operand)) : zaa Try.prog fr 60 parts = match z8E fr (z3X Try.prog 60) ([(.os 1 0 []), (.sc (.int .i64 0))].map (A.t none)) parts with | some xs => some (E.ag xs) | none => none := z5M zu1 fr parts
@[simp] theorem ty63 : z3B Try.prog 63 = some ⟨.slice 25, 1, 24, (some [(.os 1 0 [])])⟩ := by kernel_rfl
noncomputable def zub : Array Field := match Try.prog.underlying 65 with | some (.struct fs) => fs | _ => #[]
@[simp] theorem ty65 : z3B Try.prog 65 = some ⟨.struct zub, 3, 72, (some [(.os 1 0 []), (.os 1 0 []), (.os 1 0 [])])⟩ := by kernel_rfl
@[simp] theorem fi65_0 : z3X Try.prog 65 0 = some (0, 1, false) := by kernel_rfl
@[simp] theorem fi65_1 : z3X Try.prog 65 1 = some (1, 1, false) := by kernel_rfl
@[simp] theorem fi65_2 : z3X Try.prog 65 2 = some (2, 1, false) := by kernel_rfl
@[simp] theorem zu0 : zb1 Try.prog 65 = (some [(.os 1 0 []), (.os 1 0 []), (.os 1 0 [])]) := by kernel_rfl
@[simp] theorem bs65 (fr : Fr) (parts : List (Nat × Operand)) : zaa Try.prog fr 65 parts = match z8E fr (z3X Try.prog 65) ([(.os 1 0 []), (.os 1 0 []), (.os 1 0 [])].map (A.t none)) parts with | some xs => some (E.ag xs) | none => none := z5M zu0 fr parts
@[simp] theorem ty80 : z3B Try.prog 80 = some ⟨.slice 5, 1, 24, (some [(.os 1 0 [])])⟩ := by kernel_rfl
@[simp] theorem ty89 : z3B Try.prog 89 = some ⟨.map 3 4, 1, 8, (some [(.sc (.map none))])⟩ := by kernel_rfl
@[simp] theorem mt89 : zgN Try.prog 89 = some ((some .i64), 4) := by kernel_rfl
@[simp] theorem zv89 : zlD Try.prog 4 = some (.bool false) := by kernel_rfl
@[simp] theorem ty102 : z3B Try.prog 102 = some ⟨.int .u32, 1, 4, (some [(.sc (.int .u32 0))])⟩ := by kernel_rfl
@[simp] theorem ty104 : z3B Try.prog 104 = some ⟨.int .u64, 1, 8, (some [(.sc (.int .u64 0))])⟩ := by kernel_rfl
def cf3 : Cfg := { wio := fun f i => (f == 30 && (i == 0)) || (f == 12 && (i == 0)) || (f == 13 && (i == 0)) || (f == 20 && (i == 0)) || (f == 999999 && (i == 0)), live := fun r => none, dr := fun r => none, fz := fun r => if r = 3 then some [4] else none }
@[simp] theorem wio3 : cf3.wio = fun f i => (f == 30 && (i == 0)) || (f == 12 && (i == 0)) || (f == 13 && (i == 0)) || (f == 20 && (i == 0)) || (f == 999999 && (i == 0)) := rfl
@[simp] theorem live3 : cf3.live = fun r => none := rfl
@[simp] theorem wr3 : cf3.wr = fun _ => [] := rfl
def cf4 : Cfg := { wio := fun f i => (f == 30 && (i == 0)) || (f == 12 && (i == 0)) || (f == 13 && (i == 0)) || (f == 20 && (i == 0)) || (f == 999999 && (i == 0)), live := fun r => if r = 7 then some [5, 35, 36, 37] else if r = 11 then some [5, 7, 8, 9, 35, 36, 37, 46, 47, 48] else none, dr := fun r => if r = 13 then some [(0, 0), (1, 0), (2, 0), (3, 0), (4, 0), (5, 0), (6, 0), (7, 0), (8, 0), (9, 0), (10, 0), (11, 0), (12, 0), (13, 0), (14, 0), (15, 0), (16, 0), (17, 0), (18, 0), (19, 0), (20, 0), (21, 0), (22, 0), (23, 0), (24, 0), (25, 0), (26, 0), (27, 0), (28, 0), (29, 0), (30, 0), (31, 0), (32, 0), (33, 0)] else none, fz := fun r => if r = 3 then some [4] else none }
@[simp] theorem wio4 : cf4.wio = fun f i => (f == 30 && (i == 0)) || (f == 12 && (i == 0)) || (f == 13 && (i == 0)) || (f == 20 && (i == 0)) || (f == 999999 && (i == 0)) := rfl
@[simp] theorem live4 : cf4.live = fun r => if r = 7 then some [5, 35, 36, 37] else if r = 11 then some [5, 7, 8, 9, 35, 36, 37, 46, 47, 48] else none := rfl
@[simp] theorem wr4 : cf4.wr = fun _ => [] := rfl
def cf5 : Cfg := { wio := fun f i => (f == 30 && (i == 0)) || (f == 12 && (i == 0)) || (f == 13 && (i == 0)) || (f == 20 && (i == 0)) || (f == 999999 && (i == 0)), live := fun r => if r = 9 then some [4, 5, 7, 8, 78, 79, 80] else if r = 20 then some [4, 5, 7, 8, 9, 78, 79, 80, 189, 190, 191] else if r = 27 then some [4, 5, 7, 8, 9, 20, 22, 78, 79, 80, 189, 190, 191, 221, 222, 223] else none, dr := fun r => if r = 15 then some [(0, 0), (1, 0), (2, 0), (3, 0), (4, 0), (5, 0), (6, 0), (7, 0), (8, 0), (9, 0), (10, 0), (11, 1), (12, 0), (13, 0), (14, 0), (15, 0), (16, 0)] else if r = 16 then some [(0, 0), (1, 0), (2, 0), (3, 0), (4, 0), (5, 0), (6, 0), (7, 1), (8, 0), (9, 0), (10, 0), (11, 0), (12, 0)] else if r = 17 then some [(0, 0), (1, 0), (2, 0), (3, 0), (4, 0), (5, 0), (6, 0), (7, 0), (8, 0), (9, 0), (10, 0), (11, 0), (12, 0), (13, 0), (14, 0), (15, 0), (16, 0), (17, 0), (18, 0), (19, 0), (20, 0), (21, 0), (22, 0), (23, 0), (24, 0), (25, 0), (26, 0), (27, 0), (28, 0), (29, 0), (30, 0), (31, 0), (32, 0), (33, 0), (34, 0), (35, 0), (36, 0), (37, 0), (38, 0), (39, 0), (40, 0), (41, 0), (42, 0), (43, 0), (44, 0), (45, 0), (46, 0), (47, 0)] else if r = 24 then some [(0, 0), (1, 0), (2, 0), (3, 0), (4, 0), (5, 0), (6, 0), (7, 0), (8, 0), (9, 0), (10, 0), (11, 1), (12, 0), (13, 0), (14, 0), (15, 0), (16, 0)] else none, fz := fun r => if r = 3 then some [4] else none }
@[simp] theorem wio5 : cf5.wio = fun f i => (f == 30 && (i == 0)) || (f == 12 && (i == 0)) || (f == 13 && (i == 0)) || (f == 20 && (i == 0)) || (f == 999999 && (i == 0)) := rfl
@[simp] theorem live5 : cf5.live = fun r => if r = 9 then some [4, 5, 7, 8, 78, 79, 80] else if r = 20 then some [4, 5, 7, 8, 9, 78, 79, 80, 189, 190, 191] else if r = 27 then some [4, 5, 7, 8, 9, 20, 22, 78, 79, 80, 189, 190, 191, 221, 222, 223] else none := rfl
@[simp] theorem wr5 : cf5.wr = fun _ => [] := rfl
def cf6 : Cfg := { wio := fun f i => (f == 30 && (i == 0)) || (f == 12 && (i == 0)) || (f == 13 && (i == 0)) || (f == 20 && (i == 0)) || (f == 999999 && (i == 0)), live := fun r => if r = 10 then some [8, 10, 11, 12, 64, 65, 66] else none, dr := fun r => if r = 8 then some [(0, 0), (1, 0), (2, 0), (3, 0), (4, 0), (5, 0), (6, 0), (7, 1), (8, 0), (9, 0), (10, 0), (11, 0), (12, 0)] else if r = 13 then some [(0, 0), (1, 0), (2, 0), (3, 0), (4, 0), (5, 0), (6, 0), (7, 0), (8, 0), (9, 0), (10, 0), (11, 0), (12, 0), (13, 0), (14, 0), (15, 0), (16, 1), (17, 0), (18, 0)] else none, fz := fun r => if r = 4 then some [6] else none }
@[simp] theorem wio6 : cf6.wio = fun f i => (f == 30 && (i == 0)) || (f == 12 && (i == 0)) || (f == 13 && (i == 0)) || (f == 20 && (i == 0)) || (f == 999999 && (i == 0)) := rfl
@[simp] theorem live6 : cf6.live = fun r => if r = 10 then some [8, 10, 11, 12, 64, 65, 66] else none := rfl
@[simp] theorem wr6 : cf6.wr = fun _ => [] := rfl
def cf8 : Cfg := { wio := fun f i => (f == 30 && (i == 0)) || (f == 12 && (i == 0)) || (f == 13 && (i == 0)) || (f == 20 && (i == 0)) || (f == 999999 && (i == 0)), live := fun r => none, dr := fun r => none }
@[simp] theorem wio8 : cf8.wio = fun f i => (f == 30 && (i == 0)) || (f == 12 && (i == 0)) || (f == 13 && (i == 0)) || (f == 20 && (i == 0)) || (f == 999999 && (i == 0)) := rfl
@[simp] theorem live8 : cf8.live = fun r => none := rfl
@[simp] theorem wr8 : cf8.wr = fun _ => [] := rfl
def cf9 : Cfg := { wio := fun f i => (f == 30 && (i == 0)) || (f == 12 && (i == 0)) || (f == 13 && (i == 0)) || (f == 20 && (i == 0)) || (f == 999999 && (i == 0)), live := fun r => none, dr := fun r => none }
@[simp] theorem wio9 : cf9.wio = fun f i => (f == 30 && (i == 0)) || (f == 12 && (i == 0)) || (f == 13 && (i == 0)) || (f == 20 && (i == 0)) || (f == 999999 && (i == 0)) := rfl
@[simp] theorem live9 : cf9.live = fun r => none := rfl
@[simp] theorem wr9 : cf9.wr = fun _ => [] := rfl
def cf10 : Cfg := { wio := fun f i => (f == 30 && (i == 0)) || (f == 12 && (i == 0)) || (f == 13 && (i == 0)) || (f == 20 && (i == 0)) || (f == 999999 && (i == 0)), live := fun r => none, dr := fun r => none }
@[simp] theorem wio10 : cf10.wio = fun f i => (f == 30 && (i == 0)) || (f == 12 && (i == 0)) || (f == 13 && (i == 0)) || (f == 20 && (i == 0)) || (f == 999999 && (i == 0)) := rfl
@[simp] theorem live10 : cf10.live = fun r => none := rfl
@[simp] theorem wr10 : cf10.wr = fun _ => [] := rfl
def cf11 : Cfg := { wio := fun f i => (f == 999999 && (i == 0)), live := fun r => none, dr := fun r => none }
@[simp] theorem wio11 : cf11.wio = fun f i => (f == 999999 && (i == 0)) := rfl
@[simp] theorem live11 : cf11.live = fun r => none := rfl
@[simp] theorem wr11 : cf11.wr = fun _ => [] := rfl
def cf12 : Cfg := { wio := fun f i => (f == 30 && (i == 0)) || (f == 34 && (i == 0)) || (f == 31 && (i == 0)) || (f == 32 && (i == 0)) || (f == 33 && (i == 0)) || (f == 999999 && (i == 0)), live := fun r => none, dr := fun r => none }
@[simp] theorem wio12 : cf12.wio = fun f i => (f == 30 && (i == 0)) || (f == 34 && (i == 0)) || (f == 31 && (i == 0)) || (f == 32 && (i == 0)) || (f == 33 && (i == 0)) || (f == 999999 && (i == 0)) := rfl
@[simp] theorem live12 : cf12.live = fun r => none := rfl
@[simp] theorem wr12 : cf12.wr = fun _ => [] := rfl
def cf13 : Cfg := { wio := fun f i => (f == 30 && (i == 0)) || (f == 999999 && (i == 0)), live := fun r => none, dr := fun r => none }
@[simp] theorem wio13 : cf13.wio = fun f i => (f == 30 && (i == 0)) || (f == 999999 && (i == 0)) := rfl
@[simp] theorem live13 : cf13.live = fun r => none := rfl
@[simp] theorem wr13 : cf13.wr = fun _ => [] := rfl
def zej : SchT := .nil
def zaP : SchT := .op 13 2 zej
def z6D : SchT := .op 11 0 zaP
def zek : SchT := .op 12 1 zaP
def z6E : SchT := .op 4 1 z6D
def z6F : SchT := .op 6 1 z6D
def z6G : SchT := .op 8 1 z6D
def z6H : SchT := .op 10 1 z6D
def z6I : SchT := .op 11 0 zek
def z8e : SchT := .alt (.op 4 1 z6F) (.op 6 1 z6E)
def z8f : SchT := .alt (.op 4 1 z6G) (.op 8 1 z6E)
def z8g : SchT := .alt (.op 4 1 z6H) (.op 10 1 z6E)
def z8h : SchT := .alt (.op 4 1 z6I) (.op 12 1 z6E)
def z8i : SchT := .alt (.op 6 1 z6G) (.op 8 1 z6F)
def z8j : SchT := .alt (.op 6 1 z6H) (.op 10 1 z6F)
def z8k : SchT := .alt (.op 6 1 z6I) (.op 12 1 z6F)
def z8l : SchT := .alt (.op 8 1 z6H) (.op 10 1 z6G)
def z8m : SchT := .alt (.op 8 1 z6I) (.op 12 1 z6G)
def z8n : SchT := .alt (.op 10 1 z6I) (.op 12 1 z6H)
def zaQ : SchT := .alt (.op 4 1 z8i) (.alt (.op 6 1 z8f) (.op 8 1 z8e))
def zaR : SchT := .alt (.op 4 1 z8j) (.alt (.op 6 1 z8g) (.op 10 1 z8e))
def zaS : SchT := .alt (.op 4 1 z8k) (.alt (.op 6 1 z8h) (.op 12 1 z8e))
def zaT : SchT := .alt (.op 4 1 z8l) (.alt (.op 8 1 z8g) (.op 10 1 z8f))
def zaU : SchT := .alt (.op 4 1 z8m) (.alt (.op 8 1 z8h) (.op 12 1 z8f))
def zaV : SchT := .alt (.op 4 1 z8n) (.alt (.op 10 1 z8h) (.op 12 1 z8g))
def zaW : SchT := .alt (.op 6 1 z8l) (.alt (.op 8 1 z8j) (.op 10 1 z8i))
def zaX : SchT := .alt (.op 6 1 z8m) (.alt (.op 8 1 z8k) (.op 12 1 z8i))
def zaY : SchT := .alt (.op 6 1 z8n) (.alt (.op 10 1 z8k) (.op 12 1 z8j))
def zaZ : SchT := .alt (.op 8 1 z8n) (.alt (.op 10 1 z8m) (.op 12 1 z8l))
def zel : SchT := .alt (.op 4 1 zaW) (.alt (.op 6 1 zaT) (.alt (.op 8 1 zaR) (.op 10 1 zaQ)))
def zem : SchT := .alt (.op 4 1 zaX) (.alt (.op 6 1 zaU) (.alt (.op 8 1 zaS) (.op 12 1 zaQ)))
def zen : SchT := .alt (.op 4 1 zaY) (.alt (.op 6 1 zaV) (.alt (.op 10 1 zaS) (.op 12 1 zaR)))
def zgf : SchT := .alt (.op 4 1 zaZ) (.alt (.op 8 1 zaV) (.alt (.op 10 1 zaU) (.op 12 1 zaT)))
def zgg : SchT := .alt (.op 6 1 zaZ) (.alt (.op 8 1 zaY) (.alt (.op 10 1 zaX) (.op 12 1 zaW)))
def zgh : SchT := .alt (.op 4 1 zgg) (.alt (.op 6 1 zgf) (.alt (.op 8 1 zen) (.alt (.op 10 1 zem) (.op 12 1 zel))))
def zgi : SchT := .op 9 0 zgh
def zgj : SchT := .op 7 0 zgi
def zgk : SchT := .op 5 0 zgj
def zgl : SchT := .op 3 0 zgk
def zgm : SchT := .op 2 0 zgl
def zgn : SchT := .op 1 0 zgm
def zgo : SchT := .op 0 0 zgn
def cf14 : Cfg := { wio := fun f i => (f == 999999 && (i == 0)), live := fun r => if r = 12 then some [2, 5, 7, 8, 9, 10, 53, 54] else if r = 19 then some [2, 5, 7, 8, 10, 85, 86, 87] else if r = 23 then some [2, 5, 7, 8, 10, 14, 17, 85, 86, 87, 99, 100] else none, dr := fun r => if r = 14 then some [(0, 0), (1, 0), (2, 0), (3, 0), (4, 0), (5, 1), (6, 0), (7, 2)] else if r = 16 then some [(0, 0), (1, 0), (2, 0), (3, 0), (4, 0), (5, 0), (6, 0), (7, 0), (8, 0), (9, 0), (10, 0), (11, 0), (12, 0), (13, 0), (14, 2)] else if r = 26 then some [(0, 0), (1, 0), (2, 0), (3, 0), (4, 0), (5, 0), (6, 0), (7, 0), (8, 2)] else none, fz := fun r => if r = 8 then some [5] else if r = 10 then some [8] else if r = 999998 then some [] else none, dt := fun r => if r = 10 then some (zgo) else none }
@[simp] theorem wio14 : cf14.wio = fun f i => (f == 999999 && (i == 0)) := rfl
@[simp] theorem live14 : cf14.live = fun r => if r = 12 then some [2, 5, 7, 8, 9, 10, 53, 54] else if r = 19 then some [2, 5, 7, 8, 10, 85, 86, 87] else if r = 23 then some [2, 5, 7, 8, 10, 14, 17, 85, 86, 87, 99, 100] else none := rfl
@[simp] theorem wr14 : cf14.wr = fun _ => [] := rfl
def ze5 : SchT := .nil
def ze6 : SchT := .op 15 2 ze5
def zaw : SchT := .op 14 0 ze6
def ze7 : SchT := .op 7 1 zaw
def zax : SchT := .op 13 2 zaw
def ze8 : SchT := .alt (.op 7 1 zax) (.op 13 2 ze7)
def zay : SchT := .op 12 0 zax
def zaz : SchT := .op 5 1 zay
def zaA : SchT := .op 12 0 ze8
def z7Y : SchT := .op 11 2 zay
def ze9 : SchT := .alt (.op 5 1 zaA) (.op 7 1 zaz)
def zaB : SchT := .alt (.op 5 1 z7Y) (.op 11 2 zaz)
def zaC : SchT := .alt (.op 7 1 z7Y) (.op 11 2 zaA)
def zaD : SchT := .op 10 0 z7Y
def z7Z : SchT := .op 3 1 zaD
def zea : SchT := .alt (.op 5 1 zaC) (.alt (.op 7 1 zaB) (.op 11 2 ze9))
def zaE : SchT := .op 10 0 zaB
def zaF : SchT := .op 10 0 zaC
def z6C : SchT := .op 9 2 zaD
def zaG : SchT := .alt (.op 3 1 zaE) (.op 5 1 z7Z)
def zaH : SchT := .alt (.op 3 1 zaF) (.op 7 1 z7Z)
def z8a : SchT := .alt (.op 3 1 z6C) (.op 9 2 z7Z)
def zaI : SchT := .op 10 0 zea
def z8b : SchT := .alt (.op 5 1 z6C) (.op 9 2 zaE)
def z8c : SchT := .alt (.op 7 1 z6C) (.op 9 2 zaF)
def zeb : SchT := .op 8 0 z6C
def z8d : SchT := .op 1 1 zeb
def zec : SchT := .alt (.op 3 1 zaI) (.alt (.op 5 1 zaH) (.op 7 1 zaG))
def zaJ : SchT := .alt (.op 3 1 z8b) (.alt (.op 5 1 z8a) (.op 9 2 zaG))
def zaK : SchT := .alt (.op 3 1 z8c) (.alt (.op 7 1 z8a) (.op 9 2 zaH))
def zed : SchT := .op 8 0 z8a
def zaL : SchT := .alt (.op 5 1 z8c) (.alt (.op 7 1 z8b) (.op 9 2 zaI))
def zee : SchT := .op 8 0 z8b
def zef : SchT := .op 8 0 z8c
def zaM : SchT := .alt (.op 1 1 zed) (.op 3 1 z8d)
def zaN : SchT := .alt (.op 1 1 zee) (.op 5 1 z8d)
def zaO : SchT := .alt (.op 1 1 zef) (.op 7 1 z8d)
def zeg : SchT := .alt (.op 3 1 zaL) (.alt (.op 5 1 zaK) (.alt (.op 7 1 zaJ) (.op 9 2 zec)))
def zeh : SchT := .op 8 0 zaJ
def zei : SchT := .op 8 0 zaK
def zg5 : SchT := .op 8 0 zaL
def zg6 : SchT := .alt (.op 1 1 zeh) (.alt (.op 3 1 zaN) (.op 5 1 zaM))
def zg7 : SchT := .alt (.op 1 1 zei) (.alt (.op 3 1 zaO) (.op 7 1 zaM))
def zg8 : SchT := .alt (.op 1 1 zg5) (.alt (.op 5 1 zaO) (.op 7 1 zaN))
def zg9 : SchT := .op 8 0 zeg
def zga : SchT := .alt (.op 1 1 zg9) (.alt (.op 3 1 zg8) (.alt (.op 5 1 zg7) (.op 7 1 zg6)))
def zgb : SchT := .op 6 3 zga
def zgc : SchT := .op 4 3 zgb
def zgd : SchT := .op 2 3 zgc
def zge : SchT := .op 0 0 zgd
def zdY : SchT := .nil
def zdZ : SchT := .op 12 2 zdY
def zaq : SchT := .op 11 0 zdZ
def ze0 : SchT := .op 1 2 zaq
def z7W : SchT := .op 10 2 zaq
def zar : SchT := .alt (.op 1 2 z7W) (.op 10 2 ze0)
def z7X : SchT := .op 7 2 z7W
def zas : SchT := .op 9 1 z7W
def zat : SchT := .alt (.op 1 2 z7X) (.op 7 2 zar)
def ze1 : SchT := .alt (.op 1 2 zas) (.op 9 1 zar)
def ze2 : SchT := .op 6 0 z7X
def zau : SchT := .alt (.op 7 2 zas) (.op 9 1 z7X)
def ze3 : SchT := .op 6 3 zat
def ze4 : SchT := .alt (.op 1 2 zau) (.alt (.op 7 2 ze1) (.op 9 1 zat))
def zav : SchT := .op 4 2 ze2
def zfV : SchT := .op 6 0 zau
def zfW : SchT := .alt (.op 1 2 zav) (.op 4 2 ze3)
def zfX : SchT := .op 6 3 ze4
def zfY : SchT := .alt (.op 4 2 zfV) (.op 9 1 zav)
def zfZ : SchT := .alt (.op 1 2 zfY) (.alt (.op 4 2 zfX) (.op 9 1 zfW))
def zg0 : SchT := .op 8 3 zfZ
def zg1 : SchT := .op 5 3 zg0
def zg2 : SchT := .op 3 3 zg1
def zg3 : SchT := .op 2 3 zg2
def zg4 : SchT := .op 0 3 zg3
def cf15 : Cfg := { wio := fun f i => (f == 999999 && (i == 0)), live := fun r => if r = 10 then some [1, 2, 5, 6, 7, 57, 58, 59] else if r = 16 then some [1, 2, 5, 6, 10, 71, 72] else if r = 21 then some [1, 2, 5, 6, 10, 82, 83, 84] else if r = 25 then some [1, 2, 5, 6, 10, 12, 82, 83, 84, 95, 96, 97] else if r = 28 then some [1, 2, 5, 6, 10, 12, 17, 82, 83, 84, 95, 96, 97, 102, 103, 104] else if r = 37 then some [1, 2, 5, 6, 10, 20, 126, 127] else if r = 41 then some [1, 2, 5, 6, 10, 20, 21, 22, 126, 127] else if r = 49 then some [1, 2, 5, 10, 23] else if r = 52 then some [1, 2, 5, 10, 23, 181, 182] else if r = 55 then some [1, 2, 5, 10, 23, 24, 181, 182, 187, 188] else if r = 63 then some [1, 2, 5, 244, 245] else if r = 67 then some [1, 2, 5, 26, 244, 245, 256, 257, 258] else if r = 72 then some [1, 2, 5, 26, 27, 28, 29, 244, 245, 256, 257, 258, 278, 279, 280] else if r = 81 then some [1, 2, 5, 333, 334] else if r = 84 then some [1, 2, 5, 32, 33, 333, 334] else if r = 88 then some [1, 2, 5, 32, 33, 35, 333, 334, 360, 361, 362] else if r = 95 then some [1, 2, 5, 32, 33, 35, 333, 334, 393, 394, 395] else none, dr := fun r => if r = 57 then some [(0, 0), (1, 0), (2, 0), (3, 0), (4, 0), (5, 1), (6, 0), (7, 0), (8, 0), (9, 0), (10, 0), (11, 0), (12, 0), (13, 0), (14, 0), (15, 0), (16, 0), (17, 0), (18, 0), (19, 0), (20, 0), (21, 0), (22, 0), (23, 0), (24, 0), (25, 0), (26, 0), (27, 0), (28, 0), (29, 0), (30, 0), (31, 0), (32, 0), (33, 0), (34, 0), (35, 0), (36, 0), (37, 0), (38, 0)] else if r = 58 then some [(0, 0), (1, 0), (2, 0), (3, 0), (4, 0), (5, 0), (6, 0), (7, 0), (8, 0), (9, 0), (10, 2)] else if r = 84 then some [(0, 0), (1, 0), (2, 0), (3, 0), (4, 0), (5, 0), (6, 0), (7, 0), (8, 0), (9, 0), (10, 0)] else if r = 86 then some [(0, 0), (1, 0), (2, 0), (3, 0), (4, 0), (5, 0), (6, 1), (7, 0), (8, 0), (9, 0), (10, 0), (11, 0)] else if r = 91 then some [(0, 0), (1, 0), (2, 0), (3, 0), (4, 0), (5, 0), (6, 0), (7, 0), (8, 2)] else if r = 93 then some [(0, 0), (1, 0), (2, 0), (3, 0), (4, 0), (5, 0), (6, 1), (7, 0), (8, 0), (9, 0), (10, 0), (11, 0)] else if r = 98 then some [(0, 0), (1, 0), (2, 0), (3, 0), (4, 0), (5, 0), (6, 0), (7, 0), (8, 2)] else none, dt := fun r => if r = 47 then some (zge) else if r = 77 then some (zg4) else none }
@[simp] theorem wio15 : cf15.wio = fun f i => (f == 999999 && (i == 0)) := rfl
@[simp] theorem live15 : cf15.live = fun r => if r = 10 then some [1, 2, 5, 6, 7, 57, 58, 59] else if r = 16 then some [1, 2, 5, 6, 10, 71, 72] else if r = 21 then some [1, 2, 5, 6, 10, 82, 83, 84] else if r = 25 then some [1, 2, 5, 6, 10, 12, 82, 83, 84, 95, 96, 97] else if r = 28 then some [1, 2, 5, 6, 10, 12, 17, 82, 83, 84, 95, 96, 97, 102, 103, 104] else if r = 37 then some [1, 2, 5, 6, 10, 20, 126, 127] else if r = 41 then some [1, 2, 5, 6, 10, 20, 21, 22, 126, 127] else if r = 49 then some [1, 2, 5, 10, 23] else if r = 52 then some [1, 2, 5, 10, 23, 181, 182] else if r = 55 then some [1, 2, 5, 10, 23, 24, 181, 182, 187, 188] else if r = 63 then some [1, 2, 5, 244, 245] else if r = 67 then some [1, 2, 5, 26, 244, 245, 256, 257, 258] else if r = 72 then some [1, 2, 5, 26, 27, 28, 29, 244, 245, 256, 257, 258, 278, 279, 280] else if r = 81 then some [1, 2, 5, 333, 334] else if r = 84 then some [1, 2, 5, 32, 33, 333, 334] else if r = 88 then some [1, 2, 5, 32, 33, 35, 333, 334, 360, 361, 362] else if r = 95 then some [1, 2, 5, 32, 33, 35, 333, 334, 393, 394, 395] else none := rfl
@[simp] theorem wr15 : cf15.wr = fun _ => [] := rfl
def cf16 : Cfg := { wio := fun f i => (f == 999999 && (i == 0)), live := fun r => none, dr := fun r => none }
@[simp] theorem wio16 : cf16.wio = fun f i => (f == 999999 && (i == 0)) := rfl
@[simp] theorem live16 : cf16.live = fun r => none := rfl
@[simp] theorem wr16 : cf16.wr = fun _ => [] := rfl
def cf17 : Cfg := { wio := fun f i => (f == 999999 && (i == 0)), live := fun r => none, dr := fun r => none }
@[simp] theorem wio17 : cf17.wio = fun f i => (f == 999999 && (i == 0)) := rfl
@[simp] theorem live17 : cf17.live = fun r => none := rfl
@[simp] theorem wr17 : cf17.wr = fun _ => [] := rfl
def cf18 : Cfg := { wio := fun f i => (f == 999999 && (i == 0)), live := fun r => if r = 2 then some [0, 3] else none, dr := fun r => none }
@[simp] theorem wio18 : cf18.wio = fun f i => (f == 999999 && (i == 0)) := rfl
@[simp] theorem live18 : cf18.live = fun r => if r = 2 then some [0, 3] else none := rfl
@[simp] theorem wr18 : cf18.wr = fun _ => [] := rfl
def cf19 : Cfg := { wio := fun f i => (f == 999999 && (i == 0)), live := fun r => if r = 7 then some [1, 2, 3, 27, 28] else none, dr := fun r => if r = 9 then some [(0, 0), (1, 0), (2, 0), (3, 0), (4, 0), (5, 0), (6, 0), (7, 1), (8, 0)] else none }
@[simp] theorem wio19 : cf19.wio = fun f i => (f == 999999 && (i == 0)) := rfl
@[simp] theorem live19 : cf19.live = fun r => if r = 7 then some [1, 2, 3, 27, 28] else none := rfl
@[simp] theorem wr19 : cf19.wr = fun _ => [] := rfl
def cf20 : Cfg := { wio := fun f i => (f == 30 && (i == 0)) || (f == 999999 && (i == 0)), live := fun r => if r = 3 then some [0, 1, 7, 8] else none, dr := fun r => none }
@[simp] theorem wio20 : cf20.wio = fun f i => (f == 30 && (i == 0)) || (f == 999999 && (i == 0)) := rfl
@[simp] theorem live20 : cf20.live = fun r => if r = 3 then some [0, 1, 7, 8] else none := rfl
@[simp] theorem wr20 : cf20.wr = fun _ => [] := rfl
def cf21 : Cfg := { wio := fun f i => (f == 999999 && (i == 0)), live := fun r => none, dr := fun r => none }
@[simp] theorem wio21 : cf21.wio = fun f i => (f == 999999 && (i == 0)) := rfl
@[simp] theorem live21 : cf21.live = fun r => none := rfl
@[simp] theorem wr21 : cf21.wr = fun _ => [] := rfl
def cf22 : Cfg := { wio := fun f i => (f == 999999 && (i == 0)), live := fun r => none, dr := fun r => none }
@[simp] theorem wio22 : cf22.wio = fun f i => (f == 999999 && (i == 0)) := rfl
@[simp] theorem live22 : cf22.live = fun r => none := rfl
@[simp] theorem wr22 : cf22.wr = fun _ => [] := rfl
def cf23 : Cfg := { wio := fun f i => (f == 999999 && (i == 0)), live := fun r => if r = 3 then some [3, 6, 7, 8] else none, dr := fun r => none }
@[simp] theorem wio23 : cf23.wio = fun f i => (f == 999999 && (i == 0)) := rfl
@[simp] theorem live23 : cf23.live = fun r => if r = 3 then some [3, 6, 7, 8] else none := rfl
@[simp] theorem wr23 : cf23.wr = fun _ => [] := rfl
def cf24 : Cfg := { wio := fun f i => (f == 999999 && (i == 0)), live := fun r => none, dr := fun r => none }
@[simp] theorem wio24 : cf24.wio = fun f i => (f == 999999 && (i == 0)) := rfl
@[simp] theorem live24 : cf24.live = fun r => none := rfl
@[simp] theorem wr24 : cf24.wr = fun _ => [] := rfl
def cf25 : Cfg := { wio := fun f i => (f == 999999 && (i == 0)), live := fun r => if r = 8 then some [1, 11, 35, 36, 37] else none, dr := fun r => none }
@[simp] theorem wio25 : cf25.wio = fun f i => (f == 999999 && (i == 0)) := rfl
@[simp] theorem live25 : cf25.live = fun r => if r = 8 then some [1, 11, 35, 36, 37] else none := rfl
@[simp] theorem wr25 : cf25.wr = fun _ => [] := rfl
def cf26 : Cfg := { wio := fun f i => (f == 999999 && (i == 0)), live := fun r => if r = 8 then some [1, 11, 35, 36, 37] else none, dr := fun r => none }
@[simp] theorem wio26 : cf26.wio = fun f i => (f == 999999 && (i == 0)) := rfl
@[simp] theorem live26 : cf26.live = fun r => if r = 8 then some [1, 11, 35, 36, 37] else none := rfl
@[simp] theorem wr26 : cf26.wr = fun _ => [] := rfl
def cf27 : Cfg := { wio := fun f i => (f == 999999 && (i == 0)), live := fun r => if r = 4 then some [0, 1, 5] else none, dr := fun r => none }
@[simp] theorem wio27 : cf27.wio = fun f i => (f == 999999 && (i == 0)) := rfl
@[simp] theorem live27 : cf27.live = fun r => if r = 4 then some [0, 1, 5] else none := rfl
@[simp] theorem wr27 : cf27.wr = fun _ => [] := rfl
def cf28 : Cfg := { wio := fun f i => (f == 999999 && (i == 0)), live := fun r => if r = 4 then some [16, 17, 18] else none, dr := fun r => none }
@[simp] theorem wio28 : cf28.wio = fun f i => (f == 999999 && (i == 0)) := rfl
@[simp] theorem live28 : cf28.live = fun r => if r = 4 then some [16, 17, 18] else none := rfl
@[simp] theorem wr28 : cf28.wr = fun _ => [] := rfl
def cf29 : Cfg := { wio := fun f i => (f == 999999 && (i == 0)), live := fun r => none, dr := fun r => none }
@[simp] theorem wio29 : cf29.wio = fun f i => (f == 999999 && (i == 0)) := rfl
@[simp] theorem live29 : cf29.live = fun r => none := rfl
@[simp] theorem wr29 : cf29.wr = fun _ => [] := rfl
def cf30 : Cfg := { wio := fun f i => (f == 999999 && (i == 0)), live := fun r => none, dr := fun r => if r = 1 then some [(0, 0), (1, 0), (2, 0), (3, 0), (4, 0), (5, 0), (6, 0), (7, 0), (8, 0), (9, 0)] else if r = 4 then some [(0, 0), (1, 0), (2, 0), (3, 0), (4, 0), (5, 0), (6, 0), (7, 0), (8, 0), (9, 0), (10, 0), (11, 0), (12, 1), (13, 0)] else none }
@[simp] theorem wio30 : cf30.wio = fun f i => (f == 999999 && (i == 0)) := rfl
@[simp] theorem live30 : cf30.live = fun r => none := rfl
@[simp] theorem wr30 : cf30.wr = fun _ => [] := rfl
def cf31 : Cfg := { wio := fun f i => (f == 34 && (i == 0)) || (f == 999999 && (i == 0)), live := fun r => if r = 3 then some [6, 7, 17, 18] else if r = 6 then some [6, 7, 8, 17, 18, 25, 26, 27] else none, dr := fun r => none }
@[simp] theorem wio31 : cf31.wio = fun f i => (f == 34 && (i == 0)) || (f == 999999 && (i == 0)) := rfl
@[simp] theorem live31 : cf31.live = fun r => if r = 3 then some [6, 7, 17, 18] else if r = 6 then some [6, 7, 8, 17, 18, 25, 26, 27] else none := rfl
@[simp] theorem wr31 : cf31.wr = fun _ => [] := rfl
def zfC : SchT := .nil
def zfD : SchT := .op 16 2 zfC
def zfE : SchT := .op 15 0 zfD
def zfF : SchT := .op 14 2 zfE
def zbM : SchT := .op 12 2 zfF
def zbN : SchT := .op 11 1 zbM
def zbO : SchT := .op 13 3 zbM
def z7v : SchT := .op 6 2 zbO
def zbP : SchT := .op 8 2 zbO
def zfG : SchT := .op 10 1 zbN
def zbQ : SchT := .op 13 3 zbN
def z9x : SchT := .op 1 2 z7v
def z7w : SchT := .op 5 1 z7v
def z9y : SchT := .alt (.op 6 2 zbP) (.op 8 2 z7v)
def z7x : SchT := .alt (.op 6 2 zbQ) (.op 11 1 z7v)
def zbR : SchT := .alt (.op 8 2 zbQ) (.op 11 1 zbP)
def zbS : SchT := .op 13 3 zfG
def z9z : SchT := .alt (.op 1 2 z7w) (.op 5 1 z9x)
def zbT : SchT := .alt (.op 1 2 z9y) (.op 8 2 z9x)
def z9A : SchT := .alt (.op 1 2 z7x) (.op 11 1 z9x)
def zfH : SchT := .op 4 0 z7w
def z9B : SchT := .alt (.op 5 1 z9y) (.op 8 2 z7w)
def z7y : SchT := .alt (.op 5 1 z7x) (.op 11 1 z7w)
def z9C : SchT := .alt (.op 6 2 zbR) (.alt (.op 8 2 z7x) (.op 11 1 z9y))
def z9D : SchT := .alt (.op 6 2 zbS) (.op 10 1 z7x)
def zfI : SchT := .alt (.op 8 2 zbS) (.op 10 1 zbR)
def zfJ : SchT := .op 4 3 z9z
def zbU : SchT := .alt (.op 1 2 z9B) (.alt (.op 5 1 zbT) (.op 8 2 z9z))
def z9E : SchT := .alt (.op 1 2 z7y) (.alt (.op 5 1 z9A) (.op 11 1 z9z))
def zbV : SchT := .alt (.op 1 2 z9C) (.alt (.op 8 2 z9A) (.op 11 1 zbT))
def zbW : SchT := .alt (.op 1 2 z9D) (.op 10 1 z9A)
def z9F : SchT := .op 3 1 zfH
def zfK : SchT := .op 4 3 z9B
def zfL : SchT := .op 4 0 z7y
def z9G : SchT := .alt (.op 5 1 z9C) (.alt (.op 8 2 z7y) (.op 11 1 z9B))
def z9H : SchT := .alt (.op 5 1 z9D) (.op 10 1 z7y)
def zbX : SchT := .alt (.op 6 2 zfI) (.alt (.op 8 2 z9D) (.op 10 1 z9C))
def zbY : SchT := .alt (.op 1 2 z9F) (.op 3 1 zfJ)
def zfM : SchT := .op 4 3 zbU
def zfN : SchT := .op 4 3 z9E
def zbZ : SchT := .alt (.op 1 2 z9G) (.alt (.op 5 1 zbV) (.alt (.op 8 2 z9E) (.op 11 1 zbU)))
def zc0 : SchT := .alt (.op 1 2 z9H) (.alt (.op 5 1 zbW) (.op 10 1 z9E))
def zfO : SchT := .alt (.op 1 2 zbX) (.alt (.op 8 2 zbW) (.op 10 1 zbV))
def zc1 : SchT := .alt (.op 3 1 zfK) (.op 8 2 z9F)
def z9I : SchT := .alt (.op 3 1 zfL) (.op 11 1 z9F)
def zfP : SchT := .op 4 3 z9G
def zfQ : SchT := .op 4 0 z9H
def zc2 : SchT := .alt (.op 5 1 zbX) (.alt (.op 8 2 z9H) (.op 10 1 z9G))
def zfR : SchT := .alt (.op 1 2 zc1) (.alt (.op 3 1 zfM) (.op 8 2 zbY))
def zc3 : SchT := .alt (.op 1 2 z9I) (.alt (.op 3 1 zfN) (.op 11 1 zbY))
def zfS : SchT := .op 4 3 zbZ
def zfT : SchT := .op 4 3 zc0
def zfU : SchT := .alt (.op 1 2 zc2) (.alt (.op 5 1 zfO) (.alt (.op 8 2 zc0) (.op 10 1 zbZ)))
def zc4 : SchT := .alt (.op 3 1 zfP) (.alt (.op 8 2 z9I) (.op 11 1 zc1))
def zc5 : SchT := .alt (.op 3 1 zfQ) (.op 10 1 z9I)
def ziG : SchT := .op 4 3 zc2
def ziH : SchT := .alt (.op 1 2 zc4) (.alt (.op 3 1 zfS) (.alt (.op 8 2 zc3) (.op 11 1 zfR)))
def ziI : SchT := .alt (.op 1 2 zc5) (.alt (.op 3 1 zfT) (.op 10 1 zc3))
def ziJ : SchT := .op 4 3 zfU
def ziK : SchT := .alt (.op 3 1 ziG) (.alt (.op 8 2 zc5) (.op 10 1 zc4))
def ziL : SchT := .alt (.op 1 2 ziK) (.alt (.op 3 1 ziJ) (.alt (.op 8 2 ziI) (.op 10 1 ziH)))
def ziM : SchT := .op 9 3 ziL
def ziN : SchT := .op 7 3 ziM
def ziO : SchT := .op 2 3 ziN
def ziP : SchT := .op 0 3 ziO
def cf32 : Cfg := { wio := fun f i => (f == 30 && (i == 0)) || (f == 999999 && (i == 0)), live := fun r => if r = 5 then some [0, 1, 6, 7, 8, 9] else if r = 9 then some [0, 1, 6, 7, 8, 10] else if r = 13 then some [0, 1, 6, 7, 8, 10, 11, 12] else if r = 17 then some [0, 1, 6, 7, 8, 10, 11, 13] else none, dr := fun r => if r = 20 then some [(0, 0), (1, 0), (2, 0), (3, 0), (4, 0), (5, 0), (6, 0), (7, 0), (8, 0), (9, 0), (10, 0), (11, 2)] else if r = 21 then some [(1, 0), (2, 0), (3, 0), (5, 3), (6, 3), (7, 3), (8, 3), (0, 1), (4, 2), (9, 2), (10, 0)] else none, wr := fun r => if r = 7 then [0] else [], dt := fun r => if r = 7 then some (ziP) else none }
@[simp] theorem wio32 : cf32.wio = fun f i => (f == 30 && (i == 0)) || (f == 999999 && (i == 0)) := rfl
@[simp] theorem live32 : cf32.live = fun r => if r = 5 then some [0, 1, 6, 7, 8, 9] else if r = 9 then some [0, 1, 6, 7, 8, 10] else if r = 13 then some [0, 1, 6, 7, 8, 10, 11, 12] else if r = 17 then some [0, 1, 6, 7, 8, 10, 11, 13] else none := rfl
@[simp] theorem wr32 : cf32.wr = fun r => if r = 7 then [0] else [] := rfl
def cf33 : Cfg := { wio := fun f i => (f == 30 && (i == 0)) || (f == 999999 && (i == 0)), live := fun r => if r = 4 then some [0, 1, 4, 5, 6, 22, 23, 24] else if r = 9 then some [0, 1, 4, 5, 6, 8, 9, 10, 22, 23, 24] else if r = 13 then some [0, 1, 4, 5, 6, 8, 9, 10, 11, 12, 22, 23, 24] else if r = 15 then some [0, 1, 4, 5, 6, 8, 9, 10, 11, 12, 22, 23, 24, 50, 51, 52] else none, dr := fun r => if r = 6 then some [(0, 0), (1, 0), (2, 0), (3, 1), (4, 0), (5, 1), (6, 2), (7, 0), (8, 2)] else none, wr := fun r => if r = 6 then [0] else [] }
@[simp] theorem wio33 : cf33.wio = fun f i => (f == 30 && (i == 0)) || (f == 999999 && (i == 0)) := rfl
@[simp] theorem live33 : cf33.live = fun r => if r = 4 then some [0, 1, 4, 5, 6, 22, 23, 24] else if r = 9 then some [0, 1, 4, 5, 6, 8, 9, 10, 22, 23, 24] else if r = 13 then some [0, 1, 4, 5, 6, 8, 9, 10, 11, 12, 22, 23, 24] else if r = 15 then some [0, 1, 4, 5, 6, 8, 9, 10, 11, 12, 22, 23, 24, 50, 51, 52] else none := rfl
@[simp] theorem wr33 : cf33.wr = fun r => if r = 6 then [0] else [] := rfl
def cf34 : Cfg := { wio := fun f i => (f == 30 && (i == 0)) || (f == 999999 && (i == 0)), live := fun r => if r = 5 then some [0, 1, 6, 7, 8, 9] else if r = 10 then some [0, 1, 6, 7, 8, 9, 10, 11] else none, dr := fun r => if r = 7 then some [(0, 0), (1, 0), (2, 0), (3, 1), (4, 0), (5, 1), (6, 2), (7, 0), (8, 2)] else none, wr := fun r => if r = 7 then [0] else [] }
@[simp] theorem wio34 : cf34.wio = fun f i => (f == 30 && (i == 0)) || (f == 999999 && (i == 0)) := rfl
@[simp] theorem live34 : cf34.live = fun r => if r = 5 then some [0, 1, 6, 7, 8, 9] else if r = 10 then some [0, 1, 6, 7, 8, 9, 10, 11] else none := rfl
@[simp] theorem wr34 : cf34.wr = fun r => if r = 7 then [0] else [] := rfl
def cf35 : Cfg := { wio := fun f i => (f == 999999 && (i == 0)), live := fun r => none, dr := fun r => none }
@[simp] theorem wio35 : cf35.wio = fun f i => (f == 999999 && (i == 0)) := rfl
@[simp] theorem live35 : cf35.live = fun r => none := rfl
@[simp] theorem wr35 : cf35.wr = fun _ => [] := rfl
def cf36 : Cfg := { wio := fun f i => (f == 64 && (i == 0)) || (f == 999999 && (i == 0)), live := fun r => if r = 3 then some [3, 18, 19] else none, dr := fun r => if r = 1 then some [(0, 0), (1, 0), (2, 0), (3, 0), (4, 0), (5, 0), (6, 1), (7, 0), (8, 0), (9, 0), (10, 0), (11, 0)] else none }
@[simp] theorem wio36 : cf36.wio = fun f i => (f == 64 && (i == 0)) || (f == 999999 && (i == 0)) := rfl
@[simp] theorem live36 : cf36.live = fun r => if r = 3 then some [3, 18, 19] else none := rfl
@[simp] theorem wr36 : cf36.wr = fun _ => [] := rfl
def cf37 : Cfg := { wio := fun f i => (f == 999999 && (i == 0)), live := fun r => if r = 3 then some [1, 2, 4, 5, 24, 25, 26] else if r = 9 then some [1, 2, 4, 5, 8, 44, 45, 46] else if r = 13 then some [1, 2, 4, 5, 8, 9, 10, 44, 45, 46, 59, 60] else if r = 20 then some [1, 4, 8, 87, 88] else if r = 24 then some [1, 4, 8, 12, 13, 87, 88, 97, 98, 99] else if r = 27 then some [1, 4, 8, 12, 13, 15, 16, 87, 88, 97, 98, 99, 104, 105, 106] else none, dr := fun r => if r = 11 then some [(0, 0), (1, 0), (2, 0), (3, 0), (4, 0), (5, 1), (6, 0), (7, 2)] else if r = 15 then some [(0, 0), (1, 0), (2, 0), (3, 0), (4, 0), (5, 0), (6, 0), (7, 0), (8, 0), (9, 0), (10, 1), (11, 0), (12, 0), (13, 0), (14, 2)] else if r = 17 then some [(0, 0), (1, 0), (2, 0), (3, 0), (4, 0), (5, 1), (6, 0), (7, 2)] else none, dt := fun r => if r = 7 then some (.op 0 0 (.op 1 0 (.op 2 0 (.op 4 0 (.op 5 0 (.alt (.op 3 1 (.alt (.op 6 1 (.op 7 0 (.op 8 1 (.op 9 2 .nil)))) (.op 8 1 (.op 6 1 (.op 7 0 (.op 9 2 .nil)))))) (.alt (.op 6 1 (.alt (.op 3 1 (.op 7 0 (.op 8 1 (.op 9 2 .nil)))) (.op 8 1 (.op 3 1 (.op 7 0 (.op 9 2 .nil)))))) (.op 8 1 (.alt (.op 3 1 (.op 6 1 (.op 7 0 (.op 9 2 .nil)))) (.op 6 1 (.op 3 1 (.op 7 0 (.op 9 2 .nil))))))))))))) else none }
@[simp] theorem wio37 : cf37.wio = fun f i => (f == 999999 && (i == 0)) := rfl
@[simp] theorem live37 : cf37.live = fun r => if r = 3 then some [1, 2, 4, 5, 24, 25, 26] else if r = 9 then some [1, 2, 4, 5, 8, 44, 45, 46] else if r = 13 then some [1, 2, 4, 5, 8, 9, 10, 44, 45, 46, 59, 60] else if r = 20 then some [1, 4, 8, 87, 88] else if r = 24 then some [1, 4, 8, 12, 13, 87, 88, 97, 98, 99] else if r = 27 then some [1, 4, 8, 12, 13, 15, 16, 87, 88, 97, 98, 99, 104, 105, 106] else none := rfl
@[simp] theorem wr37 : cf37.wr = fun _ => [] := rfl
def cf38 : Cfg := { wio := fun f i => (f == 999999 && (i == 0)), live := fun r => if r = 4 then some [1, 4, 5, 15, 16] else if r = 8 then some [1, 4, 5, 6, 15, 16, 24, 25, 26] else none, dr := fun r => none }
@[simp] theorem wio38 : cf38.wio = fun f i => (f == 999999 && (i == 0)) := rfl
@[simp] theorem live38 : cf38.live = fun r => if r = 4 then some [1, 4, 5, 15, 16] else if r = 8 then some [1, 4, 5, 6, 15, 16, 24, 25, 26] else none := rfl
@[simp] theorem wr38 : cf38.wr = fun _ => [] := rfl
def cf39 : Cfg := { wio := fun f i => (f == 69 && (i == 0)) || (f == 999999 && (i == 0)), live := fun r => if r = 4 then some [1, 2, 5, 6, 23, 24] else if r = 8 then some [1, 2, 5, 6, 7, 23, 24, 33, 34] else if r = 17 then some [1, 2, 9, 60, 61, 62] else if r = 21 then some [1, 2, 9, 11, 60, 61, 62, 75, 76] else none, dr := fun r => if r = 23 then some [(0, 0), (1, 0), (2, 0), (3, 0), (4, 0), (5, 0), (6, 0), (7, 0), (8, 0), (9, 0), (10, 0), (11, 0), (12, 0), (13, 0), (14, 0), (15, 0), (16, 0), (17, 0), (18, 0)] else if r = 24 then some [(0, 0), (1, 0), (2, 0), (3, 0), (4, 0), (5, 0), (6, 0), (7, 0), (8, 0), (9, 0), (10, 0), (11, 0), (12, 0), (13, 2)] else none, fz := fun r => if r = 14 then some [5] else none }
@[simp] theorem wio39 : cf39.wio = fun f i => (f == 69 && (i == 0)) || (f == 999999 && (i == 0)) := rfl
@[simp] theorem live39 : cf39.live = fun r => if r = 4 then some [1, 2, 5, 6, 23, 24] else if r = 8 then some [1, 2, 5, 6, 7, 23, 24, 33, 34] else if r = 17 then some [1, 2, 9, 60, 61, 62] else if r = 21 then some [1, 2, 9, 11, 60, 61, 62, 75, 76] else none := rfl
@[simp] theorem wr39 : cf39.wr = fun _ => [] := rfl
def cf40 : Cfg := { wio := fun f i => (f == 999999 && (i == 0)), live := fun r => if r = 5 then some [1, 2, 5, 21, 22, 23] else if r = 12 then some [2, 5, 8, 45, 46, 47] else if r = 15 then some [2, 5, 8, 10, 45, 46, 47, 51, 52, 53] else none, dr := fun r => if r = 17 then some [(0, 0), (1, 0), (2, 0), (3, 0), (4, 0), (5, 0), (6, 0), (7, 0), (8, 0), (9, 0), (10, 0), (11, 0), (12, 0), (13, 0), (14, 1), (15, 0)] else none }
@[simp] theorem wio40 : cf40.wio = fun f i => (f == 999999 && (i == 0)) := rfl
@[simp] theorem live40 : cf40.live = fun r => if r = 5 then some [1, 2, 5, 21, 22, 23] else if r = 12 then some [2, 5, 8, 45, 46, 47] else if r = 15 then some [2, 5, 8, 10, 45, 46, 47, 51, 52, 53] else none := rfl
@[simp] theorem wr40 : cf40.wr = fun _ => [] := rfl
def cf41 : Cfg := { wio := fun f i => (f == 999999 && (i == 0)), live := fun r => if r = 6 then some [2, 6, 7, 8, 9] else if r = 9 then some [2, 6, 7, 8, 9, 38, 39, 40] else none, dr := fun r => if r = 8 then some [(0, 0), (1, 0), (2, 0), (3, 0), (4, 0), (5, 0), (6, 0), (7, 0), (8, 0), (9, 0)] else if r = 13 then some [(0, 0), (1, 0), (2, 0), (3, 0), (4, 0), (5, 0), (6, 0), (7, 0), (8, 0), (9, 0), (10, 0), (11, 0), (12, 1), (13, 0), (14, 0), (15, 0), (16, 2)] else none }
@[simp] theorem wio41 : cf41.wio = fun f i => (f == 999999 && (i == 0)) := rfl
@[simp] theorem live41 : cf41.live = fun r => if r = 6 then some [2, 6, 7, 8, 9] else if r = 9 then some [2, 6, 7, 8, 9, 38, 39, 40] else none := rfl
@[simp] theorem wr41 : cf41.wr = fun _ => [] := rfl
def cf42 : Cfg := { wio := fun f i => (f == 999999 && (i == 0)), live := fun r => if r = 3 then some [3, 22, 23] else if r = 8 then some [3, 6, 7, 22, 23, 29, 30, 31] else if r = 17 then some [10, 53, 54] else if r = 20 then some [10, 12, 53, 54] else none, dr := fun r => if r = 1 then some [(0, 0), (1, 0), (2, 1), (3, 1), (4, 0), (5, 0), (6, 0), (7, 0), (8, 0)] else if r = 20 then some [(0, 0), (1, 0), (2, 0), (3, 0), (4, 0), (5, 0), (6, 0), (7, 0), (8, 0), (9, 0), (10, 0), (11, 0), (12, 1), (13, 0)] else if r = 22 then some [(0, 0), (1, 0), (2, 3), (3, 3), (4, 3), (5, 0), (6, 0), (7, 0), (8, 0), (9, 0), (10, 0), (11, 0), (12, 0), (13, 0), (14, 0), (15, 2), (16, 0), (17, 2)] else none }
@[simp] theorem wio42 : cf42.wio = fun f i => (f == 999999 && (i == 0)) := rfl
@[simp] theorem live42 : cf42.live = fun r => if r = 3 then some [3, 22, 23] else if r = 8 then some [3, 6, 7, 22, 23, 29, 30, 31] else if r = 17 then some [10, 53, 54] else if r = 20 then some [10, 12, 53, 54] else none := rfl
@[simp] theorem wr42 : cf42.wr = fun _ => [] := rfl
def cf43 : Cfg := { wio := fun f i => (f == 999999 && (i == 0)), live := fun r => if r = 4 then some [2, 6, 7, 8, 9] else if r = 7 then some [2, 6, 7, 8, 9, 10] else none, dr := fun r => if r = 9 then some [(0, 0), (1, 0), (2, 0), (3, 0), (4, 0), (5, 0), (6, 1), (7, 0)] else none, wr := fun r => if r = 12 then [6, 46] else [], dt := fun r => if r = 12 then some (.op 0 0 (.op 1 0 (.op 4 0 (.op 5 0 (.op 6 0 (.op 7 0 (.op 8 0 (.op 9 0 (.op 10 0 (.op 11 0 (.alt (.op 2 1 (.alt (.op 3 1 (.op 12 1 (.op 13 0 (.op 14 0 (.op 15 1 (.op 16 2 (.op 17 0 (.op 18 0 .nil)))))))) (.op 12 1 (.op 13 0 (.op 14 0 (.alt (.op 3 1 (.op 15 1 (.op 16 2 (.op 17 0 (.op 18 0 .nil))))) (.op 15 1 (.op 3 1 (.op 16 2 (.op 17 0 (.op 18 0 .nil))))))))))) (.op 12 1 (.op 13 0 (.op 14 0 (.alt (.op 2 1 (.alt (.op 3 1 (.op 15 1 (.op 16 2 (.op 17 0 (.op 18 0 .nil))))) (.op 15 1 (.op 3 1 (.op 16 2 (.op 17 0 (.op 18 0 .nil))))))) (.op 15 1 (.op 2 1 (.op 3 1 (.op 16 2 (.op 17 0 (.op 18 0 .nil))))))))))))))))))))) else none }
@[simp] theorem wio43 : cf43.wio = fun f i => (f == 999999 && (i == 0)) := rfl
@[simp] theorem live43 : cf43.live = fun r => if r = 4 then some [2, 6, 7, 8, 9] else if r = 7 then some [2, 6, 7, 8, 9, 10] else none := rfl
@[simp] theorem wr43 : cf43.wr = fun r => if r = 12 then [6, 46] else [] := rfl
def cf44 : Cfg := { wio := fun f i => (f == 999999 && (i == 0)), live := fun r => if r = 7 then some [3, 4, 5, 17, 18, 19] else none, dr := fun r => none }
@[simp] theorem wio44 : cf44.wio = fun f i => (f == 999999 && (i == 0)) := rfl
@[simp] theorem live44 : cf44.live = fun r => if r = 7 then some [3, 4, 5, 17, 18, 19] else none := rfl
@[simp] theorem wr44 : cf44.wr = fun _ => [] := rfl
def cf45 : Cfg := { wio := fun f i => (f == 999999 && (i == 0)), live := fun r => if r = 4 then some [0, 1, 12, 13] else none, dr := fun r => if r = 6 then some [(0, 0), (1, 0), (2, 0), (3, 0), (4, 0), (5, 0), (6, 0), (7, 0), (8, 0)] else none }
@[simp] theorem wio45 : cf45.wio = fun f i => (f == 999999 && (i == 0)) := rfl
@[simp] theorem live45 : cf45.live = fun r => if r = 4 then some [0, 1, 12, 13] else none := rfl
@[simp] theorem wr45 : cf45.wr = fun _ => [] := rfl
def cf46 : Cfg := { wio := fun f i => (f == 999999 && (i == 0)), live := fun r => if r = 4 then some [0, 1, 12, 13] else none, dr := fun r => if r = 6 then some [(0, 0), (1, 0), (2, 0), (3, 0), (4, 0), (5, 0), (6, 0), (7, 0), (8, 1), (9, 0)] else none }
@[simp] theorem wio46 : cf46.wio = fun f i => (f == 999999 && (i == 0)) := rfl
@[simp] theorem live46 : cf46.live = fun r => if r = 4 then some [0, 1, 12, 13] else none := rfl
@[simp] theorem wr46 : cf46.wr = fun _ => [] := rfl
def cf47 : Cfg := { wio := fun f i => (f == 999999 && (i == 0)), live := fun r => if r = 4 then some [0, 1, 12, 13] else none, dr := fun r => if r = 6 then some [(0, 0), (1, 0), (2, 0), (3, 0), (4, 0), (5, 0), (6, 0), (7, 0), (8, 0)] else none }
@[simp] theorem wio47 : cf47.wio = fun f i => (f == 999999 && (i == 0)) := rfl
@[simp] theorem live47 : cf47.live = fun r => if r = 4 then some [0, 1, 12, 13] else none := rfl
@[simp] theorem wr47 : cf47.wr = fun _ => [] := rfl
def cf48 : Cfg := { wio := fun f i => (f == 999999 && (i == 0)), live := fun r => none, dr := fun r => none }
@[simp] theorem wio48 : cf48.wio = fun f i => (f == 999999 && (i == 0)) := rfl
@[simp] theorem live48 : cf48.live = fun r => none := rfl
@[simp] theorem wr48 : cf48.wr = fun _ => [] := rfl
def cf49 : Cfg := { wio := fun f i => (f == 999999 && (i == 0)), live := fun r => none, dr := fun r => none }
@[simp] theorem wio49 : cf49.wio = fun f i => (f == 999999 && (i == 0)) := rfl
@[simp] theorem live49 : cf49.live = fun r => none := rfl
@[simp] theorem wr49 : cf49.wr = fun _ => [] := rfl
def cf50 : Cfg := { wio := fun f i => (f == 999999 && (i == 0)), live := fun r => if r = 4 then some [0, 1, 18, 19] else none, dr := fun r => none }
@[simp] theorem wio50 : cf50.wio = fun f i => (f == 999999 && (i == 0)) := rfl
@[simp] theorem live50 : cf50.live = fun r => if r = 4 then some [0, 1, 18, 19] else none := rfl
@[simp] theorem wr50 : cf50.wr = fun _ => [] := rfl
def cf51 : Cfg := { wio := fun f i => (f == 999999 && (i == 0)), live := fun r => if r = 3 then some [1, 2, 7, 11, 12, 13] else none, dr := fun r => none }
@[simp] theorem wio51 : cf51.wio = fun f i => (f == 999999 && (i == 0)) := rfl
@[simp] theorem live51 : cf51.live = fun r => if r = 3 then some [1, 2, 7, 11, 12, 13] else none := rfl
@[simp] theorem wr51 : cf51.wr = fun _ => [] := rfl
def cf52 : Cfg := { wio := fun f i => (f == 999999 && (i == 0)), live := fun r => if r = 4 then some [0, 1, 12, 13] else none, dr := fun r => if r = 6 then some [(0, 0), (1, 0), (2, 0), (3, 0), (4, 0), (5, 0), (6, 0), (7, 0), (8, 0)] else none }
@[simp] theorem wio52 : cf52.wio = fun f i => (f == 999999 && (i == 0)) := rfl
@[simp] theorem live52 : cf52.live = fun r => if r = 4 then some [0, 1, 12, 13] else none := rfl
@[simp] theorem wr52 : cf52.wr = fun _ => [] := rfl
def cf53 : Cfg := { wio := fun f i => (f == 999999 && (i == 0)), live := fun r => if r = 4 then some [1, 2, 15, 16, 17] else none, dr := fun r => none }
@[simp] theorem wio53 : cf53.wio = fun f i => (f == 999999 && (i == 0)) := rfl
@[simp] theorem live53 : cf53.live = fun r => if r = 4 then some [1, 2, 15, 16, 17] else none := rfl
@[simp] theorem wr53 : cf53.wr = fun _ => [] := rfl
def cf54 : Cfg := { wio := fun f i => (f == 999999 && (i == 0)), live := fun r => if r = 4 then some [0, 1, 12, 13] else none, dr := fun r => if r = 6 then some [(0, 0), (1, 0), (2, 0), (3, 0), (4, 0), (5, 0), (6, 0), (7, 0), (8, 0)] else none }
@[simp] theorem wio54 : cf54.wio = fun f i => (f == 999999 && (i == 0)) := rfl
@[simp] theorem live54 : cf54.live = fun r => if r = 4 then some [0, 1, 12, 13] else none := rfl
@[simp] theorem wr54 : cf54.wr = fun _ => [] := rfl
def cf55 : Cfg := { wio := fun f i => (f == 999999 && (i == 0)), live := fun r => none, dr := fun r => none }
@[simp] theorem wio55 : cf55.wio = fun f i => (f == 999999 && (i == 0)) := rfl
@[simp] theorem live55 : cf55.live = fun r => none := rfl
@[simp] theorem wr55 : cf55.wr = fun _ => [] := rfl
def cf56 : Cfg := { wio := fun f i => (f == 999999 && (i == 0)), live := fun r => if r = 2 then some [1, 2, 3, 7] else none, dr := fun r => if r = 4 then some [(0, 0), (1, 0), (2, 0), (3, 0), (4, 0), (5, 0), (6, 0), (7, 1), (8, 0)] else none }
@[simp] theorem wio56 : cf56.wio = fun f i => (f == 999999 && (i == 0)) := rfl
@[simp] theorem live56 : cf56.live = fun r => if r = 2 then some [1, 2, 3, 7] else none := rfl
@[simp] theorem wr56 : cf56.wr = fun _ => [] := rfl
def cf57 : Cfg := { wio := fun f i => (f == 999999 && (i == 0)), live := fun r => if r = 5 then some [2, 6, 7, 8, 9] else if r = 8 then some [2, 6, 7, 8, 9, 30, 31] else none, dr := fun r => if r = 10 then some [(0, 0), (1, 0), (2, 0), (3, 0), (4, 0), (5, 0), (6, 1), (7, 0)] else if r = 14 then some [(0, 0), (1, 0), (2, 0), (3, 0), (4, 0), (5, 0), (6, 0), (7, 0), (8, 1), (9, 0), (10, 0), (11, 1), (12, 2), (13, 0)] else none }
@[simp] theorem wio57 : cf57.wio = fun f i => (f == 999999 && (i == 0)) := rfl
@[simp] theorem live57 : cf57.live = fun r => if r = 5 then some [2, 6, 7, 8, 9] else if r = 8 then some [2, 6, 7, 8, 9, 30, 31] else none := rfl
@[simp] theorem wr57 : cf57.wr = fun _ => [] := rfl
def cf58 : Cfg := { wio := fun f i => (f == 999999 && (i == 0)), live := fun r => none, dr := fun r => none }
@[simp] theorem wio58 : cf58.wio = fun f i => (f == 999999 && (i == 0)) := rfl
@[simp] theorem live58 : cf58.live = fun r => none := rfl
@[simp] theorem wr58 : cf58.wr = fun _ => [] := rfl
def cf59 : Cfg := { wio := fun f i => (f == 999999 && (i == 0)), live := fun r => none, dr := fun r => none }
@[simp] theorem wio59 : cf59.wio = fun f i => (f == 999999 && (i == 0)) := rfl
@[simp] theorem live59 : cf59.live = fun r => none := rfl
@[simp] theorem wr59 : cf59.wr = fun _ => [] := rfl
def cf60 : Cfg := { wio := fun f i => (f == 999999 && (i == 0)), live := fun r => if r = 9 then some [1, 3, 38, 39, 40] else if r = 14 then some [1, 3, 38, 39, 40, 49, 50, 51] else none, dr := fun r => none }
@[simp] theorem wio60 : cf60.wio = fun f i => (f == 999999 && (i == 0)) := rfl
@[simp] theorem live60 : cf60.live = fun r => if r = 9 then some [1, 3, 38, 39, 40] else if r = 14 then some [1, 3, 38, 39, 40, 49, 50, 51] else none := rfl
@[simp] theorem wr60 : cf60.wr = fun _ => [] := rfl
def cf61 : Cfg := { wio := fun f i => (f == 999999 && (i == 0)), live := fun r => if r = 3 then some [0, 1, 5, 6] else if r = 6 then some [0, 1, 5, 6, 7] else none, dr := fun r => if r = 8 then some [(0, 0), (1, 0), (2, 0), (3, 0), (4, 0), (5, 0), (6, 0), (7, 0), (8, 1), (9, 0), (10, 0), (11, 1), (12, 2), (13, 0)] else none }
@[simp] theorem wio61 : cf61.wio = fun f i => (f == 999999 && (i == 0)) := rfl
@[simp] theorem live61 : cf61.live = fun r => if r = 3 then some [0, 1, 5, 6] else if r = 6 then some [0, 1, 5, 6, 7] else none := rfl
@[simp] theorem wr61 : cf61.wr = fun _ => [] := rfl
def cf62 : Cfg := { wio := fun f i => (f == 999999 && (i == 0)), live := fun r => if r = 9 then some [1, 3, 38, 39, 40] else if r = 14 then some [1, 3, 38, 39, 40, 49, 50, 51] else none, dr := fun r => none }
@[simp] theorem wio62 : cf62.wio = fun f i => (f == 999999 && (i == 0)) := rfl
@[simp] theorem live62 : cf62.live = fun r => if r = 9 then some [1, 3, 38, 39, 40] else if r = 14 then some [1, 3, 38, 39, 40, 49, 50, 51] else none := rfl
@[simp] theorem wr62 : cf62.wr = fun _ => [] := rfl
def cf63 : Cfg := { wio := fun f i => (f == 999999 && (i == 0)), live := fun r => none, dr := fun r => none }
@[simp] theorem wio63 : cf63.wio = fun f i => (f == 999999 && (i == 0)) := rfl
@[simp] theorem live63 : cf63.live = fun r => none := rfl
@[simp] theorem wr63 : cf63.wr = fun _ => [] := rfl
def cf65 : Cfg := { wio := fun f i => (f == 999999 && (i == 0)), live := fun r => none, dr := fun r => none }
@[simp] theorem wio65 : cf65.wio = fun f i => (f == 999999 && (i == 0)) := rfl
@[simp] theorem live65 : cf65.live = fun r => none := rfl
@[simp] theorem wr65 : cf65.wr = fun _ => [] := rfl
def cf66 : Cfg := { wio := fun f i => (f == 999999 && (i == 0)), live := fun r => if r = 3 then some [3, 6, 7, 8] else none, dr := fun r => none }
@[simp] theorem wio66 : cf66.wio = fun f i => (f == 999999 && (i == 0)) := rfl
@[simp] theorem live66 : cf66.live = fun r => if r = 3 then some [3, 6, 7, 8] else none := rfl
@[simp] theorem wr66 : cf66.wr = fun _ => [] := rfl
def cf67 : Cfg := { wio := fun f i => (f == 999999 && (i == 0)), live := fun r => none, dr := fun r => none }
@[simp] theorem wio67 : cf67.wio = fun f i => (f == 999999 && (i == 0)) := rfl
@[simp] theorem live67 : cf67.live = fun r => none := rfl
@[simp] theorem wr67 : cf67.wr = fun _ => [] := rfl
def cf68 : Cfg := { wio := fun f i => (f == 999999 && (i == 0)), live := fun r => none, dr := fun r => none }
@[simp] theorem wio68 : cf68.wio = fun f i => (f == 999999 && (i == 0)) := rfl
@[simp] theorem live68 : cf68.live = fun r => none := rfl
@[simp] theorem wr68 : cf68.wr = fun _ => [] := rfl
def cf69 : Cfg := { wio := fun f i => (f == 79 && (i == 0)) || (f == 999999 && (i == 0)), live := fun r => none, dr := fun r => none }
@[simp] theorem wio69 : cf69.wio = fun f i => (f == 79 && (i == 0)) || (f == 999999 && (i == 0)) := rfl
@[simp] theorem live69 : cf69.live = fun r => none := rfl
@[simp] theorem wr69 : cf69.wr = fun _ => [] := rfl
def cf70 : Cfg := { wio := fun f i => (f == 999999 && (i == 0)), live := fun r => none, dr := fun r => if r = 1 then some [(0, 0), (1, 0), (2, 0), (3, 0), (4, 0), (5, 0), (6, 0), (7, 0), (8, 1), (9, 0)] else none }
@[simp] theorem wio70 : cf70.wio = fun f i => (f == 999999 && (i == 0)) := rfl
@[simp] theorem live70 : cf70.live = fun r => none := rfl
@[simp] theorem wr70 : cf70.wr = fun _ => [] := rfl
def cf71 : Cfg := { wio := fun f i => (f == 999999 && (i == 0)), live := fun r => none, dr := fun r => none }
@[simp] theorem wio71 : cf71.wio = fun f i => (f == 999999 && (i == 0)) := rfl
@[simp] theorem live71 : cf71.live = fun r => none := rfl
@[simp] theorem wr71 : cf71.wr = fun _ => [] := rfl
def cf72 : Cfg := { wio := fun f i => (f == 999999 && (i == 0)), live := fun r => none, dr := fun r => none }
@[simp] theorem wio72 : cf72.wio = fun f i => (f == 999999 && (i == 0)) := rfl
@[simp] theorem live72 : cf72.live = fun r => none := rfl
@[simp] theorem wr72 : cf72.wr = fun _ => [] := rfl
def cf73 : Cfg := { wio := fun f i => (f == 999999 && (i == 0)), live := fun r => if r = 3 then some [1, 2, 3, 7, 11, 12] else none, dr := fun r => none }
@[simp] theorem wio73 : cf73.wio = fun f i => (f == 999999 && (i == 0)) := rfl
@[simp] theorem live73 : cf73.live = fun r => if r = 3 then some [1, 2, 3, 7, 11, 12] else none := rfl
@[simp] theorem wr73 : cf73.wr = fun _ => [] := rfl
def cf74 : Cfg := { wio := fun f i => (f == 999999 && (i == 0)), live := fun r => if r = 2 then some [0, 1, 7, 8] else none, dr := fun r => none }
@[simp] theorem wio74 : cf74.wio = fun f i => (f == 999999 && (i == 0)) := rfl
@[simp] theorem live74 : cf74.live = fun r => if r = 2 then some [0, 1, 7, 8] else none := rfl
@[simp] theorem wr74 : cf74.wr = fun _ => [] := rfl
def cf76 : Cfg := { wio := fun f i => (f == 999999 && (i == 0)), live := fun r => none, dr := fun r => none }
@[simp] theorem wio76 : cf76.wio = fun f i => (f == 999999 && (i == 0)) := rfl
@[simp] theorem live76 : cf76.live = fun r => none := rfl
@[simp] theorem wr76 : cf76.wr = fun _ => [] := rfl
def cf77 : Cfg := { wio := fun f i => (f == 999999 && (i == 0)), live := fun r => none, dr := fun r => none }
@[simp] theorem wio77 : cf77.wio = fun f i => (f == 999999 && (i == 0)) := rfl
@[simp] theorem live77 : cf77.live = fun r => none := rfl
@[simp] theorem wr77 : cf77.wr = fun _ => [] := rfl
def cf78 : Cfg := { wio := fun f i => (f == 999999 && (i == 0)), live := fun r => none, dr := fun r => none }
@[simp] theorem wio78 : cf78.wio = fun f i => (f == 999999 && (i == 0)) := rfl
@[simp] theorem live78 : cf78.live = fun r => none := rfl
@[simp] theorem wr78 : cf78.wr = fun _ => [] := rfl
def cf79 : Cfg := { wio := fun f i => (f == 80 && (i == 0)) || (f == 92 && (i == 0)) || (f == 999999 && (i == 0)), live := fun r => if r = 2 then some [0, 1, 2, 6, 7, 8] else if r = 7 then some [0, 1, 2, 6] else if r = 9 then some [0, 1, 2, 6, 7, 8] else none, dr := fun r => none }
@[simp] theorem wio79 : cf79.wio = fun f i => (f == 80 && (i == 0)) || (f == 92 && (i == 0)) || (f == 999999 && (i == 0)) := rfl
@[simp] theorem live79 : cf79.live = fun r => if r = 2 then some [0, 1, 2, 6, 7, 8] else if r = 7 then some [0, 1, 2, 6] else if r = 9 then some [0, 1, 2, 6, 7, 8] else none := rfl
@[simp] theorem wr79 : cf79.wr = fun _ => [] := rfl
def cf80 : Cfg := { wio := fun f i => (f == 999999 && (i == 0)), live := fun r => if r = 1 then some [0, 1, 2, 3, 8] else if r = 4 then some [0, 1, 2, 3, 8, 9] else none, dr := fun r => if r = 4 then some [(0, 0), (1, 0), (2, 0), (3, 0), (4, 0), (5, 0), (6, 0), (7, 0), (8, 0), (9, 0), (10, 0), (11, 0), (12, 0), (13, 0), (14, 1), (15, 0), (16, 0)] else if r = 6 then some [(0, 0), (1, 0), (2, 3), (3, 3), (4, 3), (5, 0), (6, 0), (7, 0), (8, 0), (9, 0), (10, 0), (11, 0), (12, 0), (13, 0), (14, 0), (15, 2), (16, 0), (17, 2)] else none }
@[simp] theorem wio80 : cf80.wio = fun f i => (f == 999999 && (i == 0)) := rfl
@[simp] theorem live80 : cf80.live = fun r => if r = 1 then some [0, 1, 2, 3, 8] else if r = 4 then some [0, 1, 2, 3, 8, 9] else none := rfl
@[simp] theorem wr80 : cf80.wr = fun _ => [] := rfl
def cf88 : Cfg := { wio := fun f i => (f == 999999 && (i == 0)), live := fun r => none, dr := fun r => none }
@[simp] theorem wio88 : cf88.wio = fun f i => (f == 999999 && (i == 0)) := rfl
@[simp] theorem live88 : cf88.live = fun r => none := rfl
@[simp] theorem wr88 : cf88.wr = fun _ => [] := rfl
def cf89 : Cfg := { wio := fun f i => (f == 999999 && (i == 0)), live := fun r => none, dr := fun r => none }
@[simp] theorem wio89 : cf89.wio = fun f i => (f == 999999 && (i == 0)) := rfl
@[simp] theorem live89 : cf89.live = fun r => none := rfl
@[simp] theorem wr89 : cf89.wr = fun _ => [] := rfl
def cf90 : Cfg := { wio := fun f i => (f == 999999 && (i == 0)), live := fun r => none, dr := fun r => if r = 1 then some [(0, 0), (1, 0), (2, 0), (3, 0), (4, 0), (5, 0), (6, 0), (7, 0), (8, 0), (9, 0), (10, 0), (11, 0), (12, 0), (13, 0), (14, 0), (15, 0), (16, 0), (17, 0), (18, 0)] else none }
@[simp] theorem wio90 : cf90.wio = fun f i => (f == 999999 && (i == 0)) := rfl
@[simp] theorem live90 : cf90.live = fun r => none := rfl
@[simp] theorem wr90 : cf90.wr = fun _ => [] := rfl
def cf91 : Cfg := { wio := fun f i => (f == 999999 && (i == 0)), live := fun r => none, dr := fun r => none }
@[simp] theorem wio91 : cf91.wio = fun f i => (f == 999999 && (i == 0)) := rfl
@[simp] theorem live91 : cf91.live = fun r => none := rfl
@[simp] theorem wr91 : cf91.wr = fun _ => [] := rfl
def cf92 : Cfg := { wio := fun f i => (f == 98 && (i == 0)) || (f == 92 && (i == 0)) || (f == 999999 && (i == 0)), live := fun r => if r = 3 then some [0, 1, 4, 10, 11] else if r = 9 then some [0, 10, 13] else if r = 15 then some [0, 2, 4, 14, 15] else if r = 21 then some [0, 14, 17] else if r = 33 then some [0, 1, 2, 3, 4, 18, 19, 20, 21, 22] else none, dr := fun r => if r = 5 then some [(0, 0), (1, 0), (2, 0), (3, 0), (4, 0), (5, 0), (6, 0), (7, 0), (8, 0), (9, 1), (10, 0)] else if r = 11 then some [(0, 0), (1, 0), (2, 3), (3, 3), (4, 3), (5, 0), (6, 0), (7, 0), (8, 0), (9, 0), (10, 0), (11, 0), (12, 0), (13, 0), (14, 0), (15, 2), (16, 0), (17, 2)] else if r = 17 then some [(0, 0), (1, 0), (2, 0), (3, 0), (4, 0), (5, 0), (6, 0), (7, 0), (8, 0), (9, 1), (10, 0), (11, 0)] else if r = 23 then some [(0, 0), (1, 0), (2, 3), (3, 3), (4, 3), (5, 0), (6, 0), (7, 0), (8, 0), (9, 0), (10, 0), (11, 0), (12, 0), (13, 0), (14, 0), (15, 2), (16, 0), (17, 2)] else if r = 35 then some [(0, 0), (1, 0), (2, 0), (3, 0), (4, 0), (5, 0), (6, 0), (7, 0), (8, 0), (9, 0), (10, 0), (11, 1), (12, 0), (13, 0)] else none }
@[simp] theorem wio92 : cf92.wio = fun f i => (f == 98 && (i == 0)) || (f == 92 && (i == 0)) || (f == 999999 && (i == 0)) := rfl
@[simp] theorem live92 : cf92.live = fun r => if r = 3 then some [0, 1, 4, 10, 11] else if r = 9 then some [0, 10, 13] else if r = 15 then some [0, 2, 4, 14, 15] else if r = 21 then some [0, 14, 17] else if r = 33 then some [0, 1, 2, 3, 4, 18, 19, 20, 21, 22] else none := rfl
@[simp] theorem wr92 : cf92.wr = fun _ => [] := rfl
def cf98 : Cfg := { wio := fun f i => (f == 100 && (i == 0)) || (f == 999999 && (i == 0)), live := fun r => if r = 2 then some [0, 2, 4, 10, 11] else none, dr := fun r => none }
@[simp] theorem wio98 : cf98.wio = fun f i => (f == 100 && (i == 0)) || (f == 999999 && (i == 0)) := rfl
@[simp] theorem live98 : cf98.live = fun r => if r = 2 then some [0, 2, 4, 10, 11] else none := rfl
@[simp] theorem wr98 : cf98.wr = fun _ => [] := rfl
def cf100 : Cfg := { wio := fun f i => (f == 999999 && (i == 0)), live := fun r => if r = 1 then some [0, 1, 2, 3, 10] else none, dr := fun r => if r = 3 then some [(0, 0), (1, 0), (2, 0), (3, 0), (4, 3), (5, 3), (6, 3), (7, 3), (8, 0), (9, 0), (10, 0), (11, 0), (12, 0), (13, 0), (14, 0), (15, 0), (16, 0), (17, 0), (18, 0), (19, 0), (20, 0), (21, 2), (22, 0), (23, 2)] else none }
@[simp] theorem wio100 : cf100.wio = fun f i => (f == 999999 && (i == 0)) := rfl
@[simp] theorem live100 : cf100.live = fun r => if r = 1 then some [0, 1, 2, 3, 10] else none := rfl
@[simp] theorem wr100 : cf100.wr = fun _ => [] := rfl
def z2M (f : FuncId) : Option Cfg :=
  if f = 3 then some cf3 else
  if f = 4 then some cf4 else
  if f = 5 then some cf5 else
  if f = 6 then some cf6 else
  if f = 8 then some cf8 else
  if f = 9 then some cf9 else
  if f = 10 then some cf10 else
  if f = 11 then some cf11 else
  if f = 12 then some cf12 else
  if f = 13 then some cf13 else
  if f = 14 then some cf14 else
  if f = 15 then some cf15 else
  if f = 16 then some cf16 else
  if f = 17 then some cf17 else
  if f = 18 then some cf18 else
  if f = 19 then some cf19 else
  if f = 20 then some cf20 else
  if f = 21 then some cf21 else
  if f = 22 then some cf22 else
  if f = 23 then some cf23 else
  if f = 24 then some cf24 else
  if f = 25 then some cf25 else
  if f = 26 then some cf26 else
  if f = 27 then some cf27 else
  if f = 28 then some cf28 else
  if f = 29 then some cf29 else
  if f = 30 then some cf30 else
  if f = 31 then some cf31 else
  if f = 32 then some cf32 else
  if f = 33 then some cf33 else
  if f = 34 then some cf34 else
  if f = 35 then some cf35 else
  if f = 36 then some cf36 else
  if f = 37 then some cf37 else
  if f = 38 then some cf38 else
  if f = 39 then some cf39 else
  if f = 40 then some cf40 else
  if f = 41 then some cf41 else
  if f = 42 then some cf42 else
  if f = 43 then some cf43 else
  if f = 44 then some cf44 else
  if f = 45 then some cf45 else
  if f = 46 then some cf46 else
  if f = 47 then some cf47 else
  if f = 48 then some cf48 else
  if f = 49 then some cf49 else
  if f = 50 then some cf50 else
  if f = 51 then some cf51 else
  if f = 52 then some cf52 else
  if f = 53 then some cf53 else
  if f = 54 then some cf54 else
  if f = 55 then some cf55 else
  if f = 56 then some cf56 else
  if f = 57 then some cf57 else
  if f = 58 then some cf58 else
  if f = 59 then some cf59 else
  if f = 60 then some cf60 else
  if f = 61 then some cf61 else
  if f = 62 then some cf62 else
  if f = 63 then some cf63 else
  if f = 65 then some cf65 else
  if f = 66 then some cf66 else
  if f = 67 then some cf67 else
  if f = 68 then some cf68 else
  if f = 69 then some cf69 else
  if f = 70 then some cf70 else
  if f = 71 then some cf71 else
  if f = 72 then some cf72 else
  if f = 73 then some cf73 else
  if f = 74 then some cf74 else
  if f = 76 then some cf76 else
  if f = 77 then some cf77 else
  if f = 78 then some cf78 else
  if f = 79 then some cf79 else
  if f = 80 then some cf80 else
  if f = 88 then some cf88 else
  if f = 89 then some cf89 else
  if f = 90 then some cf90 else
  if f = 91 then some cf91 else
  if f = 92 then some cf92 else
  if f = 98 then some cf98 else
  if f = 100 then some cf100 else none
theorem zuW : z2M 5 = some cf5 := rfl
theorem ztJ : z2M 11 = some cf11 := rfl
theorem ztI : z2M 12 = some cf12 := rfl
theorem ztH : z2M 13 = some cf13 := rfl
theorem ztG : z2M 14 = some cf14 := rfl
theorem ztF : z2M 19 = some cf19 := rfl
theorem ztE : z2M 21 = some cf21 := rfl
theorem ztD : z2M 30 = some cf30 := rfl
theorem ztC : z2M 31 = some cf31 := rfl
theorem ztB : z2M 32 = some cf32 := rfl
theorem ztA : z2M 33 = some cf33 := rfl
theorem ztz : z2M 34 = some cf34 := rfl
theorem zty : z2M 35 = some cf35 := rfl
theorem ztx : z2M 36 = some cf36 := rfl
theorem ztw : z2M 37 = some cf37 := rfl
theorem ztv : z2M 38 = some cf38 := rfl
theorem ztu : z2M 39 = some cf39 := rfl
theorem ztt : z2M 40 = some cf40 := rfl
theorem zts : z2M 41 = some cf41 := rfl
theorem ztr : z2M 49 = some cf49 := rfl
theorem ztq : z2M 50 = some cf50 := rfl
theorem ztp : z2M 51 = some cf51 := rfl
theorem zto : z2M 57 = some cf57 := rfl
theorem ztn : z2M 58 = some cf58 := rfl
theorem ztm : z2M 61 = some cf61 := rfl
theorem ztl : z2M 62 = some cf62 := rfl
theorem ztk : z2M 63 = some cf63 := rfl
theorem ztj : z2M 67 = some cf67 := rfl
theorem zti : z2M 68 = some cf68 := rfl
theorem zth : z2M 69 = some cf69 := rfl
theorem ztg : z2M 70 = some cf70 := rfl
theorem ztf : z2M 74 = some cf74 := rfl
theorem zte : z2M 77 = some cf77 := rfl
theorem ztd : z2M 78 = some cf78 := rfl
theorem ztc : z2M 79 = some cf79 := rfl
theorem ztb : z2M 80 = some cf80 := rfl
theorem zta : z2M 91 = some cf91 := rfl
theorem zt9 : z2M 92 = some cf92 := rfl
theorem zt8 : z2M 98 = some cf98 := rfl
theorem zqZ : z2M 100 = some cf100 := rfl
theorem fn5 : Try.prog.funcs[5]? = some Try.f5 := by kernel_rfl
theorem zuP : Try.prog.funcs[11]? = some Try.f11 := by kernel_rfl
theorem zuO : Try.prog.funcs[12]? = some Try.f12 := by kernel_rfl
theorem zuN : Try.prog.funcs[13]? = some Try.f13 := by kernel_rfl
theorem ztT : Try.prog.funcs[14]? = some Try.f14 := by kernel_rfl
theorem zuM : Try.prog.funcs[15]? = some Try.f15 := by kernel_rfl
theorem zuL : Try.prog.funcs[19]? = some Try.f19 := by kernel_rfl
theorem zuK : Try.prog.funcs[21]? = some Try.f21 := by kernel_rfl
theorem zuJ : Try.prog.funcs[30]? = some Try.f30 := by kernel_rfl
theorem zuI : Try.prog.funcs[31]? = some Try.f31 := by kernel_rfl
theorem ztS : Try.prog.funcs[32]? = some Try.f32 := by kernel_rfl
theorem zuH : Try.prog.funcs[33]? = some Try.f33 := by kernel_rfl
theorem zuG : Try.prog.funcs[34]? = some Try.f34 := by kernel_rfl
theorem zuF : Try.prog.funcs[35]? = some Try.f35 := by kernel_rfl
theorem zuE : Try.prog.funcs[36]? = some Try.f36 := by kernel_rfl
theorem zuD : Try.prog.funcs[37]? = some Try.f37 := by kernel_rfl
theorem zuC : Try.prog.funcs[38]? = some Try.f38 := by kernel_rfl
theorem zuB : Try.prog.funcs[39]? = some Try.f39 := by kernel_rfl
theorem zuA : Try.prog.funcs[40]? = some Try.f40 := by kernel_rfl
theorem zuz : Try.prog.funcs[41]? = some Try.f41 := by kernel_rfl
theorem zuy : Try.prog.funcs[49]? = some Try.f49 := by kernel_rfl
theorem zux : Try.prog.funcs[50]? = some Try.f50 := by kernel_rfl
theorem zuw : Try.prog.funcs[51]? = some Try.f51 := by kernel_rfl
theorem zuv : Try.prog.funcs[57]? = some Try.f57 := by kernel_rfl
theorem zuu : Try.prog.funcs[58]? = some Try.f58 := by kernel_rfl
theorem zut : Try.prog.funcs[61]? = some Try.f61 := by kernel_rfl
theorem zus : Try.prog.funcs[62]? = some Try.f62 := by kernel_rfl
theorem zur : Try.prog.funcs[63]? = some Try.f63 := by kernel_rfl
theorem zuq : Try.prog.funcs[67]? = some Try.f67 := by kernel_rfl
theorem zup : Try.prog.funcs[68]? = some Try.f68 := by kernel_rfl
theorem zuo : Try.prog.funcs[69]? = some Try.f69 := by kernel_rfl
theorem zun : Try.prog.funcs[70]? = some Try.f70 := by kernel_rfl
theorem zum : Try.prog.funcs[74]? = some Try.f74 := by kernel_rfl
theorem zul : Try.prog.funcs[77]? = some Try.f77 := by kernel_rfl
theorem zuk : Try.prog.funcs[78]? = some Try.f78 := by kernel_rfl
theorem zuj : Try.prog.funcs[79]? = some Try.f79 := by kernel_rfl
theorem zui : Try.prog.funcs[80]? = some Try.f80 := by kernel_rfl
theorem zuh : Try.prog.funcs[91]? = some Try.f91 := by kernel_rfl
theorem zug : Try.prog.funcs[92]? = some Try.f92 := by kernel_rfl
theorem zuf : Try.prog.funcs[98]? = some Try.f98 := by kernel_rfl
theorem zrJ : Try.prog.funcs[100]? = some Try.f100 := by kernel_rfl
noncomputable def cd5 : Code := match Try.f5.body with | some c => c | none => .skip
theorem bd5 : Try.f5.body = some cd5 := by kernel_rfl
noncomputable def zvx : Code := match Try.f11.body with | some c => c | none => .skip
theorem zw9 : Try.f11.body = some zvx := by kernel_rfl
noncomputable def zvw : Code := match Try.f12.body with | some c => c | none => .skip
theorem zw8 : Try.f12.body = some zvw := by kernel_rfl
noncomputable def zvv : Code := match Try.f13.body with | some c => c | none => .skip
theorem zw7 : Try.f13.body = some zvv := by kernel_rfl
noncomputable def z6A : Code := match Try.f14.body with | some c => c | none => .skip
theorem ztX : Try.f14.body = some z6A := by kernel_rfl
noncomputable def z4b : Code := match Try.f15.body with | some c => c | none => .skip
theorem zw6 : Try.f15.body = some z4b := by kernel_rfl
noncomputable def zvu : Code := match Try.f19.body with | some c => c | none => .skip
theorem zw5 : Try.f19.body = some zvu := by kernel_rfl
noncomputable def zvt : Code := match Try.f21.body with | some c => c | none => .skip
theorem zw4 : Try.f21.body = some zvt := by kernel_rfl
noncomputable def zvs : Code := match Try.f30.body with | some c => c | none => .skip
theorem zw3 : Try.f30.body = some zvs := by kernel_rfl
noncomputable def zvr : Code := match Try.f31.body with | some c => c | none => .skip
theorem zw2 : Try.f31.body = some zvr := by kernel_rfl
noncomputable def z4t : Code := match Try.f32.body with | some c => c | none => .skip
theorem ztW : Try.f32.body = some z4t := by kernel_rfl
noncomputable def zvq : Code := match Try.f33.body with | some c => c | none => .skip
theorem zw1 : Try.f33.body = some zvq := by kernel_rfl
noncomputable def zvp : Code := match Try.f34.body with | some c => c | none => .skip
theorem zw0 : Try.f34.body = some zvp := by kernel_rfl
noncomputable def zvo : Code := match Try.f35.body with | some c => c | none => .skip
theorem zvZ : Try.f35.body = some zvo := by kernel_rfl
noncomputable def zvn : Code := match Try.f36.body with | some c => c | none => .skip
theorem zvY : Try.f36.body = some zvn := by kernel_rfl
noncomputable def zvm : Code := match Try.f37.body with | some c => c | none => .skip
theorem zvX : Try.f37.body = some zvm := by kernel_rfl
noncomputable def zvl : Code := match Try.f38.body with | some c => c | none => .skip
theorem zvW : Try.f38.body = some zvl := by kernel_rfl
noncomputable def zvk : Code := match Try.f39.body with | some c => c | none => .skip
theorem zvV : Try.f39.body = some zvk := by kernel_rfl
noncomputable def zvj : Code := match Try.f40.body with | some c => c | none => .skip
theorem zvU : Try.f40.body = some zvj := by kernel_rfl
noncomputable def zvi : Code := match Try.f41.body with | some c => c | none => .skip
theorem zvT : Try.f41.body = some zvi := by kernel_rfl
noncomputable def zvh : Code := match Try.f49.body with | some c => c | none => .skip
theorem zvS : Try.f49.body = some zvh := by kernel_rfl
noncomputable def zvg : Code := match Try.f50.body with | some c => c | none => .skip
theorem zvR : Try.f50.body = some zvg := by kernel_rfl
noncomputable def zvf : Code := match Try.f51.body with | some c => c | none => .skip
theorem zvQ : Try.f51.body = some zvf := by kernel_rfl
noncomputable def zve : Code := match Try.f57.body with | some c => c | none => .skip
theorem zvP : Try.f57.body = some zve := by kernel_rfl
noncomputable def zvd : Code := match Try.f58.body with | some c => c | none => .skip
theorem zvO : Try.f58.body = some zvd := by kernel_rfl
noncomputable def zvc : Code := match Try.f61.body with | some c => c | none => .skip
theorem zvN : Try.f61.body = some zvc := by kernel_rfl
noncomputable def zvb : Code := match Try.f62.body with | some c => c | none => .skip
theorem zvM : Try.f62.body = some zvb := by kernel_rfl
noncomputable def zva : Code := match Try.f63.body with | some c => c | none => .skip
theorem zvL : Try.f63.body = some zva := by kernel_rfl
noncomputable def zv9 : Code := match Try.f67.body with | some c => c | none => .skip
theorem zvK : Try.f67.body = some zv9 := by kernel_rfl
noncomputable def zv8 : Code := match Try.f68.body with | some c => c | none => .skip
theorem zvJ : Try.f68.body = some zv8 := by kernel_rfl
noncomputable def zv7 : Code := match Try.f69.body with | some c => c | none => .skip
theorem zvI : Try.f69.body = some zv7 := by kernel_rfl
noncomputable def zv6 : Code := match Try.f70.body with | some c => c | none => .skip
theorem zvH : Try.f70.body = some zv6 := by kernel_rfl
noncomputable def zv5 : Code := match Try.f74.body with | some c => c | none => .skip
theorem zvG : Try.f74.body = some zv5 := by kernel_rfl
noncomputable def zv4 : Code := match Try.f77.body with | some c => c | none => .skip
theorem zvF : Try.f77.body = some zv4 := by kernel_rfl
noncomputable def zv3 : Code := match Try.f78.body with | some c => c | none => .skip
theorem zvE : Try.f78.body = some zv3 := by kernel_rfl
noncomputable def zv2 : Code := match Try.f79.body with | some c => c | none => .skip
theorem zvD : Try.f79.body = some zv2 := by kernel_rfl
noncomputable def zv1 : Code := match Try.f80.body with | some c => c | none => .skip
theorem zvC : Try.f80.body = some zv1 := by kernel_rfl
noncomputable def zv0 : Code := match Try.f91.body with | some c => c | none => .skip
theorem zvB : Try.f91.body = some zv0 := by kernel_rfl
noncomputable def zuZ : Code := match Try.f92.body with | some c => c | none => .skip
theorem zvA : Try.f92.body = some zuZ := by kernel_rfl
noncomputable def zuY : Code := match Try.f98.body with | some c => c | none => .skip
theorem zvz : Try.f98.body = some zuY := by kernel_rfl
noncomputable def ztK : Code := match Try.f100.body with | some c => c | none => .skip
theorem ztL : Try.f100.body = some ztK := by kernel_rfl
def xt : z0C := xtC
noncomputable def L : z0C := Lim Try.prog xt z2M
theorem z3W {f : FuncId} {c : Cfg} {fn : Func} {args : List T} {o : T × List T} (hc : z2M f = some c) (hfn : Try.prog.funcs[f]? = some fn) (h : zfw Try.prog L c LFm fn args = some o) : L f args = some o := zmG hc hfn h
end Go.Proofs.Ytbnnipkanechoaa
end
section
namespace Go.Proofs.Ytbnnipkanechoaa
open Go.RowKit
def Cells (w : World) (ga : Option Addr) (n : Nat) (F : Nat → Value) : Prop := ∀ j, j < n → ∃ g o, ga = some ⟨g, o, none⟩ ∧ w.cell? ⟨g, o + j, none⟩ = some (F j)
theorem zbg {w w' : World} (hb : Below w.heap.size w w') {a : Addr} {v : Value} (h : w.cell? a = some v) : w'.cell? a = some v := by
  rw [hb.cell (World.block_lt_of_cell? w a h)]; exact h
theorem Cells.below {w w' : World} {ga : Option Addr} {n : Nat} {F : Nat → Value} (h : Cells w ga n F) (hb : Below w.heap.size w w') : Cells w' ga n F := fun j hj => by
  obtain ⟨g, o, e, hc⟩ := h j hj
  exact ⟨g, o, e, zbg hb hc⟩
theorem Cells.mono {w : World} {ga : Option Addr} {n m : Nat} {F : Nat → Value} (h : Cells w ga n F) (hm : m ≤ n) : Cells w ga m F := fun j hj => h j (by omega)
theorem Cells.congr {w : World} {ga : Option Addr} {n : Nat} {F G : Nat → Value} (h : Cells w ga n F) (e : ∀ j, j < n → F j = G j) : Cells w ga n G := fun j hj => by
  obtain ⟨g, o, e1, hc⟩ := h j hj
  exact ⟨g, o, e1, by rw [hc, e j hj]⟩
def IntsAt (w : World) (v : Value) (xs : List Int) : Prop :=
  ∃ ga cap, v = .slice ga xs.length cap ∧ xs.length ≤ cap ∧ cap ≤ maxLen ∧ Cells w ga xs.length (fun j => .int .i64 (xs.getD j 0))
theorem IntsAt.below {w w' : World} {v : Value} {xs : List Int} (h : IntsAt w v xs) (hb : Below w.heap.size w w') : IntsAt w' v xs := by
  obtain ⟨ga, cap, e, h1, h2, h3⟩ := h
  exact ⟨ga, cap, e, h1, h2, h3.below hb⟩
def RowsAt (w : World) (v : Value) (rows : List (List Int)) : Prop :=
  ∃ ga cap, ∃ F : Nat → Value, v = .slice ga rows.length cap ∧ rows.length ≤ cap ∧ cap ≤ maxLen ∧ Cells w ga rows.length F ∧ ∀ j, j < rows.length → IntsAt w (F j) (rows.getD j [])
theorem RowsAt.below {w w' : World} {v : Value} {rows : List (List Int)} (h : RowsAt w v rows) (hb : Below w.heap.size w w') : RowsAt w' v rows := by
  obtain ⟨ga, cap, F, e, h1, h2, h3, h4⟩ := h
  exact ⟨ga, cap, F, e, h1, h2, h3.below hb, fun j hj => (h4 j hj).below hb⟩
structure CRow where
  pre : List Int
  maps : List (List Int)
deriving Inhabited
structure Casc where
  letters : Int
  sizes : List Int
  rows : List CRow
deriving Inhabited
def CRowsAt (w : World) (v : Value) (rows : List CRow) : Prop :=
  ∃ ga cap, ∃ F G : Nat → Value, v = .slice ga rows.length cap ∧ rows.length ≤ cap ∧ cap ≤ maxLen ∧ ∀ j, (h : j < rows.length) → ∃ g o, ga = some ⟨g, o, none⟩ ∧ w.cell? ⟨g, o + j * 2, none⟩ = some (F j) ∧ w.cell? ⟨g, o + j * 2 + 1, none⟩ = some (G j) ∧ IntsAt w (F j) rows[j].pre ∧ RowsAt w (G j) rows[j].maps
theorem CRowsAt.below {w w' : World} {v : Value} {rows : List CRow} (h : CRowsAt w v rows) (hb : Below w.heap.size w w') : CRowsAt w' v rows := by
  obtain ⟨ga, cap, F, G, e, h1, h2, h3⟩ := h
  refine ⟨ga, cap, F, G, e, h1, h2, fun j hj => ?_⟩
  obtain ⟨g, o, e1, c1, c2, i1, i2⟩ := h3 j hj
  exact ⟨g, o, e1, zbg hb c1, zbg hb c2, i1.below hb, i2.below hb⟩
def CascAt (w : World) (v : Value) (c : Casc) : Prop :=
  ∃ s r, v = .agg #[.int .i64 c.letters, s, r] ∧ IntsAt w s c.sizes ∧ CRowsAt w r c.rows
theorem CascAt.below {w w' : World} {v : Value} {c : Casc} (h : CascAt w v c) (hb : Below w.heap.size w w') : CascAt w' v c := by
  obtain ⟨s, r, e, h1, h2⟩ := h
  exact ⟨s, r, e, h1.below hb, h2.below hb⟩
end Go.Proofs.Ytbnnipkanechoaa
end
section
namespace Go.Proofs.Ytbnnipkanechoaa
open Go
noncomputable section
set_option maxRecDepth 100000
set_option maxHeartbeats 1000000
structure Tape where
  l : List Int
  at_ : Int
deriving Inhabited
structure DFA where
  letters : Int
  start : Int
  final : List Bool
  next : List (List Int)
deriving Inhabited
def z9U (a0 : Int) (a1 : Int) : Option (Int) :=
  if a1 < 1 then
    some 0
  else
    chk (¬ a1 = 0) <|
    if (Int.tmod a0 a1) < 0 then
      some (IntKind.i64.wrap ((Int.tmod a0 a1) + a1))
    else
      some (Int.tmod a0 a1)
theorem zic {a0 : Int} {a1 : Int} {r : Int} (h0 : z9U a0 a1 = some r) : L 21 [.sc (.int .i64 a0), .sc (.int .i64 a1)] = some (.sc (.int .i64 r), [.dead, .dead]) := by
  simp only [z9U] at h0
  refine z3W ztE zuK (z1G zw4 ⟨of_decide_eq_true rfl, of_decide_eq_true rfl⟩ ?_)
  simp only [z1R, z1L, z1I, z1S, z3V]
  refine zq rfl (zr rfl rfl rfl (by simp; rfl) ?_)
  refine z0a (zq rfl (zq rfl (zr rfl rfl rfl (by simp; rfl) ?_)))
  refine z0a ?_
  by_cases c4 : a1 < 1
  ·rw [if_pos c4] at h0
   refine z0w rfl (by simp [c4]) (zq rfl (zr rfl rfl rfl (by simp; rfl) ?_))
   refine z0a (z1u rfl (z0m ?_))
   cases h0
   simp
  ·rw [if_neg c4] at h0
   refine z0v rfl (by simp [c4]) (z0g rfl (z0a (zq rfl ?_)))
   obtain ⟨f5, h1⟩ := z1N h0
   refine zr rfl rfl rfl (by simp [f5]; rfl) ?_
   refine z0a (zq rfl (zq rfl (zr rfl rfl rfl (by simp; rfl) ?_)))
   refine z0a ?_
   by_cases c6 : (Int.tmod a0 a1) < 0
   ·rw [if_pos c6] at h1
    refine z0w rfl (by simp [c6]) (zr rfl rfl rfl (by simp; rfl) ?_)
    refine z0a (zq rfl (zr rfl rfl rfl (by simp; rfl) ?_))
    refine z0a (z1u rfl ?_)
    cases h1
    simp
   ·rw [if_neg c6] at h1
    refine z0v rfl (by simp [c6]) (z0g rfl (z0a (zq rfl (zr rfl rfl rfl (by simp; rfl) ?_))))
    refine z0a (z1u rfl ?_)
    cases h1
    simp
def z1x (a0 : Tape) (a1 : Int) : Option (Int × Tape) :=
  if (a0.l.length : Int) ≤ a0.at_ then
    some (0, a0)
  else
    (atI a0.l (IntKind.i64.wrap ((IntKind.i64.wrap (a0.at_ + 1)) - 1))).bind fun v3 =>
    (z9U v3 a1).bind fun v4 =>
    some (v4, (⟨a0.l, IntKind.i64.wrap (a0.at_ + 1)⟩ : Tape))
theorem z1y {a0 : Tape} {a1 : Int} {r : Int × Tape} (h0 : z1x a0 a1 = some r) : L 30 [.vr [.sl a0.l.length (a0.l.map fun x0 => .sc (.int .i64 x0)), .sc (.int .i64 a0.at_)], .sc (.int .i64 a1)] = some (.sc (.int .i64 r.1), [.vr [.sl r.2.l.length (r.2.l.map fun x0 => .sc (.int .i64 x0)), .sc (.int .i64 r.2.at_)], .dead]) := by
  simp only [z1x] at h0
  refine z3W ztD zuJ (z1G zw3 ⟨of_decide_eq_true rfl, of_decide_eq_true rfl⟩ ?_)
  simp only [z1R, z1L, z1I, z1S, z3V]
  refine zq rfl (zr rfl rfl rfl (by simp; rfl) ?_)
  refine z0a (zq rfl (zq rfl ?_))
  refine z1m rfl rfl rfl rfl ?_; repeat' ((first | refine z0s rfl rfl fun Q' hQ => ?_ | refine z0n rfl fun Q' hQ => ?_); simp; refine hQ.out _ ?_; clear hQ; clear Q')
  refine z0a ?_
  by_cases c4 : (a0.l.length : Int) ≤ a0.at_
  ·rw [if_pos c4] at h0
   refine z0w rfl (by simp [c4]) (zq rfl (zr rfl rfl rfl (by simp; rfl) ?_))
   refine z0a (z1u rfl (z0m ?_))
   cases h0
   simp
  ·rw [if_neg c4] at h0
   refine z0v rfl (by simp [c4]) (z0g rfl (z0a (zq rfl (zr rfl rfl rfl (by simp; rfl) ?_))))
   refine z0a (zq rfl ?_)
   obtain ⟨v3, f5, h1⟩ := z1h h0
   obtain ⟨v4, f6, h2⟩ := z0d h1
   have f6k := zic f6
   try simp at f6k
   refine z1m rfl rfl rfl rfl ?_; repeat' ((first | refine z0s rfl rfl fun Q' hQ => ?_ | refine z0n rfl fun Q' hQ => ?_); simp [f5, f6k]; refine hQ.out _ ?_; clear hQ; clear Q')
   refine z0a (z1u rfl ?_)
   cases h2
   simp
def z9T (a0 : List Int) : Option (Tape) :=
  if 80 < (a0.length : Int) then
    (z6M a0 0 80).bind fun v2 =>
    some (⟨v2, 0⟩ : Tape)
  else
    some (⟨a0, 0⟩ : Tape)
theorem zib {a0 : List Int} {r : Tape} (h0 : z9T a0 = some r) : L 11 [.sl a0.length (a0.map fun x0 => .sc (.int .i64 x0))] = some (.vr [.sl r.l.length (r.l.map fun x0 => .sc (.int .i64 x0)), .sc (.int .i64 r.at_)], [.dead]) := by
  simp only [z9T] at h0
  refine z3W ztJ zuP (z1G zw9 ⟨of_decide_eq_true rfl, of_decide_eq_true rfl⟩ ?_)
  simp only [z1R, z1L, z1I, z1S, z3V]
  refine zq rfl (zr rfl rfl rfl (by simp; rfl) ?_)
  refine z0a (zq rfl (zq rfl (zr rfl rfl rfl (by simp; rfl) ?_)))
  refine z0a ?_
  by_cases c3 : 80 < (a0.length : Int)
  ·rw [if_pos c3] at h0
   refine z0w rfl (by simp [c3]) ?_
   obtain ⟨v2, f4, h1⟩ := z0d h0
   obtain ⟨f4a, f4b, f4c, -⟩ := z6b f4
   obtain ⟨f4d, f4g⟩ := zbB f4a f4b
   have f4e := zb9 (g := fun x : Int => (.sc (.int .i64 x) : T)) f4
   try simp at f4e
   have f4f := zb8 f4
   try simp only [Int.reduceToNat, Int.toNat_natCast, Nat.sub_zero] at f4f
   refine zr rfl rfl rfl (by simp [f4a, f4b, f4c, f4d, f4g, f4e, f4f]; rfl) ?_
   refine z0a (zq rfl (zr rfl rfl rfl (by simp; rfl) ?_))
   refine z0a (z1u rfl ?_)
   cases h1
   simp
  ·rw [if_neg c3] at h0
   refine z0v rfl (by simp [c3]) (z0g rfl (z0a (zq rfl (zr rfl rfl rfl (by simp; rfl) ?_))))
   refine z0a (z1u rfl ?_)
   cases h0
   simp
def z3O (a0 : Tape) : Option (Int × Tape) :=
  (z1x a0 8).bind fun v2 =>
  some (IntKind.i64.wrap (2 - (zr6 .i64 v2.1 7)), v2.2)
theorem z8A {a0 : Tape} {r : Int × Tape} (h0 : z3O a0 = some r) : L 13 [.vr [.sl a0.l.length (a0.l.map fun x0 => .sc (.int .i64 x0)), .sc (.int .i64 a0.at_)]] = some (.sc (.int .i64 r.1), [.vr [.sl r.2.l.length (r.2.l.map fun x0 => .sc (.int .i64 x0)), .sc (.int .i64 r.2.at_)]]) := by
  simp only [z3O] at h0
  refine z3W ztH zuN (z1G zw7 ⟨of_decide_eq_true rfl, of_decide_eq_true rfl⟩ ?_)
  simp only [z1R, z1L, z1I, z1S, z3V]
  refine zq rfl (zr rfl rfl rfl (by simp; rfl) ?_)
  refine z0a (zq rfl ?_)
  obtain ⟨v2, f2, h1⟩ := z0d h0
  have f2k := z1y f2
  try simp at f2k
  refine zr rfl rfl rfl (by simp [f2k]; rfl) ?_
  refine z0a (z1u rfl ?_)
  cases h1
  simp
def z4o (a1 : Int) (v32 : Int × Tape) (w42 : Int) (w45 : List Bool) (w46 : List (List Int)) (v55 : Int × Tape) : Int × List Int × Int × List Int → Option ((Int × List Int × Int × List Int) ⊕ ((Int × List Int × Int × List Bool × List (List Int)) ⊕ (DFA × Tape)))
  | (w57, w58, w59, w60) =>
  if w57 < a1 then
    (z1x (⟨w58, w59⟩ : Tape) (IntKind.i64.wrap (1 + v32.1))).bind fun v62 =>
    chk (z3U 8 (w60.length + 1)) <|
    z1b (IntKind.i64.wrap (w57 + 1), v62.2.l, v62.2.at_, w60 ++ [v62.1])
  else
    z1l <|
    chk (z3U 24 (w46.length + 1)) <|
    z1b (IntKind.i64.wrap (w42 + 1), w58, w59, w45 ++ [decide (v55.1 = 1)], w46 ++ [w60])
def z4n (a1 : Int) (v32 : Int × Tape) (v33 : Int × Tape) (w42 : Int) (w45 : List Bool) (w46 : List (List Int)) (v55 : Int × Tape) : Int × List Int × Int × List Int → Fr
  | (w57, w58, w59, w60) => ⟨53, [(0, .one (.a 0 [] (0))), (1, .one (.t none (.sc (.int .i64 a1)))), (6, .one (.a 6 [] (0))), (7, .one (.a 7 [] (0))), (8, .one (.t none (.sc (.int .i64 (IntKind.i64.wrap (1 + v32.1)))))), (9, .one (.t none (.sc (.int .i64 w42)))), (10, .one (.h 10 [])), (11, .one (.t none (.sc (.int .i64 w57)))), (1053, .one (.a 0 [] (0)))], [(0, .vr [.sl w58.length (w58.map fun x0 => .sc (.int .i64 x0)), .sc (.int .i64 w59)]), (6, .vr [.sc (.int .i64 0), .sc (.int .i64 0), .os 1 0 [], .os 1 0 []]), (7, .vr [.sc (.int .i64 a1), .sc (.int .i64 v33.1), .os 1 (w45 ++ [decide (v55.1 = 1)]).length ((w45 ++ [decide (v55.1 = 1)]).map fun x0 => .sc (.bool x0)), .os 1 w46.length (w46.map fun x0 => .os 1 x0.length (x0.map fun x1 => .sc (.int .i64 x1)))]), (10, .os 1 w60.length (w60.map fun x0 => .sc (.int .i64 x0)))]⟩
def z4D (a1 : Int) (v32 : Int × Tape) (v33 : Int × Tape) : Int × List Int × Int × List Bool × List (List Int) → Option ((Int × List Int × Int × List Bool × List (List Int)) ⊕ (DFA × Tape))
  | (w42, w43, w44, w45, w46) =>
  if w42 < (IntKind.i64.wrap (1 + v32.1)) then
    (z1x (⟨w43, w44⟩ : Tape) 2).bind fun v55 =>
    chk (z3U 1 (w45.length + 1)) <|
    z1p (z4o a1 v32 w42 w45 w46 v55) LFm (0, v55.2.l, v55.2.at_, [])
  else
    z1l <|
    some ((⟨a1, v33.1, w45, w46⟩ : DFA), (⟨w43, w44⟩ : Tape))
def z4C (a1 : Int) (v32 : Int × Tape) (v33 : Int × Tape) : Int × List Int × Int × List Bool × List (List Int) → Fr
  | (w42, w43, w44, w45, w46) => ⟨53, [(0, .one (.a 0 [] (0))), (1, .one (.t none (.sc (.int .i64 a1)))), (6, .one (.a 6 [] (0))), (7, .one (.a 7 [] (0))), (8, .one (.t none (.sc (.int .i64 (IntKind.i64.wrap (1 + v32.1)))))), (9, .one (.t none (.sc (.int .i64 w42)))), (1053, .one (.a 0 [] (0)))], [(0, .vr [.sl w43.length (w43.map fun x0 => .sc (.int .i64 x0)), .sc (.int .i64 w44)]), (6, .vr [.sc (.int .i64 0), .sc (.int .i64 0), .os 1 0 [], .os 1 0 []]), (7, .vr [.sc (.int .i64 a1), .sc (.int .i64 v33.1), .os 1 w45.length (w45.map fun x0 => .sc (.bool x0)), .os 1 w46.length (w46.map fun x0 => .os 1 x0.length (x0.map fun x1 => .sc (.int .i64 x1)))])]⟩
def z4p (a0 : Tape) (a1 : Int) (a2 : Int) : Option (DFA × Tape) :=
  (z1x a0 a2).bind fun v32 =>
  (z1x v32.2 (IntKind.i64.wrap (1 + v32.1))).bind fun v33 =>
  z1p (z4D a1 v32 v33) LFm (0, v33.2.l, v33.2.at_, [], [])
theorem z7m {a0 : Tape} {a1 : Int} {a2 : Int} {r : DFA × Tape} (h0 : z4p a0 a1 a2 = some r) : L 34 [.vr [.sl a0.l.length (a0.l.map fun x0 => .sc (.int .i64 x0)), .sc (.int .i64 a0.at_)], .sc (.int .i64 a1), .sc (.int .i64 a2)] = some (.agg [.sc (.int .i64 r.1.letters), .sc (.int .i64 r.1.start), .os 1 r.1.final.length (r.1.final.map fun x0 => .sc (.bool x0)), .os 1 r.1.next.length (r.1.next.map fun x0 => .os 1 x0.length (x0.map fun x1 => .sc (.int .i64 x1)))], [.vr [.sl r.2.l.length (r.2.l.map fun x0 => .sc (.int .i64 x0)), .sc (.int .i64 r.2.at_)], .dead, .dead]) := by
  simp only [z4p] at h0
  refine z3W ztz zuG (z1G zw0 ⟨of_decide_eq_true rfl, of_decide_eq_true rfl⟩ ?_)
  simp only [z1R, z1L, z1I, z1S, z3V]
  refine zq rfl (zr rfl rfl rfl (by simp; rfl) ?_)
  refine z0a (zq rfl (zr rfl rfl rfl (by simp; rfl) ?_))
  refine z0a (zq rfl ?_)
  obtain ⟨v32, f37, h1⟩ := z0d h0
  have f37k := z1y f37
  try simp at f37k
  refine zr rfl rfl rfl (by simp [f37k]; rfl) ?_
  refine z0a (zq rfl ?_)
  obtain ⟨v33, f38, h2⟩ := z0d h1
  have f38k := z1y f38
  try simp at f38k
  refine zr rfl rfl rfl (by simp [f38k]; rfl) ?_
  refine z0a (zq rfl (zq rfl (zr rfl rfl rfl (by simp; rfl) ?_)))
  refine z0a (zb rfl (z1c h2 (z4C a1 v32 v33) rfl rfl (by simp [z4C]) fun s o1 h3 hr1 => ?_))
  obtain ⟨w42, w43, w44, w45, w46⟩ := s
  simp only [z4D] at h3
  simp only [z4C]
  refine zq rfl (zq rfl (zr rfl rfl rfl (by simp; rfl) ?_))
  refine z0a ?_
  by_cases c61 : w42 < (IntKind.i64.wrap (1 + v32.1))
  ·rw [if_pos c61] at h3
   refine z0w rfl (by simp [c61]) (z0g rfl (z0a (zq rfl (zb rfl (zq rfl ?_)))))
   obtain ⟨v55, f62, h4⟩ := z0d h3
   have f62k := z1y f62
   try simp at f62k
   obtain ⟨f63, h5⟩ := zpU h4
   refine z1m rfl rfl rfl rfl ?_; repeat' ((first | refine z0s rfl rfl fun Q' hQ => ?_ | refine z0n rfl fun Q' hQ => ?_); simp [f62k, f63]; refine hQ.out _ ?_; clear hQ; clear Q')
   refine z0a (zq rfl (zr rfl rfl rfl (by simp; rfl) ?_))
   refine z0a (zq rfl (zq rfl (zr rfl rfl rfl (by simp; rfl) ?_)))
   refine z0a (zb rfl (z1c h5 (z4n a1 v32 v33 w42 w45 w46 v55) rfl rfl (by simp [z4n]) fun s o2 h6 hr2 => ?_))
   obtain ⟨w57, w58, w59, w60⟩ := s
   simp only [z4o] at h6
   simp only [z4n]
   refine zq rfl (zq rfl (zr rfl rfl rfl (by simp; rfl) ?_))
   refine z0a ?_
   by_cases c69 : w57 < a1
   ·rw [if_pos c69] at h6
    refine z0w rfl (by simp [c69]) (z0g rfl (z0a (zq rfl (zb rfl ?_))))
    obtain ⟨v62, f70, h7⟩ := z0d h6
    have f70k := z1y f70
    try simp at f70k
    obtain ⟨f71, h8⟩ := z8F h7
    refine zr rfl rfl rfl (by simp [f70k, f71]; rfl) ?_
    refine z0k (z0a (zr rfl rfl rfl (by simp; rfl) ?_))
    have ho := z0c h8
    refine z0j ho ?_
    simp [z4n]
   ·rw [if_neg c69] at h6
    refine z0v rfl (by simp [c69]) (z1s rfl (z0U ?_))
    obtain ⟨rr2, h7, ho2⟩ := z0b h6
    have hs2 := hr2 _ ho2
    subst hs2
    refine z0B ho2 (z0e rfl (z0a ?_))
    obtain ⟨f72, h8⟩ := z8F h7
    refine zr rfl rfl rfl (by simp [f72]; rfl) ?_
    refine z0k (z0a (zr rfl rfl rfl (by simp; rfl) ?_))
    have ho := z0c h8
    refine z0j ho ?_
    simp [z4C]
  ·rw [if_neg c61] at h3
   refine z0v rfl (by simp [c61]) (z1s rfl (z0U ?_))
   obtain ⟨rr1, h4, ho1⟩ := z0b h3
   have hs1 := hr1 _ ho1
   subst hs1
   refine z0B ho1 (z0e rfl (z0a (zq rfl (zr rfl rfl rfl (by simp; rfl) ?_))))
   refine z0a (z1u rfl ?_)
   cases h4
   simp
def z3G (w61 : Int) (v77 : List Int) : Int × List (List Int) → Option ((Int × List (List Int)) ⊕ ((Int × List (List Int)) ⊕ (DFA × Tape)))
  | (w81, w82) =>
  (atI w82 w61).bind fun v87 =>
  if w81 < (v77.length : Int) then
    (atI v87 w81).bind fun v88 =>
    z1b (IntKind.i64.wrap (w81 + 1), (w82.set w61.toNat (v87.set w81.toNat (if w61 < v88 then v88 else w61))))
  else
    z1l <|
    z1b (IntKind.i64.wrap (w61 + 1), w82)
def z3E (v46 : DFA × Tape) (w61 : Int) (v77 : List Int) : Int × List (List Int) → Fr
  | (w81, w82) => ⟨46, [(6, .one (.a 6 [] (0))), (7, .one (.a 7 [] (0))), (8, .one (.t none (.sc (.int .i64 w61)))), (17, .one (.t none (.sc (.int .i64 (v46.1.next.length : Int))))), (18, .one (.t none (.sc (.int .i64 w61)))), (25, .one (.h 7 [3, w61.toNat])), (26, .one (.t none (.sc (.int .i64 (v77.length : Int))))), (27, .one (.t none (.sc (.int .i64 w81)))), (1046, .one (.a 0 [] (0)))], [(6, .vr [.sc (.int .i64 0), .sc (.int .i64 0), .os 1 0 [], .os 1 0 []]), (7, .vr [.sc (.int .i64 v46.1.letters), .sc (.int .i64 v46.1.start), .os 1 v46.1.final.length (v46.1.final.map fun x0 => .sc (.bool x0)), .os 1 w82.length (w82.map fun x0 => .os 1 x0.length (x0.map fun x1 => .sc (.int .i64 x1)))]), (0, .vr [.sl v46.2.l.length (v46.2.l.map fun x0 => .sc (.int .i64 x0)), .sc (.int .i64 v46.2.at_)])]⟩
def z3H (v46 : DFA × Tape) : Int × List (List Int) → Option ((Int × List (List Int)) ⊕ (DFA × Tape))
  | (w61, w62) =>
  if w61 < (v46.1.next.length : Int) then
    (atI w62 w61).bind fun v77 =>
    z1p (z3G w61 v77) LFm (0, w62)
  else
    z1l <|
    some ((⟨v46.1.letters, 0, v46.1.final, w62⟩ : DFA), v46.2)
def z3F (v46 : DFA × Tape) : Int × List (List Int) → Fr
  | (w61, w62) => ⟨46, [(6, .one (.a 6 [] (0))), (7, .one (.a 7 [] (0))), (17, .one (.t none (.sc (.int .i64 (v46.1.next.length : Int))))), (18, .one (.t none (.sc (.int .i64 w61)))), (1046, .one (.a 0 [] (0)))], [(6, .vr [.sc (.int .i64 0), .sc (.int .i64 0), .os 1 0 [], .os 1 0 []]), (7, .vr [.sc (.int .i64 v46.1.letters), .sc (.int .i64 v46.1.start), .os 1 v46.1.final.length (v46.1.final.map fun x0 => .sc (.bool x0)), .os 1 w62.length (w62.map fun x0 => .os 1 x0.length (x0.map fun x1 => .sc (.int .i64 x1)))]), (0, .vr [.sl v46.2.l.length (v46.2.l.map fun x0 => .sc (.int .i64 x0)), .sc (.int .i64 v46.2.at_)])]⟩
def z3N (a0 : Tape) (a1 : Int) (a2 : Int) : Option (DFA × Tape) :=
  (z4p a0 a1 a2).bind fun v46 =>
  z1p (z3H v46) LFm (0, v46.1.next)
theorem z8z {a0 : Tape} {a1 : Int} {a2 : Int} {r : DFA × Tape} (h0 : z3N a0 a1 a2 = some r) : L 31 [.vr [.sl a0.l.length (a0.l.map fun x0 => .sc (.int .i64 x0)), .sc (.int .i64 a0.at_)], .sc (.int .i64 a1), .sc (.int .i64 a2)] = some (.agg [.sc (.int .i64 r.1.letters), .sc (.int .i64 r.1.start), .os 1 r.1.final.length (r.1.final.map fun x0 => .sc (.bool x0)), .os 1 r.1.next.length (r.1.next.map fun x0 => .os 1 x0.length (x0.map fun x1 => .sc (.int .i64 x1)))], [.vr [.sl r.2.l.length (r.2.l.map fun x0 => .sc (.int .i64 x0)), .sc (.int .i64 r.2.at_)], .dead, .dead]) := by
  simp only [z3N] at h0
  refine z3W ztC zuI (z1G zw2 ⟨of_decide_eq_true rfl, of_decide_eq_true rfl⟩ ?_)
  simp only [z1R, z1L, z1I, z1S, z3V]
  refine zq rfl (zr rfl rfl rfl (by simp; rfl) ?_)
  refine z0a (zq rfl ?_)
  obtain ⟨v46, f38, h1⟩ := z0d h0
  have f38k := z7m f38
  try simp at f38k
  refine zr rfl rfl rfl (by simp [f38k]; rfl) ?_
  refine z0a (zq rfl (zq rfl (zr rfl rfl rfl (by simp; rfl) ?_)))
  refine z0a (zb rfl (z1c h1 (z3F v46) rfl rfl (by simp [z3F]) fun s o1 h2 hr1 => ?_))
  obtain ⟨w61, w62⟩ := s
  simp only [z3H] at h2
  simp only [z3F]
  refine zq rfl (zr rfl rfl rfl (by simp; rfl) ?_)
  refine z0a (zq rfl ?_)
  by_cases c63 : w61 < (v46.1.next.length : Int)
  ·rw [if_pos c63] at h2
   refine z0w rfl (by simp [c63]) (z0g rfl (z0a (zq rfl (zb rfl (zq rfl (zr rfl rfl rfl (by simp; rfl) ?_))))))
   refine z0a (zq rfl ?_)
   obtain ⟨v77, f64, h3⟩ := z1h h2
   refine zr rfl rfl rfl (by simp [f64]; rfl) ?_
   refine z0a (zb rfl (z1c h3 (z3E v46 w61 v77) rfl rfl (by simp [z3E]) fun s o2 h4 hr2 => ?_))
   obtain ⟨w81, w82⟩ := s
   simp only [z3G] at h4
   simp only [z3E]
   obtain ⟨v87, f72, h5⟩ := z1h h4
   refine zq rfl (zr rfl rfl rfl (by simp [f72]; rfl) ?_)
   refine z0a (zq rfl ?_)
   by_cases c73 : w81 < (v77.length : Int)
   ·rw [if_pos c73] at h5
    refine z0w rfl (by simp [c73]) (z0g rfl (z0a (zq rfl (zb rfl (zq rfl ?_)))))
    obtain ⟨v88, f74, h6⟩ := z1h h5
    refine zr rfl rfl rfl (by simp [f72, f74]; rfl) ?_
    refine z0a (zr rfl rfl rfl (by simp [f72, f74]; rfl) ?_)
    refine z0k (z0a (zr rfl rfl rfl (by simp [f72]; rfl) ?_))
    have ho := z0c h6
    refine z0j ho ?_
    simp [z3E]
   ·rw [if_neg c73] at h5
    refine z0v rfl (by simp [c73]) (z1s rfl (z0U ?_))
    obtain ⟨rr2, h6, ho2⟩ := z0b h5
    have hs2 := hr2 _ ho2
    subst hs2
    refine z0B ho2 (z0e rfl (z0k (z0a (zr rfl rfl rfl (by simp [f72]; rfl) ?_))))
    have ho := z0c h6
    refine z0j ho ?_
    simp [z3F]
  ·rw [if_neg c63] at h2
   refine z0v rfl (by simp [c63]) (z1s rfl (z0U ?_))
   obtain ⟨rr1, h3, ho1⟩ := z0b h2
   have hs1 := hr1 _ ho1
   subst hs1
   refine z0B ho1 (z0e rfl (z0a (zq rfl (zr rfl rfl rfl (by simp; rfl) ?_))))
   refine z0a (zq rfl (zr rfl rfl rfl (by simp; rfl) ?_))
   refine z0a (z1u rfl ?_)
   cases h3
   simp
def z2p (v90 : Int × Tape) (w125 : Int) : Int × List Int × Int × List (List Int) × List Int → Option ((Int × List Int × Int × List (List Int) × List Int) ⊕ ((Int × List Int × Int × List (List Int)) ⊕ (DFA × Tape)))
  | (w162, w163, w164, w165, w166) =>
  if w162 < (IntKind.i64.wrap (1 + v90.1)) then
    (z1x (⟨w163, w164⟩ : Tape) (w166.length : Int)).bind fun v173 =>
    (atI w165 w162).bind fun v174 =>
    (atI w166 v173.1).bind fun v175 =>
    (atI v174 w125).bind fun v176 =>
    (z6M w166 0 v173.1).bind fun v177 =>
    (z6M w166 (IntKind.i64.wrap (v173.1 + 1)) (w166.length : Int)).bind fun v178 =>
    chk (z3U 8 (v177.length)) <|
    chk (z3U 8 (v177.length + v178.length)) <|
    z1b (IntKind.i64.wrap (w162 + 1), v173.2.l, v173.2.at_, (w165.set w162.toNat (v174.set w125.toNat v175)), v177 ++ v178)
  else
    z1l <|
    z1b (IntKind.i64.wrap (w125 + 1), w163, w164, w165)
def z2n (a1 : Int) (v90 : Int × Tape) (v91 : Int × Tape) (w96 : List Bool) (w125 : Int) : Int × List Int × Int × List (List Int) × List Int → Fr
  | (w162, w163, w164, w165, w166) => ⟨90, [(0, .one (.a 0 [] (0))), (1, .one (.t none (.sc (.int .i64 a1)))), (6, .one (.a 6 [] (0))), (7, .one (.a 7 [] (0))), (8, .one (.t none (.sc (.int .i64 (IntKind.i64.wrap (1 + v90.1)))))), (10, .one (.t none (.sc (.int .i64 w125)))), (11, .one (.h 11 [])), (13, .one (.t none (.sc (.int .i64 w162)))), (1090, .one (.a 0 [] (0)))], [(0, .vr [.sl w163.length (w163.map fun x0 => .sc (.int .i64 x0)), .sc (.int .i64 w164)]), (6, .vr [.sc (.int .i64 0), .sc (.int .i64 0), .os 1 0 [], .os 1 0 []]), (7, .vr [.sc (.int .i64 a1), .sc (.int .i64 v91.1), .os 1 w96.length (w96.map fun x0 => .sc (.bool x0)), .os 1 w165.length (w165.map fun x0 => .os 1 x0.length (x0.map fun x1 => .sc (.int .i64 x1)))]), (11, .os 1 w166.length (w166.map fun x0 => .sc (.int .i64 x0)))]⟩
def z2q (v90 : Int × Tape) (w125 : Int) (w126 : List Int) (w127 : Int) (w128 : List (List Int)) : Int × List Int → Option ((Int × List Int) ⊕ ((Int × List Int × Int × List (List Int)) ⊕ (DFA × Tape)))
  | (w154, w155) =>
  if w154 < (IntKind.i64.wrap (1 + v90.1)) then
    chk (z3U 8 (w155.length + 1)) <|
    z1b (IntKind.i64.wrap (w154 + 1), w155 ++ [w154])
  else
    z1l <|
    z1p (z2p v90 w125) LFm (0, w126, w127, w128, w155)
def z2o (a1 : Int) (v90 : Int × Tape) (v91 : Int × Tape) (w96 : List Bool) (w125 : Int) (w126 : List Int) (w127 : Int) (w128 : List (List Int)) : Int × List Int → Fr
  | (w154, w155) => ⟨90, [(0, .one (.a 0 [] (0))), (1, .one (.t none (.sc (.int .i64 a1)))), (6, .one (.a 6 [] (0))), (7, .one (.a 7 [] (0))), (8, .one (.t none (.sc (.int .i64 (IntKind.i64.wrap (1 + v90.1)))))), (10, .one (.t none (.sc (.int .i64 w125)))), (11, .one (.h 11 [])), (12, .one (.t none (.sc (.int .i64 w154)))), (1090, .one (.a 0 [] (0)))], [(0, .vr [.sl w126.length (w126.map fun x0 => .sc (.int .i64 x0)), .sc (.int .i64 w127)]), (6, .vr [.sc (.int .i64 0), .sc (.int .i64 0), .os 1 0 [], .os 1 0 []]), (7, .vr [.sc (.int .i64 a1), .sc (.int .i64 v91.1), .os 1 w96.length (w96.map fun x0 => .sc (.bool x0)), .os 1 w128.length (w128.map fun x0 => .os 1 x0.length (x0.map fun x1 => .sc (.int .i64 x1)))]), (11, .os 1 w155.length (w155.map fun x0 => .sc (.int .i64 x0)))]⟩
def z2G (a1 : Int) (v90 : Int × Tape) (v91 : Int × Tape) (w96 : List Bool) : Int × List Int × Int × List (List Int) → Option ((Int × List Int × Int × List (List Int)) ⊕ (DFA × Tape))
  | (w125, w126, w127, w128) =>
  if w125 < a1 then
    z1p (z2q v90 w125 w126 w127 w128) LFm (0, [])
  else
    z1l <|
    some ((⟨a1, v91.1, w96, w128⟩ : DFA), (⟨w126, w127⟩ : Tape))
def z2E (a1 : Int) (v90 : Int × Tape) (v91 : Int × Tape) (w96 : List Bool) : Int × List Int × Int × List (List Int) → Fr
  | (w125, w126, w127, w128) => ⟨90, [(0, .one (.a 0 [] (0))), (1, .one (.t none (.sc (.int .i64 a1)))), (6, .one (.a 6 [] (0))), (7, .one (.a 7 [] (0))), (8, .one (.t none (.sc (.int .i64 (IntKind.i64.wrap (1 + v90.1)))))), (10, .one (.t none (.sc (.int .i64 w125)))), (1090, .one (.a 0 [] (0)))], [(0, .vr [.sl w126.length (w126.map fun x0 => .sc (.int .i64 x0)), .sc (.int .i64 w127)]), (6, .vr [.sc (.int .i64 0), .sc (.int .i64 0), .os 1 0 [], .os 1 0 []]), (7, .vr [.sc (.int .i64 a1), .sc (.int .i64 v91.1), .os 1 w96.length (w96.map fun x0 => .sc (.bool x0)), .os 1 w128.length (w128.map fun x0 => .os 1 x0.length (x0.map fun x1 => .sc (.int .i64 x1)))])]⟩
def z2H (a1 : Int) (v90 : Int × Tape) (v91 : Int × Tape) : Int × List Int × Int × List Bool × List (List Int) → Option ((Int × List Int × Int × List Bool × List (List Int)) ⊕ (DFA × Tape))
  | (w93, w94, w95, w96, w97) =>
  if w93 < (IntKind.i64.wrap (1 + v90.1)) then
    (z1x (⟨w94, w95⟩ : Tape) 2).bind fun v99 =>
    chk (z3U 1 (w96.length + 1)) <|
    chk (z3n 8 a1) <|
    chk (z3U 24 (w97.length + 1)) <|
    z1b (IntKind.i64.wrap (w93 + 1), v99.2.l, v99.2.at_, w96 ++ [decide (v99.1 = 1)], w97 ++ [List.replicate a1.toNat (0 : Int)])
  else
    z1l <|
    z1p (z2G a1 v90 v91 w96) LFm (0, w94, w95, w97)
def z2F (a1 : Int) (v90 : Int × Tape) (v91 : Int × Tape) : Int × List Int × Int × List Bool × List (List Int) → Fr
  | (w93, w94, w95, w96, w97) => ⟨90, [(0, .one (.a 0 [] (0))), (1, .one (.t none (.sc (.int .i64 a1)))), (6, .one (.a 6 [] (0))), (7, .one (.a 7 [] (0))), (8, .one (.t none (.sc (.int .i64 (IntKind.i64.wrap (1 + v90.1)))))), (9, .one (.t none (.sc (.int .i64 w93)))), (1090, .one (.a 0 [] (0)))], [(0, .vr [.sl w94.length (w94.map fun x0 => .sc (.int .i64 x0)), .sc (.int .i64 w95)]), (6, .vr [.sc (.int .i64 0), .sc (.int .i64 0), .os 1 0 [], .os 1 0 []]), (7, .vr [.sc (.int .i64 a1), .sc (.int .i64 v91.1), .os 1 w96.length (w96.map fun x0 => .sc (.bool x0)), .os 1 w97.length (w97.map fun x0 => .os 1 x0.length (x0.map fun x1 => .sc (.int .i64 x1)))])]⟩
def z2t (a0 : Tape) (a1 : Int) (a2 : Int) : Option (DFA × Tape) :=
  (z1x a0 a2).bind fun v90 =>
  (z1x v90.2 (IntKind.i64.wrap (1 + v90.1))).bind fun v91 =>
  z1p (z2H a1 v90 v91) LFm (0, v91.2.l, v91.2.at_, [], [])
theorem z6t {a0 : Tape} {a1 : Int} {a2 : Int} {r : DFA × Tape} (h0 : z2t a0 a1 a2 = some r) : L 32 [.vr [.sl a0.l.length (a0.l.map fun x0 => .sc (.int .i64 x0)), .sc (.int .i64 a0.at_)], .sc (.int .i64 a1), .sc (.int .i64 a2)] = some (.agg [.sc (.int .i64 r.1.letters), .sc (.int .i64 r.1.start), .os 1 r.1.final.length (r.1.final.map fun x0 => .sc (.bool x0)), .os 1 r.1.next.length (r.1.next.map fun x0 => .os 1 x0.length (x0.map fun x1 => .sc (.int .i64 x1)))], [.vr [.sl r.2.l.length (r.2.l.map fun x0 => .sc (.int .i64 x0)), .sc (.int .i64 r.2.at_)], .dead, .dead]) := by
  simp only [z2t] at h0
  refine z3W ztB ztS (z1G ztW ⟨of_decide_eq_true rfl, of_decide_eq_true rfl⟩ ?_)
  simp only [z1R, z1L, z1I, z1S, z3V]
  refine zq rfl (zr rfl rfl rfl (by simp; rfl) ?_)
  refine z0a (zq rfl (zr rfl rfl rfl (by simp; rfl) ?_))
  refine z0a (zq rfl ?_)
  obtain ⟨v90, f115, h1⟩ := z0d h0
  have f115k := z1y f115
  try simp at f115k
  refine zr rfl rfl rfl (by simp [f115k]; rfl) ?_
  refine z0a (zq rfl ?_)
  obtain ⟨v91, f116, h2⟩ := z0d h1
  have f116k := z1y f116
  try simp at f116k
  refine zr rfl rfl rfl (by simp [f116k]; rfl) ?_
  refine z0a (zq rfl (zq rfl (zr rfl rfl rfl (by simp; rfl) ?_)))
  refine z0a (zb rfl (z1c h2 (z2F a1 v90 v91) rfl rfl (by simp [z2F]) fun s o1 h3 hr1 => ?_))
  obtain ⟨w93, w94, w95, w96, w97⟩ := s
  simp only [z2H] at h3
  simp only [z2F]
  refine zq rfl (zq rfl (zr rfl rfl rfl (by simp; rfl) ?_))
  refine z0a ?_
  by_cases c125 : w93 < (IntKind.i64.wrap (1 + v90.1))
  ·rw [if_pos c125] at h3
   refine z0w rfl (by simp [c125]) (z0g rfl (z0a (zq rfl (zb rfl ?_))))
   obtain ⟨v99, f126, h4⟩ := z0d h3
   have f126k := z1y f126
   try simp at f126k
   obtain ⟨f127, h5⟩ := zpU h4
   obtain ⟨f128, h6⟩ := znG h5
   obtain ⟨f129, h7⟩ := z8F h6
   refine zmt rfl rfl rfl rfl ?_
   refine zoQ [(0, 0, 3, 1), (1, 2, 3, 2), (2, 7, 3, 3), (3, 9, 3, 4), (4, 1, 2, 5), (4, 3, 1, 6), (4, 8, 2, 7), (4, 10, 1, 8), (5, 3, 1, 9), (5, 8, 2, 10), (5, 10, 1, 11), (6, 4, 3, 12), (7, 1, 2, 10), (7, 3, 1, 13), (7, 10, 1, 15), (8, 1, 2, 11), (8, 3, 1, 14), (8, 8, 2, 15), (8, 11, 1, 16), (9, 4, 3, 17), (10, 3, 1, 18), (10, 10, 1, 20), (11, 3, 1, 19), (11, 8, 2, 20), (11, 11, 1, 21), (12, 1, 2, 17), (12, 5, 1, 22), (12, 8, 2, 23), (12, 10, 1, 24), (13, 4, 3, 23), (14, 4, 3, 24), (15, 1, 2, 20), (15, 3, 1, 25), (15, 11, 1, 27), (16, 1, 2, 21), (16, 3, 1, 26), (16, 8, 2, 27), (17, 5, 1, 28), (17, 8, 2, 29), (17, 10, 1, 30), (18, 4, 0, 29), (19, 4, 3, 30), (20, 3, 1, 31), (20, 11, 1, 33), (21, 3, 1, 32), (21, 8, 2, 33), (22, 1, 2, 28), (22, 8, 2, 34), (22, 10, 1, 35), (23, 1, 2, 29), (23, 5, 1, 34), (23, 10, 1, 36), (24, 1, 2, 30), (24, 5, 1, 35), (24, 8, 2, 36), (24, 11, 1, 37), (25, 4, 3, 36), (26, 4, 3, 37), (27, 1, 2, 33), (27, 3, 1, 38), (28, 6, 2, 39), (28, 8, 2, 40), (28, 10, 1, 41), (29, 5, 1, 40), (29, 10, 1, 42), (30, 5, 1, 41), (30, 8, 2, 42), (30, 11, 1, 43), (31, 4, 0, 42), (32, 4, 3, 43), (33, 3, 1, 44), (34, 1, 2, 40), (34, 10, 1, 45), (35, 1, 2, 41), (35, 8, 2, 45), (35, 11, 1, 46), (36, 1, 2, 42), (36, 5, 1, 45), (36, 11, 1, 47), (37, 1, 2, 43), (37, 5, 1, 46), (37, 8, 2, 47), (38, 4, 3, 47), (39, 8, 2, 48), (39, 10, 1, 49), (40, 6, 2, 48), (40, 10, 1, 50), (41, 6, 2, 49), (41, 8, 2, 50), (41, 11, 1, 51), (42, 5, 1, 50), (42, 11, 1, 52), (43, 5, 1, 51), (43, 8, 2, 52), (44, 4, 0, 52), (45, 1, 2, 50), (45, 11, 1, 53), (46, 1, 2, 51), (46, 8, 2, 53), (47, 1, 2, 52), (47, 5, 1, 53), (48, 13, 3, 55), (49, 8, 2, 54), (49, 11, 1, 56), (50, 6, 2, 54), (50, 11, 1, 57), (51, 6, 2, 56), (51, 8, 2, 57), (52, 5, 1, 57), (53, 1, 2, 57), (54, 13, 3, 59), (55, 10, 1, 59), (56, 8, 2, 58), (57, 6, 2, 58), (58, 13, 3, 60), (59, 11, 1, 60), (60, 12, 2, 61), (61, 14, 2, 62), (62, 15, 0, 63), (63, 16, 2, 64)] 64 (by kernel_rfl) ?_
   refine z0F rfl rfl rfl rfl (by simp [z0i, z0h, f126k, f127, f128, f129]; rfl) ?_
   refine z0F rfl rfl rfl rfl (by simp [z0i, z0h, f126k, f127, f128, f129]; rfl) ?_
   refine z0F rfl rfl rfl rfl (by simp [z0i, z0h, f126k, f127, f128, f129]; rfl) ?_
   refine z0F rfl rfl rfl rfl (by simp [z0i, z0h, f126k, f127, f128, f129]; rfl) ?_
   refine z0F rfl rfl rfl rfl (by simp [z0i, z0h, f126k, f127, f128, f129]; rfl) ?_
   refine z0F rfl rfl rfl rfl (by simp [z0i, z0h, f126k, f127, f128, f129]; rfl) ?_
   refine z0F rfl rfl rfl rfl (by simp [z0i, z0h, f126k, f127, f128, f129]; rfl) ?_
   refine z0F rfl rfl rfl rfl (by simp [z0i, z0h, f126k, f127, f128, f129]; rfl) ?_
   refine z0F rfl rfl rfl rfl (by simp [z0i, z0h, f126k, f127, f128, f129]; rfl) ?_
   refine z0F rfl rfl rfl rfl (by simp [z0i, z0h, f126k, f127, f128, f129]; rfl) ?_
   refine z0F rfl rfl rfl rfl (by simp [z0i, z0h, f126k, f127, f128, f129]; rfl) ?_
   refine z0F rfl rfl rfl rfl (by simp [z0i, z0h, f126k, f127, f128, f129]; rfl) ?_
   refine z0E rfl rfl rfl rfl (by simp [z0i, z0h, f126k, f127, f128, f129]) ?_
   refine z0F rfl rfl rfl rfl (by simp [z0i, z0h, f126k, f127, f128, f129]; rfl) ?_
   refine z0F rfl rfl rfl rfl (by simp [z0i, z0h, f126k, f127, f128, f129]; rfl) ?_
   refine z0E rfl rfl rfl rfl (by simp [z0i, z0h, f126k, f127, f128, f129]) ?_
   refine z0F rfl rfl rfl rfl (by simp [z0i, z0h, f126k, f127, f128, f129]; rfl) ?_
   refine z0E rfl rfl rfl rfl (by simp [z0i, z0h, f126k, f127, f128, f129]) ?_
   refine z0F rfl rfl rfl rfl (by simp [z0i, z0h, f126k, f127, f128, f129]; rfl) ?_
   refine z0F rfl rfl rfl rfl (by simp [z0i, z0h, f126k, f127, f128, f129]; rfl) ?_
   refine z0F rfl rfl rfl rfl (by simp [z0i, z0h, f126k, f127, f128, f129]; rfl) ?_
   refine z0F rfl rfl rfl rfl (by simp [z0i, z0h, f126k, f127, f128, f129]; rfl) ?_
   refine z0F rfl rfl rfl rfl (by simp [z0i, z0h, f126k, f127, f128, f129]; rfl) ?_
   refine z0E rfl rfl rfl rfl (by simp [z0i, z0h, f126k, f127, f128, f129]) ?_
   refine z0F rfl rfl rfl rfl (by simp [z0i, z0h, f126k, f127, f128, f129]; rfl) ?_
   refine z0E rfl rfl rfl rfl (by simp [z0i, z0h, f126k, f127, f128, f129]) ?_
   refine z0F rfl rfl rfl rfl (by simp [z0i, z0h, f126k, f127, f128, f129]; rfl) ?_
   refine z0F rfl rfl rfl rfl (by simp [z0i, z0h, f126k, f127, f128, f129]; rfl) ?_
   refine z0F rfl rfl rfl rfl (by simp [z0i, z0h, f126k, f127, f128, f129]; rfl) ?_
   refine z0E rfl rfl rfl rfl (by simp [z0i, z0h, f126k, f127, f128, f129]) ?_
   refine z0E rfl rfl rfl rfl (by simp [z0i, z0h, f126k, f127, f128, f129]) ?_
   refine z0E rfl rfl rfl rfl (by simp [z0i, z0h, f126k, f127, f128, f129]) ?_
   refine z0F rfl rfl rfl rfl (by simp [z0i, z0h, f126k, f127, f128, f129]; rfl) ?_
   refine z0F rfl rfl rfl rfl (by simp [z0i, z0h, f126k, f127, f128, f129]; rfl) ?_
   refine z0E rfl rfl rfl rfl (by simp [z0i, z0h, f126k, f127, f128, f129]) ?_
   refine z0F rfl rfl rfl rfl (by simp [z0i, z0h, f126k, f127, f128, f129]; rfl) ?_
   refine z0E rfl rfl rfl rfl (by simp [z0i, z0h, f126k, f127, f128, f129]) ?_
   refine z0F rfl rfl rfl rfl (by simp [z0i, z0h, f126k, f127, f128, f129]; rfl) ?_
   refine z0F rfl rfl rfl rfl (by simp [z0i, z0h, f126k, f127, f128, f129]; rfl) ?_
   refine z0F rfl rfl rfl rfl (by simp [z0i, z0h, f126k, f127, f128, f129]; rfl) ?_
   refine z0E rfl rfl rfl rfl (by simp [z0i, z0h, f126k, f127, f128, f129]) ?_
   refine z0E rfl rfl rfl rfl (by simp [z0i, z0h, f126k, f127, f128, f129]) ?_
   refine z0F rfl rfl rfl rfl (by simp [z0i, z0h, f126k, f127, f128, f129]; rfl) ?_
   refine z0F rfl rfl rfl rfl (by simp [z0i, z0h, f126k, f127, f128, f129]; rfl) ?_
   refine z0F rfl rfl rfl rfl (by simp [z0i, z0h, f126k, f127, f128, f129]; rfl) ?_
   refine z0E rfl rfl rfl rfl (by simp [z0i, z0h, f126k, f127, f128, f129]) ?_
   refine z0E rfl rfl rfl rfl (by simp [z0i, z0h, f126k, f127, f128, f129]) ?_
   refine z0F rfl rfl rfl rfl (by simp [z0i, z0h, f126k, f127, f128, f129]; rfl) ?_
   refine z0F rfl rfl rfl rfl (by simp [z0i, z0h, f126k, f127, f128, f129]; rfl) ?_
   refine z0E rfl rfl rfl rfl (by simp [z0i, z0h, f126k, f127, f128, f129]) ?_
   refine z0E rfl rfl rfl rfl (by simp [z0i, z0h, f126k, f127, f128, f129]) ?_
   refine z0F rfl rfl rfl rfl (by simp [z0i, z0h, f126k, f127, f128, f129]; rfl) ?_
   refine z0E rfl rfl rfl rfl (by simp [z0i, z0h, f126k, f127, f128, f129]) ?_
   refine z0E rfl rfl rfl rfl (by simp [z0i, z0h, f126k, f127, f128, f129]) ?_
   refine z0E rfl rfl rfl rfl (by simp [z0i, z0h, f126k, f127, f128, f129]) ?_
   refine z0F rfl rfl rfl rfl (by simp [z0i, z0h, f126k, f127, f128, f129]; rfl) ?_
   refine z0E rfl rfl rfl rfl (by simp [z0i, z0h, f126k, f127, f128, f129]) ?_
   refine z0E rfl rfl rfl rfl (by simp [z0i, z0h, f126k, f127, f128, f129]) ?_
   refine z0E rfl rfl rfl rfl (by simp [z0i, z0h, f126k, f127, f128, f129]) ?_
   refine z0F rfl rfl rfl rfl (by simp [z0i, z0h, f126k, f127, f128, f129]; rfl) ?_
   refine z0F rfl rfl rfl rfl (by simp [z0i, z0h, f126k, f127, f128, f129]; rfl) ?_
   refine z0F rfl rfl rfl rfl (by simp [z0i, z0h, f126k, f127, f128, f129]; rfl) ?_
   refine z0F rfl rfl rfl rfl (by simp [z0i, z0h, f126k, f127, f128, f129]; rfl) ?_
   refine z0E rfl rfl rfl rfl (by simp [z0i, z0h, f126k, f127, f128, f129]) ?_
   refine z0F rfl rfl rfl rfl (by simp [z0i, z0h, f126k, f127, f128, f129]; rfl) ?_
   refine z0E rfl rfl rfl rfl (by simp [z0i, z0h, f126k, f127, f128, f129]) ?_
   refine z0E rfl rfl rfl rfl (by simp [z0i, z0h, f126k, f127, f128, f129]) ?_
   refine z0F rfl rfl rfl rfl (by simp [z0i, z0h, f126k, f127, f128, f129]; rfl) ?_
   refine z0E rfl rfl rfl rfl (by simp [z0i, z0h, f126k, f127, f128, f129]) ?_
   refine z0E rfl rfl rfl rfl (by simp [z0i, z0h, f126k, f127, f128, f129]) ?_
   refine z0F rfl rfl rfl rfl (by simp [z0i, z0h, f126k, f127, f128, f129]; rfl) ?_
   refine z0E rfl rfl rfl rfl (by simp [z0i, z0h, f126k, f127, f128, f129]) ?_
   refine z0F rfl rfl rfl rfl (by simp [z0i, z0h, f126k, f127, f128, f129]; rfl) ?_
   refine z0E rfl rfl rfl rfl (by simp [z0i, z0h, f126k, f127, f128, f129]) ?_
   refine z0E rfl rfl rfl rfl (by simp [z0i, z0h, f126k, f127, f128, f129]) ?_
   refine z0F rfl rfl rfl rfl (by simp [z0i, z0h, f126k, f127, f128, f129]; rfl) ?_
   refine z0E rfl rfl rfl rfl (by simp [z0i, z0h, f126k, f127, f128, f129]) ?_
   refine z0E rfl rfl rfl rfl (by simp [z0i, z0h, f126k, f127, f128, f129]) ?_
   refine z0F rfl rfl rfl rfl (by simp [z0i, z0h, f126k, f127, f128, f129]; rfl) ?_
   refine z0E rfl rfl rfl rfl (by simp [z0i, z0h, f126k, f127, f128, f129]) ?_
   refine z0E rfl rfl rfl rfl (by simp [z0i, z0h, f126k, f127, f128, f129]) ?_
   refine z0E rfl rfl rfl rfl (by simp [z0i, z0h, f126k, f127, f128, f129]) ?_
   refine z0E rfl rfl rfl rfl (by simp [z0i, z0h, f126k, f127, f128, f129]) ?_
   refine z0F rfl rfl rfl rfl (by simp [z0i, z0h, f126k, f127, f128, f129]; rfl) ?_
   refine z0F rfl rfl rfl rfl (by simp [z0i, z0h, f126k, f127, f128, f129]; rfl) ?_
   refine z0E rfl rfl rfl rfl (by simp [z0i, z0h, f126k, f127, f128, f129]) ?_
   refine z0F rfl rfl rfl rfl (by simp [z0i, z0h, f126k, f127, f128, f129]; rfl) ?_
   refine z0E rfl rfl rfl rfl (by simp [z0i, z0h, f126k, f127, f128, f129]) ?_
   refine z0E rfl rfl rfl rfl (by simp [z0i, z0h, f126k, f127, f128, f129]) ?_
   refine z0F rfl rfl rfl rfl (by simp [z0i, z0h, f126k, f127, f128, f129]; rfl) ?_
   refine z0E rfl rfl rfl rfl (by simp [z0i, z0h, f126k, f127, f128, f129]) ?_
   refine z0F rfl rfl rfl rfl (by simp [z0i, z0h, f126k, f127, f128, f129]; rfl) ?_
   refine z0E rfl rfl rfl rfl (by simp [z0i, z0h, f126k, f127, f128, f129]) ?_
   refine z0E rfl rfl rfl rfl (by simp [z0i, z0h, f126k, f127, f128, f129]) ?_
   refine z0E rfl rfl rfl rfl (by simp [z0i, z0h, f126k, f127, f128, f129]) ?_
   refine z0E rfl rfl rfl rfl (by simp [z0i, z0h, f126k, f127, f128, f129]) ?_
   refine z0F rfl rfl rfl rfl (by simp [z0i, z0h, f126k, f127, f128, f129]; rfl) ?_
   refine z0E rfl rfl rfl rfl (by simp [z0i, z0h, f126k, f127, f128, f129]) ?_
   refine z0E rfl rfl rfl rfl (by simp [z0i, z0h, f126k, f127, f128, f129]) ?_
   refine z0E rfl rfl rfl rfl (by simp [z0i, z0h, f126k, f127, f128, f129]) ?_
   refine z0E rfl rfl rfl rfl (by simp [z0i, z0h, f126k, f127, f128, f129]) ?_
   refine z0F rfl rfl rfl rfl (by simp [z0i, z0h, f126k, f127, f128, f129]; rfl) ?_
   refine z0F rfl rfl rfl rfl (by simp [z0i, z0h, f126k, f127, f128, f129]; rfl) ?_
   refine z0F rfl rfl rfl rfl (by simp [z0i, z0h, f126k, f127, f128, f129]; rfl) ?_
   refine z0E rfl rfl rfl rfl (by simp [z0i, z0h, f126k, f127, f128, f129]) ?_
   refine z0F rfl rfl rfl rfl (by simp [z0i, z0h, f126k, f127, f128, f129]; rfl) ?_
   refine z0E rfl rfl rfl rfl (by simp [z0i, z0h, f126k, f127, f128, f129]) ?_
   refine z0E rfl rfl rfl rfl (by simp [z0i, z0h, f126k, f127, f128, f129]) ?_
   refine z0E rfl rfl rfl rfl (by simp [z0i, z0h, f126k, f127, f128, f129]) ?_
   refine z0E rfl rfl rfl rfl (by simp [z0i, z0h, f126k, f127, f128, f129]) ?_
   refine z0F rfl rfl rfl rfl (by simp [z0i, z0h, f126k, f127, f128, f129]; rfl) ?_
   refine z0E rfl rfl rfl rfl (by simp [z0i, z0h, f126k, f127, f128, f129]) ?_
   refine z0F rfl rfl rfl rfl (by simp [z0i, z0h, f126k, f127, f128, f129]; rfl) ?_
   refine z0E rfl rfl rfl rfl (by simp [z0i, z0h, f126k, f127, f128, f129]) ?_
   refine z0F rfl rfl rfl rfl (by simp [z0i, z0h, f126k, f127, f128, f129]; rfl) ?_
   refine z0E rfl rfl rfl rfl (by simp [z0i, z0h, f126k, f127, f128, f129]) ?_
   refine z0F rfl rfl rfl rfl (by simp [z0i, z0h, f126k, f127, f128, f129]; rfl) ?_
   refine z0F rfl rfl rfl rfl (by simp [z0i, z0h, f126k, f127, f128, f129]; rfl) ?_
   refine z0F rfl rfl rfl rfl (by simp [z0i, z0h, f126k, f127, f128, f129]; rfl) ?_
   refine z0F rfl rfl rfl rfl (by simp [z0i, z0h, f126k, f127, f128, f129]; rfl) ?_
   refine zp8 rfl ?_
   refine zlY rfl (by simp [f126k, f127, f128, f129]; rfl) ?_
   refine z0k (z0a (zr rfl rfl rfl (by simp; rfl) ?_))
   have ho := z0c h7
   refine z0j ho ?_
   simp [z2F]
  ·rw [if_neg c125] at h3
   refine z0v rfl (by simp [c125]) (z1s rfl (z0U ?_))
   obtain ⟨rr1, h4, ho1⟩ := z0b h3
   have hs1 := hr1 _ ho1
   subst hs1
   refine z0B ho1 (z0e rfl (z0a (zq rfl (zq rfl (zr rfl rfl rfl (by simp; rfl) ?_)))))
   refine z0a (zb rfl (z1c h4 (z2E a1 v90 v91 w96) rfl rfl (by simp [z2E]) fun s o2 h5 hr2 => ?_))
   obtain ⟨w125, w126, w127, w128⟩ := s
   simp only [z2G] at h5
   simp only [z2E]
   refine zq rfl (zq rfl (zr rfl rfl rfl (by simp; rfl) ?_))
   refine z0a ?_
   by_cases c196 : w125 < a1
   ·rw [if_pos c196] at h5
    refine z0w rfl (by simp [c196]) (z0g rfl (z0a (zq rfl (zb rfl (zq rfl (zr rfl rfl rfl (by simp; rfl) ?_))))))
    refine z0a (zq rfl (zq rfl (zr rfl rfl rfl (by simp; rfl) ?_)))
    refine z0a (zb rfl (z1c h5 (z2o a1 v90 v91 w96 w125 w126 w127 w128) rfl rfl (by simp [z2o]) fun s o3 h6 hr3 => ?_))
    obtain ⟨w154, w155⟩ := s
    simp only [z2q] at h6
    simp only [z2o]
    refine zq rfl (zq rfl (zr rfl rfl rfl (by simp; rfl) ?_))
    refine z0a ?_
    by_cases c200 : w154 < (IntKind.i64.wrap (1 + v90.1))
    ·rw [if_pos c200] at h6
     refine z0w rfl (by simp [c200]) (z0g rfl (z0a (zq rfl (zb rfl ?_))))
     obtain ⟨f201, h7⟩ := z8F h6
     refine zr rfl rfl rfl (by simp [f201]; rfl) ?_
     refine z0k (z0a (zr rfl rfl rfl (by simp; rfl) ?_))
     have ho := z0c h7
     refine z0j ho ?_
     simp [z2o]
    ·rw [if_neg c200] at h6
     refine z0v rfl (by simp [c200]) (z1s rfl (z0U ?_))
     obtain ⟨rr3, h7, ho3⟩ := z0b h6
     have hs3 := hr3 _ ho3
     subst hs3
     refine z0B ho3 (z0e rfl (z0a (zq rfl (zr rfl rfl rfl (by simp; rfl) ?_))))
     refine z0a (zb rfl (z1c h7 (z2n a1 v90 v91 w96 w125) rfl rfl (by simp [z2n]) fun s o4 h8 hr4 => ?_))
     obtain ⟨w162, w163, w164, w165, w166⟩ := s
     simp only [z2p] at h8
     simp only [z2n]
     refine zq rfl (zq rfl (zr rfl rfl rfl (by simp; rfl) ?_))
     refine z0a ?_
     by_cases c220 : w162 < (IntKind.i64.wrap (1 + v90.1))
     ·rw [if_pos c220] at h8
      refine z0w rfl (by simp [c220]) (z0g rfl (z0a (zq rfl (zb rfl (zq rfl ?_)))))
      obtain ⟨v173, f221, h9⟩ := z0d h8
      have f221k := z1y f221
      try simp at f221k
      refine zr rfl rfl rfl (by simp [f221k]; rfl) ?_
      refine z0a (zq rfl ?_)
      obtain ⟨v174, f222, h10⟩ := z1h h9
      obtain ⟨v175, f223, h11⟩ := z1h h10
      obtain ⟨v176, f224, h12⟩ := z1h h11
      refine z1m rfl rfl rfl rfl ?_; repeat' ((first | refine z0s rfl rfl fun Q' hQ => ?_ | refine z0n rfl fun Q' hQ => ?_); simp [f222, f223, f224]; refine hQ.out _ ?_; clear hQ; clear Q')
      refine z0a ?_
      obtain ⟨v177, f225, h13⟩ := z0d h12
      obtain ⟨f225a, f225b, f225c, -⟩ := z6b f225
      obtain ⟨f225d, f225g⟩ := zbB f225a f225b
      have f225e := zb9 (g := fun x : Int => (.sc (.int .i64 x) : T)) f225
      try simp at f225e
      have f225f := zb8 f225
      try simp only [Int.reduceToNat, Int.toNat_natCast, Nat.sub_zero] at f225f
      obtain ⟨v178, f226, h14⟩ := z0d h13
      obtain ⟨f226a, f226b, f226c, -⟩ := z6b f226
      obtain ⟨f226d, f226g⟩ := zbB f226a f226b
      have f226e := zb9 (g := fun x : Int => (.sc (.int .i64 x) : T)) f226
      try simp at f226e
      have f226f := zb8 f226
      try simp only [Int.reduceToNat, Int.toNat_natCast, Nat.sub_zero] at f226f
      obtain ⟨f227, h15⟩ := z8F h14
      obtain ⟨f228, h16⟩ := z8F h15
      refine z1m rfl rfl rfl rfl ?_; repeat' ((first | refine z0s rfl rfl fun Q' hQ => ?_ | refine z0n rfl fun Q' hQ => ?_); simp [f222, f225a, f225b, f225c, f225d, f225g, f225e, f225f, f226a, f226b, f226c, f226d, f226g, f226e, f226f, f227, f228]; refine hQ.out _ ?_; clear hQ; clear Q')
      refine z0k (z0a (zr rfl rfl rfl (by simp [f222]; rfl) ?_))
      have ho := z0c h16
      refine z0j ho ?_
      simp [z2n]
     ·rw [if_neg c220] at h8
      refine z0v rfl (by simp [c220]) (z1s rfl (z0U ?_))
      obtain ⟨rr4, h9, ho4⟩ := z0b h8
      have hs4 := hr4 _ ho4
      subst hs4
      refine z0B ho4 (z0e rfl (z0k (z0a (zr rfl rfl rfl (by simp; rfl) ?_))))
      have ho := z0c h9
      refine z0j ho ?_
      simp [z2E]
   ·rw [if_neg c196] at h5
    refine z0v rfl (by simp [c196]) (z1s rfl (z0U ?_))
    obtain ⟨rr2, h6, ho2⟩ := z0b h5
    have hs2 := hr2 _ ho2
    subst hs2
    refine z0B ho2 (z0e rfl (z0a (zq rfl (zr rfl rfl rfl (by simp; rfl) ?_))))
    refine z0a (z1u rfl ?_)
    cases h6
    simp
def z9R (a0 : Int) (a1 : Int) (w31 : Int) : Int × List ByteArray → Option ((Int × List ByteArray) ⊕ ((Int × List ByteArray) ⊕ List ByteArray))
  | (w43, w44) =>
  if w43 < a0 then
    (atI w44 w31).bind fun v47 =>
    if (v47.size : Int) < a1 then
      chk (za7 v47 ⟨#[UInt8.ofNat (IntKind.u8.wrap (IntKind.i64.wrap (97 + w43))).toNat]⟩) <|
      chk (z3U 16 (w44.length + 1)) <|
      z1b (IntKind.i64.wrap (w43 + 1), w44 ++ [v47 ++ ⟨#[UInt8.ofNat (IntKind.u8.wrap (IntKind.i64.wrap (97 + w43))).toNat]⟩])
    else
      z1l <|
      z1b (IntKind.i64.wrap (w31 + 1), w44)
  else
    z1l <|
    z1b (IntKind.i64.wrap (w31 + 1), w44)
def z5E (a0 : Int) (a1 : Int) (w31 : Int) : Int × List ByteArray → Fr
  | (w43, w44) => ⟨43, [(0, .one (.t none (.sc (.int .i64 a0)))), (1, .one (.t none (.sc (.int .i64 a1)))), (5, .one (.h 5 [])), (6, .one (.t none (.sc (.int .i64 w31)))), (7, .one (.t none (.sc (.int .i64 w43))))], [(5, .os 1 w44.length (w44.map fun x0 => .sc (.string x0)))]⟩
def z9S (a0 : Int) (a1 : Int) : Int × List ByteArray → Option ((Int × List ByteArray) ⊕ List ByteArray)
  | (w31, w32) =>
  if w31 < (w32.length : Int) then
    z1p (z9R a0 a1 w31) LFm (0, w32)
  else
    z1l <|
    some w32
def z4P (a0 : Int) (a1 : Int) : Int × List ByteArray → Fr
  | (w31, w32) => ⟨43, [(0, .one (.t none (.sc (.int .i64 a0)))), (1, .one (.t none (.sc (.int .i64 a1)))), (5, .one (.h 5 [])), (6, .one (.t none (.sc (.int .i64 w31))))], [(5, .os 1 w32.length (w32.map fun x0 => .sc (.string x0)))]⟩
def z8t (a0 : Int) (a1 : Int) : Option (List ByteArray) :=
  z1p (z9S a0 a1) LFm (0, [ByteArray.empty])
theorem zf5 {a0 : Int} {a1 : Int} {r : List ByteArray} (h0 : z8t a0 a1 = some r) : L 61 [.sc (.int .i64 a0), .sc (.int .i64 a1)] = some (.os 1 r.length (r.map fun x0 => .sc (.string x0)), [.dead, .dead]) := by
  simp only [z8t] at h0
  refine z3W ztm zut (z1G zvN ⟨of_decide_eq_true rfl, of_decide_eq_true rfl⟩ ?_)
  simp only [z1R, z1L, z1I, z1S, z3V]
  refine zq rfl (zr rfl rfl rfl (by simp; rfl) ?_)
  refine z0a (zq rfl (zr rfl rfl rfl (by simp; rfl) ?_))
  refine z0a (zq rfl (zq rfl (zr rfl rfl rfl (by simp; rfl) ?_)))
  refine z0a (zb rfl (z1c h0 (z4P a0 a1) rfl rfl (by simp [z4P]) fun s o1 h1 hr1 => ?_))
  obtain ⟨w31, w32⟩ := s
  simp only [z9S] at h1
  simp only [z4P]
  refine zq rfl (zq rfl (zr rfl rfl rfl (by simp; rfl) ?_))
  refine z0a ?_
  by_cases c77 : w31 < (w32.length : Int)
  ·rw [if_pos c77] at h1
   refine z0w rfl (by simp [c77]) (z0g rfl (z0a (zq rfl (zb rfl (zq rfl (zr rfl rfl rfl (by simp; rfl) ?_))))))
   refine z0a (zb rfl (z1c h1 (z5E a0 a1 w31) rfl rfl (by simp [z5E]) fun s o2 h2 hr2 => ?_))
   obtain ⟨w43, w44⟩ := s
   simp only [z9R] at h2
   simp only [z5E]
   refine zq rfl (zq rfl ?_)
   by_cases c88 : w43 < a0
   ·rw [if_pos c88] at h2
    obtain ⟨v47, f89, h3⟩ := z1h h2
    refine zr rfl rfl rfl (by simp [c88, f89]; rfl) ?_
    refine z0a ?_
    by_cases c90 : (v47.size : Int) < a1
    ·rw [if_pos c90] at h3
     refine z0w rfl (by simp [c90]) (z0g rfl (z0a (zq rfl (zb rfl ?_))))
     obtain ⟨f91, h4⟩ := z1N h3
     obtain ⟨f92, h5⟩ := z8F h4
     refine z1m rfl rfl rfl rfl ?_; repeat' ((first | refine z0s rfl rfl fun Q' hQ => ?_ | refine z0n rfl fun Q' hQ => ?_); simp [f89, f91, f92]; refine hQ.out _ ?_; clear hQ; clear Q')
     refine z0k (z0a (zr rfl rfl rfl (by simp; rfl) ?_))
     have ho := z0c h5
     refine z0j ho ?_
     simp [z5E]
    ·rw [if_neg c90] at h3
     refine z0v rfl (by simp [c90]) (z1s rfl (z0U ?_))
     obtain ⟨rr2, h4, ho2⟩ := z0b h3
     have hs2 := hr2 _ ho2
     subst hs2
     refine z0B ho2 (z0e rfl (z0k (z0a (zr rfl rfl rfl (by simp; rfl) ?_))))
     have ho := z0c h4
     refine z0j ho ?_
     simp [z4P]
   ·rw [if_neg c88] at h2
    refine zr rfl rfl rfl (by simp [c88]; rfl) ?_
    refine z0a (z0v rfl (by simp) (z1s rfl (z0U ?_)))
    obtain ⟨rr2, h3, ho2⟩ := z0b h2
    have hs2 := hr2 _ ho2
    subst hs2
    refine z0B ho2 (z0e rfl (z0k (z0a (zr rfl rfl rfl (by simp; rfl) ?_))))
    have ho := z0c h3
    refine z0j ho ?_
    simp [z4P]
  ·rw [if_neg c77] at h1
   refine z0v rfl (by simp [c77]) (z1s rfl (z0U ?_))
   obtain ⟨rr1, h2, ho1⟩ := z0b h1
   have hs1 := hr1 _ ho1
   subst hs1
   refine z0B ho1 (z0e rfl (z0a (zq rfl (zr rfl rfl rfl (by simp; rfl) ?_))))
   refine z0a (z1u rfl ?_)
   cases h2
   simp
def z4Y (v201 : List ByteArray) (w385 : ByteArray) : Int × Int → Option ((Int × Int) ⊕ ((ByteArray × Int) ⊕ ((Int × List Int) ⊕ ((Int × List Int × Int × List Bool × List (List Int)) ⊕ (DFA × Tape)))))
  | (w394, w395) =>
  if w395 < (v201.length : Int) then
    (atI v201 w395).bind fun v397 =>
    if v397 = w385 then
      z1b (w395, IntKind.i64.wrap (w395 + 1))
    else
      z1b (w394, IntKind.i64.wrap (w395 + 1))
  else
    z1l <|
    (zmu w385 1 (w385.size : Int)).bind fun v398 =>
    z1b (v398, w394)
def z2u (a1 : Int) (v201 : List ByteArray) (w266 : Int) (w269 : List Bool) (w270 : List (List Int)) (v335 : ByteArray) (v336 : Int × Tape) (w357 : Int) (w358 : List Int) (w385 : ByteArray) : Int × Int → Fr
  | (w394, w395) => ⟨76, [(0, .one (.a 0 [] (0))), (1, .one (.t none (.sc (.int .i64 a1)))), (4, .one (.a 4 [] (0))), (5, .one (.a 5 [] (0))), (6, .one (.h 6 [])), (8, .one (.t none (.sc (.string v335)))), (9, .one (.h 9 [])), (10, .one (.t none (.sc (.int .i64 w357)))), (11, .one (.t none (.sc (.string w385)))), (12, .one (.t none (.sc (.int .i64 w394)))), (22, .one (.h 6 [])), (23, .one (.t none (.sc (.int .i64 (v201.length : Int))))), (24, .one (.t none (.sc (.int .i64 w266)))), (50, .one (.h 6 [])), (51, .one (.t none (.sc (.int .i64 (v201.length : Int))))), (52, .one (.t none (.sc (.int .i64 w395)))), (1076, .one (.a 0 [] (0)))], [(0, .vr [.sl v336.2.l.length (v336.2.l.map fun x0 => .sc (.int .i64 x0)), .sc (.int .i64 v336.2.at_)]), (4, .vr [.sc (.int .i64 0), .sc (.int .i64 0), .os 1 0 [], .os 1 0 []]), (5, .vr [.sc (.int .i64 a1), .sc (.int .i64 0), .os 1 (w269 ++ [decide (v336.1 = 1)]).length ((w269 ++ [decide (v336.1 = 1)]).map fun x0 => .sc (.bool x0)), .os 1 w270.length (w270.map fun x0 => .os 1 x0.length (x0.map fun x1 => .sc (.int .i64 x1)))]), (6, .os 1 v201.length (v201.map fun x0 => .sc (.string x0))), (9, .os 1 w358.length (w358.map fun x0 => .sc (.int .i64 x0)))]⟩
def z3l (v201 : List ByteArray) (w357 : Int) (w358 : List Int) : ByteArray × Int → Option ((ByteArray × Int) ⊕ ((Int × List Int) ⊕ ((Int × List Int × Int × List Bool × List (List Int)) ⊕ (DFA × Tape))))
  | (w385, w386) =>
  if w386 = (-1) then
    z1p (z4Y v201 w385) LFm (w386, 0)
  else
    z1l <|
    chk (z3U 8 (w358.length + 1)) <|
    z1b (IntKind.i64.wrap (w357 + 1), w358 ++ [w386])
def z3k (a1 : Int) (v201 : List ByteArray) (w266 : Int) (w269 : List Bool) (w270 : List (List Int)) (v335 : ByteArray) (v336 : Int × Tape) (w357 : Int) (w358 : List Int) : ByteArray × Int → Fr
  | (w385, w386) => ⟨76, [(0, .one (.a 0 [] (0))), (1, .one (.t none (.sc (.int .i64 a1)))), (4, .one (.a 4 [] (0))), (5, .one (.a 5 [] (0))), (6, .one (.h 6 [])), (8, .one (.t none (.sc (.string v335)))), (9, .one (.h 9 [])), (10, .one (.t none (.sc (.int .i64 w357)))), (11, .one (.t none (.sc (.string w385)))), (12, .one (.t none (.sc (.int .i64 w386)))), (22, .one (.h 6 [])), (23, .one (.t none (.sc (.int .i64 (v201.length : Int))))), (24, .one (.t none (.sc (.int .i64 w266)))), (1076, .one (.a 0 [] (0)))], [(0, .vr [.sl v336.2.l.length (v336.2.l.map fun x0 => .sc (.int .i64 x0)), .sc (.int .i64 v336.2.at_)]), (4, .vr [.sc (.int .i64 0), .sc (.int .i64 0), .os 1 0 [], .os 1 0 []]), (5, .vr [.sc (.int .i64 a1), .sc (.int .i64 0), .os 1 (w269 ++ [decide (v336.1 = 1)]).length ((w269 ++ [decide (v336.1 = 1)]).map fun x0 => .sc (.bool x0)), .os 1 w270.length (w270.map fun x0 => .os 1 x0.length (x0.map fun x1 => .sc (.int .i64 x1)))]), (6, .os 1 v201.length (v201.map fun x0 => .sc (.string x0))), (9, .os 1 w358.length (w358.map fun x0 => .sc (.int .i64 x0)))]⟩
def z2O (a1 : Int) (v201 : List ByteArray) (w266 : Int) (w269 : List Bool) (w270 : List (List Int)) (v335 : ByteArray) (v336 : Int × Tape) : Int × List Int → Option ((Int × List Int) ⊕ ((Int × List Int × Int × List Bool × List (List Int)) ⊕ (DFA × Tape)))
  | (w357, w358) =>
  if w357 < a1 then
    chk (za7 v335 ⟨#[UInt8.ofNat (IntKind.u8.wrap (IntKind.i64.wrap (97 + w357))).toNat]⟩) <|
    z1p (z3l v201 w357 w358) LFm (v335 ++ ⟨#[UInt8.ofNat (IntKind.u8.wrap (IntKind.i64.wrap (97 + w357))).toNat]⟩, (-1))
  else
    z1l <|
    chk (z3U 24 (w270.length + 1)) <|
    z1b (IntKind.i64.wrap (w266 + 1), v336.2.l, v336.2.at_, w269 ++ [decide (v336.1 = 1)], w270 ++ [w358])
def z3s (a1 : Int) (v201 : List ByteArray) (w266 : Int) (w269 : List Bool) (w270 : List (List Int)) (v335 : ByteArray) (v336 : Int × Tape) : Int × List Int → Fr
  | (w357, w358) => ⟨76, [(0, .one (.a 0 [] (0))), (1, .one (.t none (.sc (.int .i64 a1)))), (4, .one (.a 4 [] (0))), (5, .one (.a 5 [] (0))), (6, .one (.h 6 [])), (8, .one (.t none (.sc (.string v335)))), (9, .one (.h 9 [])), (10, .one (.t none (.sc (.int .i64 w357)))), (22, .one (.h 6 [])), (23, .one (.t none (.sc (.int .i64 (v201.length : Int))))), (24, .one (.t none (.sc (.int .i64 w266)))), (1076, .one (.a 0 [] (0)))], [(0, .vr [.sl v336.2.l.length (v336.2.l.map fun x0 => .sc (.int .i64 x0)), .sc (.int .i64 v336.2.at_)]), (4, .vr [.sc (.int .i64 0), .sc (.int .i64 0), .os 1 0 [], .os 1 0 []]), (5, .vr [.sc (.int .i64 a1), .sc (.int .i64 0), .os 1 (w269 ++ [decide (v336.1 = 1)]).length ((w269 ++ [decide (v336.1 = 1)]).map fun x0 => .sc (.bool x0)), .os 1 w270.length (w270.map fun x0 => .os 1 x0.length (x0.map fun x1 => .sc (.int .i64 x1)))]), (6, .os 1 v201.length (v201.map fun x0 => .sc (.string x0))), (9, .os 1 w358.length (w358.map fun x0 => .sc (.int .i64 x0)))]⟩
def z3u (a1 : Int) (v201 : List ByteArray) : Int × List Int × Int × List Bool × List (List Int) → Option ((Int × List Int × Int × List Bool × List (List Int)) ⊕ (DFA × Tape))
  | (w266, w267, w268, w269, w270) =>
  if w266 < (v201.length : Int) then
    (atI v201 w266).bind fun v335 =>
    (z1x (⟨w267, w268⟩ : Tape) 2).bind fun v336 =>
    chk (z3U 1 (w269.length + 1)) <|
    z1p (z2O a1 v201 w266 w269 w270 v335 v336) LFm (0, [])
  else
    z1l <|
    some ((⟨a1, 0, w269, w270⟩ : DFA), (⟨w267, w268⟩ : Tape))
def z3t (a1 : Int) (v201 : List ByteArray) : Int × List Int × Int × List Bool × List (List Int) → Fr
  | (w266, w267, w268, w269, w270) => ⟨76, [(0, .one (.a 0 [] (0))), (1, .one (.t none (.sc (.int .i64 a1)))), (4, .one (.a 4 [] (0))), (5, .one (.a 5 [] (0))), (6, .one (.h 6 [])), (22, .one (.h 6 [])), (23, .one (.t none (.sc (.int .i64 (v201.length : Int))))), (24, .one (.t none (.sc (.int .i64 w266)))), (1076, .one (.a 0 [] (0)))], [(0, .vr [.sl w267.length (w267.map fun x0 => .sc (.int .i64 x0)), .sc (.int .i64 w268)]), (4, .vr [.sc (.int .i64 0), .sc (.int .i64 0), .os 1 0 [], .os 1 0 []]), (5, .vr [.sc (.int .i64 a1), .sc (.int .i64 0), .os 1 w269.length (w269.map fun x0 => .sc (.bool x0)), .os 1 w270.length (w270.map fun x0 => .os 1 x0.length (x0.map fun x1 => .sc (.int .i64 x1)))]), (6, .os 1 v201.length (v201.map fun x0 => .sc (.string x0)))]⟩
def z3v (a0 : Tape) (a1 : Int) : Option (DFA × Tape) :=
  (z1x a0 2).bind fun v200 =>
  (z8t a1 (IntKind.i64.wrap (1 + v200.1))).bind fun v201 =>
  z1p (z3u a1 v201) LFm (0, v200.2.l, v200.2.at_, [], [])
theorem z7E {a0 : Tape} {a1 : Int} {r : DFA × Tape} (h0 : z3v a0 a1 = some r) : L 33 [.vr [.sl a0.l.length (a0.l.map fun x0 => .sc (.int .i64 x0)), .sc (.int .i64 a0.at_)], .sc (.int .i64 a1)] = some (.agg [.sc (.int .i64 r.1.letters), .sc (.int .i64 r.1.start), .os 1 r.1.final.length (r.1.final.map fun x0 => .sc (.bool x0)), .os 1 r.1.next.length (r.1.next.map fun x0 => .os 1 x0.length (x0.map fun x1 => .sc (.int .i64 x1)))], [.vr [.sl r.2.l.length (r.2.l.map fun x0 => .sc (.int .i64 x0)), .sc (.int .i64 r.2.at_)], .dead]) := by
  simp only [z3v] at h0
  refine z3W ztA zuH (z1G zw1 ⟨of_decide_eq_true rfl, of_decide_eq_true rfl⟩ ?_)
  simp only [z1R, z1L, z1I, z1S, z3V]
  refine zq rfl (zr rfl rfl rfl (by simp; rfl) ?_)
  refine z0a (zq rfl (zr rfl rfl rfl (by simp; rfl) ?_))
  refine z0a (zq rfl ?_)
  obtain ⟨v200, f337, h1⟩ := z0d h0
  have f337k := z1y f337
  try simp at f337k
  obtain ⟨v201, f338, h2⟩ := z0d h1
  have f338k := zf5 f338
  try simp at f338k
  refine zr rfl rfl rfl (by simp [f337k, f338k]; rfl) ?_
  refine z0a (zq rfl (zq rfl (zr rfl rfl rfl (by simp; rfl) ?_)))
  refine z0a (zb rfl (z1c h2 (z3t a1 v201) rfl rfl (by simp [z3t]) fun s o1 h3 hr1 => ?_))
  obtain ⟨w266, w267, w268, w269, w270⟩ := s
  simp only [z3u] at h3
  simp only [z3t]
  refine zq rfl (zr rfl rfl rfl (by simp; rfl) ?_)
  refine z0a (zq rfl ?_)
  by_cases c561 : w266 < (v201.length : Int)
  ·rw [if_pos c561] at h3
   refine z0w rfl (by simp [c561]) (z0g rfl (z0a (zq rfl (zb rfl (zq rfl ?_)))))
   obtain ⟨v335, f562, h4⟩ := z1h h3
   refine zr rfl rfl rfl (by simp [f562]; rfl) ?_
   refine z0a (zq rfl ?_)
   obtain ⟨v336, f563, h5⟩ := z0d h4
   have f563k := z1y f563
   try simp at f563k
   obtain ⟨f564, h6⟩ := zpU h5
   refine z1m rfl rfl rfl rfl ?_; repeat' ((first | refine z0s rfl rfl fun Q' hQ => ?_ | refine z0n rfl fun Q' hQ => ?_); simp [f563k, f564]; refine hQ.out _ ?_; clear hQ; clear Q')
   refine z0a (zq rfl (zr rfl rfl rfl (by simp; rfl) ?_))
   refine z0a (zq rfl (zq rfl (zr rfl rfl rfl (by simp; rfl) ?_)))
   refine z0a (zb rfl (z1c h6 (z3s a1 v201 w266 w269 w270 v335 v336) rfl rfl (by simp [z3s]) fun s o2 h7 hr2 => ?_))
   obtain ⟨w357, w358⟩ := s
   simp only [z2O] at h7
   simp only [z3s]
   refine zq rfl (zq rfl (zr rfl rfl rfl (by simp; rfl) ?_))
   refine z0a ?_
   by_cases c636 : w357 < a1
   ·rw [if_pos c636] at h7
    refine z0w rfl (by simp [c636]) (z0g rfl (z0a (zq rfl (zb rfl (zq rfl ?_)))))
    obtain ⟨f637, h8⟩ := z1N h7
    refine zr rfl rfl rfl (by simp [f637]; rfl) ?_
    refine z0a (zq rfl (zr rfl rfl rfl (by simp; rfl) ?_))
    refine z0a (zq rfl (zb rfl (z1c h8 (z3k a1 v201 w266 w269 w270 v335 v336 w357 w358) rfl rfl (by simp [z3k]) fun s o3 h9 hr3 => ?_)))
    obtain ⟨w385, w386⟩ := s
    simp only [z3l] at h9
    simp only [z3k]
    refine zq rfl (zq rfl (zr rfl rfl rfl (by simp; rfl) ?_))
    refine z0a ?_
    by_cases c660 : w386 = (-1)
    ·rw [if_pos c660] at h9
     have c660e := eq_true c660
     refine z0w rfl (by simp [c660e]) (z0g rfl (z0a (zb rfl (zq rfl (zq rfl (zr rfl rfl rfl (by simp; rfl) ?_))))))
     refine z0a (zb rfl (z1c h9 (z2u a1 v201 w266 w269 w270 v335 v336 w357 w358 w385) rfl rfl (by simp [z2u]) fun s o4 h10 hr4 => ?_))
     obtain ⟨w394, w395⟩ := s
     simp only [z4Y] at h10
     simp only [z2u]
     refine zq rfl (zr rfl rfl rfl (by simp; rfl) ?_)
     refine z0a (zq rfl ?_)
     by_cases c667 : w395 < (v201.length : Int)
     ·rw [if_pos c667] at h10
      refine z0w rfl (by simp [c667]) (z0g rfl (z0a (zq rfl (zb rfl (zq rfl ?_)))))
      obtain ⟨v397, f668, h11⟩ := z1h h10
      refine zr rfl rfl rfl (by simp [f668]; rfl) ?_
      refine z0a (zq rfl (zr rfl rfl rfl (by simp; rfl) ?_))
      refine z0a ?_
      by_cases c669 : v397 = w385
      ·rw [if_pos c669] at h11
       have c669e := eq_true c669
       refine z0w rfl (by simp [c669e]) (zr rfl rfl rfl (by simp; rfl) ?_)
       refine z0k (z0a (zr rfl rfl rfl (by simp; rfl) ?_))
       have ho := z0c h11
       refine z0j ho ?_
       simp [z2u]
      ·rw [if_neg c669] at h11
       have c669e := eq_false c669
       refine z0v rfl (by simp [c669e]) (z0g rfl (z0k (z0a (zr rfl rfl rfl (by simp; rfl) ?_))))
       have ho := z0c h11
       refine z0j ho ?_
       simp [z2u]
     ·rw [if_neg c667] at h10
      refine z0v rfl (by simp [c667]) (z1s rfl (z0U ?_))
      obtain ⟨rr4, h11, ho4⟩ := z0b h10
      have hs4 := hr4 _ ho4
      subst hs4
      refine z0B ho4 (z0e rfl (z0a ?_))
      obtain ⟨v398, f670, h12⟩ := z0d h11
      obtain ⟨f670a, f670b, f670c, f670d⟩ := zi2 f670
      obtain ⟨f670e, f670f⟩ := zbB f670a f670b
      have f670d := f670d.symm
      try simp only [Int.reduceToNat, Int.toNat_natCast] at f670d
      refine zr rfl rfl rfl (by simp [f670a, f670b, f670c, f670d, f670e, f670f]; rfl) ?_
      refine z0k ?_
      have ho := z0c h12
      refine z0j ho ?_
      simp [z3k]
    ·rw [if_neg c660] at h9
     have c660e := eq_false c660
     refine z0v rfl (by simp [c660e]) (z1s rfl (z0U ?_))
     obtain ⟨rr3, h10, ho3⟩ := z0b h9
     have hs3 := hr3 _ ho3
     subst hs3
     refine z0B ho3 (z0e rfl (z0a ?_))
     obtain ⟨f671, h11⟩ := z8F h10
     refine zr rfl rfl rfl (by simp [f671]; rfl) ?_
     refine z0k (z0a (zr rfl rfl rfl (by simp; rfl) ?_))
     have ho := z0c h11
     refine z0j ho ?_
     simp [z3s]
   ·rw [if_neg c636] at h7
    refine z0v rfl (by simp [c636]) (z1s rfl (z0U ?_))
    obtain ⟨rr2, h8, ho2⟩ := z0b h7
    have hs2 := hr2 _ ho2
    subst hs2
    refine z0B ho2 (z0e rfl (z0a ?_))
    obtain ⟨f672, h9⟩ := z8F h8
    refine zr rfl rfl rfl (by simp [f672]; rfl) ?_
    refine z0k (z0a (zr rfl rfl rfl (by simp; rfl) ?_))
    have ho := z0c h9
    refine z0j ho ?_
    simp [z3t]
  ·rw [if_neg c561] at h3
   refine z0v rfl (by simp [c561]) (z1s rfl (z0U ?_))
   obtain ⟨rr1, h4, ho1⟩ := z0b h3
   have hs1 := hr1 _ ho1
   subst hs1
   refine z0B ho1 (z0e rfl (z0a (zq rfl (zr rfl rfl rfl (by simp; rfl) ?_))))
   refine z0a (z1u rfl ?_)
   cases h4
   simp
def z4q (a0 : Tape) (a1 : Int) (a2 : Int) : Option (DFA × Tape) :=
  (z1x a0 6).bind fun v6 =>
  if v6.1 = 1 then
    (z3N v6.2 a1 a2).bind fun v7 =>
    some (v7.1, v7.2)
  else
    if v6.1 = 2 then
      (z2t v6.2 a1 (if 4 < a2 then 4 else a2)).bind fun v8 =>
      some (v8.1, v8.2)
    else
      if v6.1 = 3 then
        (z3v v6.2 a1).bind fun v9 =>
        some (v9.1, v9.2)
      else
        (z4p v6.2 a1 a2).bind fun v10 =>
        some (v10.1, v10.2)
theorem zbw {a0 : Tape} {a1 : Int} {a2 : Int} {r : DFA × Tape} (h0 : z4q a0 a1 a2 = some r) : L 12 [.vr [.sl a0.l.length (a0.l.map fun x0 => .sc (.int .i64 x0)), .sc (.int .i64 a0.at_)], .sc (.int .i64 a1), .sc (.int .i64 a2)] = some (.agg [.sc (.int .i64 r.1.letters), .sc (.int .i64 r.1.start), .os 1 r.1.final.length (r.1.final.map fun x0 => .sc (.bool x0)), .os 1 r.1.next.length (r.1.next.map fun x0 => .os 1 x0.length (x0.map fun x1 => .sc (.int .i64 x1)))], [.vr [.sl r.2.l.length (r.2.l.map fun x0 => .sc (.int .i64 x0)), .sc (.int .i64 r.2.at_)], .dead, .dead]) := by
  simp only [z4q] at h0
  refine z3W ztI zuO (z1G zw8 ⟨of_decide_eq_true rfl, of_decide_eq_true rfl⟩ ?_)
  simp only [z1R, z1L, z1I, z1S, z3V]
  refine zq rfl (zr rfl rfl rfl (by simp; rfl) ?_)
  refine z0a (zq rfl (zq rfl ?_))
  obtain ⟨v6, f9, h1⟩ := z0d h0
  have f9k := z1y f9
  try simp at f9k
  refine zr rfl rfl rfl (by simp [f9k]; rfl) ?_
  refine z0a (zb rfl (zq rfl (zr rfl rfl rfl (by simp; rfl) ?_)))
  refine z0a ?_
  by_cases c10 : v6.1 = 1
  ·rw [if_pos c10] at h1
   have c10e := eq_true c10
   refine z0w rfl (by simp [c10e]) (zq rfl ?_)
   obtain ⟨v7, f11, h2⟩ := z0d h1
   have f11k := z8z f11
   try simp at f11k
   refine zr rfl rfl rfl (by simp [f11k]; rfl) ?_
   refine z0a (z1u rfl (z0x (z0m ?_)))
   cases h2
   simp
  ·rw [if_neg c10] at h1
   have c10e := eq_false c10
   refine z0v rfl (by simp [c10e]) (zq rfl (zr rfl rfl rfl (by simp; rfl) ?_))
   refine z0a ?_
   by_cases c12 : v6.1 = 2
   ·rw [if_pos c12] at h1
    have c12e := eq_true c12
    refine z0w rfl (by simp [c12e]) (zq rfl ?_)
    obtain ⟨v8, f13, h2⟩ := z0d h1
    have f13k := z6t f13
    try simp at f13k
    refine zr rfl rfl rfl (by simp [f13k]; rfl) ?_
    refine z0a (z1u rfl (z0x (z0m ?_)))
    cases h2
    simp
   ·rw [if_neg c12] at h1
    have c12e := eq_false c12
    refine z0v rfl (by simp [c12e]) (zq rfl (zr rfl rfl rfl (by simp; rfl) ?_))
    refine z0a ?_
    by_cases c14 : v6.1 = 3
    ·rw [if_pos c14] at h1
     have c14e := eq_true c14
     refine z0w rfl (by simp [c14e]) (zq rfl ?_)
     obtain ⟨v9, f15, h2⟩ := z0d h1
     have f15k := z7E f15
     try simp at f15k
     refine zr rfl rfl rfl (by simp [f15k]; rfl) ?_
     refine z0a (z1u rfl (z0x (z0m ?_)))
     cases h2
     simp
    ·rw [if_neg c14] at h1
     have c14e := eq_false c14
     refine z0v rfl (by simp [c14e]) (z0g rfl (z0k (z0a (zq rfl ?_))))
     obtain ⟨v10, f16, h2⟩ := z0d h1
     have f16k := z7m f16
     try simp at f16k
     refine zr rfl rfl rfl (by simp [f16k]; rfl) ?_
     refine z0a (z1u rfl ?_)
     cases h2
     simp
end
end Go.Proofs.Ytbnnipkanechoaa
end
section
namespace Go.Proofs.Ytbnnipkanechoaa
open Go
structure TapeOk (t : Tape) : Prop where
  a0 : 0 ≤ t.at_
  a1 : t.at_ ≤ t.l.length
  a2 : t.l.length ≤ 80
theorem zid (x n : Int) (h1 : 1 ≤ n) (h2 : n < 4611686018427387904) : ∃ v, z9U x n = some v ∧ 0 ≤ v ∧ v < n := by
  have hx : x.tmod n < n := Int.tmod_lt_of_pos _ (by omega)
  have hy : -n < x.tmod n := Int.lt_tmod_of_pos x (by omega)
  unfold z9U
  rw [if_neg (by omega), z1n _ (by omega)]
  split
  · rw [z2B (by omega) (by omega)]; exact ⟨_, rfl, by omega, by omega⟩
  · exact ⟨_, rfl, by omega, by omega⟩
theorem z5v {t : Tape} (ht : TapeOk t) (n : Int) (h1 : 1 ≤ n) (h2 : n < 4611686018427387904) : ∃ v t', z1x t n = some (v, t') ∧ 0 ≤ v ∧ v < n ∧ TapeOk t' := by
  obtain ⟨a0, a1, a2⟩ := ht
  unfold z1x
  split
  · exact ⟨_, _, rfl, by omega, by omega, a0, a1, a2⟩
  · rename_i hlt
    rw [z2B (x := t.at_ + 1) (by omega) (by omega), z2B (by omega) (by omega)]
    obtain ⟨k, hk⟩ := Int.eq_ofNat_of_zero_le a0
    have e : t.at_ + 1 - 1 = (k : Int) := by omega
    rw [e, z3j (by omega)]
    obtain ⟨v, hv, h3, h4⟩ := zid t.l[k] n h1 h2
    simp only [Option.bind_some, hv]
    exact ⟨_, _, rfl, h3, h4, by simp only; omega, by simp only; omega, a2⟩
theorem zqC (l : List Int) : ∃ t, z9T l = some t ∧ TapeOk t := by
  unfold z9T
  split
  · rename_i h
    have := zgF (xs := l) (k := 80) (by omega)
    simp only [Int.cast_ofNat_Int] at this
    rw [this]
    exact ⟨_, rfl, by simp, by simp, by simp only [List.length_take]; omega⟩
  · exact ⟨_, rfl, by simp, by simp, by simp; omega⟩
end Go.Proofs.Ytbnnipkanechoaa
end
section
namespace Go.Proofs.Ytbnnipkanechoaa
open Go
def z6U (m n : Nat) (r : List Int) : Prop := r.length = m ∧ ∀ x ∈ r, 0 ≤ x ∧ x < n
structure DfaOk (d : DFA) (m n : Nat) : Prop where
  lt : d.letters = m
  m1 : 1 ≤ m
  m6 : m ≤ 6
  n1 : 1 ≤ n
  fin : d.final.length = n
  nl : d.next.length = n
  s0 : 0 ≤ d.start
  s1 : d.start < n
  row : ∀ r ∈ d.next, z6U m n r
theorem zf6 {σ τ ρ : Type} {b : σ → Option (σ ⊕ (τ ⊕ ρ))} (I : σ → Prop) (m : σ → Nat) (Post : τ → Prop) {s : σ} (hI : I s) (hm : m s < LFm)
    (step : ∀ s, I s → (∃ s', b s = some (.inl s') ∧ I s' ∧ m s' < m s) ∨ (∃ r, b s = some (.inr (.inl r)) ∧ Post r)) : ∃ r, z1p b LFm s = some (.inl r) ∧ Post r := by
  obtain ⟨r, h1, r', h2, h3⟩ := z2X I m (fun r => ∃ t, r = .inl t ∧ Post t) (fun s hs => (step s hs).imp id fun ⟨r, h, hp⟩ => ⟨_, h, r, rfl, hp⟩) LFm s hI hm
  exact ⟨r', by rw [h1, h2], h3⟩
theorem z9P {α : Type} {l : List α} {x y : α} : y ∈ l ++ [x] ↔ y ∈ l ∨ y = x := by simp
theorem zp9 {t : Tape} (ht : TapeOk t) (m most : Nat) (hm : 1 ≤ m ∧ m ≤ 6) (hk : 1 ≤ most ∧ most ≤ 1000) : ∃ d t' n, z4p t m most = some (d, t') ∧ DfaOk d m n ∧ n ≤ most ∧ TapeOk t' := by
  unfold z4p
  obtain ⟨v, t1, e1, v0, v1, ht1⟩ := z5v ht (most : Int) (by omega) (by omega)
  simp only [e1, Option.bind_some]
  obtain ⟨k, rfl⟩ := Int.eq_ofNat_of_zero_le v0
  have hw : IntKind.i64.wrap (1 + (k : Int)) = ((k + 1 : Nat) : Int) := by rw [z2B (by omega) (by omega)]; omega
  rw [hw]
  obtain ⟨s, t2, e2, s0, s1, ht2⟩ := z5v ht1 ((k + 1 : Nat) : Int) (by omega) (by omega)
  simp only [e2, Option.bind_some]
  refine Exists.elim (z2X (b := z4D m ((k : Int), t1) (s, t2)) (fun z => 0 ≤ z.1 ∧ z.1 ≤ (k + 1 : Nat) ∧ TapeOk ⟨z.2.1, z.2.2.1⟩ ∧ (z.2.2.2.1.length : Int) = z.1 ∧ (z.2.2.2.2.length : Int) = z.1 ∧ ∀ r ∈ z.2.2.2.2, z6U m (k + 1) r) (fun z => k + 2 - z.1.toNat)
    (fun r => DfaOk r.1 m (k + 1) ∧ TapeOk r.2) ?_ LFm (0, t2.l, t2.at_, [], []) ⟨by simp, by simp; omega, ht2, by simp, by simp, by simp⟩ (by simp only [LFm]; omega)) fun r h => ⟨r.1, r.2, k + 1, h.1, h.2.1, by omega, h.2.2⟩
  rintro ⟨i, tl, ta, fs, rs⟩ ⟨i0, i1, i2, i3, i4, i5⟩
  simp only at i0 i1 i2 i3 i4 i5 ⊢
  simp only [z4D, hw]
  by_cases hi : i < ((k + 1 : Nat) : Int)
  · left
    rw [if_pos hi]
    obtain ⟨u, t3, e3, u0, u1, ht3⟩ := z5v i2 2 (by omega) (by omega)
    simp only [e3, Option.bind_some]
    rw [z1n _ (by unfold z3U; omega)]
    refine Exists.elim (zf6 (b := z4o m ((k : Int), t1) i fs rs (u, t3)) (fun z => 0 ≤ z.1 ∧ z.1 ≤ m ∧ TapeOk ⟨z.2.1, z.2.2.1⟩ ∧ (z.2.2.2.length : Int) = z.1 ∧ ∀ x ∈ z.2.2.2, 0 ≤ x ∧ x < (k + 1 : Nat)) (fun z => m + 1 - z.1.toNat)
      (fun z => z.1 = i + 1 ∧ TapeOk ⟨z.2.1, z.2.2.1⟩ ∧ (z.2.2.2.1.length : Int) = i + 1 ∧ (z.2.2.2.2.length : Int) = i + 1 ∧ ∀ r ∈ z.2.2.2.2, z6U m (k + 1) r) (s := (0, t3.l, t3.at_, [])) ⟨by simp, by simp, ht3, by simp, by simp⟩ (by simp only [LFm]; omega) ?_) fun r h => ⟨_, h.1, ⟨by have := h.2.1; omega, by have := h.2.1; omega, h.2.2.1, by have := h.2.1; have := h.2.2.2.1; omega, by have := h.2.1; have := h.2.2.2.2.1; omega, h.2.2.2.2.2⟩, by have := h.2.1; omega⟩
    rintro ⟨j, ul, ua, row⟩ ⟨j0, j1, j2, j3, j4⟩
    simp only at j0 j1 j2 j3 j4 ⊢
    simp only [z4o, hw]
    by_cases hj : j < (m : Int)
    · left
      rw [if_pos hj]
      obtain ⟨x, t4, e4, x0, x1, ht4⟩ := z5v j2 ((k + 1 : Nat) : Int) (by omega) (by omega)
      simp only [e4, Option.bind_some]
      rw [z1n _ (by unfold z3U; omega), z2B (by omega) (by omega)]
      refine ⟨_, rfl, ⟨by simp only; omega, by simp only; omega, ht4, by simp only [List.length_append, List.length_singleton]; omega, fun y hy => ?_⟩, by simp only; omega⟩
      rcases z9P.1 hy with h | rfl
      · exact j4 y h
      · exact ⟨x0, x1⟩
    · right
      rw [if_neg hj, z1n _ (by unfold z3U; omega), z2B (by omega) (by omega)]
      refine ⟨_, rfl, by simp only, j2, by simp only [List.length_append, List.length_singleton]; omega, by simp only [List.length_append, List.length_singleton]; omega, fun y hy => ?_⟩
      rcases z9P.1 hy with h | rfl
      · exact i5 y h
      · exact ⟨by omega, j4⟩
  · right
    rw [if_neg hi]
    exact ⟨_, rfl, ⟨rfl, hm.1, hm.2, by omega, by simp only; omega, by simp only; omega, s0, s1, i5⟩, i2⟩
theorem zkZ {t : Tape} (ht : TapeOk t) : ∃ m t', z3O t = some (((m : Nat) : Int), t') ∧ 1 ≤ m ∧ m ≤ 2 ∧ TapeOk t' := by
  unfold z3O
  obtain ⟨v, t1, e1, v0, v1, ht1⟩ := z5v ht 8 (by omega) (by omega)
  simp only [e1, Option.bind_some]
  obtain ⟨k, rfl⟩ := Int.eq_ofNat_of_zero_le v0
  have : zr6 .i64 (k : Int) 7 = ((k / 7 : Nat) : Int) := by
    unfold zr6
    rw [show ((k : Int).tdiv 7) = ((k / 7 : Nat) : Int) by rfl, z2B (by omega) (by omega)]
  rw [this, z2B (by omega) (by omega)]
  exact ⟨2 - k / 7, t1, by congr 2; omega, by omega, by omega, ht1⟩
end Go.Proofs.Ytbnnipkanechoaa
end
section
namespace Go.Proofs.Ytbnnipkanechoaa
open Go
set_option maxRecDepth 100000
theorem ziZ {m n : Nat} {rs : List (List Int)} (h : ∀ r ∈ rs, z6U m n r) {r' : List Int} (hr : z6U m n r') (i : Nat) : ∀ r ∈ rs.set i r', z6U m n r := fun r hm => by
  rcases List.mem_or_eq_of_mem_set hm with h' | rfl
  · exact h r h'
  · exact hr
theorem zmo {m n : Nat} {r : List Int} (h : z6U m n r) {x : Int} (hx : 0 ≤ x ∧ x < n) (j : Nat) : z6U m n (r.set j x) := ⟨by simp [h.1], fun y hy => by
  rcases List.mem_or_eq_of_mem_set hy with h' | rfl
  · exact h.2 y h'
  · exact hx⟩
theorem zmp {m n : Nat} {rs : List (List Int)} (h : ∀ r ∈ rs, z6U m n r) {k : Nat} (hk : k < rs.length) : z6U m n rs[k] := h _ (List.getElem_mem hk)
theorem zkT {t : Tape} (ht : TapeOk t) (m most : Nat) (hm : 1 ≤ m ∧ m ≤ 6) (hk : 1 ≤ most ∧ most ≤ 1000) : ∃ d t' n, z3N t m most = some (d, t') ∧ DfaOk d m n ∧ n ≤ most ∧ TapeOk t' := by
  unfold z3N
  obtain ⟨d, t1, n, e1, hd, hn, ht1⟩ := zp9 ht m most hm hk
  simp only [e1, Option.bind_some]
  refine Exists.elim (z2X (b := z3H (d, t1)) (fun z => 0 ≤ z.1 ∧ z.1 ≤ n ∧ z.2.length = n ∧ ∀ r ∈ z.2, z6U m n r) (fun z => n + 1 - z.1.toNat) (fun r => DfaOk r.1 m n ∧ TapeOk r.2) ?_ LFm (0, d.next) ⟨by simp, by simp, hd.nl, hd.row⟩ (by simp only [LFm]; omega)) fun r h => ⟨r.1, r.2, n, h.1, h.2.1, hn, h.2.2⟩
  rintro ⟨i, rs⟩ ⟨i0, i1, i2, i3⟩
  simp only at i0 i1 i2 i3 ⊢
  simp only [z3H, hd.nl]
  obtain ⟨i, rfl⟩ := Int.eq_ofNat_of_zero_le i0
  by_cases hi : (i : Int) < n
  · left
    rw [if_pos hi, z3j (by omega)]
    simp only [Option.bind_some]
    have hri := zmp i3 (show i < rs.length by omega)
    refine Exists.elim (zf6 (b := z3G (i : Int) rs[i]) (fun z => 0 ≤ z.1 ∧ z.1 ≤ m ∧ z.2.length = n ∧ ∀ r ∈ z.2, z6U m n r) (fun z => m + 1 - z.1.toNat) (fun z => z.1 = (i : Int) + 1 ∧ z.2.length = n ∧ ∀ r ∈ z.2, z6U m n r) (s := (0, rs)) ⟨by simp, by simp, i2, i3⟩ (by simp only [LFm]; omega) ?_) fun r h => ⟨_, h.1, ⟨by have := h.2.1; omega, by have := h.2.1; omega, h.2.2.1, h.2.2.2⟩, by have := h.2.1; omega⟩
    rintro ⟨j, us⟩ ⟨j0, j1, j2, j3⟩
    simp only at j0 j1 j2 j3 ⊢
    obtain ⟨j, rfl⟩ := Int.eq_ofNat_of_zero_le j0
    simp only [z3G, hri.1]
    rw [z3j (by omega)]
    simp only [Option.bind_some]
    have hui := zmp j3 (show i < us.length by omega)
    by_cases hj : (j : Int) < m
    · left
      rw [if_pos hj, z3j (by rw [hui.1]; omega), z2B (by omega) (by omega)]
      simp only [Option.bind_some]
      refine ⟨_, rfl, ⟨by simp only; omega, by simp only; omega, by simp only [List.length_set]; exact j2, ziZ j3 (zmo hui ?_ _) _⟩, by simp only; omega⟩
      have := hui.2 _ (List.getElem_mem (show j < us[i].length by rw [hui.1]; omega))
      split <;> omega
    · right
      rw [if_neg hj, z2B (by omega) (by omega)]
      exact ⟨_, rfl, rfl, j2, j3⟩
  · right
    rw [if_neg hi]
    exact ⟨_, rfl, ⟨hd.lt, hd.m1, hd.m6, hd.n1, hd.fin, by simp only; omega, by simp, by simp only; have := hd.n1; omega, i3⟩, ht1⟩
theorem zo4 (m n : Nat) (hn : 1 ≤ n) : z6U m n (List.replicate m 0) := ⟨by simp, fun x hx => by rw [(List.mem_replicate.1 hx).2]; omega⟩
theorem zpx {xs : List Int} {k : Nat} (h : k < xs.length) : z6M xs 0 (k : Int) = some (xs.take k) := zgF (by omega)
theorem zpw {xs : List Int} {k : Nat} (h : k < xs.length) : z6M xs ((k : Int) + 1) (xs.length : Int) = some (xs.drop (k + 1)) := by
  have := zi3 (xs := xs) (k := k + 1) (by omega)
  rwa [show ((k + 1 : Nat) : Int) = (k : Int) + 1 by omega] at this
theorem zo9 {t : Tape} (ht : TapeOk t) (m most : Nat) (hm : 1 ≤ m ∧ m ≤ 6) (hk : 1 ≤ most ∧ most ≤ 1000) : ∃ d t' n, z2t t m most = some (d, t') ∧ DfaOk d m n ∧ n ≤ most ∧ TapeOk t' := by
  unfold z2t
  obtain ⟨v, t1, e1, v0, v1, ht1⟩ := z5v ht (most : Int) (by omega) (by omega)
  simp only [e1, Option.bind_some]
  obtain ⟨k, rfl⟩ := Int.eq_ofNat_of_zero_le v0
  have hw : IntKind.i64.wrap (1 + (k : Int)) = ((k + 1 : Nat) : Int) := by rw [z2B (by omega) (by omega)]; omega
  rw [hw]
  obtain ⟨s, t2, e2, s0, s1, ht2⟩ := z5v ht1 ((k + 1 : Nat) : Int) (by omega) (by omega)
  simp only [e2, Option.bind_some]
  refine Exists.elim (z2X (b := z2H m ((k : Int), t1) (s, t2)) (fun z => 0 ≤ z.1 ∧ z.1 ≤ (k + 1 : Nat) ∧ TapeOk ⟨z.2.1, z.2.2.1⟩ ∧ (z.2.2.2.1.length : Int) = z.1 ∧ (z.2.2.2.2.length : Int) = z.1 ∧ ∀ r ∈ z.2.2.2.2, z6U m (k + 1) r) (fun z => k + 2 - z.1.toNat)
    (fun r => DfaOk r.1 m (k + 1) ∧ TapeOk r.2) ?_ LFm (0, t2.l, t2.at_, [], []) ⟨by simp, by simp; omega, ht2, by simp, by simp, by simp⟩ (by simp only [LFm]; omega)) fun r h => ⟨r.1, r.2, k + 1, h.1, h.2.1, by omega, h.2.2⟩
  rintro ⟨i, tl, ta, fs, rs⟩ ⟨i0, i1, i2, i3, i4, i5⟩
  simp only at i0 i1 i2 i3 i4 i5 ⊢
  simp only [z2H, hw]
  by_cases hi : i < ((k + 1 : Nat) : Int)
  · left
    rw [if_pos hi]
    obtain ⟨u, t3, e3, u0, u1, ht3⟩ := z5v i2 2 (by omega) (by omega)
    simp only [e3, Option.bind_some]
    rw [z1n _ (by unfold z3U; omega), z1n _ (by unfold z3n; omega), z1n _ (by unfold z3U; omega), z2B (by omega) (by omega)]
    refine ⟨_, rfl, ⟨by simp only; omega, by simp only; omega, ht3, by simp only [List.length_append, List.length_singleton]; omega, by simp only [List.length_append, List.length_singleton]; omega, fun y hy => ?_⟩, by simp only; omega⟩
    rcases z9P.1 hy with h | rfl
    · exact i5 y h
    · exact zo4 m (k + 1) (by omega)
  · right
    rw [if_neg hi]
    refine Exists.elim (z2X (b := z2G m ((k : Int), t1) (s, t2) fs) (fun z => 0 ≤ z.1 ∧ z.1 ≤ m ∧ TapeOk ⟨z.2.1, z.2.2.1⟩ ∧ z.2.2.2.length = k + 1 ∧ ∀ r ∈ z.2.2.2, z6U m (k + 1) r) (fun z => m + 1 - z.1.toNat)
      (fun r => DfaOk r.1 m (k + 1) ∧ TapeOk r.2) ?_ LFm (0, tl, ta, rs) ⟨by simp, by simp, i2, by simp only; omega, i5⟩ (by simp only [LFm]; omega)) fun r h => ⟨r, by rw [h.1]; rfl, h.2⟩
    rintro ⟨a, ul, ua, us⟩ ⟨a0, a1, a2, a3, a4⟩
    simp only at a0 a1 a2 a3 a4 ⊢
    obtain ⟨a, rfl⟩ := Int.eq_ofNat_of_zero_le a0
    simp only [z2G]
    by_cases ha : (a : Int) < m
    · left
      rw [if_pos ha]
      refine Exists.elim (zf6 (b := z2q ((k : Int), t1) (a : Int) ul ua us) (fun z => 0 ≤ z.1 ∧ z.1 ≤ (k + 1 : Nat) ∧ (z.2.length : Int) = z.1 ∧ ∀ x ∈ z.2, 0 ≤ x ∧ x < (k + 1 : Nat)) (fun z => k + 2 - z.1.toNat)
        (fun z => z.1 = (a : Int) + 1 ∧ TapeOk ⟨z.2.1, z.2.2.1⟩ ∧ z.2.2.2.length = k + 1 ∧ ∀ r ∈ z.2.2.2, z6U m (k + 1) r) (s := (0, [])) ⟨by simp, by simp; omega, by simp, by simp⟩ (by simp only [LFm]; omega) ?_) fun r h => ⟨_, h.1, ⟨by have := h.2.1; omega, by have := h.2.1; omega, h.2.2.1, h.2.2.2.1, h.2.2.2.2⟩, by have := h.2.1; omega⟩
      rintro ⟨q, left⟩ ⟨q0, q1, q2, q3⟩
      simp only at q0 q1 q2 q3 ⊢
      simp only [z2q, hw]
      by_cases hq : q < ((k + 1 : Nat) : Int)
      · left
        rw [if_pos hq, z1n _ (by unfold z3U; omega), z2B (by omega) (by omega)]
        refine ⟨_, rfl, ⟨by simp only; omega, by simp only; omega, by simp only [List.length_append, List.length_singleton]; omega, fun y hy => ?_⟩, by simp only; omega⟩
        rcases z9P.1 hy with h | rfl
        · exact q3 y h
        · omega
      · right
        rw [if_neg hq]
        refine Exists.elim (zf6 (b := z2p ((k : Int), t1) (a : Int)) (fun z => 0 ≤ z.1 ∧ z.1 ≤ (k + 1 : Nat) ∧ TapeOk ⟨z.2.1, z.2.2.1⟩ ∧ z.2.2.2.1.length = k + 1 ∧ (∀ r ∈ z.2.2.2.1, z6U m (k + 1) r) ∧ (z.2.2.2.2.length : Int) = (k + 1 : Nat) - z.1 ∧ ∀ x ∈ z.2.2.2.2, 0 ≤ x ∧ x < (k + 1 : Nat)) (fun z => k + 2 - z.1.toNat)
          (fun z => z.1 = (a : Int) + 1 ∧ TapeOk ⟨z.2.1, z.2.2.1⟩ ∧ z.2.2.2.length = k + 1 ∧ ∀ r ∈ z.2.2.2, z6U m (k + 1) r) (s := (0, ul, ua, us, left)) ⟨by simp, by simp; omega, a2, a3, a4, by simp only; omega, q3⟩ (by simp only [LFm]; omega) ?_) fun r h => ⟨r, by rw [h.1]; rfl, h.2⟩
        rintro ⟨p, xl, xa, xs, lf⟩ ⟨p0, p1, p2, p3, p4, p5, p6⟩
        simp only at p0 p1 p2 p3 p4 p5 p6 ⊢
        obtain ⟨p, rfl⟩ := Int.eq_ofNat_of_zero_le p0
        simp only [z2p, hw]
        by_cases hp : (p : Int) < ((k + 1 : Nat) : Int)
        · left
          rw [if_pos hp]
          obtain ⟨x, t4, e4, x0, x1, ht4⟩ := z5v p2 (lf.length : Int) (by omega) (by omega)
          obtain ⟨x, rfl⟩ := Int.eq_ofNat_of_zero_le x0
          have hrp := zmp p4 (show p < xs.length by omega)
          have hlx : x < lf.length := by omega
          simp only [e4, Option.bind_some]
          rw [z3j (show p < xs.length by omega)]
          simp only [Option.bind_some]
          rw [z3j hlx]
          simp only [Option.bind_some]
          rw [z3j (show a < xs[p].length by rw [hrp.1]; omega), z2B (x := (x : Int) + 1) (by omega) (by omega), zpx hlx]
          simp only [Option.bind_some]
          rw [zpw hlx]
          simp only [Option.bind_some]
          rw [z1n _ (by unfold z3U; simp only [List.length_take]; omega), z1n _ (by unfold z3U; simp only [List.length_take, List.length_drop]; omega), z2B (by omega) (by omega)]
          refine ⟨_, rfl, ⟨by simp only; omega, by simp only; omega, ht4, by simp only [List.length_set]; exact p3, ziZ p4 (zmo hrp (p6 _ (List.getElem_mem hlx)) _) _, by simp only [List.length_append, List.length_take, List.length_drop]; omega, fun y hy => ?_⟩, by simp only; omega⟩
          rcases List.mem_append.1 hy with h | h
          · exact p6 y (List.mem_of_mem_take h)
          · exact p6 y (List.mem_of_mem_drop h)
        · right
          rw [if_neg hp, z2B (by omega) (by omega)]
          exact ⟨_, rfl, rfl, p2, p3, p4⟩
    · right
      rw [if_neg ha]
      exact ⟨_, rfl, ⟨rfl, hm.1, hm.2, by omega, by simp only; omega, a3, s0, s1, a4⟩, a2⟩
end Go.Proofs.Ytbnnipkanechoaa
end
section
namespace Go.Proofs.Ytbnnipkanechoaa
open Go
noncomputable section
set_option maxRecDepth 100000
set_option maxHeartbeats 1000000
def z5u (a0 : Int) : Option (Bool) :=
  if 1 ≤ a0 then
    some (decide (a0 ≤ 6))
  else
    some false
def z4F (a0 : DFA) (w22 : Int) (v28 : List Int) : Int → Option (Int ⊕ (Int ⊕ Int))
  | w30 =>
  if w30 < (v28.length : Int) then
    (atI v28 w30).bind fun v32 =>
    if v32 < 0 then
      z1l <|
      z1l <|
      some 4
    else
      if (a0.final.length : Int) ≤ v32 then
        z1l <|
        z1l <|
        some 4
      else
        z1b (IntKind.i64.wrap (w30 + 1))
  else
    z1l <|
    z1b (IntKind.i64.wrap (w22 + 1))
def z4E (a0 : DFA) (w22 : Int) (v28 : List Int) : Int → Fr
  | w30 => ⟨64, [(1, .one (.a 1 [] (0))), (3, .one (.t none (.sc (.int .i64 (a0.final.length : Int))))), (38, .one (.t none (.sl a0.next.length (a0.next.map fun x0 => .sl x0.length (x0.map fun x1 => .sc (.int .i64 x1)))))), (39, .one (.t none (.sc (.int .i64 (a0.next.length : Int))))), (40, .one (.t none (.sc (.int .i64 w22)))), (49, .one (.t none (.sl v28.length (v28.map fun x0 => .sc (.int .i64 x0))))), (50, .one (.t none (.sc (.int .i64 (v28.length : Int))))), (51, .one (.t none (.sc (.int .i64 w30))))], [(1, .vr [.sc (.int .i64 a0.letters), .sc (.int .i64 a0.start), .sl a0.final.length (a0.final.map fun x0 => .sc (.bool x0)), .sl a0.next.length (a0.next.map fun x0 => .sl x0.length (x0.map fun x1 => .sc (.int .i64 x1)))])]⟩
def z4k (a0 : DFA) : Int → Option (Int ⊕ Int)
  | w22 =>
  if w22 < (a0.next.length : Int) then
    (atI a0.next w22).bind fun v28 =>
    if (v28.length : Int) = a0.letters then
      z1p (z4F a0 w22 v28) LFm 0
    else
      z1l <|
      some 4
  else
    z1l <|
    some 0
def z4W (a0 : DFA) : Int → Fr
  | w22 => ⟨64, [(1, .one (.a 1 [] (0))), (3, .one (.t none (.sc (.int .i64 (a0.final.length : Int))))), (38, .one (.t none (.sl a0.next.length (a0.next.map fun x0 => .sl x0.length (x0.map fun x1 => .sc (.int .i64 x1)))))), (39, .one (.t none (.sc (.int .i64 (a0.next.length : Int))))), (40, .one (.t none (.sc (.int .i64 w22))))], [(1, .vr [.sc (.int .i64 a0.letters), .sc (.int .i64 a0.start), .sl a0.final.length (a0.final.map fun x0 => .sc (.bool x0)), .sl a0.next.length (a0.next.map fun x0 => .sl x0.length (x0.map fun x1 => .sc (.int .i64 x1)))])]⟩
def z5s (a0 : DFA) : Option (Int) :=
  if a0.letters < 1 then
    some 1
  else
    if 6 < a0.letters then
      some 1
    else
      if 512 < (a0.final.length : Int) then
        some 3
      else
        if (a0.next.length : Int) = (a0.final.length : Int) then
          if a0.start < 0 then
            some 4
          else
            if (a0.final.length : Int) ≤ a0.start then
              some 4
            else
              z1p (z4k a0) LFm 0
        else
          some 4
theorem zdg {a0 : DFA} {r : Int} (h0 : z5s a0 = some r) : L 62 [.agg [.sc (.int .i64 a0.letters), .sc (.int .i64 a0.start), .sl a0.final.length (a0.final.map fun x0 => .sc (.bool x0)), .sl a0.next.length (a0.next.map fun x0 => .sl x0.length (x0.map fun x1 => .sc (.int .i64 x1)))]] = some (.sc (.int .i64 r), [.dead]) := by
  simp only [z5s] at h0
  refine z3W ztl zus (z1G zvM ⟨of_decide_eq_true rfl, of_decide_eq_true rfl⟩ ?_)
  simp only [z1R, z1L, z1I, z1S, z3V]
  refine zq rfl (zr rfl rfl rfl (by simp; rfl) ?_)
  refine z0a (zq rfl (zq rfl ?_))
  by_cases c52 : a0.letters < 1
  ·rw [if_pos c52] at h0
   refine zr rfl rfl rfl (by simp [c52]; rfl) ?_
   refine z0a (z0w rfl (by simp) (zq rfl (zr rfl rfl rfl (by simp; rfl) ?_)))
   refine z0a (z1u rfl (z0m ?_))
   cases h0
   simp
  ·rw [if_neg c52] at h0
   refine zr rfl rfl rfl (by simp [c52]; rfl) ?_
   refine z0a ?_
   by_cases c53 : 6 < a0.letters
   ·rw [if_pos c53] at h0
    refine z0w rfl (by simp [c53]) (zq rfl (zr rfl rfl rfl (by simp; rfl) ?_))
    refine z0a (z1u rfl (z0m ?_))
    cases h0
    simp
   ·rw [if_neg c53] at h0
    refine z0v rfl (by simp [c53]) (z0g rfl (z0a (zq rfl (zr rfl rfl rfl (by simp; rfl) ?_))))
    refine z0a (zq rfl (zq rfl (zr rfl rfl rfl (by simp; rfl) ?_)))
    refine z0a ?_
    by_cases c54 : 512 < (a0.final.length : Int)
    ·rw [if_pos c54] at h0
     refine z0w rfl (by simp [c54]) (zq rfl (zr rfl rfl rfl (by simp; rfl) ?_))
     refine z0a (z1u rfl (z0m ?_))
     cases h0
     simp
    ·rw [if_neg c54] at h0
     refine z0v rfl (by simp [c54]) (z0g rfl (z0a (zq rfl (zq rfl ?_))))
     by_cases c55 : (a0.next.length : Int) = (a0.final.length : Int)
     ·rw [if_pos c55] at h0
      have c55e := eq_true c55
      by_cases c56 : a0.start < 0
      ·rw [if_pos c56] at h0
       refine zr rfl rfl rfl (by simp [c55e, c56]; rfl) ?_
       refine z0a (z0w rfl (by simp) (zq rfl (zr rfl rfl rfl (by simp; rfl) ?_)))
       refine z0a (z1u rfl (z0m ?_))
       cases h0
       simp
      ·rw [if_neg c56] at h0
       refine zr rfl rfl rfl (by simp [c55e, c56]; rfl) ?_
       refine z0a ?_
       by_cases c57 : (a0.final.length : Int) ≤ a0.start
       ·rw [if_pos c57] at h0
        refine z0w rfl (by simp [c57]) (zq rfl (zr rfl rfl rfl (by simp; rfl) ?_))
        refine z0a (z1u rfl (z0m ?_))
        cases h0
        simp
       ·rw [if_neg c57] at h0
        refine z0v rfl (by simp [c57]) (z0g rfl (z0a (zq rfl (zq rfl (zr rfl rfl rfl (by simp; rfl) ?_)))))
        refine z0a (zb rfl (z1c h0 (z4W a0) rfl rfl (by simp [z4W]) fun s o1 h1 hr1 => ?_))
        obtain ⟨w22, hs1⟩ : ∃ y, y = s := ⟨_, rfl⟩
        subst hs1
        simp only [z4k] at h1
        simp only [z4W]
        refine zq rfl (zr rfl rfl rfl (by simp; rfl) ?_)
        refine z0a (zq rfl ?_)
        by_cases c88 : w22 < (a0.next.length : Int)
        ·rw [if_pos c88] at h1
         refine z0w rfl (by simp [c88]) (z0g rfl (z0a (zq rfl (zb rfl (zq rfl ?_)))))
         obtain ⟨v28, f89, h2⟩ := z1h h1
         refine zr rfl rfl rfl (by simp [f89]; rfl) ?_
         refine z0a (zq rfl (zq rfl (zr rfl rfl rfl (by simp; rfl) ?_)))
         refine z0a ?_
         by_cases c90 : (v28.length : Int) = a0.letters
         ·rw [if_pos c90] at h2
          have c90e := eq_true c90
          refine z0v rfl (by simp [c90e]) (z0g rfl (z0a (zq rfl (zr rfl rfl rfl (by simp; rfl) ?_))))
          refine z0a (zb rfl (z1c h2 (z4E a0 w22 v28) rfl rfl (by simp [z4E]) fun s o2 h3 hr2 => ?_))
          obtain ⟨w30, hs2⟩ : ∃ y, y = s := ⟨_, rfl⟩
          subst hs2
          simp only [z4F] at h3
          simp only [z4E]
          refine zq rfl (zr rfl rfl rfl (by simp; rfl) ?_)
          refine z0a (zq rfl ?_)
          by_cases c99 : w30 < (v28.length : Int)
          ·rw [if_pos c99] at h3
           refine z0w rfl (by simp [c99]) (z0g rfl (z0a (zq rfl (zb rfl (zq rfl ?_)))))
           obtain ⟨v32, f100, h4⟩ := z1h h3
           refine zr rfl rfl rfl (by simp [f100]; rfl) ?_
           refine z0a (zq rfl ?_)
           by_cases c101 : v32 < 0
           ·rw [if_pos c101] at h4
            refine zr rfl rfl rfl (by simp [c101]; rfl) ?_
            refine z0a (z0w rfl (by simp) (zq rfl (zr rfl rfl rfl (by simp; rfl) ?_)))
            refine z0a (z1u rfl (z0x (z0m ?_)))
            obtain ⟨rr2, h5, ho2⟩ := z0b h4
            have hs2 := hr2 _ ho2
            subst hs2
            refine z1D ho2 (z0x (z0x (z0m ?_)))
            obtain ⟨rr1, h6, ho1⟩ := z0b h5
            have hs1 := hr1 _ ho1
            subst hs1
            refine z1D ho1 (z0x (z0m ?_))
            cases h6
            simp
           ·rw [if_neg c101] at h4
            refine zr rfl rfl rfl (by simp [c101]; rfl) ?_
            refine z0a ?_
            by_cases c102 : (a0.final.length : Int) ≤ v32
            ·rw [if_pos c102] at h4
             refine z0w rfl (by simp [c102]) (zq rfl (zr rfl rfl rfl (by simp; rfl) ?_))
             refine z0a (z1u rfl (z0x (z0m ?_)))
             obtain ⟨rr2, h5, ho2⟩ := z0b h4
             have hs2 := hr2 _ ho2
             subst hs2
             refine z1D ho2 (z0x (z0x (z0m ?_)))
             obtain ⟨rr1, h6, ho1⟩ := z0b h5
             have hs1 := hr1 _ ho1
             subst hs1
             refine z1D ho1 (z0x (z0m ?_))
             cases h6
             simp
            ·rw [if_neg c102] at h4
             refine z0v rfl (by simp [c102]) (z0g rfl (z0k (z0a (zr rfl rfl rfl (by simp; rfl) ?_))))
             have ho := z0c h4
             refine z0j ho ?_
             simp [z4E]
          ·rw [if_neg c99] at h3
           refine z0v rfl (by simp [c99]) (z1s rfl (z0U ?_))
           obtain ⟨rr2, h4, ho2⟩ := z0b h3
           have hs2 := hr2 _ ho2
           subst hs2
           refine z0B ho2 (z0e rfl (z0k (z0a (zr rfl rfl rfl (by simp; rfl) ?_))))
           have ho := z0c h4
           refine z0j ho ?_
           simp [z4W]
         ·rw [if_neg c90] at h2
          have c90e := eq_false c90
          refine z0w rfl (by simp [c90e]) (zq rfl (zr rfl rfl rfl (by simp; rfl) ?_))
          refine z0a (z1u rfl (z0m (z0x (z0m ?_))))
          obtain ⟨rr1, h3, ho1⟩ := z0b h2
          have hs1 := hr1 _ ho1
          subst hs1
          refine z1D ho1 (z0x (z0m ?_))
          cases h3
          simp
        ·rw [if_neg c88] at h1
         refine z0v rfl (by simp [c88]) (z1s rfl (z0U ?_))
         obtain ⟨rr1, h2, ho1⟩ := z0b h1
         have hs1 := hr1 _ ho1
         subst hs1
         refine z0B ho1 (z0e rfl (z0a (zq rfl (zr rfl rfl rfl (by simp; rfl) ?_))))
         refine z0a (z1u rfl ?_)
         cases h2
         simp
     ·rw [if_neg c55] at h0
      have c55e := eq_false c55
      refine zr rfl rfl rfl (by simp [c55e]; rfl) ?_
      refine z0a (z0w rfl (by simp) (zq rfl (zr rfl rfl rfl (by simp; rfl) ?_)))
      refine z0a (z1u rfl (z0m ?_))
      cases h0
      simp
def z3P (a0 : DFA) : Option (Int) :=
  (z5s a0).bind fun v2 =>
  if v2 = 0 then
    if 12 < (a0.final.length : Int) then
      some 3
    else
      some 0
  else
    some v2
theorem z6n {a0 : DFA} {r : Int} (h0 : z3P a0 = some r) : L 35 [.agg [.sc (.int .i64 a0.letters), .sc (.int .i64 a0.start), .sl a0.final.length (a0.final.map fun x0 => .sc (.bool x0)), .sl a0.next.length (a0.next.map fun x0 => .sl x0.length (x0.map fun x1 => .sc (.int .i64 x1)))]] = some (.sc (.int .i64 r), [.dead]) := by
  simp only [z3P] at h0
  refine z3W zty zuF (z1G zvZ ⟨of_decide_eq_true rfl, of_decide_eq_true rfl⟩ ?_)
  simp only [z1R, z1L, z1I, z1S, z3V]
  refine zq rfl (zr rfl rfl rfl (by simp; rfl) ?_)
  refine z0a (zq rfl (zq rfl ?_))
  obtain ⟨v2, f4, h1⟩ := z0d h0
  have f4k := zdg f4
  try simp at f4k
  refine zr rfl rfl rfl (by simp [f4k]; rfl) ?_
  refine z0a (zq rfl (zr rfl rfl rfl (by simp; rfl) ?_))
  refine z0a ?_
  by_cases c5 : v2 = 0
  ·rw [if_pos c5] at h1
   have c5e := eq_true c5
   refine z0v rfl (by simp [c5e]) (z0g rfl (z0a (zq rfl (zq rfl (zr rfl rfl rfl (by simp; rfl) ?_)))))
   refine z0a ?_
   by_cases c6 : 12 < (a0.final.length : Int)
   ·rw [if_pos c6] at h1
    refine z0w rfl (by simp [c6]) (zq rfl (zr rfl rfl rfl (by simp; rfl) ?_))
    refine z0a (z1u rfl (z0m ?_))
    cases h1
    simp
   ·rw [if_neg c6] at h1
    refine z0v rfl (by simp [c6]) (z0g rfl (z0a (zq rfl (zr rfl rfl rfl (by simp; rfl) ?_))))
    refine z0a (z1u rfl ?_)
    cases h1
    simp
  ·rw [if_neg c5] at h1
   have c5e := eq_false c5
   refine z0w rfl (by simp [c5e]) (zq rfl (zr rfl rfl rfl (by simp; rfl) ?_))
   refine z0a (z1u rfl (z0m ?_))
   cases h1
   simp
def z6q (a0 : ByteArray) (a1 : Int) : Int → Option (Int ⊕ Bool)
  | w12 =>
  if w12 < (a0.size : Int) then
    (ziB a0 w12).bind fun v15 =>
    if v15 < 97 then
      z1l <|
      some false
    else
      if a1 ≤ (IntKind.i64.wrap (IntKind.u8.wrap (v15 - 97))) then
        z1l <|
        some false
      else
        z1b (IntKind.i64.wrap (w12 + 1))
  else
    z1l <|
    some true
def z5Y (a0 : ByteArray) (a1 : Int) : Option (Bool) :=
  (z5u a1).bind fun v9 =>
  if v9 = true then
    if 2048 < (a0.size : Int) then
      some false
    else
      z1p (z6q a0 a1) LFm 0
  else
    some false
def z9u (a0 : ByteArray) (a1 : Int) : Int → Option (Int ⊕ Bool)
  | w10 =>
  if w10 < (a0.size : Int) then
    (ziB a0 w10).bind fun v13 =>
    if v13 < 97 then
      z1l <|
      some false
    else
      if a1 ≤ (IntKind.i64.wrap (IntKind.u8.wrap (v13 - 97))) then
        z1l <|
        some false
      else
        z1b (IntKind.i64.wrap (w10 + 1))
  else
    z1l <|
    some true
def z5z (a0 : ByteArray) (a1 : Int) : Int → Fr
  | w10 => ⟨36, [(0, .one (.t none (.sc (.string a0)))), (1, .one (.t none (.sc (.int .i64 a1)))), (18, .one (.t none (.sc (.int .i64 (a0.size : Int))))), (19, .one (.t none (.sc (.int .i64 w10))))], []⟩
def z6B (a0 : ByteArray) (a1 : Int) : Option (Bool) :=
  if a1 < 1 then
    some false
  else
    if 6 < a1 then
      some false
    else
      if 2048 < (a0.size : Int) then
        some false
      else
        z1p (z9u a0 a1) LFm 0
theorem zeO {a0 : ByteArray} {a1 : Int} {r : Bool} (h0 : z6B a0 a1 = some r) : L 50 [.sc (.string a0), .sc (.int .i64 a1)] = some (.sc (.bool r), [.dead, .dead]) := by
  simp only [z6B] at h0
  refine z3W ztq zux (z1G zvR ⟨of_decide_eq_true rfl, of_decide_eq_true rfl⟩ ?_)
  simp only [z1R, z1L, z1I, z1S, z3V]
  refine zq rfl (zr rfl rfl rfl (by simp; rfl) ?_)
  refine z0a (zq rfl (zq rfl ?_))
  by_cases c16 : a1 < 1
  ·rw [if_pos c16] at h0
   refine zr rfl rfl rfl (by simp [c16]; rfl) ?_
   refine z0a (z0w rfl (by simp) (zq rfl (zr rfl rfl rfl (by simp; rfl) ?_)))
   refine z0a (z1u rfl (z0m ?_))
   cases h0
   simp
  ·rw [if_neg c16] at h0
   by_cases c17 : 6 < a1
   ·rw [if_pos c17] at h0
    refine zr rfl rfl rfl (by simp [c16, c17]; rfl) ?_
    refine z0a (z0w rfl (by simp) (zq rfl (zr rfl rfl rfl (by simp; rfl) ?_)))
    refine z0a (z1u rfl (z0m ?_))
    cases h0
    simp
   ·rw [if_neg c17] at h0
    refine zr rfl rfl rfl (by simp [c16, c17]; rfl) ?_
    refine z0a ?_
    by_cases c18 : 2048 < (a0.size : Int)
    ·rw [if_pos c18] at h0
     refine z0w rfl (by simp [c18]) (zq rfl (zr rfl rfl rfl (by simp; rfl) ?_))
     refine z0a (z1u rfl (z0m ?_))
     cases h0
     simp
    ·rw [if_neg c18] at h0
     refine z0v rfl (by simp [c18]) (z0g rfl (z0a (zq rfl (zq rfl (zr rfl rfl rfl (by simp; rfl) ?_)))))
     refine z0a (zb rfl (z1c h0 (z5z a0 a1) rfl rfl (by simp [z5z]) fun s o1 h1 hr1 => ?_))
     obtain ⟨w10, hs1⟩ : ∃ y, y = s := ⟨_, rfl⟩
     subst hs1
     simp only [z9u] at h1
     simp only [z5z]
     refine zq rfl (zr rfl rfl rfl (by simp; rfl) ?_)
     refine z0a (zq rfl ?_)
     by_cases c27 : w10 < (a0.size : Int)
     ·rw [if_pos c27] at h1
      refine z0w rfl (by simp [c27]) (z0g rfl (z0a (zq rfl (zb rfl (zq rfl (zr rfl rfl rfl (by simp; rfl) ?_))))))
      refine z0a (zq rfl ?_)
      obtain ⟨v13, f28, h2⟩ := z0d h1
      obtain ⟨f28a, f28b, f28w, f28c, f28d, f28g⟩ := zeJ f28
      have f28d := f28d.symm
      by_cases c29 : v13 < 97
      ·rw [if_pos c29] at h2
       refine zr rfl rfl rfl (by simp [f28a, f28b, f28c, f28d, f28g, c29]; rfl) ?_
       refine z0a (z0w rfl (by simp) (zq rfl (zr rfl rfl rfl (by simp; rfl) ?_)))
       refine z0a (z1u rfl (z0x (z0m ?_)))
       obtain ⟨rr1, h3, ho1⟩ := z0b h2
       have hs1 := hr1 _ ho1
       subst hs1
       refine z1D ho1 (z0x (z0m ?_))
       cases h3
       simp
      ·rw [if_neg c29] at h2
       refine zr rfl rfl rfl (by simp [f28a, f28b, f28c, f28d, f28g, c29]; rfl) ?_
       refine z0a ?_
       by_cases c30 : a1 ≤ (IntKind.i64.wrap (IntKind.u8.wrap (v13 - 97)))
       ·rw [if_pos c30] at h2
        refine z0w rfl (by simp [c30]) (zq rfl (zr rfl rfl rfl (by simp; rfl) ?_))
        refine z0a (z1u rfl (z0x (z0m ?_)))
        obtain ⟨rr1, h3, ho1⟩ := z0b h2
        have hs1 := hr1 _ ho1
        subst hs1
        refine z1D ho1 (z0x (z0m ?_))
        cases h3
        simp
       ·rw [if_neg c30] at h2
        refine z0v rfl (by simp [c30]) (z0g rfl (z0k (z0a (zr rfl rfl rfl (by simp; rfl) ?_))))
        have ho := z0c h2
        refine z0j ho ?_
        simp [z5z]
     ·rw [if_neg c27] at h1
      refine z0v rfl (by simp [c27]) (z1s rfl (z0U ?_))
      obtain ⟨rr1, h2, ho1⟩ := z0b h1
      have hs1 := hr1 _ ho1
      subst hs1
      refine z0B ho1 (z0e rfl (z0a (zq rfl (zr rfl rfl rfl (by simp; rfl) ?_))))
      refine z0a (z1u rfl ?_)
      cases h2
      simp
def z5r (a0 : DFA) (a1 : Int) : Option (Bool) :=
  if 0 ≤ a1 then
    chk (¬ (a0.final.length : Int) < 0) <|
    some (decide (a1 < (zhV .i64 1 (a0.final.length : Int))))
  else
    some false
theorem zd3 {a0 : DFA} {a1 : Int} {r : Bool} (h0 : z5r a0 a1 = some r) : L 49 [.agg [.sc (.int .i64 a0.letters), .sc (.int .i64 a0.start), .sl a0.final.length (a0.final.map fun x0 => .sc (.bool x0)), .sl a0.next.length (a0.next.map fun x0 => .sl x0.length (x0.map fun x1 => .sc (.int .i64 x1)))], .sc (.int .i64 a1)] = some (.sc (.bool r), [.dead, .dead]) := by
  simp only [z5r] at h0
  refine z3W ztr zuy (z1G zvS ⟨of_decide_eq_true rfl, of_decide_eq_true rfl⟩ ?_)
  simp only [z1R, z1L, z1I, z1S, z3V]
  refine zq rfl (zr rfl rfl rfl (by simp; rfl) ?_)
  refine z0a (zq rfl ?_)
  by_cases c3 : 0 ≤ a1
  ·rw [if_pos c3] at h0
   obtain ⟨f4, h1⟩ := z1N h0
   refine zr rfl rfl rfl (by simp [c3, f4]; rfl) ?_
   refine z0a (z1u rfl ?_)
   cases h1
   simp
  ·rw [if_neg c3] at h0
   refine zr rfl rfl rfl (by simp [c3]; rfl) ?_
   refine z0a (z1u rfl ?_)
   cases h0
   simp
def z5k (a0 : DFA) (a1 : Int) (a2 : Int) : Int × Int → Option ((Int × Int) ⊕ Int)
  | (w11, w12) =>
  if w12 < (a0.next.length : Int) then
    (atI a0.next w12).bind fun v15 =>
    chk (¬ w12 < 0) <|
    if (z2z .i64 (z0V .i64 a1 w12) 1) = 1 then
      (atI v15 a2).bind fun v16 =>
      chk (¬ v16 < 0) <|
      z1b (orI .i64 w11 (zhV .i64 1 v16), IntKind.i64.wrap (w12 + 1))
    else
      z1b (w11, IntKind.i64.wrap (w12 + 1))
  else
    z1l <|
    some w11
def z4y (a0 : DFA) (a1 : Int) (a2 : Int) : Int × Int → Fr
  | (w11, w12) => ⟨32, [(1, .one (.t none (.sc (.int .i64 a1)))), (2, .one (.t none (.sc (.int .i64 a2)))), (7, .one (.t none (.sc (.int .i64 w11)))), (11, .one (.t none (.sl a0.next.length (a0.next.map fun x0 => .sl x0.length (x0.map fun x1 => .sc (.int .i64 x1)))))), (12, .one (.t none (.sc (.int .i64 (a0.next.length : Int))))), (13, .one (.t none (.sc (.int .i64 w12))))], []⟩
def z4G (a0 : DFA) (a1 : Int) (a2 : Int) : Option (Int) :=
  z1p (z5k a0 a1 a2) LFm (0, 0)
theorem z6v {a0 : DFA} {a1 : Int} {a2 : Int} {r : Int} (h0 : z4G a0 a1 a2 = some r) : L 51 [.agg [.sc (.int .i64 a0.letters), .sc (.int .i64 a0.start), .sl a0.final.length (a0.final.map fun x0 => .sc (.bool x0)), .sl a0.next.length (a0.next.map fun x0 => .sl x0.length (x0.map fun x1 => .sc (.int .i64 x1)))], .sc (.int .i64 a1), .sc (.int .i64 a2)] = some (.sc (.int .i64 r), [.dead, .dead, .dead]) := by
  simp only [z4G] at h0
  refine z3W ztp zuw (z1G zvQ ⟨of_decide_eq_true rfl, of_decide_eq_true rfl⟩ ?_)
  simp only [z1R, z1L, z1I, z1S, z3V]
  refine zq rfl (zr rfl rfl rfl (by simp; rfl) ?_)
  refine z0a (zq rfl (zr rfl rfl rfl (by simp; rfl) ?_))
  refine z0a (zq rfl (zq rfl (zr rfl rfl rfl (by simp; rfl) ?_)))
  refine z0a (zb rfl (z1c h0 (z4y a0 a1 a2) rfl rfl (by simp [z4y]) fun s o1 h1 hr1 => ?_))
  obtain ⟨w11, w12⟩ := s
  simp only [z5k] at h1
  simp only [z4y]
  refine zq rfl (zr rfl rfl rfl (by simp; rfl) ?_)
  refine z0a (zq rfl ?_)
  by_cases c29 : w12 < (a0.next.length : Int)
  ·rw [if_pos c29] at h1
   refine z0w rfl (by simp [c29]) (z0g rfl (z0a (zq rfl (zb rfl (zq rfl ?_)))))
   obtain ⟨v15, f30, h2⟩ := z1h h1
   refine zr rfl rfl rfl (by simp [f30]; rfl) ?_
   refine z0a (zq rfl ?_)
   obtain ⟨f31, h3⟩ := z1N h2
   refine zr rfl rfl rfl (by simp [f31]; rfl) ?_
   refine z0a ?_
   by_cases c32 : (z2z .i64 (z0V .i64 a1 w12) 1) = 1
   ·rw [if_pos c32] at h3
    have c32e := eq_true c32
    refine z0w rfl (by simp [c32e]) ?_
    obtain ⟨v16, f33, h4⟩ := z1h h3
    obtain ⟨f34, h5⟩ := z1N h4
    refine zr rfl rfl rfl (by simp [f33, f34]; rfl) ?_
    refine z0k (z0a (zr rfl rfl rfl (by simp; rfl) ?_))
    have ho := z0c h5
    refine z0j ho ?_
    simp [z4y]
   ·rw [if_neg c32] at h3
    have c32e := eq_false c32
    refine z0v rfl (by simp [c32e]) (z0g rfl (z0k (z0a (zr rfl rfl rfl (by simp; rfl) ?_))))
    have ho := z0c h3
    refine z0j ho ?_
    simp [z4y]
  ·rw [if_neg c29] at h1
   refine z0v rfl (by simp [c29]) (z1s rfl (z0U ?_))
   obtain ⟨rr1, h2, ho1⟩ := z0b h1
   have hs1 := hr1 _ ho1
   subst hs1
   refine z0B ho1 (z0e rfl (z0a (zq rfl (zr rfl rfl rfl (by simp; rfl) ?_))))
   refine z0a (z1u rfl ?_)
   cases h2
   simp
def z4j (a0 : DFA) (a2 : ByteArray) : Int × Int → Option ((Int × Int) ⊕ (Int × Int))
  | (w17, w18) =>
  if w18 < (a2.size : Int) then
    (ziB a2 w18).bind fun v21 =>
    (z4G a0 w17 (IntKind.i64.wrap (IntKind.u8.wrap (v21 - 97)))).bind fun v22 =>
    z1b (v22, IntKind.i64.wrap (w18 + 1))
  else
    z1l <|
    some (w17, 0)
def z4U (a0 : DFA) (a2 : ByteArray) : Int × Int → Fr
  | (w17, w18) => ⟨41, [(1, .one (.t none (.sc (.int .i64 w17)))), (2, .one (.t none (.sc (.string a2)))), (3, .one (.a 3 [] (0))), (27, .one (.t none (.sc (.int .i64 (a2.size : Int))))), (28, .one (.t none (.sc (.int .i64 w18))))], [(3, .vr [.sc (.int .i64 a0.letters), .sc (.int .i64 a0.start), .sl a0.final.length (a0.final.map fun x0 => .sc (.bool x0)), .sl a0.next.length (a0.next.map fun x0 => .sl x0.length (x0.map fun x1 => .sc (.int .i64 x1)))])]⟩
def z2T (a0 : DFA) (a1 : Int) (a2 : ByteArray) : Option (Int × Int) :=
  (z3P a0).bind fun v12 =>
  if v12 = 0 then
    (z5r a0 a1).bind fun v13 =>
    if v13 = true then
      (z6B a2 a0.letters).bind fun v14 =>
      if v14 = true then
        z1p (z4j a0 a2) LFm (a1, 0)
      else
        some (0, 1)
    else
      some (0, 1)
  else
    some (0, v12)
theorem z3T {a0 : DFA} {a1 : Int} {a2 : ByteArray} {r : Int × Int} (h0 : z2T a0 a1 a2 = some r) : L 19 [.agg [.sc (.int .i64 a0.letters), .sc (.int .i64 a0.start), .sl a0.final.length (a0.final.map fun x0 => .sc (.bool x0)), .sl a0.next.length (a0.next.map fun x0 => .sl x0.length (x0.map fun x1 => .sc (.int .i64 x1)))], .sc (.int .i64 a1), .sc (.string a2)] = some (.tup [.sc (.int .i64 r.1), .sc (.int .i64 r.2)], [.dead, .dead, .dead]) := by
  simp only [z2T] at h0
  refine z3W ztF zuL (z1G zw5 ⟨of_decide_eq_true rfl, of_decide_eq_true rfl⟩ ?_)
  simp only [z1R, z1L, z1I, z1S, z3V]
  refine zq rfl (zr rfl rfl rfl (by simp; rfl) ?_)
  refine z0a (zq rfl (zq rfl ?_))
  obtain ⟨v12, f16, h1⟩ := z0d h0
  have f16k := z6n f16
  try simp at f16k
  refine zr rfl rfl rfl (by simp [f16k]; rfl) ?_
  refine z0a (zq rfl (zr rfl rfl rfl (by simp; rfl) ?_))
  refine z0a ?_
  by_cases c17 : v12 = 0
  ·rw [if_pos c17] at h1
   have c17e := eq_true c17
   refine z0v rfl (by simp [c17e]) (z0g rfl (z0a (zq rfl (zq rfl ?_))))
   obtain ⟨v13, f18, h2⟩ := z0d h1
   have f18k := zd3 f18
   try simp at f18k
   by_cases c19 : v13 = true
   ·rw [if_pos c19] at h2
    obtain ⟨v14, f20, h3⟩ := z0d h2
    have f20k := zeO f20
    try simp at f20k
    refine zr rfl rfl rfl (by simp [f18k, c19, f20k]; rfl) ?_
    refine z0a ?_
    by_cases c21 : v14 = true
    ·rw [if_pos c21] at h3
     refine z0v rfl (by simp [c21]) (z0g rfl (z0a (zq rfl (zq rfl (zr rfl rfl rfl (by simp; rfl) ?_)))))
     refine z0a (zb rfl (z1c h3 (z4U a0 a2) rfl rfl (by simp [z4U]) fun s o1 h4 hr1 => ?_))
     obtain ⟨w17, w18⟩ := s
     simp only [z4j] at h4
     simp only [z4U]
     refine zq rfl (zr rfl rfl rfl (by simp; rfl) ?_)
     refine z0a (zq rfl ?_)
     by_cases c28 : w18 < (a2.size : Int)
     ·rw [if_pos c28] at h4
      refine z0w rfl (by simp [c28]) (z0g rfl (z0a (zq rfl (zb rfl (zq rfl (zr rfl rfl rfl (by simp; rfl) ?_))))))
      refine z0a ?_
      obtain ⟨v21, f29, h5⟩ := z0d h4
      obtain ⟨f29a, f29b, f29w, f29c, f29d, f29g⟩ := zeJ f29
      have f29d := f29d.symm
      obtain ⟨v22, f30, h6⟩ := z0d h5
      have f30k := z6v f30
      try simp at f30k
      refine z1m rfl rfl rfl rfl ?_; repeat' ((first | refine z0s rfl rfl fun Q' hQ => ?_ | refine z0n rfl fun Q' hQ => ?_); simp [f29a, f29b, f29c, f29d, f29g, f30k]; refine hQ.out _ ?_; clear hQ; clear Q')
      refine z0k (z0a (zr rfl rfl rfl (by simp; rfl) ?_))
      have ho := z0c h6
      refine z0j ho ?_
      simp [z4U]
     ·rw [if_neg c28] at h4
      refine z0v rfl (by simp [c28]) (z1s rfl (z0U ?_))
      obtain ⟨rr1, h5, ho1⟩ := z0b h4
      have hs1 := hr1 _ ho1
      subst hs1
      refine z0B ho1 (z0e rfl (z0a (zq rfl (zr rfl rfl rfl (by simp; rfl) ?_))))
      refine z0a (z1u rfl ?_)
      cases h5
      simp
    ·rw [if_neg c21] at h3
     refine z0w rfl (by simp [c21]) (zq rfl (zr rfl rfl rfl (by simp; rfl) ?_))
     refine z0a (z1u rfl (z0m ?_))
     cases h3
     simp [c19, c21]
   ·rw [if_neg c19] at h2
    refine zr rfl rfl rfl (by simp [f18k, c19]; rfl) ?_
    refine z0a (z0w rfl (by simp) (zq rfl (zr rfl rfl rfl (by simp; rfl) ?_)))
    refine z0a (z1u rfl (z0m ?_))
    cases h2
    simp [c19]
  ·rw [if_neg c17] at h1
   have c17e := eq_false c17
   refine z0w rfl (by simp [c17e]) (zq rfl (zr rfl rfl rfl (by simp; rfl) ?_))
   refine z0a (z1u rfl (z0m ?_))
   cases h1
   simp
def z3h (a0 : Int) (a1 : Int) : Option (Bool) :=
  some (decide ((zfs .i64 a1 a0) = 0))
theorem z4R {a0 : Int} {a1 : Int} {r : Bool} (h0 : z3h a0 a1 = some r) : L 58 [.sc (.int .i64 a0), .sc (.int .i64 a1)] = some (.sc (.bool r), [.dead, .dead]) := by
  simp only [z3h] at h0
  refine z3W ztn zuu (z1G zvO ⟨of_decide_eq_true rfl, of_decide_eq_true rfl⟩ ?_)
  simp only [z1R, z1L, z1I, z1S, z3V]
  refine zq rfl (zr rfl rfl rfl (by simp; rfl) ?_)
  refine z0a (zq rfl (zr rfl rfl rfl (by simp; rfl) ?_))
  refine z0a (z1u rfl ?_)
  cases h0
  simp
def z4i (a0 : DFA) (w77 : Int) : Int × List Bool × List Int × List ByteArray → Option ((Int × List Bool × List Int × List ByteArray) ⊕ ((Int × List Bool × List Int × List ByteArray) ⊕ (List Int × List ByteArray)))
  | (w105, w106, w107, w108) =>
  if w105 < a0.letters then
    (atI w107 w77).bind fun v114 =>
    (z4G a0 v114 w105).bind fun v115 =>
    (atI w106 v115).bind fun v116 =>
    if v116 = true then
      z1b (IntKind.i64.wrap (w105 + 1), w106, w107, w108)
    else
      chk (z3U 8 (w107.length + 1)) <|
      (atI w108 w77).bind fun v118 =>
      chk (za7 v118 ⟨#[UInt8.ofNat (IntKind.u8.wrap (IntKind.i64.wrap (97 + w105))).toNat]⟩) <|
      chk (z3U 16 (w108.length + 1)) <|
      z1b (IntKind.i64.wrap (w105 + 1), (w106.set v115.toNat true), w107 ++ [v115], w108 ++ [v118 ++ ⟨#[UInt8.ofNat (IntKind.u8.wrap (IntKind.i64.wrap (97 + w105))).toNat]⟩])
  else
    z1l <|
    z1b (IntKind.i64.wrap (w77 + 1), w106, w107, w108)
def z4h (a0 : DFA) (w77 : Int) : Int × List Bool × List Int × List ByteArray → Fr
  | (w105, w106, w107, w108) => ⟨69, [(2, .one (.a 2 [] (0))), (6, .one (.h 6 [])), (7, .one (.h 7 [])), (8, .one (.h 8 [])), (9, .one (.t none (.sc (.int .i64 w77)))), (30, .one (.t none (.sc (.int .i64 a0.letters)))), (31, .one (.t none (.sc (.int .i64 w105))))], [(2, .vr [.sc (.int .i64 a0.letters), .sc (.int .i64 a0.start), .sl a0.final.length (a0.final.map fun x0 => .sc (.bool x0)), .sl a0.next.length (a0.next.map fun x0 => .sl x0.length (x0.map fun x1 => .sc (.int .i64 x1)))]), (6, .os 1 w106.length (w106.map fun x0 => .sc (.bool x0))), (7, .os 1 w107.length (w107.map fun x0 => .sc (.int .i64 x0))), (8, .os 1 w108.length (w108.map fun x0 => .sc (.string x0)))]⟩
def z6d (a0 : DFA) : Int × List Bool × List Int × List ByteArray → Option ((Int × List Bool × List Int × List ByteArray) ⊕ (List Int × List ByteArray))
  | (w77, w78, w79, w80) =>
  if w77 < (w79.length : Int) then
    z1p (z4i a0 w77) LFm (0, w78, w79, w80)
  else
    z1l <|
    some (w79, w80)
def z4Q (a0 : DFA) : Int × List Bool × List Int × List ByteArray → Fr
  | (w77, w78, w79, w80) => ⟨69, [(2, .one (.a 2 [] (0))), (6, .one (.h 6 [])), (7, .one (.h 7 [])), (8, .one (.h 8 [])), (9, .one (.t none (.sc (.int .i64 w77))))], [(2, .vr [.sc (.int .i64 a0.letters), .sc (.int .i64 a0.start), .sl a0.final.length (a0.final.map fun x0 => .sc (.bool x0)), .sl a0.next.length (a0.next.map fun x0 => .sl x0.length (x0.map fun x1 => .sc (.int .i64 x1)))]), (6, .os 1 w78.length (w78.map fun x0 => .sc (.bool x0))), (7, .os 1 w79.length (w79.map fun x0 => .sc (.int .i64 x0))), (8, .os 1 w80.length (w80.map fun x0 => .sc (.string x0)))]⟩
def z5q (a0 : DFA) (a1 : Int) : Option (List Int × List ByteArray) :=
  chk (¬ (a0.final.length : Int) < 0) <|
  chk (z3n 1 (zhV .i64 1 (a0.final.length : Int))) <|
  chk (0 ≤ a1 ∧ a1 < (zhV .i64 1 (a0.final.length : Int))) <|
  z1p (z6d a0) LFm (0, ((List.replicate (zhV .i64 1 (a0.final.length : Int)).toNat (false : Bool)).set a1.toNat true), [a1], [ByteArray.empty])
theorem zd2 {a0 : DFA} {a1 : Int} {r : List Int × List ByteArray} (h0 : z5q a0 a1 = some r) : L 57 [.agg [.sc (.int .i64 a0.letters), .sc (.int .i64 a0.start), .sl a0.final.length (a0.final.map fun x0 => .sc (.bool x0)), .sl a0.next.length (a0.next.map fun x0 => .sl x0.length (x0.map fun x1 => .sc (.int .i64 x1)))], .sc (.int .i64 a1)] = some (.tup [.os 1 r.1.length (r.1.map fun x0 => .sc (.int .i64 x0)), .os 1 r.2.length (r.2.map fun x0 => .sc (.string x0))], [.dead, .dead]) := by
  simp only [z5q] at h0
  refine z3W zto zuv (z1G zvP ⟨of_decide_eq_true rfl, of_decide_eq_true rfl⟩ ?_)
  simp only [z1R, z1L, z1I, z1S, z3V]
  refine zq rfl (zr rfl rfl rfl (by simp; rfl) ?_)
  refine z0a (zq rfl ?_)
  obtain ⟨f84, h1⟩ := z1N h0
  obtain ⟨f85, h2⟩ := zrB h1
  refine zr rfl rfl rfl (by simp [f84, f85]; rfl) ?_
  refine z0a (zq rfl ?_)
  obtain ⟨f86, h3⟩ := z1N h2
  obtain ⟨f86a, f86b⟩ := f86
  have f86c : a1.toNat < (zhV .i64 1 (a0.final.length : Int)).toNat := by omega
  have f86d : a1.toNat + 1 ≤ (zhV .i64 1 (a0.final.length : Int)).toNat := by omega
  refine zr rfl rfl rfl (by simp [f85, f86a, f86b, f86c, f86d]; rfl) ?_
  refine z0a (zq rfl (zr rfl rfl rfl (by simp; rfl) ?_))
  refine z0a (zq rfl (zq rfl (zr rfl rfl rfl (by simp; rfl) ?_)))
  refine z0a (zb rfl (z1c h3 (z4Q a0) rfl rfl (by simp [z4Q]) fun s o1 h4 hr1 => ?_))
  obtain ⟨w77, w78, w79, w80⟩ := s
  simp only [z6d] at h4
  simp only [z4Q]
  refine zq rfl (zq rfl (zr rfl rfl rfl (by simp; rfl) ?_))
  refine z0a ?_
  by_cases c139 : w77 < (w79.length : Int)
  ·rw [if_pos c139] at h4
   refine z0w rfl (by simp [c139]) (z0g rfl (z0a (zq rfl (zb rfl (zq rfl (zr rfl rfl rfl (by simp; rfl) ?_))))))
   refine z0a (zb rfl (z1c h4 (z4h a0 w77) rfl rfl (by simp [z4h]) fun s o2 h5 hr2 => ?_))
   obtain ⟨w105, w106, w107, w108⟩ := s
   simp only [z4i] at h5
   simp only [z4h]
   refine zq rfl (zr rfl rfl rfl (by simp; rfl) ?_)
   refine z0a (zq rfl ?_)
   by_cases c158 : w105 < a0.letters
   ·rw [if_pos c158] at h5
    refine z0w rfl (by simp [c158]) (z0g rfl (z0a (zq rfl (zb rfl (zq rfl (zr rfl rfl rfl (by simp; rfl) ?_))))))
    refine z0a (zq rfl ?_)
    obtain ⟨v114, f159, h6⟩ := z1h h5
    obtain ⟨v115, f160, h7⟩ := z0d h6
    have f160k := z6v f160
    try simp at f160k
    refine z1m rfl rfl rfl rfl ?_; repeat' ((first | refine z0s rfl rfl fun Q' hQ => ?_ | refine z0n rfl fun Q' hQ => ?_); simp [f159, f160k]; refine hQ.out _ ?_; clear hQ; clear Q')
    refine z0a (zq rfl ?_)
    obtain ⟨v116, f161, h8⟩ := z1h h7
    refine zr rfl rfl rfl (by simp [f161]; rfl) ?_
    refine z0a ?_
    by_cases c162 : v116 = true
    ·rw [if_pos c162] at h8
     refine z0v rfl (by simp [c162]) (z0g rfl (z0k (z0a (zr rfl rfl rfl (by simp; rfl) ?_))))
     have ho := z0c h8
     refine z0j ho ?_
     simp [z4h, c162]
    ·rw [if_neg c162] at h8
     refine z0w rfl (by simp [c162]) (zq rfl (zr rfl rfl rfl (by simp [f161]; rfl) ?_))
     refine z0a (zq rfl ?_)
     obtain ⟨f163, h9⟩ := z8F h8
     refine zr rfl rfl rfl (by simp [f163]; rfl) ?_
     refine z0a ?_
     obtain ⟨v118, f164, h10⟩ := z1h h9
     obtain ⟨f165, h11⟩ := z1N h10
     obtain ⟨f166, h12⟩ := z8F h11
     refine z1m rfl rfl rfl rfl ?_; repeat' ((first | refine z0s rfl rfl fun Q' hQ => ?_ | refine z0n rfl fun Q' hQ => ?_); simp [f164, f165, f166]; refine hQ.out _ ?_; clear hQ; clear Q')
     refine z0k (z0a (zr rfl rfl rfl (by simp; rfl) ?_))
     have ho := z0c h12
     refine z0j ho ?_
     simp [z4h, c162]
   ·rw [if_neg c158] at h5
    refine z0v rfl (by simp [c158]) (z1s rfl (z0U ?_))
    obtain ⟨rr2, h6, ho2⟩ := z0b h5
    have hs2 := hr2 _ ho2
    subst hs2
    refine z0B ho2 (z0e rfl (z0k (z0a (zr rfl rfl rfl (by simp; rfl) ?_))))
    have ho := z0c h6
    refine z0j ho ?_
    simp [z4Q]
  ·rw [if_neg c139] at h4
   refine z0v rfl (by simp [c139]) (z1s rfl (z0U ?_))
   obtain ⟨rr1, h5, ho1⟩ := z0b h4
   have hs1 := hr1 _ ho1
   subst hs1
   refine z0B ho1 (z0e rfl (z0a (zq rfl (zr rfl rfl rfl (by simp; rfl) ?_))))
   refine z0a (z1u rfl ?_)
   cases h5
   simp
def z2N (a0 : Int) : Option (Int) :=
  chk (¬ 1 < 0) <|
  chk (¬ 2 < 0) <|
  chk (¬ 4 < 0) <|
  chk (¬ 8 < 0) <|
  chk (¬ 16 < 0) <|
  chk (¬ 32 < 0) <|
  some (z2z .i64 (IntKind.i64.wrap (IntKind.u64.wrap ((IntKind.u64.wrap ((IntKind.u64.wrap ((z2z .u64 (IntKind.u64.wrap ((z0V .u64 (IntKind.u64.wrap ((z2z .u64 (z0V .u64 (IntKind.u64.wrap ((z2z .u64 (z0V .u64 a0 1) 6148914691236517205) + (z2z .u64 a0 6148914691236517205))) 2) 3689348814741910323) + (z2z .u64 (IntKind.u64.wrap ((z2z .u64 (z0V .u64 a0 1) 6148914691236517205) + (z2z .u64 a0 6148914691236517205))) 3689348814741910323))) 4) + (IntKind.u64.wrap ((z2z .u64 (z0V .u64 (IntKind.u64.wrap ((z2z .u64 (z0V .u64 a0 1) 6148914691236517205) + (z2z .u64 a0 6148914691236517205))) 2) 3689348814741910323) + (z2z .u64 (IntKind.u64.wrap ((z2z .u64 (z0V .u64 a0 1) 6148914691236517205) + (z2z .u64 a0 6148914691236517205))) 3689348814741910323))))) 1085102592571150095) + (z0V .u64 (z2z .u64 (IntKind.u64.wrap ((z0V .u64 (IntKind.u64.wrap ((z2z .u64 (z0V .u64 (IntKind.u64.wrap ((z2z .u64 (z0V .u64 a0 1) 6148914691236517205) + (z2z .u64 a0 6148914691236517205))) 2) 3689348814741910323) + (z2z .u64 (IntKind.u64.wrap ((z2z .u64 (z0V .u64 a0 1) 6148914691236517205) + (z2z .u64 a0 6148914691236517205))) 3689348814741910323))) 4) + (IntKind.u64.wrap ((z2z .u64 (z0V .u64 (IntKind.u64.wrap ((z2z .u64 (z0V .u64 a0 1) 6148914691236517205) + (z2z .u64 a0 6148914691236517205))) 2) 3689348814741910323) + (z2z .u64 (IntKind.u64.wrap ((z2z .u64 (z0V .u64 a0 1) 6148914691236517205) + (z2z .u64 a0 6148914691236517205))) 3689348814741910323))))) 1085102592571150095) 8))) + (z0V .u64 (IntKind.u64.wrap ((z2z .u64 (IntKind.u64.wrap ((z0V .u64 (IntKind.u64.wrap ((z2z .u64 (z0V .u64 (IntKind.u64.wrap ((z2z .u64 (z0V .u64 a0 1) 6148914691236517205) + (z2z .u64 a0 6148914691236517205))) 2) 3689348814741910323) + (z2z .u64 (IntKind.u64.wrap ((z2z .u64 (z0V .u64 a0 1) 6148914691236517205) + (z2z .u64 a0 6148914691236517205))) 3689348814741910323))) 4) + (IntKind.u64.wrap ((z2z .u64 (z0V .u64 (IntKind.u64.wrap ((z2z .u64 (z0V .u64 a0 1) 6148914691236517205) + (z2z .u64 a0 6148914691236517205))) 2) 3689348814741910323) + (z2z .u64 (IntKind.u64.wrap ((z2z .u64 (z0V .u64 a0 1) 6148914691236517205) + (z2z .u64 a0 6148914691236517205))) 3689348814741910323))))) 1085102592571150095) + (z0V .u64 (z2z .u64 (IntKind.u64.wrap ((z0V .u64 (IntKind.u64.wrap ((z2z .u64 (z0V .u64 (IntKind.u64.wrap ((z2z .u64 (z0V .u64 a0 1) 6148914691236517205) + (z2z .u64 a0 6148914691236517205))) 2) 3689348814741910323) + (z2z .u64 (IntKind.u64.wrap ((z2z .u64 (z0V .u64 a0 1) 6148914691236517205) + (z2z .u64 a0 6148914691236517205))) 3689348814741910323))) 4) + (IntKind.u64.wrap ((z2z .u64 (z0V .u64 (IntKind.u64.wrap ((z2z .u64 (z0V .u64 a0 1) 6148914691236517205) + (z2z .u64 a0 6148914691236517205))) 2) 3689348814741910323) + (z2z .u64 (IntKind.u64.wrap ((z2z .u64 (z0V .u64 a0 1) 6148914691236517205) + (z2z .u64 a0 6148914691236517205))) 3689348814741910323))))) 1085102592571150095) 8))) 16))) + (z0V .u64 (IntKind.u64.wrap ((IntKind.u64.wrap ((z2z .u64 (IntKind.u64.wrap ((z0V .u64 (IntKind.u64.wrap ((z2z .u64 (z0V .u64 (IntKind.u64.wrap ((z2z .u64 (z0V .u64 a0 1) 6148914691236517205) + (z2z .u64 a0 6148914691236517205))) 2) 3689348814741910323) + (z2z .u64 (IntKind.u64.wrap ((z2z .u64 (z0V .u64 a0 1) 6148914691236517205) + (z2z .u64 a0 6148914691236517205))) 3689348814741910323))) 4) + (IntKind.u64.wrap ((z2z .u64 (z0V .u64 (IntKind.u64.wrap ((z2z .u64 (z0V .u64 a0 1) 6148914691236517205) + (z2z .u64 a0 6148914691236517205))) 2) 3689348814741910323) + (z2z .u64 (IntKind.u64.wrap ((z2z .u64 (z0V .u64 a0 1) 6148914691236517205) + (z2z .u64 a0 6148914691236517205))) 3689348814741910323))))) 1085102592571150095) + (z0V .u64 (z2z .u64 (IntKind.u64.wrap ((z0V .u64 (IntKind.u64.wrap ((z2z .u64 (z0V .u64 (IntKind.u64.wrap ((z2z .u64 (z0V .u64 a0 1) 6148914691236517205) + (z2z .u64 a0 6148914691236517205))) 2) 3689348814741910323) + (z2z .u64 (IntKind.u64.wrap ((z2z .u64 (z0V .u64 a0 1) 6148914691236517205) + (z2z .u64 a0 6148914691236517205))) 3689348814741910323))) 4) + (IntKind.u64.wrap ((z2z .u64 (z0V .u64 (IntKind.u64.wrap ((z2z .u64 (z0V .u64 a0 1) 6148914691236517205) + (z2z .u64 a0 6148914691236517205))) 2) 3689348814741910323) + (z2z .u64 (IntKind.u64.wrap ((z2z .u64 (z0V .u64 a0 1) 6148914691236517205) + (z2z .u64 a0 6148914691236517205))) 3689348814741910323))))) 1085102592571150095) 8))) + (z0V .u64 (IntKind.u64.wrap ((z2z .u64 (IntKind.u64.wrap ((z0V .u64 (IntKind.u64.wrap ((z2z .u64 (z0V .u64 (IntKind.u64.wrap ((z2z .u64 (z0V .u64 a0 1) 6148914691236517205) + (z2z .u64 a0 6148914691236517205))) 2) 3689348814741910323) + (z2z .u64 (IntKind.u64.wrap ((z2z .u64 (z0V .u64 a0 1) 6148914691236517205) + (z2z .u64 a0 6148914691236517205))) 3689348814741910323))) 4) + (IntKind.u64.wrap ((z2z .u64 (z0V .u64 (IntKind.u64.wrap ((z2z .u64 (z0V .u64 a0 1) 6148914691236517205) + (z2z .u64 a0 6148914691236517205))) 2) 3689348814741910323) + (z2z .u64 (IntKind.u64.wrap ((z2z .u64 (z0V .u64 a0 1) 6148914691236517205) + (z2z .u64 a0 6148914691236517205))) 3689348814741910323))))) 1085102592571150095) + (z0V .u64 (z2z .u64 (IntKind.u64.wrap ((z0V .u64 (IntKind.u64.wrap ((z2z .u64 (z0V .u64 (IntKind.u64.wrap ((z2z .u64 (z0V .u64 a0 1) 6148914691236517205) + (z2z .u64 a0 6148914691236517205))) 2) 3689348814741910323) + (z2z .u64 (IntKind.u64.wrap ((z2z .u64 (z0V .u64 a0 1) 6148914691236517205) + (z2z .u64 a0 6148914691236517205))) 3689348814741910323))) 4) + (IntKind.u64.wrap ((z2z .u64 (z0V .u64 (IntKind.u64.wrap ((z2z .u64 (z0V .u64 a0 1) 6148914691236517205) + (z2z .u64 a0 6148914691236517205))) 2) 3689348814741910323) + (z2z .u64 (IntKind.u64.wrap ((z2z .u64 (z0V .u64 a0 1) 6148914691236517205) + (z2z .u64 a0 6148914691236517205))) 3689348814741910323))))) 1085102592571150095) 8))) 16))) 32)))) 127)
theorem z6N {a0 : Int} {r : Int} (h0 : z2N a0 = some r) : L 91 [.sc (.int .u64 a0)] = some (.sc (.int .i64 r), [.dead]) := by
  simp only [z2N] at h0
  refine z3W zta zuh (z1G zvB ⟨of_decide_eq_true rfl, of_decide_eq_true rfl⟩ ?_)
  simp only [z1R, z1L, z1I, z1S, z3V]
  refine zq rfl (zr rfl rfl rfl (by simp; rfl) ?_)
  refine z0a (zq rfl ?_)
  obtain ⟨f7, h1⟩ := z1N h0
  refine zr rfl rfl rfl (by simp [f7]; rfl) ?_
  refine z0a (zq rfl ?_)
  obtain ⟨f8, h2⟩ := z1N h1
  refine zr rfl rfl rfl (by simp [f8]; rfl) ?_
  refine z0a (zq rfl ?_)
  obtain ⟨f9, h3⟩ := z1N h2
  refine zr rfl rfl rfl (by simp [f9]; rfl) ?_
  refine z0a (zq rfl ?_)
  obtain ⟨f10, h4⟩ := z1N h3
  refine zr rfl rfl rfl (by simp [f10]; rfl) ?_
  refine z0a (zq rfl ?_)
  obtain ⟨f11, h5⟩ := z1N h4
  refine zr rfl rfl rfl (by simp [f11]; rfl) ?_
  refine z0a (zq rfl ?_)
  obtain ⟨f12, h6⟩ := z1N h5
  refine zr rfl rfl rfl (by simp [f12]; rfl) ?_
  refine z0a (zq rfl (zr rfl rfl rfl (by simp; rfl) ?_))
  refine z0a (z1u rfl ?_)
  cases h6
  simp
def z3Y (a0 : Int) : Option (Int) :=
  (z2N a0).bind fun v2 =>
  some v2
theorem z7r {a0 : Int} {r : Int} (h0 : z3Y a0 = some r) : L 78 [.sc (.int .u64 a0)] = some (.sc (.int .i64 r), [.dead]) := by
  simp only [z3Y] at h0
  refine z3W ztd zuk (z1G zvE ⟨of_decide_eq_true rfl, of_decide_eq_true rfl⟩ ?_)
  simp only [z1R, z1L, z1I, z1S, z3V]
  refine zq rfl (zr rfl rfl rfl (by simp; rfl) ?_)
  refine z0a (zq rfl (z0v rfl (by simp) (z0g rfl (z0a (zq rfl ?_)))))
  obtain ⟨v2, f2, h1⟩ := z0d h0
  have f2k := z6N f2
  try simp at f2k
  refine zr rfl rfl rfl (by simp [f2k]; rfl) ?_
  refine z0a (z1u rfl ?_)
  cases h1
  simp
def z5d (a0 : Int) : Option (Int) :=
  (z3Y (IntKind.u64.wrap a0)).bind fun v2 =>
  some v2
theorem z8L {a0 : Int} {r : Int} (h0 : z5d a0 = some r) : L 68 [.sc (.int .i64 a0)] = some (.sc (.int .i64 r), [.dead]) := by
  simp only [z5d] at h0
  refine z3W zti zup (z1G zvJ ⟨of_decide_eq_true rfl, of_decide_eq_true rfl⟩ ?_)
  simp only [z1R, z1L, z1I, z1S, z3V]
  refine zq rfl (zr rfl rfl rfl (by simp; rfl) ?_)
  refine z0a (zq rfl ?_)
  obtain ⟨v2, f2, h1⟩ := z0d h0
  have f2k := z7r f2
  try simp at f2k
  refine zr rfl rfl rfl (by simp [f2k]; rfl) ?_
  refine z0a (z1u rfl ?_)
  cases h1
  simp
end
end Go.Proofs.Ytbnnipkanechoaa
end
section
namespace Go.Proofs.Ytbnnipkanechoaa
open Go
set_option maxRecDepth 100000
theorem zbz {a : Nat} (h : a < 2 ^ 62) : IntKind.i64.wrap (a : Int) = (a : Int) := z2B (by omega) (by omega)
theorem zoJ {a b : Nat} (ha : a < 2 ^ 62) (hb : b < 2 ^ 62) : z2z .i64 (a : Int) (b : Int) = ((a &&& b : Nat) : Int) := by
  unfold z2z
  have e : (BitVec.ofInt IntKind.i64.bits (a : Int) &&& BitVec.ofInt IntKind.i64.bits (b : Int)).toNat = a &&& b := by
    show (BitVec.ofInt 64 (a : Int) &&& BitVec.ofInt 64 (b : Int)).toNat = _
    rw [BitVec.toNat_and, BitVec.toNat_ofInt, BitVec.toNat_ofInt]
    have h1 : ((a : Int) % ((2 ^ 64 : Nat) : Int)).toNat = a := by omega
    have h2 : ((b : Int) % ((2 ^ 64 : Nat) : Int)).toNat = b := by omega
    rw [h1, h2]
  rw [e]
  exact zbz (Nat.lt_of_le_of_lt Nat.and_le_left ha)
theorem zqx {a b k : Nat} (ha : a < 2 ^ k) (hb : b < 2 ^ k) : a ||| b < 2 ^ k := Nat.or_lt_two_pow ha hb
theorem zpy {a b : Nat} (ha : a < 2 ^ 62) (hb : b < 2 ^ 62) : orI .i64 (a : Int) (b : Int) = ((a ||| b : Nat) : Int) := by
  unfold orI
  have e : (BitVec.ofInt IntKind.i64.bits (a : Int) ||| BitVec.ofInt IntKind.i64.bits (b : Int)).toNat = a ||| b := by
    show (BitVec.ofInt 64 (a : Int) ||| BitVec.ofInt 64 (b : Int)).toNat = _
    rw [BitVec.toNat_or, BitVec.toNat_ofInt, BitVec.toNat_ofInt]
    have h1 : ((a : Int) % ((2 ^ 64 : Nat) : Int)).toNat = a := by omega
    have h2 : ((b : Int) % ((2 ^ 64 : Nat) : Int)).toNat = b := by omega
    rw [h1, h2]
  rw [e]
  exact zbz (zqx ha hb)
theorem ziD {a b : Nat} (ha : a < 2 ^ 62) (hb : b < 2 ^ 62) : zfs .i64 (a : Int) (b : Int) = 0 ↔ a &&& b = a := by
  unfold zfs
  have e : (BitVec.ofInt IntKind.i64.bits (a : Int) &&& ~~~ BitVec.ofInt IntKind.i64.bits (b : Int)).toNat = (BitVec.ofNat 64 a &&& ~~~ BitVec.ofNat 64 b).toNat := by
    show (BitVec.ofInt 64 (a : Int) &&& ~~~ BitVec.ofInt 64 (b : Int)).toNat = _
    congr 2
  rw [e]
  have hle : (BitVec.ofNat 64 a &&& ~~~ BitVec.ofNat 64 b).toNat ≤ a := by
    rw [BitVec.toNat_and]
    refine Nat.le_trans Nat.and_le_left ?_
    simp only [BitVec.toNat_ofNat]
    omega
  rw [zbz (by omega)]
  have ta : ∀ i, (BitVec.ofNat 64 a).toNat.testBit i = a.testBit i := fun i => by
    rw [BitVec.toNat_ofNat, Nat.mod_eq_of_lt (by omega)]
  have tb : ∀ i, (BitVec.ofNat 64 b).toNat.testBit i = b.testBit i := fun i => by
    rw [BitVec.toNat_ofNat, Nat.mod_eq_of_lt (by omega)]
  have hz : ∀ i, (BitVec.ofNat 64 a &&& ~~~ BitVec.ofNat 64 b).toNat.testBit i = (a.testBit i && !(b.testBit i)) := fun i => by
    rw [BitVec.testBit_toNat, BitVec.getLsbD_and, BitVec.getLsbD_not]
    by_cases hi : i < 64
    · simp only [hi, decide_true, Bool.true_and]
      rw [← BitVec.testBit_toNat, ← BitVec.testBit_toNat, ta, tb]
    · have : a.testBit i = false := Nat.testBit_lt_two_pow (Nat.lt_of_lt_of_le ha (Nat.pow_le_pow_right (by omega) (by omega)))
      rw [← BitVec.testBit_toNat, ta, this]; simp
  constructor
  · intro h
    have h0 : (BitVec.ofNat 64 a &&& ~~~ BitVec.ofNat 64 b).toNat = 0 := by omega
    apply Nat.eq_of_testBit_eq
    intro i
    have := hz i
    rw [h0, Nat.zero_testBit] at this
    rw [Nat.testBit_and]
    revert this
    cases a.testBit i <;> cases b.testBit i <;> simp
  · intro h
    have : (BitVec.ofNat 64 a &&& ~~~ BitVec.ofNat 64 b).toNat = 0 := by
      apply Nat.eq_of_testBit_eq
      intro i
      have e2 : (a &&& b).testBit i = a.testBit i := by rw [h]
      rw [Nat.testBit_and] at e2
      rw [hz, Nat.zero_testBit]
      revert e2
      cases a.testBit i <;> cases b.testBit i <;> simp
    omega
theorem znW {a q : Nat} (hq : q ≤ 64) : z0V .i64 (a : Int) (q : Int) = ((a >>> q : Nat) : Int) := by
  unfold z0V
  have e : min ((q : Int).toNat) IntKind.i64.bits = q := by
    show min ((q : Int).toNat) 64 = q
    omega
  rw [e, Nat.shiftRight_eq_div_pow, Int.fdiv_eq_ediv_of_nonneg _ (by exact Int.pow_nonneg (by omega))]
  simp
theorem z8p {q : Nat} (hq : q ≤ 61) : zhV .i64 1 (q : Int) = ((2 ^ q : Nat) : Int) := by
  rw [zme]
  have e : min ((q : Int).toNat) IntKind.i64.bits = q := by
    show min ((q : Int).toNat) 64 = q
    omega
  rw [e, Int.one_mul]
  have : ((2 : Int) ^ q) = ((2 ^ q : Nat) : Int) := by simp
  rw [this]
  exact zbz (Nat.pow_lt_pow_right (by omega) (by omega))
theorem zns {a q : Nat} (ha : a < 2 ^ 62) (hq : q ≤ 64) : (z2z .i64 (z0V .i64 (a : Int) (q : Int)) 1 = 1) ↔ a.testBit q = true := by
  rw [znW hq, show (1 : Int) = ((1 : Nat) : Int) from rfl, zoJ (by rw [Nat.shiftRight_eq_div_pow]; exact Nat.lt_of_le_of_lt (Nat.div_le_self _ _) ha) (by decide), Nat.testBit]
  have : (1 &&& a >>> q) = (a >>> q) &&& 1 := Nat.and_comm ..
  rw [this]
  have h2 := Nat.and_one_is_mod (a >>> q)
  rw [h2]
  simp only [bne_iff_ne, ne_eq]
  omega
theorem zrs {q : Nat} (h : q < 2 ^ 62) : IntKind.u64.wrap (q : Int) = (q : Int) := by rw [IntKind.wrap_u64]; omega
def zj6 (rows : List (List Int)) (s a : Nat) : Nat → Nat
  | 0 => 0
  | q + 1 => if s.testBit q = true then zj6 rows s a q ||| 2 ^ ((rows.getD q []).getD a 0).toNat else zj6 rows s a q
def mvN (d : DFA) (s a : Nat) : Nat := zj6 d.next s a d.next.length
theorem zeW {d : DFA} {m n : Nat} (hd : DfaOk d m n) {q a : Nat} (hq : q < n) (ha : a < m) : ∃ h1 : q < d.next.length, ∃ h2 : a < d.next[q].length, (d.next.getD q []).getD a 0 = d.next[q][a] ∧ 0 ≤ d.next[q][a] ∧ d.next[q][a] < n := by
  have h1 : q < d.next.length := by rw [hd.nl]; exact hq
  have hr := hd.row _ (List.getElem_mem h1)
  have h2 : a < d.next[q].length := by rw [hr.1]; exact ha
  exact ⟨h1, h2, by simp [List.getD, h1, h2], hr.2 _ (List.getElem_mem h2)⟩
theorem zj5 {d : DFA} {m n : Nat} (hd : DfaOk d m n) {s a : Nat} (ha : a < m) (p : Nat) : ∀ q, q ≤ n → ((zj6 d.next s a q).testBit p = true ↔ ∃ i, i < q ∧ s.testBit i = true ∧ ((d.next.getD i []).getD a 0).toNat = p)
  | 0, _ => by simp [zj6]
  | q + 1, hq => by
    have ih := zj5 hd (s := s) ha p q (by omega)
    unfold zj6
    by_cases hb : s.testBit q = true
    · rw [if_pos hb, Nat.testBit_or, Bool.or_eq_true, ih, Nat.testBit_two_pow]
      constructor
      · rintro (⟨i, h1, h2, h3⟩ | h)
        · exact ⟨i, by omega, h2, h3⟩
        · exact ⟨q, by omega, hb, by simpa using h⟩
      · rintro ⟨i, h1, h2, h3⟩
        by_cases e : i = q
        · subst e; right; simpa using h3
        · left; exact ⟨i, by omega, h2, h3⟩
    · rw [if_neg hb, ih]
      constructor
      · rintro ⟨i, h1, h2, h3⟩; exact ⟨i, by omega, h2, h3⟩
      · rintro ⟨i, h1, h2, h3⟩
        by_cases e : i = q
        · subst e; exact absurd h2 hb
        · exact ⟨i, by omega, h2, h3⟩
theorem zf1 {d : DFA} {m n : Nat} (hd : DfaOk d m n) {s a : Nat} (ha : a < m) : ∀ q, q ≤ n → zj6 d.next s a q < 2 ^ n
  | 0, _ => Nat.two_pow_pos n
  | q + 1, hq => by
    have ih := zf1 hd (s := s) ha q (by omega)
    unfold zj6
    split
    · obtain ⟨h1, h2, e, h3, h4⟩ := zeW hd (q := q) (by omega) ha
      refine zqx ih (Nat.pow_lt_pow_right (by omega) ?_)
      rw [e]; omega
    · exact ih
theorem z9j {d : DFA} {m n : Nat} (hd : DfaOk d m n) {s a : Nat} (ha : a < m) (p : Nat) : (mvN d s a).testBit p = true ↔ ∃ i, i < n ∧ s.testBit i = true ∧ ((d.next.getD i []).getD a 0).toNat = p := by
  unfold mvN; rw [hd.nl]; exact zj5 hd ha p n (Nat.le_refl _)
theorem zey {d : DFA} {m n : Nat} (hd : DfaOk d m n) {s a : Nat} (ha : a < m) : mvN d s a < 2 ^ n := by
  unfold mvN; rw [hd.nl]; exact zf1 hd ha n (Nat.le_refl _)
theorem zeZ {n : Nat} (h : n ≤ 12) : 2 ^ n ≤ 4096 := Nat.pow_le_pow_right (n := 2) (by omega) h
theorem zi7 {d : DFA} {m n : Nat} (hd : DfaOk d m n) (hn : n ≤ 12) {s a : Nat} (hs : s < 2 ^ n) (ha : a < m) : z4G d (s : Int) (a : Int) = some ((mvN d s a : Nat) : Int) := by
  have h12 := zeZ hn
  unfold z4G mvN
  refine z2m (s := ((0 : Int), (0 : Int))) n (fun q => (((zj6 d.next s a q : Nat) : Int), (q : Int))) rfl (by simp only [LFm]; omega) (fun q hq => ?_) ?_
  · have hlt := zf1 hd (s := s) ha q (by omega)
    obtain ⟨h1, h2, e, h3, h4⟩ := zeW hd (q := q) hq ha
    simp only [z5k]
    rw [if_pos (by omega), z3j h1]
    simp only [Option.bind_some]
    rw [z1n _ (by omega), z3q (by omega)]
    by_cases hb : s.testBit q = true
    · rw [if_pos ((zns (by omega) (by omega)).2 hb), z3j h2]
      simp only [Option.bind_some]
      obtain ⟨v, hv⟩ := Int.eq_ofNat_of_zero_le h3
      rw [z1n _ (by omega), hv, z8p (by omega), zpy (by omega) (Nat.pow_lt_pow_right (by omega) (by omega))]
      simp only [zj6]
      rw [if_pos hb, e, hv, Int.toNat_natCast]
    · rw [if_neg (fun h => hb ((zns (by omega) (by omega)).1 h))]
      simp only [zj6]
      rw [if_neg hb]
  · simp only [z5k]
    rw [if_neg (by rw [hd.nl]; omega), hd.nl]
end Go.Proofs.Ytbnnipkanechoaa
end
section
namespace Go.Proofs.Ytbnnipkanechoaa
open Go
set_option maxRecDepth 100000
def zq2 (d : DFA) (r : List Int) : Bool := decide ((r.length : Int) = d.letters) && r.all fun x => decide (0 ≤ x ∧ x < (d.final.length : Int))
def zet (d : DFA) : Bool := decide (d.next.length = d.final.length) && decide (0 ≤ d.start ∧ d.start < (d.final.length : Int)) && d.next.all (zq2 d)
def zq0 (d : DFA) : Int := if d.letters < 1 ∨ 6 < d.letters then 1 else if 512 < d.final.length then 3 else if zet d = true then 0 else 4
def zrl (d : DFA) : Prop := d.final.length < 2 ^ 61 ∧ d.next.length < 2 ^ 61 ∧ ∀ r ∈ d.next, r.length < 2 ^ 61
theorem znN {d : DFA} (hc : zrl d) : z1p (z4k d) LFm 0 = some (if d.next.all (zq2 d) = true then 0 else 4) := by
  rw [zgP (l := d.next) ([] : List Int) (zq2 d) (A := some 4) (B := some 0) (by have := hc.2.1; omega) (fun k hk => ?_) ?_]
  · split <;> rfl
  · simp only [z4k]
    rw [if_neg (by omega)]
  · simp only [z4k]
    have hkl := hc.2.1
    have hrl := hc.2.2 _ (List.getElem_mem hk)
    rw [if_pos (by omega), z3j hk]
    simp only [Option.bind_some, List.getD, List.getElem?_eq_getElem hk, Option.getD_some]
    by_cases hl : (d.next[k].length : Int) = d.letters
    · rw [if_pos hl]
      rw [zgP (l := d.next[k]) (0 : Int) (fun x => decide (0 ≤ x ∧ x < (d.final.length : Int))) (A := z1l (some 4)) (B := z1b ((k + 1 : Nat) : Int)) (by omega) (fun j hj => ?_) ?_]
      · simp only [zq2, hl, decide_true, Bool.true_and]
      · simp only [z4F]
        rw [if_neg (by omega), z3q (by omega)]
      · simp only [z4F]
        rw [if_pos (by omega), z3j hj]
        simp only [Option.bind_some, List.getD, List.getElem?_eq_getElem hj, Option.getD_some]
        by_cases h1 : d.next[k][j] < 0
        · rw [if_pos h1, if_neg (by simp; omega)]
        · rw [if_neg h1]
          by_cases h2 : (d.final.length : Int) ≤ d.next[k][j]
          · rw [if_pos h2, if_neg (by simp; omega)]
          · rw [if_neg h2, if_pos (by simp; omega), z3q (by omega)]
    · rw [if_neg hl]
      rw [if_neg (by simp [zq2, hl])]
theorem znf {d : DFA} (hc : zrl d) : z5s d = some (zq0 d) := by
  unfold z5s zq0
  by_cases h1 : d.letters < 1
  · rw [if_pos h1, if_pos (.inl h1)]
  rw [if_neg h1]
  by_cases h2 : 6 < d.letters
  · rw [if_pos h2, if_pos (.inr h2)]
  have hno : ¬ (d.letters < 1 ∨ 6 < d.letters) := by omega
  rw [if_neg h2, if_neg hno]
  by_cases h3 : 512 < (d.final.length : Int)
  · have h3' : 512 < d.final.length := by omega
    rw [if_pos h3, if_pos h3']
  have h3' : ¬ 512 < d.final.length := by omega
  rw [if_neg h3, if_neg h3']
  by_cases h4 : (d.next.length : Int) = (d.final.length : Int)
  · rw [if_pos h4]
    by_cases h5 : d.start < 0
    · rw [if_pos h5, if_neg (by simp [zet]; omega)]
    rw [if_neg h5]
    by_cases h6 : (d.final.length : Int) ≤ d.start
    · rw [if_pos h6, if_neg (by simp [zet]; omega)]
    rw [if_neg h6, znN hc]
    congr 1
    have e1 : decide (d.next.length = d.final.length) = true := by simp; omega
    have e2 : decide (0 ≤ d.start ∧ d.start < (d.final.length : Int)) = true := by simp; omega
    simp only [zet, e1, e2, Bool.true_and]
  · rw [if_neg h4, if_neg (by simp [zet]; omega)]
def zr8 (d : DFA) : Int := if zq0 d = 0 then (if 12 < d.final.length then 3 else 0) else zq0 d
theorem zbL {d : DFA} (hc : zrl d) : z3P d = some (zr8 d) := by
  unfold z3P zr8
  rw [znf hc]
  simp only [Option.bind_some]
  split
  · split
    · rw [if_pos (by omega)]
    · rw [if_neg (by omega)]
  · rfl
theorem zqg {d : DFA} {m n : Nat} (hd : DfaOk d m n) (hn : n ≤ 512) : zq0 d = 0 := by
  have h1 := hd.lt
  have h2 := hd.m1
  have h3 := hd.m6
  have hf := hd.fin
  have hl := hd.nl
  unfold zq0
  rw [if_neg (by omega), if_neg (by omega), if_pos]
  have e1 : decide (d.next.length = d.final.length) = true := by simp; omega
  have e2 : decide (0 ≤ d.start ∧ d.start < (d.final.length : Int)) = true := by have := hd.s0; have := hd.s1; simp; omega
  simp only [zet, e1, e2, Bool.true_and, List.all_eq_true]
  intro r hr
  obtain ⟨a, b⟩ := hd.row r hr
  have e3 : decide ((r.length : Int) = d.letters) = true := by simp; omega
  simp only [zq2, e3, Bool.true_and, List.all_eq_true, decide_eq_true_eq]
  intro x hx
  have := b x hx
  omega
theorem zp0 {d : DFA} {m n : Nat} (hd : DfaOk d m n) (hn : n ≤ 12) : zr8 d = 0 := by
  have hf := hd.fin
  unfold zr8
  rw [zqg hd (by omega), if_pos rfl, if_neg (by omega)]
theorem zpa {d : DFA} {m n : Nat} (hd : DfaOk d m n) (hn : n ≤ 12) : zrl d := ⟨by rw [hd.fin]; omega, by rw [hd.nl]; omega, fun r hr => by have := (hd.row r hr).1; have := hd.m6; omega⟩
theorem zdr (w : ByteArray) (m : Int) : z6B w m = z5Y w m := by
  unfold z6B z5Y z5u
  by_cases h1 : m < 1
  · rw [if_pos h1, if_neg (by omega)]; rfl
  rw [if_neg h1]
  have h1' : 1 ≤ m := by omega
  by_cases h2 : 6 < m
  · rw [if_pos h2, if_pos h1']
    simp only [Option.bind_some]
    rw [if_neg (by simp; omega)]
  rw [if_neg h2, if_pos h1']
  simp only [Option.bind_some]
  rw [if_pos (show decide (m ≤ 6) = true by simp; omega)]
  rfl
def z6u (m : Int) (c : UInt8) : Bool := decide (97 ≤ c.toNat) && decide ((c.toNat : Int) < 97 + m)
theorem zdD {k : Nat} (h : 97 ≤ k) (h2 : k < 256) : IntKind.i64.wrap (IntKind.u8.wrap ((k : Int) - 97)) = ((k - 97 : Nat) : Int) := by
  rw [zqd (by omega) (by omega), z2B (by omega) (by omega)]; omega
theorem zhe {w : ByteArray} {k : Nat} (h : k < w.size) : w[k] = w.data.toList.getD k 0 := by
  have h' : k < w.data.toList.length := by rw [Array.length_toList]; exact h
  rw [List.getD, List.getElem?_eq_getElem h', Option.getD_some, Array.getElem_toList]
  rfl
theorem zoK {w : ByteArray} {m : Int} (hm : 1 ≤ m ∧ m ≤ 6) : z5Y w m = some (decide (w.size ≤ 2048) && w.data.toList.all (z6u m)) := by
  unfold z5Y z5u
  rw [if_pos hm.1]
  simp only [Option.bind_some]
  rw [if_pos (show decide (m ≤ 6) = true by simp; omega)]
  by_cases h : 2048 < (w.size : Int)
  · rw [if_pos h, show decide (w.size ≤ 2048) = false by simp; omega]; rfl
  rw [if_neg h, show decide (w.size ≤ 2048) = true by simp; omega, Bool.true_and]
  have hl : w.data.toList.length = w.size := by rw [Array.length_toList]; rfl
  rw [z7F (s := (0 : Int)) w.size (fun k => (k : Int)) (fun k => !z6u m (w.data.toList.getD k 0)) (fun _ => some false) (x := some true) rfl (by simp only [LFm]; omega)]
  · rw [zfj]
    simp only [Bool.not_not]
    rw [← hl, zcP]
    cases w.data.toList.all (z6u m) <;> rfl
  · intro k hk
    have hb : w[k].toNat < 256 := w[k].toNat_lt
    simp only [z6q]
    rw [if_pos (by omega), zhf hk]
    simp only [Option.bind_some]
    rw [← zhe hk]
    by_cases h1 : (w[k].toNat : Int) < 97
    · have : z6u m w[k] = false := by simp only [z6u, Bool.and_eq_false_iff, decide_eq_false_iff_not]; omega
      simp only [h1, this, Bool.not_false, if_true]
    · rw [if_neg h1, zdD (by omega) hb]
      by_cases h2 : m ≤ ((w[k].toNat - 97 : Nat) : Int)
      · have : z6u m w[k] = false := by simp only [z6u, Bool.and_eq_false_iff, decide_eq_false_iff_not]; omega
        simp only [h2, this, Bool.not_false, if_true]
      · have : z6u m w[k] = true := by simp only [z6u, Bool.and_eq_true, decide_eq_true_eq]; omega
        rw [if_neg h2, this, if_neg (by simp), z3q (by omega)]
  · simp only [z6q]
    rw [if_neg (by omega)]
def zfA (m : Nat) (w : ByteArray) : Prop := w.size ≤ 2048 ∧ ∀ c ∈ w.data.toList, 97 ≤ c.toNat ∧ c.toNat < 97 + m
instance (m : Nat) (w : ByteArray) : Decidable (zfA m w) := by unfold zfA; exact inferInstance
theorem zlx {w : ByteArray} {m : Nat} (hm : 1 ≤ m ∧ m ≤ 6) : z5Y w (m : Int) = some (decide (zfA m w)) := by
  rw [zoK (by omega)]
  congr 1
  rw [Bool.eq_iff_iff, decide_eq_true_iff]
  unfold zfA
  simp only [Bool.and_eq_true, decide_eq_true_eq, List.all_eq_true, z6u]
  constructor
  · rintro ⟨a, b⟩; exact ⟨a, fun c hc => by have := b c hc; omega⟩
  · rintro ⟨a, b⟩; exact ⟨a, fun c hc => by have := b c hc; omega⟩
theorem zoi {d : DFA} {m n : Nat} (hd : DfaOk d m n) (hn : n ≤ 12) (s : Int) : z5r d s = some (decide (0 ≤ s ∧ s < ((2 ^ n : Nat) : Int))) := by
  unfold z5r
  rw [hd.fin]
  by_cases h : 0 ≤ s
  · rw [if_pos h, z1n _ (by omega), z8p (by omega)]
    congr 1
    rw [Bool.eq_iff_iff]; simp only [decide_eq_true_eq]; omega
  · rw [if_neg h]
    congr 1
    symm
    simp only [decide_eq_false_iff_not]; omega
theorem z9o {r p : Nat} (hr : r < 2 ^ 62) (hp : p < 2 ^ 62) : z3h (r : Int) (p : Int) = some (decide (p &&& r = p)) := by
  unfold z3h
  congr 1
  rw [Bool.eq_iff_iff]; simp only [decide_eq_true_eq]
  exact ziD hp hr
def z6l (d : DFA) : Nat → List UInt8 → Nat
  | s, [] => s
  | s, c :: w => z6l d (mvN d s (c.toNat - 97)) w
theorem z7f (d : DFA) : ∀ (s : Nat) (u v : List UInt8), z6l d s (u ++ v) = z6l d (z6l d s u) v
  | s, [], v => rfl
  | s, c :: u, v => by simp only [List.cons_append, z6l, z7f]
theorem zcM {d : DFA} {m n : Nat} (hd : DfaOk d m n) : ∀ {w : List UInt8} {s : Nat}, s < 2 ^ n → (∀ c ∈ w, 97 ≤ c.toNat ∧ c.toNat < 97 + m) → z6l d s w < 2 ^ n
  | [], s, hs, _ => hs
  | c :: w, s, hs, hw => by
    have hc := hw c (List.mem_cons_self ..)
    exact zcM (w := w) (s := mvN d s (c.toNat - 97)) hd (zey hd (by omega)) fun c' hc' => hw c' (List.mem_cons_of_mem _ hc')
theorem zm2 {α : Type} {l : List α} {k : Nat} (h : k < l.length) : l.take (k + 1) = l.take k ++ [l[k]] := by rw [List.take_succ_eq_append_getElem h]
theorem zhi {d : DFA} {m n : Nat} (hd : DfaOk d m n) (hn : n ≤ 12) {s : Nat} (hs : s < 2 ^ n) {w : ByteArray} (hw : zfA m w) : z1p (z4j d w) LFm ((s : Int), 0) = some (((z6l d s w.data.toList : Nat) : Int), 0) := by
  have hl : w.data.toList.length = w.size := by rw [Array.length_toList]; rfl
  have h48 := hw.1
  refine z2m (s := ((s : Int), (0 : Int))) w.size (fun k => (((z6l d s (w.data.toList.take k) : Nat) : Int), (k : Int))) rfl (by simp only [LFm]; omega) (fun k hk => ?_) ?_
  · have hk' : k < w.data.toList.length := by omega
    have hc := hw.2 _ (List.getElem_mem hk')
    have hb : w[k] = w.data.toList[k] := by rw [zhe hk, List.getD, List.getElem?_eq_getElem hk', Option.getD_some]
    have h256 : w[k].toNat < 256 := w[k].toNat_lt
    simp only [z4j]
    rw [if_pos (by omega), zhf hk]
    simp only [Option.bind_some]
    rw [hb] at *
    rw [zdD hc.1 h256, zi7 hd hn (zcM hd hs fun c hc => hw.2 c (List.mem_of_mem_take hc)) (by omega)]
    simp only [Option.bind_some]
    rw [z3q (by omega), zm2 hk', z7f]
    rfl
  · simp only [z4j]
    rw [if_neg (by omega), ← hl, List.take_length]
def znB (d : DFA) (m n : Nat) (s : Int) (w : ByteArray) : Int × Int := if (0 ≤ s ∧ s < ((2 ^ n : Nat) : Int)) ∧ zfA m w then (((z6l d s.toNat w.data.toList : Nat) : Int), 0) else (0, 1)
theorem zoL {d : DFA} {m n : Nat} (hd : DfaOk d m n) (hn : n ≤ 12) (s : Int) (w : ByteArray) : z2T d s w = some (znB d m n s w) := by
  unfold z2T znB
  rw [zbL (zpa hd hn), zp0 hd hn]
  simp only [Option.bind_some, if_true]
  rw [zoi hd hn]
  simp only [Option.bind_some, decide_eq_true_eq]
  by_cases h : 0 ≤ s ∧ s < ((2 ^ n : Nat) : Int)
  · rw [if_pos h, zdr, hd.lt, zlx ⟨hd.m1, hd.m6⟩]
    simp only [Option.bind_some, decide_eq_true_eq]
    by_cases hw : zfA m w
    · rw [if_pos hw, if_pos ⟨h, hw⟩]
      obtain ⟨k, rfl⟩ := Int.eq_ofNat_of_zero_le h.1
      rw [zhi hd hn (by omega) hw, Int.toNat_natCast]
    · rw [if_neg hw, if_neg (fun hh => hw hh.2)]
  · rw [if_neg h, if_neg (fun hh => h hh.1)]
end Go.Proofs.Ytbnnipkanechoaa
end
section
namespace Go.Proofs.Ytbnnipkanechoaa
open Go
set_option maxRecDepth 100000
def zr9 (a : Nat) : ByteArray := ⟨#[UInt8.ofNat (97 + a)]⟩
abbrev RS := List Nat × List ByteArray
def zgq (d : DFA) (i a : Nat) (st : RS) : RS := if mvN d (st.1.getD i 0) a ∈ st.1 then st else (st.1 ++ [mvN d (st.1.getD i 0) a], st.2 ++ [st.2.getD i ByteArray.empty ++ zr9 a])
def z7n (d : DFA) (i : Nat) (st : RS) : Nat → RS
  | 0 => st
  | a + 1 => zgq d i a (z7n d i st a)
def z6h (d : DFA) (m s : Nat) : Nat → RS
  | 0 => ([s], [ByteArray.empty])
  | k + 1 => if k < (z6h d m s k).1.length then z7n d k (z6h d m s k) m else z6h d m s k
structure RInv (d : DFA) (m n s : Nat) (st : RS) : Prop where
  nd : st.1.Nodup
  lt : ∀ x ∈ st.1, x < 2 ^ n
  len : st.2.length = st.1.length
  f0 : st.1[0]? = some s
  w0 : st.2[0]? = some ByteArray.empty
  ok : ∀ i, i < st.1.length → (st.2.getD i ByteArray.empty).size ≤ i ∧ (∀ c ∈ (st.2.getD i ByteArray.empty).data.toList, 97 ≤ c.toNat ∧ c.toNat < 97 + m) ∧ z6l d s (st.2.getD i ByteArray.empty).data.toList = st.1.getD i 0
theorem z7k {α : Type} {l r : List α} {i : Nat} (d : α) (h : i < l.length) : (l ++ r).getD i d = l.getD i d := by
  rw [List.getD, List.getD, List.getElem?_append_left h]
theorem zd6 {α : Type} {l : List α} {x d : α} {i : Nat} (h : i = l.length) : (l ++ [x]).getD i d = x := by
  subst h; simp [List.getD]
theorem z1z {l : List Nat} {i : Nat} (h : i < l.length) : l.getD i 0 ∈ l := by
  rw [List.getD, List.getElem?_eq_getElem h]; exact List.getElem_mem h
theorem zcV {α : Type} : ∀ {l r : List α}, l.Nodup → (∀ x ∈ l, x ∈ r) → l.length ≤ r.length
  | [], r, _, _ => by simp
  | x :: l, r, hn, hs => by
    obtain ⟨a, b, rfl⟩ := List.append_of_mem (hs x (List.mem_cons_self ..))
    have hn' := List.nodup_cons.1 hn
    have := zcV (r := a ++ b) hn'.2 fun y hy => by
      have h1 := hs y (List.mem_cons_of_mem _ hy)
      have hne : y ≠ x := fun e => hn'.1 (e ▸ hy)
      rcases List.mem_append.1 h1 with h | h
      · exact List.mem_append.2 (.inl h)
      · rcases List.mem_cons.1 h with h | h
        · exact absurd h hne
        · exact List.mem_append.2 (.inr h)
    simp only [List.length_cons, List.length_append] at *
    omega
theorem z1U {l : List Nat} {N : Nat} (hn : l.Nodup) (hl : ∀ x ∈ l, x < N) : l.length ≤ N := by
  have := zcV hn (r := List.range N) fun x hx => List.mem_range.2 (hl x hx)
  simpa using this
theorem zmK (a : Nat) : (zr9 a).data.toList = [UInt8.ofNat (97 + a)] := rfl
theorem zoz (u v : ByteArray) : (u ++ v).data.toList = u.data.toList ++ v.data.toList := by simp
theorem zoy (u v : ByteArray) : (u ++ v).size = u.size + v.size := by simp
theorem zcU (a : Nat) : (zr9 a).size = 1 := rfl
theorem zjb {a : Nat} (h : a < 26) : (UInt8.ofNat (97 + a)).toNat = 97 + a := by simp [UInt8.toNat_ofNat']; omega
theorem znU {d : DFA} {m n s : Nat} (hd : DfaOk d m n) {st : RS} (h : RInv d m n s st) {i a : Nat} (hi : i < st.1.length) (ha : a < m) :
    RInv d m n s (zgq d i a st) ∧ mvN d (st.1.getD i 0) a ∈ (zgq d i a st).1 ∧ ∃ S W, (zgq d i a st).1 = st.1 ++ S ∧ (zgq d i a st).2 = st.2 ++ W := by
  have hm6 := hd.m6
  unfold zgq
  split
  · rename_i hm
    exact ⟨h, hm, [], [], by simp, by simp⟩
  · rename_i hm
    obtain ⟨o1, o2, o3⟩ := h.ok i hi
    refine ⟨⟨?_, ?_, by simp [h.len], ?_, ?_, ?_⟩, by simp, _, _, rfl, rfl⟩
    · refine List.nodup_append.2 ⟨h.nd, by simp, fun x hx y hy => ?_⟩
      obtain rfl : y = _ := by simpa using hy
      exact fun e => hm (e ▸ hx)
    · intro x hx
      rcases List.mem_append.1 hx with hx | hx
      · exact h.lt x hx
      · obtain rfl : x = _ := by simpa using hx
        exact zey hd ha
    · rw [List.getElem?_append_left (by omega)]; exact h.f0
    · rw [List.getElem?_append_left (by rw [h.len]; omega)]; exact h.w0
    · intro j hj
      simp only [List.length_append, List.length_singleton] at hj
      by_cases e : j = st.1.length
      · rw [zd6 e, zd6 (by rw [h.len]; exact e), zoy, zoz, zmK, zcU, z7f, o3]
        refine ⟨by omega, fun c hc => ?_, ?_⟩
        · rcases List.mem_append.1 hc with hc | hc
          · exact o2 c hc
          · obtain rfl := List.mem_singleton.1 hc
            rw [zjb (by omega)]; omega
        · simp only [z6l]
          rw [zjb (by omega), Nat.add_sub_cancel_left]
      · rw [z7k _ (show j < st.2.length by rw [h.len]; omega), z7k _ (show j < st.1.length by omega)]
        exact h.ok j (by omega)
theorem zfd {d : DFA} {m n s : Nat} (hd : DfaOk d m n) {st : RS} (h : RInv d m n s st) {i : Nat} (hi : i < st.1.length) : ∀ a, a ≤ m →
    RInv d m n s (z7n d i st a) ∧ (∀ b, b < a → mvN d (st.1.getD i 0) b ∈ (z7n d i st a).1) ∧ (∃ S W, (z7n d i st a).1 = st.1 ++ S ∧ (z7n d i st a).2 = st.2 ++ W)
  | 0, _ => ⟨h, fun b hb => by omega, [], [], by simp [z7n], by simp [z7n]⟩
  | a + 1, ha => by
    obtain ⟨h1, h2, S, W, h3, h4⟩ := zfd hd h hi a (by omega)
    have hi' : i < (z7n d i st a).1.length := by rw [h3, List.length_append]; omega
    obtain ⟨k1, k2, S', W', k3, k4⟩ := znU hd h1 hi' (show a < m by omega)
    have e : (z7n d i st a).1.getD i 0 = st.1.getD i 0 := by rw [h3, z7k _ hi]
    rw [e] at k2
    refine ⟨k1, fun b hb => ?_, S ++ S', W ++ W', by rw [z7n, k3, h3, List.append_assoc], by rw [z7n, k4, h4, List.append_assoc]⟩
    by_cases hb' : b = a
    · subst hb'; exact k2
    · rw [z7n, k3]; exact List.mem_append.2 (.inl (h2 b (by omega)))
theorem z9g {d : DFA} {m n s : Nat} (hd : DfaOk d m n) (hs : s < 2 ^ n) : ∀ k, RInv d m n s (z6h d m s k) ∧ ∀ j, j < k → j < (z6h d m s k).1.length → ∀ a, a < m → mvN d ((z6h d m s k).1.getD j 0) a ∈ (z6h d m s k).1
  | 0 => ⟨⟨by simp [z6h], by simpa [z6h] using hs, rfl, rfl, rfl, fun i hi => by
      obtain rfl : i = 0 := by simpa [z6h] using hi
      exact ⟨Nat.le_refl _, fun c hc => by simp [z6h, List.getD] at hc, rfl⟩⟩, fun j hj => by omega⟩
  | k + 1 => by
    obtain ⟨h1, h2⟩ := z9g hd hs k
    unfold z6h
    split
    · rename_i hk
      obtain ⟨k1, k2, S, W, k3, k4⟩ := zfd hd h1 hk m (Nat.le_refl _)
      refine ⟨k1, fun j hj hjl a ha => ?_⟩
      by_cases e : j = k
      · subst e
        have := k2 a ha
        rwa [show (z7n d j (z6h d m s j) m).1.getD j 0 = (z6h d m s j).1.getD j 0 by rw [k3, z7k _ hk]]
      · have hj' : j < (z6h d m s k).1.length := by omega
        have := h2 j (by omega) hj' a ha
        rw [show (z7n d k (z6h d m s k) m).1.getD j 0 = (z6h d m s k).1.getD j 0 by rw [k3, z7k _ hj'], k3]
        exact List.mem_append.2 (.inl this)
    · rename_i hk
      exact ⟨h1, fun j hj hjl a ha => h2 j (by omega) hjl a ha⟩
theorem zhY {d : DFA} {m n s : Nat} (hd : DfaOk d m n) (hs : s < 2 ^ n) (k : Nat) : (z6h d m s k).1.length ≤ 2 ^ n := z1U (z9g hd hs k).1.nd (z9g hd hs k).1.lt
theorem zeU {d : DFA} {m s : Nat} {k : Nat} (h : ¬ k < (z6h d m s k).1.length) : ∀ j, k ≤ j → z6h d m s j = z6h d m s k
  | 0, hj => by
    obtain rfl : k = 0 := by omega
    rfl
  | j + 1, hj => by
    by_cases e : k = j + 1
    · rw [e]
    · have ih := zeU h j (by omega)
      rw [z6h, ih, if_neg (by omega)]
def z1E (d : DFA) (m n s : Nat) : RS := z6h d m s (2 ^ n)
theorem zbp {d : DFA} {m n s : Nat} (hd : DfaOk d m n) (hs : s < 2 ^ n) {x a : Nat} (hx : x ∈ (z1E d m n s).1) (ha : a < m) : mvN d x a ∈ (z1E d m n s).1 := by
  obtain ⟨i, hi, rfl⟩ := List.getElem_of_mem hx
  have hl := zhY hd hs (2 ^ n)
  have := (z9g hd hs (2 ^ n)).2 i (by unfold z1E at hi; omega) hi a ha
  have e : (z6h d m s (2 ^ n)).1.getD i 0 = (z1E d m n s).1[i] := by
    show (z1E d m n s).1.getD i 0 = _
    rw [List.getD, List.getElem?_eq_getElem hi, Option.getD_some]
  rw [e] at this
  exact this
theorem z5Z {d : DFA} {m n s : Nat} (hd : DfaOk d m n) (hs : s < 2 ^ n) : RInv d m n s (z1E d m n s) := (z9g hd hs _).1
def toI (l : List Nat) : List Int := l.map fun x => ((x : Nat) : Int)
theorem z0W (l : List Nat) : (toI l).length = l.length := by simp [toI]
theorem z8o (l : List Nat) (x : Nat) : toI (l ++ [x]) = toI l ++ [((x : Nat) : Int)] := by simp [toI]
theorem z4e {l : List Nat} {i : Nat} (h : i < l.length) : atI (toI l) (i : Int) = some ((l.getD i 0 : Nat) : Int) := by
  rw [z3j (by rw [z0W]; exact h)]
  simp [toI, List.getD, h]
theorem zpo {l : List ByteArray} {i : Nat} (h : i < l.length) : atI l (i : Int) = some (l.getD i ByteArray.empty) := by
  rw [z3j h, List.getD, List.getElem?_eq_getElem h, Option.getD_some]
def zgL (n : Nat) (S : List Nat) : List Bool := (List.range (2 ^ n)).map fun x => decide (x ∈ S)
theorem zqH {n : Nat} {S : List Nat} {x : Nat} (h : x < 2 ^ n) : atI (zgL n S) (x : Int) = some (decide (x ∈ S)) := by
  rw [z3j (by simpa [zgL] using h)]; simp [zgL]
theorem zmC {n : Nat} {S : List Nat} {x : Nat} : (zgL n S).set x true = zgL n (S ++ [x]) := by
  apply List.ext_getElem (by simp [zgL])
  intro i h1 h2
  simp only [zgL, List.getElem_set, List.getElem_map, List.getElem_range, List.mem_append, List.mem_singleton]
  by_cases e : x = i
  · subst e; simp
  · rw [if_neg e]
    have : ¬ i = x := fun h => e h.symm
    simp [this]
theorem zmD {n s : Nat} : (List.replicate (2 ^ n) false).set s true = zgL n [s] := by
  have : List.replicate (2 ^ n) false = zgL n [] := by
    apply List.ext_getElem (by simp [zgL])
    intro i h1 h2
    simp [zgL]
  rw [this, zmC]; rfl
def zrE (S : List Nat) : List (Int × Bool) := S.map fun x => (((x : Nat) : Int), true)
theorem map_set {x : Nat} : ∀ {S : List Nat}, x ∉ S → zeu ((x : Nat) : Int) true (zrE S) = zrE (S ++ [x])
  | [], _ => rfl
  | y :: S, h => by
    have ih := map_set (x := x) (S := S) (fun hh => h (List.mem_cons_of_mem _ hh))
    have hne : y ≠ x := fun e => h (by simp [e])
    simp only [zrE, List.map_cons, zeu, List.cons_append]
    rw [if_neg (by omega)]
    congr 1
theorem zmL {a : Nat} (h : a < 26) : (⟨#[UInt8.ofNat (IntKind.u8.wrap (IntKind.i64.wrap (97 + (a : Int)))).toNat]⟩ : ByteArray) = zr9 a := by
  rw [z2B (by omega) (by omega), zqd (by omega) (by omega)]
  have : (97 + (a : Int)).toNat = 97 + a := by omega
  rw [this]; rfl
theorem zij {d : DFA} {m n s : Nat} (hd : DfaOk d m n) (hn : n ≤ 12) {st : RS} (h : RInv d m n s st) {i : Nat} (hi : i < st.1.length) :
    z1p (z4i d i) LFm (0, zgL n st.1, toI st.1, st.2) = z1b (((i + 1 : Nat) : Int), zgL n (z7n d i st m).1, toI (z7n d i st m).1, (z7n d i st m).2) := by
  have h12 := zeZ hn
  have hm6 := hd.m6
  have hl := z1U h.nd h.lt
  refine z2m (s := ((0 : Int), zgL n st.1, toI st.1, st.2)) m (fun a => ((a : Int), zgL n (z7n d i st a).1, toI (z7n d i st a).1, (z7n d i st a).2)) rfl (by simp only [LFm]; omega) (fun a ha => ?_) ?_
  · obtain ⟨k1, _, S, W, k3, k4⟩ := zfd hd h hi a (by omega)
    have hl2 := z1U k1.nd k1.lt
    have hi' : i < (z7n d i st a).1.length := by rw [k3, List.length_append]; omega
    have hx : (z7n d i st a).1.getD i 0 < 2 ^ n := k1.lt _ (z1z hi')
    obtain ⟨o1, _, _⟩ := k1.ok i hi'
    simp only [z4i]
    rw [if_pos (by rw [hd.lt]; omega), z4e hi']
    simp only [Option.bind_some]
    rw [zi7 hd hn hx ha]
    simp only [Option.bind_some]
    rw [zqH (zey hd ha)]
    simp only [Option.bind_some, decide_eq_true_eq]
    rw [z3q (by omega), z7n]
    unfold zgq
    have hml := zey hd (s := (z7n d i st a).1.getD i 0) ha
    have hlt := hd.lt
    clear hd h k3 k4
    revert hml
    generalize z7n d i st a = st' at *
    generalize mvN d (st'.1.getD i 0) a = x
    intro hml
    by_cases hm : x ∈ st'.1
    · rw [if_pos hm, if_pos hm]
    · rw [if_neg hm, if_neg hm, z1n _ (by unfold z3U; rw [z0W]; omega), zpo (by rw [k1.len]; exact hi'), Option.bind_some]
      rw [zmL (by omega), z1n _ (by unfold za7; rw [zcU]; omega), z1n _ (by unfold z3U; rw [k1.len]; omega), Int.toNat_natCast, zmC]
      rw [z8o]
  · simp only [z4i]
    rw [if_neg (by rw [hd.lt]; omega), z3q (by omega)]
theorem zo6 {d : DFA} {m n s : Nat} (hd : DfaOk d m n) (hn : n ≤ 12) (hs : s < 2 ^ n) : z5q d (s : Int) = some (toI (z1E d m n s).1, (z1E d m n s).2) := by
  have h12 := zeZ hn
  have hp := Nat.two_pow_pos n
  unfold z5q
  rw [hd.fin, z1n _ (by omega), z8p (by omega), z1n _ (by unfold z3n; omega), z1n _ (by omega), Int.toNat_natCast, Int.toNat_natCast, zmD]
  refine zf7 (s := ((0 : Int), zgL n [s], [(s : Int)], [ByteArray.empty])) (fun z => ∃ k : Nat, k ≤ 2 ^ n ∧ z = ((k : Int), zgL n (z6h d m s k).1, toI (z6h d m s k).1, (z6h d m s k).2)) (fun z => 2 ^ n + 1 - z.1.toNat) ⟨0, by omega, rfl⟩ (by simp only [LFm]; omega) ?_
  rintro z ⟨k, hk, rfl⟩
  have hl := zhY hd hs k
  simp only [z6d]
  by_cases h : k < (z6h d m s k).1.length
  · left
    rw [if_pos (by rw [z0W]; omega), zij hd hn (z9g hd hs k).1 h]
    refine ⟨_, rfl, ⟨k + 1, by omega, ?_⟩, by simp only; omega⟩
    rw [z6h, if_pos h]
  · right
    rw [if_neg (by rw [z0W]; omega)]
    unfold z1E
    rw [zeU h _ hk]
end Go.Proofs.Ytbnnipkanechoaa
end
section
namespace Go.Proofs.Ytbnnipkanechoaa
open Go
set_option maxRecDepth 100000
def z6J (p r : Nat) : Prop := p &&& r = p
theorem z2C {p r : Nat} : z6J p r ↔ ∀ q, p.testBit q = true → r.testBit q = true := by
  unfold z6J
  constructor
  · intro h q hq
    have : (p &&& r).testBit q = true := by rw [h]; exact hq
    rw [Nat.testBit_and, Bool.and_eq_true] at this
    exact this.2
  · intro h
    apply Nat.eq_of_testBit_eq
    intro q
    rw [Nat.testBit_and]
    cases hp : p.testBit q with
    | false => rfl
    | true => rw [h q hp]; rfl
theorem zeQ (p : Nat) : z6J p p := Nat.and_self p
theorem zm5 {p q r : Nat} (h1 : z6J p q) (h2 : z6J q r) : z6J p r := z2C.2 fun i hi => z2C.1 h2 i (z2C.1 h1 i hi)
theorem z7z {p q : Nat} (h1 : z6J p q) (h2 : z6J q p) : p = q := Nat.eq_of_testBit_eq fun i => by
  have a := z2C.1 h1 i
  have b := z2C.1 h2 i
  cases hp : p.testBit i <;> cases hq : q.testBit i <;> simp_all
theorem zpD {d : DFA} {m n : Nat} (hd : DfaOk d m n) {p r a : Nat} (ha : a < m) (h : z6J p r) : z6J (mvN d p a) (mvN d r a) := z2C.2 fun q hq => by
  obtain ⟨i, h1, h2, h3⟩ := (z9j hd ha q).1 hq
  exact (z9j hd ha q).2 ⟨i, h1, z2C.1 h i h2, h3⟩
theorem zeV {d : DFA} {m n : Nat} (hd : DfaOk d m n) : ∀ {w : List UInt8} {p r : Nat}, (∀ c ∈ w, 97 ≤ c.toNat ∧ c.toNat < 97 + m) → z6J p r → z6J (z6l d p w) (z6l d r w)
  | [], p, r, _, h => h
  | c :: w, p, r, hw, h => zeV (w := w) (p := mvN d p (c.toNat - 97)) (r := mvN d r (c.toNat - 97)) hd (fun c' hc' => hw c' (List.mem_cons_of_mem _ hc')) (zpD hd (by have := hw c (List.mem_cons_self ..); omega) h)
theorem zcN {d : DFA} {m n s : Nat} (hd : DfaOk d m n) (hs : s < 2 ^ n) : ∀ {w : List UInt8} {x : Nat}, (∀ c ∈ w, 97 ≤ c.toNat ∧ c.toNat < 97 + m) → x ∈ (z1E d m n s).1 → z6l d x w ∈ (z1E d m n s).1
  | [], x, _, h => h
  | c :: w, x, hw, h => zcN (w := w) (x := mvN d x (c.toNat - 97)) hd hs (fun c' hc' => hw c' (List.mem_cons_of_mem _ hc')) (zbp hd hs h (by have := hw c (List.mem_cons_self ..); omega))
theorem zb6 {d : DFA} {m n s : Nat} (hd : DfaOk d m n) (hs : s < 2 ^ n) : s ∈ (z1E d m n s).1 := by
  have := (z5Z hd hs).f0
  exact List.mem_of_getElem? this
def zqb (d : DFA) (m : Nat) (p r : Nat) : Prop := ∃ w : List UInt8, (∀ c ∈ w, 97 ≤ c.toNat ∧ c.toNat < 97 + m) ∧ z6J p (z6l d r w)
theorem znv {d : DFA} {m n p r : Nat} (hd : DfaOk d m n) (hr : r < 2 ^ n) : zqb d m p r ↔ ∃ x ∈ (z1E d m n r).1, z6J p x := by
  constructor
  · rintro ⟨w, h1, h2⟩
    exact ⟨_, zcN hd hr h1 (zb6 hd hr), h2⟩
  · rintro ⟨x, hx, hs⟩
    obtain ⟨i, hi, rfl⟩ := List.getElem_of_mem hx
    obtain ⟨_, o2, o3⟩ := (z5Z hd hr).ok i hi
    refine ⟨_, o2, ?_⟩
    rw [o3, List.getD, List.getElem?_eq_getElem hi, Option.getD_some]
    exact hs
theorem zjM (d : DFA) (m p : Nat) : zqb d m p p := ⟨[], fun c hc => by simp at hc, zeQ p⟩
theorem zdl {d : DFA} {m n p q r : Nat} (hd : DfaOk d m n) (h1 : zqb d m p q) (h2 : zqb d m q r) : zqb d m p r := by
  obtain ⟨u, u1, u2⟩ := h1
  obtain ⟨v, v1, v2⟩ := h2
  refine ⟨v ++ u, fun c hc => ?_, ?_⟩
  · rcases List.mem_append.1 hc with h | h
    · exact v1 c h
    · exact u1 c h
  · rw [z7f]
    exact zm5 u2 (zeV hd u1 v2)
end Go.Proofs.Ytbnnipkanechoaa
end
