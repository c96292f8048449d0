/- Proved here: a part of the proof of the law at hand, in one text: no condition. -/
import Derived.Test.YtbnnipkanechoaaB2
import Derived.Test.YtbnnipkanechoaaProg
import Derived.KernelRfl
import Derived.WalkKit
import Derived.Below
set_option linter.unusedVariables false
set_option linter.unusedSimpArgs false
section
namespace Go.Proofs.Ytbnnipkanechoaa
open Go
set_option maxRecDepth 100000
@[simp] theorem ty3 : z3N Try.prog 3 = some ⟨.int .i64, 1, 8, (some [(.sc (.int .i64 0))])⟩ := by kernel_rfl
@[simp] theorem ty4 : z3N Try.prog 4 = some ⟨.bool, 1, 1, (some [(.sc (.bool false))])⟩ := by kernel_rfl
@[simp] theorem ty5 : z3N Try.prog 5 = some ⟨.int .u8, 1, 1, (some [(.sc (.int .u8 0))])⟩ := by kernel_rfl
@[simp] theorem ty9 : z3N Try.prog 9 = some ⟨.string, 1, 16, (some [(.sc (.string ByteArray.empty))])⟩ := by kernel_rfl
@[simp] theorem ty22 : z3N Try.prog 22 = some ⟨.slice 3, 1, 24, (some [(.os 1 0 [])])⟩ := by kernel_rfl
@[simp] theorem ty23 : z3N Try.prog 23 = some ⟨.pointer 60, 1, 8, (some [(.sc (.pointer none))])⟩ := by kernel_rfl
@[simp] theorem ty25 : z3N Try.prog 25 = some ⟨.slice 4, 1, 24, (some [(.os 1 0 [])])⟩ := by kernel_rfl
@[simp] theorem ty26 : z3N Try.prog 26 = some ⟨.slice 22, 1, 24, (some [(.os 1 0 [])])⟩ := by kernel_rfl
noncomputable def zuK : Array Field := match Try.prog.underlying 28 with | some (.struct fs) => fs | _ => #[]
@[simp] theorem ty28 : z3N Try.prog 28 = some ⟨.struct zuK, 4, 64, (some [(.sc (.int .i64 0)), (.sc (.int .i64 0)), (.os 1 0 []), (.os 1 0 [])])⟩ := by kernel_rfl
@[simp] theorem fi28_0 : z4g Try.prog 28 0 = some (0, 1, false) := by kernel_rfl
@[simp] theorem fi28_1 : z4g Try.prog 28 1 = some (1, 1, false) := by kernel_rfl
@[simp] theorem fi28_2 : z4g Try.prog 28 2 = some (2, 1, false) := by kernel_rfl
@[simp] theorem fi28_3 : z4g Try.prog 28 3 = some (3, 1, false) := by kernel_rfl
@[simp] theorem zuA : zbq Try.prog 28 = (some [(.sc (.int .i64 0)), (.sc (.int .i64 0)), (.os 1 0 []), (.os 1 0 [])]) := by kernel_rfl
@[simp] theorem bs28 (fr : Fr) (parts : List (Nat × Operand)) : zaz Try.prog fr 28 parts = match z9c fr (z4g Try.prog 28) ([(.sc (.int .i64 0)), (.sc (.int .i64 0)), (.os 1 0 []), (.os 1 0 [])].map (A.t none)) parts with | some xs => some (E.ag xs) | none => none := z6g zuA fr parts
@[simp] theorem ty31 : z3N Try.prog 31 = some ⟨.slice 9, 1, 24, (some [(.os 1 0 [])])⟩ := by kernel_rfl
noncomputable def zuJ : Array Field := match Try.prog.underlying 33 with | some (.struct fs) => fs | _ => #[]
@[simp] theorem ty33 : z3N Try.prog 33 = some ⟨.struct zuJ, 6, 144, (some [(.os 1 0 []), (.os 1 0 []), (.os 1 0 []), (.os 1 0 []), (.os 1 0 []), (.os 1 0 [])])⟩ := by kernel_rfl
@[simp] theorem fi33_0 : z4g Try.prog 33 0 = some (0, 1, false) := by kernel_rfl
@[simp] theorem fi33_1 : z4g Try.prog 33 1 = some (1, 1, false) := by kernel_rfl
@[simp] theorem fi33_2 : z4g Try.prog 33 2 = some (2, 1, false) := by kernel_rfl
@[simp] theorem fi33_3 : z4g Try.prog 33 3 = some (3, 1, false) := by kernel_rfl
@[simp] theorem fi33_4 : z4g Try.prog 33 4 = some (4, 1, false) := by kernel_rfl
@[simp] theorem fi33_5 : z4g Try.prog 33 5 = some (5, 1, false) := by kernel_rfl
@[simp] theorem zuz : zbq Try.prog 33 = (some [(.os 1 0 []), (.os 1 0 []), (.os 1 0 []), (.os 1 0 []), (.os 1 0 []), (.os 1 0 [])]) := by kernel_rfl
@[simp] theorem bs33 (fr : Fr) (parts : List (Nat × Operand)) : zaz Try.prog fr 33 parts = match z9c fr (z4g Try.prog 33) ([(.os 1 0 []), (.os 1 0 []), (.os 1 0 []), (.os 1 0 []), (.os 1 0 []), (.os 1 0 [])].map (A.t none)) parts with | some xs => some (E.ag xs) | none => none := z6g zuz fr parts
@[simp] theorem ty34 : z3N Try.prog 34 = some ⟨.int .i64, 1, 8, (some [(.sc (.int .i64 0))])⟩ := by kernel_rfl
@[simp] theorem ty41 : z3N Try.prog 41 = some ⟨.map 3 3, 1, 8, (some [(.sc (.map none))])⟩ := by kernel_rfl
@[simp] theorem mt41 : zhq Try.prog 41 = some ((some .i64), 3) := by kernel_rfl
@[simp] theorem zv41 : zmi Try.prog 3 = some (.int .i64 0) := by kernel_rfl
@[simp] theorem ty51 : z3N Try.prog 51 = some ⟨.int .u64, 1, 8, (some [(.sc (.int .u64 0))])⟩ := by kernel_rfl
noncomputable def zuI : Array Field := match Try.prog.underlying 60 with | some (.struct fs) => fs | _ => #[]
@[simp] theorem ty60 : z3N Try.prog 60 = some ⟨.struct zuI, 2, 32, (some [(.os 1 0 []), (.sc (.int .i64 0))])⟩ := by kernel_rfl
@[simp] theorem fi60_0 : z4g Try.prog 60 0 = some (0, 1, false) := by kernel_rfl
@[simp] theorem fi60_1 : z4g Try.prog 60 1 = some (1, 1, false) := by kernel_rfl
@[simp] theorem zuy : zbq Try.prog 60 = (some [(.os 1 0 []), (.sc (.int .i64 0))]) := by kernel_rfl
@[simp] theorem bs60 (fr : Fr) (parts : List (Nat × Operand)) : zaz Try.prog fr 60 parts = match z9c fr (z4g Try.prog 60) ([(.os 1 0 []), (.sc (.int .i64 0))].map (A.t none)) parts with | some xs => some (E.ag xs) | none => none := z6g zuy fr parts
@[simp] theorem ty63 : z3N Try.prog 63 = some ⟨.slice 25, 1, 24, (some [(.os 1 0 [])])⟩ := by kernel_rfl
noncomputable def zuH : Array Field := match Try.prog.underlying 65 with | some (.struct fs) => fs | _ => #[]
@[simp] theorem ty65 : z3N Try.prog 65 = some ⟨.struct zuH, 3, 72, (some [(.os 1 0 []), (.os 1 0 []), (.os 1 0 [])])⟩ := by kernel_rfl
@[simp] theorem fi65_0 : z4g Try.prog 65 0 = some (0, 1, false) := by kernel_rfl
@[simp] theorem fi65_1 : z4g Try.prog 65 1 = some (1, 1, false) := by kernel_rfl
@[simp] theorem fi65_2 : z4g Try.prog 65 2 = some (2, 1, false) := by kernel_rfl
@[simp] theorem zux : zbq Try.prog 65 = (some [(.os 1 0 []), (.os 1 0 []), (.os 1 0 [])]) := by kernel_rfl
@[simp] theorem bs65 (fr : Fr) (parts : List (Nat × Operand)) : zaz Try.prog fr 65 parts = match z9c fr (z4g Try.prog 65) ([(.os 1 0 []), (.os 1 0 []), (.os 1 0 [])].map (A.t none)) parts with | some xs => some (E.ag xs) | none => none := z6g zux fr parts
@[simp] theorem ty80 : z3N Try.prog 80 = some ⟨.slice 5, 1, 24, (some [(.os 1 0 [])])⟩ := by kernel_rfl
@[simp] theorem ty89 : z3N Try.prog 89 = some ⟨.map 3 4, 1, 8, (some [(.sc (.map none))])⟩ := by kernel_rfl
@[simp] theorem mt89 : zhq Try.prog 89 = some ((some .i64), 4) := by kernel_rfl
@[simp] theorem zv89 : zmi Try.prog 4 = some (.bool false) := by kernel_rfl
@[simp] theorem ty102 : z3N Try.prog 102 = some ⟨.int .u32, 1, 4, (some [(.sc (.int .u32 0))])⟩ := by kernel_rfl
@[simp] theorem ty104 : z3N Try.prog 104 = some ⟨.int .u64, 1, 8, (some [(.sc (.int .u64 0))])⟩ := by kernel_rfl
def cf3 : Cfg := { wio := fun f i => (f == 30 && (i == 0)) || (f == 12 && (i == 0)) || (f == 13 && (i == 0)) || (f == 20 && (i == 0)) || (f == 999999 && (i == 0)), live := fun r => none, dr := fun r => none, fz := fun r => if r = 3 then some [4] else none }
@[simp] theorem wio3 : cf3.wio = fun f i => (f == 30 && (i == 0)) || (f == 12 && (i == 0)) || (f == 13 && (i == 0)) || (f == 20 && (i == 0)) || (f == 999999 && (i == 0)) := rfl
@[simp] theorem live3 : cf3.live = fun r => none := rfl
@[simp] theorem wr3 : cf3.wr = fun _ => [] := rfl
def cf4 : Cfg := { wio := fun f i => (f == 30 && (i == 0)) || (f == 12 && (i == 0)) || (f == 13 && (i == 0)) || (f == 20 && (i == 0)) || (f == 999999 && (i == 0)), live := fun r => if r = 7 then some [5, 35, 36, 37] else if r = 11 then some [5, 7, 8, 9, 35, 36, 37, 46, 47, 48] else none, dr := fun r => if r = 13 then some [(0, 0), (1, 0), (2, 0), (3, 0), (4, 0), (5, 0), (6, 0), (7, 0), (8, 0), (9, 0), (10, 0), (11, 0), (12, 0), (13, 0), (14, 0), (15, 0), (16, 0), (17, 0), (18, 0), (19, 0), (20, 0), (21, 0), (22, 0), (23, 0), (24, 0), (25, 0), (26, 0), (27, 0), (28, 0), (29, 0), (30, 0), (31, 0), (32, 0), (33, 0)] else none, fz := fun r => if r = 3 then some [4] else none }
@[simp] theorem wio4 : cf4.wio = fun f i => (f == 30 && (i == 0)) || (f == 12 && (i == 0)) || (f == 13 && (i == 0)) || (f == 20 && (i == 0)) || (f == 999999 && (i == 0)) := rfl
@[simp] theorem live4 : cf4.live = fun r => if r = 7 then some [5, 35, 36, 37] else if r = 11 then some [5, 7, 8, 9, 35, 36, 37, 46, 47, 48] else none := rfl
@[simp] theorem wr4 : cf4.wr = fun _ => [] := rfl
def cf5 : Cfg := { wio := fun f i => (f == 30 && (i == 0)) || (f == 12 && (i == 0)) || (f == 13 && (i == 0)) || (f == 20 && (i == 0)) || (f == 999999 && (i == 0)), live := fun r => if r = 9 then some [4, 5, 7, 8, 78, 79, 80] else if r = 20 then some [4, 5, 7, 8, 9, 78, 79, 80, 189, 190, 191] else if r = 27 then some [4, 5, 7, 8, 9, 20, 22, 78, 79, 80, 189, 190, 191, 221, 222, 223] else none, dr := fun r => if r = 15 then some [(0, 0), (1, 0), (2, 0), (3, 0), (4, 0), (5, 0), (6, 0), (7, 0), (8, 0), (9, 0), (10, 0), (11, 1), (12, 0), (13, 0), (14, 0), (15, 0), (16, 0)] else if r = 16 then some [(0, 0), (1, 0), (2, 0), (3, 0), (4, 0), (5, 0), (6, 0), (7, 1), (8, 0), (9, 0), (10, 0), (11, 0), (12, 0)] else if r = 17 then some [(0, 0), (1, 0), (2, 0), (3, 0), (4, 0), (5, 0), (6, 0), (7, 0), (8, 0), (9, 0), (10, 0), (11, 0), (12, 0), (13, 0), (14, 0), (15, 0), (16, 0), (17, 0), (18, 0), (19, 0), (20, 0), (21, 0), (22, 0), (23, 0), (24, 0), (25, 0), (26, 0), (27, 0), (28, 0), (29, 0), (30, 0), (31, 0), (32, 0), (33, 0), (34, 0), (35, 0), (36, 0), (37, 0), (38, 0), (39, 0), (40, 0), (41, 0), (42, 0), (43, 0), (44, 0), (45, 0), (46, 0), (47, 0)] else if r = 24 then some [(0, 0), (1, 0), (2, 0), (3, 0), (4, 0), (5, 0), (6, 0), (7, 0), (8, 0), (9, 0), (10, 0), (11, 1), (12, 0), (13, 0), (14, 0), (15, 0), (16, 0)] else none, fz := fun r => if r = 3 then some [4] else none }
@[simp] theorem wio5 : cf5.wio = fun f i => (f == 30 && (i == 0)) || (f == 12 && (i == 0)) || (f == 13 && (i == 0)) || (f == 20 && (i == 0)) || (f == 999999 && (i == 0)) := rfl
@[simp] theorem live5 : cf5.live = fun r => if r = 9 then some [4, 5, 7, 8, 78, 79, 80] else if r = 20 then some [4, 5, 7, 8, 9, 78, 79, 80, 189, 190, 191] else if r = 27 then some [4, 5, 7, 8, 9, 20, 22, 78, 79, 80, 189, 190, 191, 221, 222, 223] else none := rfl
@[simp] theorem wr5 : cf5.wr = fun _ => [] := rfl
def cf6 : Cfg := { wio := fun f i => (f == 30 && (i == 0)) || (f == 12 && (i == 0)) || (f == 13 && (i == 0)) || (f == 20 && (i == 0)) || (f == 999999 && (i == 0)), live := fun r => if r = 10 then some [8, 10, 11, 12, 64, 65, 66] else none, dr := fun r => if r = 8 then some [(0, 0), (1, 0), (2, 0), (3, 0), (4, 0), (5, 0), (6, 0), (7, 1), (8, 0), (9, 0), (10, 0), (11, 0), (12, 0)] else if r = 13 then some [(0, 0), (1, 0), (2, 0), (3, 0), (4, 0), (5, 0), (6, 0), (7, 0), (8, 0), (9, 0), (10, 0), (11, 0), (12, 0), (13, 0), (14, 0), (15, 0), (16, 1), (17, 0), (18, 0)] else none, fz := fun r => if r = 4 then some [6] else none }
@[simp] theorem wio6 : cf6.wio = fun f i => (f == 30 && (i == 0)) || (f == 12 && (i == 0)) || (f == 13 && (i == 0)) || (f == 20 && (i == 0)) || (f == 999999 && (i == 0)) := rfl
@[simp] theorem live6 : cf6.live = fun r => if r = 10 then some [8, 10, 11, 12, 64, 65, 66] else none := rfl
@[simp] theorem wr6 : cf6.wr = fun _ => [] := rfl
def cf8 : Cfg := { wio := fun f i => (f == 30 && (i == 0)) || (f == 12 && (i == 0)) || (f == 13 && (i == 0)) || (f == 20 && (i == 0)) || (f == 999999 && (i == 0)), live := fun r => none, dr := fun r => none }
@[simp] theorem wio8 : cf8.wio = fun f i => (f == 30 && (i == 0)) || (f == 12 && (i == 0)) || (f == 13 && (i == 0)) || (f == 20 && (i == 0)) || (f == 999999 && (i == 0)) := rfl
@[simp] theorem live8 : cf8.live = fun r => none := rfl
@[simp] theorem wr8 : cf8.wr = fun _ => [] := rfl
def cf9 : Cfg := { wio := fun f i => (f == 30 && (i == 0)) || (f == 12 && (i == 0)) || (f == 13 && (i == 0)) || (f == 20 && (i == 0)) || (f == 999999 && (i == 0)), live := fun r => none, dr := fun r => none }
@[simp] theorem wio9 : cf9.wio = fun f i => (f == 30 && (i == 0)) || (f == 12 && (i == 0)) || (f == 13 && (i == 0)) || (f == 20 && (i == 0)) || (f == 999999 && (i == 0)) := rfl
@[simp] theorem live9 : cf9.live = fun r => none := rfl
@[simp] theorem wr9 : cf9.wr = fun _ => [] := rfl
def cf10 : Cfg := { wio := fun f i => (f == 30 && (i == 0)) || (f == 12 && (i == 0)) || (f == 13 && (i == 0)) || (f == 20 && (i == 0)) || (f == 999999 && (i == 0)), live := fun r => none, dr := fun r => none }
@[simp] theorem wio10 : cf10.wio = fun f i => (f == 30 && (i == 0)) || (f == 12 && (i == 0)) || (f == 13 && (i == 0)) || (f == 20 && (i == 0)) || (f == 999999 && (i == 0)) := rfl
@[simp] theorem live10 : cf10.live = fun r => none := rfl
@[simp] theorem wr10 : cf10.wr = fun _ => [] := rfl
def cf11 : Cfg := { wio := fun f i => (f == 999999 && (i == 0)), live := fun r => none, dr := fun r => none }
@[simp] theorem wio11 : cf11.wio = fun f i => (f == 999999 && (i == 0)) := rfl
@[simp] theorem live11 : cf11.live = fun r => none := rfl
@[simp] theorem wr11 : cf11.wr = fun _ => [] := rfl
def cf12 : Cfg := { wio := fun f i => (f == 30 && (i == 0)) || (f == 34 && (i == 0)) || (f == 31 && (i == 0)) || (f == 32 && (i == 0)) || (f == 33 && (i == 0)) || (f == 999999 && (i == 0)), live := fun r => none, dr := fun r => none }
@[simp] theorem wio12 : cf12.wio = fun f i => (f == 30 && (i == 0)) || (f == 34 && (i == 0)) || (f == 31 && (i == 0)) || (f == 32 && (i == 0)) || (f == 33 && (i == 0)) || (f == 999999 && (i == 0)) := rfl
@[simp] theorem live12 : cf12.live = fun r => none := rfl
@[simp] theorem wr12 : cf12.wr = fun _ => [] := rfl
def cf13 : Cfg := { wio := fun f i => (f == 30 && (i == 0)) || (f == 999999 && (i == 0)), live := fun r => none, dr := fun r => none }
@[simp] theorem wio13 : cf13.wio = fun f i => (f == 30 && (i == 0)) || (f == 999999 && (i == 0)) := rfl
@[simp] theorem live13 : cf13.live = fun r => none := rfl
@[simp] theorem wr13 : cf13.wr = fun _ => [] := rfl
def zeQ : SchT := .nil
def zbe : SchT := .op 13 2 zeQ
def z6Y : SchT := .op 11 0 zbe
def zeR : SchT := .op 12 1 zbe
def z6Z : SchT := .op 4 1 z6Y
def z7a : SchT := .op 6 1 z6Y
def z7b : SchT := .op 8 1 z6Y
def z7c : SchT := .op 10 1 z6Y
def z7d : SchT := .op 11 0 zeR
def z8B : SchT := .alt (.op 4 1 z7a) (.op 6 1 z6Z)
def z8C : SchT := .alt (.op 4 1 z7b) (.op 8 1 z6Z)
def z8D : SchT := .alt (.op 4 1 z7c) (.op 10 1 z6Z)
def z8E : SchT := .alt (.op 4 1 z7d) (.op 12 1 z6Z)
def z8F : SchT := .alt (.op 6 1 z7b) (.op 8 1 z7a)
def z8G : SchT := .alt (.op 6 1 z7c) (.op 10 1 z7a)
def z8H : SchT := .alt (.op 6 1 z7d) (.op 12 1 z7a)
def z8I : SchT := .alt (.op 8 1 z7c) (.op 10 1 z7b)
def z8J : SchT := .alt (.op 8 1 z7d) (.op 12 1 z7b)
def z8K : SchT := .alt (.op 10 1 z7d) (.op 12 1 z7c)
def zbf : SchT := .alt (.op 4 1 z8F) (.alt (.op 6 1 z8C) (.op 8 1 z8B))
def zbg : SchT := .alt (.op 4 1 z8G) (.alt (.op 6 1 z8D) (.op 10 1 z8B))
def zbh : SchT := .alt (.op 4 1 z8H) (.alt (.op 6 1 z8E) (.op 12 1 z8B))
def zbi : SchT := .alt (.op 4 1 z8I) (.alt (.op 8 1 z8D) (.op 10 1 z8C))
def zbj : SchT := .alt (.op 4 1 z8J) (.alt (.op 8 1 z8E) (.op 12 1 z8C))
def zbk : SchT := .alt (.op 4 1 z8K) (.alt (.op 10 1 z8E) (.op 12 1 z8D))
def zbl : SchT := .alt (.op 6 1 z8I) (.alt (.op 8 1 z8G) (.op 10 1 z8F))
def zbm : SchT := .alt (.op 6 1 z8J) (.alt (.op 8 1 z8H) (.op 12 1 z8F))
def zbn : SchT := .alt (.op 6 1 z8K) (.alt (.op 10 1 z8H) (.op 12 1 z8G))
def zbo : SchT := .alt (.op 8 1 z8K) (.alt (.op 10 1 z8J) (.op 12 1 z8I))
def zeS : SchT := .alt (.op 4 1 zbl) (.alt (.op 6 1 zbi) (.alt (.op 8 1 zbg) (.op 10 1 zbf)))
def zeT : SchT := .alt (.op 4 1 zbm) (.alt (.op 6 1 zbj) (.alt (.op 8 1 zbh) (.op 12 1 zbf)))
def zeU : SchT := .alt (.op 4 1 zbn) (.alt (.op 6 1 zbk) (.alt (.op 10 1 zbh) (.op 12 1 zbg)))
def zgP : SchT := .alt (.op 4 1 zbo) (.alt (.op 8 1 zbk) (.alt (.op 10 1 zbj) (.op 12 1 zbi)))
def zgQ : SchT := .alt (.op 6 1 zbo) (.alt (.op 8 1 zbn) (.alt (.op 10 1 zbm) (.op 12 1 zbl)))
def zgR : SchT := .alt (.op 4 1 zgQ) (.alt (.op 6 1 zgP) (.alt (.op 8 1 zeU) (.alt (.op 10 1 zeT) (.op 12 1 zeS))))
def zgS : SchT := .op 9 0 zgR
def zgT : SchT := .op 7 0 zgS
def zgU : SchT := .op 5 0 zgT
def zgV : SchT := .op 3 0 zgU
def zgW : SchT := .op 2 0 zgV
def zgX : SchT := .op 1 0 zgW
def zgY : SchT := .op 0 0 zgX
def cf14 : Cfg := { wio := fun f i => (f == 999999 && (i == 0)), live := fun r => if r = 12 then some [2, 5, 7, 8, 9, 10, 53, 54] else if r = 19 then some [2, 5, 7, 8, 10, 85, 86, 87] else if r = 23 then some [2, 5, 7, 8, 10, 14, 17, 85, 86, 87, 99, 100] else none, dr := fun r => if r = 14 then some [(0, 0), (1, 0), (2, 0), (3, 0), (4, 0), (5, 1), (6, 0), (7, 2)] else if r = 16 then some [(0, 0), (1, 0), (2, 0), (3, 0), (4, 0), (5, 0), (6, 0), (7, 0), (8, 0), (9, 0), (10, 0), (11, 0), (12, 0), (13, 0), (14, 2)] else if r = 26 then some [(0, 0), (1, 0), (2, 0), (3, 0), (4, 0), (5, 0), (6, 0), (7, 0), (8, 2)] else none, fz := fun r => if r = 8 then some [5] else if r = 10 then some [8] else if r = 999998 then some [] else none, dt := fun r => if r = 10 then some (zgY) else none }
@[simp] theorem wio14 : cf14.wio = fun f i => (f == 999999 && (i == 0)) := rfl
@[simp] theorem live14 : cf14.live = fun r => if r = 12 then some [2, 5, 7, 8, 9, 10, 53, 54] else if r = 19 then some [2, 5, 7, 8, 10, 85, 86, 87] else if r = 23 then some [2, 5, 7, 8, 10, 14, 17, 85, 86, 87, 99, 100] else none := rfl
@[simp] theorem wr14 : cf14.wr = fun _ => [] := rfl
def zeC : SchT := .nil
def zeD : SchT := .op 15 2 zeC
def zaV : SchT := .op 14 0 zeD
def zeE : SchT := .op 7 1 zaV
def zaW : SchT := .op 13 2 zaV
def zeF : SchT := .alt (.op 7 1 zaW) (.op 13 2 zeE)
def zaX : SchT := .op 12 0 zaW
def zaY : SchT := .op 5 1 zaX
def zaZ : SchT := .op 12 0 zeF
def z8v : SchT := .op 11 2 zaX
def zeG : SchT := .alt (.op 5 1 zaZ) (.op 7 1 zaY)
def zb0 : SchT := .alt (.op 5 1 z8v) (.op 11 2 zaY)
def zb1 : SchT := .alt (.op 7 1 z8v) (.op 11 2 zaZ)
def zb2 : SchT := .op 10 0 z8v
def z8w : SchT := .op 3 1 zb2
def zeH : SchT := .alt (.op 5 1 zb1) (.alt (.op 7 1 zb0) (.op 11 2 zeG))
def zb3 : SchT := .op 10 0 zb0
def zb4 : SchT := .op 10 0 zb1
def z6X : SchT := .op 9 2 zb2
def zb5 : SchT := .alt (.op 3 1 zb3) (.op 5 1 z8w)
def zb6 : SchT := .alt (.op 3 1 zb4) (.op 7 1 z8w)
def z8x : SchT := .alt (.op 3 1 z6X) (.op 9 2 z8w)
def zb7 : SchT := .op 10 0 zeH
def z8y : SchT := .alt (.op 5 1 z6X) (.op 9 2 zb3)
def z8z : SchT := .alt (.op 7 1 z6X) (.op 9 2 zb4)
def zeI : SchT := .op 8 0 z6X
def z8A : SchT := .op 1 1 zeI
def zeJ : SchT := .alt (.op 3 1 zb7) (.alt (.op 5 1 zb6) (.op 7 1 zb5))
def zb8 : SchT := .alt (.op 3 1 z8y) (.alt (.op 5 1 z8x) (.op 9 2 zb5))
def zb9 : SchT := .alt (.op 3 1 z8z) (.alt (.op 7 1 z8x) (.op 9 2 zb6))
def zeK : SchT := .op 8 0 z8x
def zba : SchT := .alt (.op 5 1 z8z) (.alt (.op 7 1 z8y) (.op 9 2 zb7))
def zeL : SchT := .op 8 0 z8y
def zeM : SchT := .op 8 0 z8z
def zbb : SchT := .alt (.op 1 1 zeK) (.op 3 1 z8A)
def zbc : SchT := .alt (.op 1 1 zeL) (.op 5 1 z8A)
def zbd : SchT := .alt (.op 1 1 zeM) (.op 7 1 z8A)
def zeN : SchT := .alt (.op 3 1 zba) (.alt (.op 5 1 zb9) (.alt (.op 7 1 zb8) (.op 9 2 zeJ)))
def zeO : SchT := .op 8 0 zb8
def zeP : SchT := .op 8 0 zb9
def zgF : SchT := .op 8 0 zba
def zgG : SchT := .alt (.op 1 1 zeO) (.alt (.op 3 1 zbc) (.op 5 1 zbb))
def zgH : SchT := .alt (.op 1 1 zeP) (.alt (.op 3 1 zbd) (.op 7 1 zbb))
def zgI : SchT := .alt (.op 1 1 zgF) (.alt (.op 5 1 zbd) (.op 7 1 zbc))
def zgJ : SchT := .op 8 0 zeN
def zgK : SchT := .alt (.op 1 1 zgJ) (.alt (.op 3 1 zgI) (.alt (.op 5 1 zgH) (.op 7 1 zgG)))
def zgL : SchT := .op 6 3 zgK
def zgM : SchT := .op 4 3 zgL
def zgN : SchT := .op 2 3 zgM
def zgO : SchT := .op 0 0 zgN
def zev : SchT := .nil
def zew : SchT := .op 12 2 zev
def zaP : SchT := .op 11 0 zew
def zex : SchT := .op 1 2 zaP
def z8t : SchT := .op 10 2 zaP
def zaQ : SchT := .alt (.op 1 2 z8t) (.op 10 2 zex)
def z8u : SchT := .op 7 2 z8t
def zaR : SchT := .op 9 1 z8t
def zaS : SchT := .alt (.op 1 2 z8u) (.op 7 2 zaQ)
def zey : SchT := .alt (.op 1 2 zaR) (.op 9 1 zaQ)
def zez : SchT := .op 6 0 z8u
def zaT : SchT := .alt (.op 7 2 zaR) (.op 9 1 z8u)
def zeA : SchT := .op 6 3 zaS
def zeB : SchT := .alt (.op 1 2 zaT) (.alt (.op 7 2 zey) (.op 9 1 zaS))
def zaU : SchT := .op 4 2 zez
def zgv : SchT := .op 6 0 zaT
def zgw : SchT := .alt (.op 1 2 zaU) (.op 4 2 zeA)
def zgx : SchT := .op 6 3 zeB
def zgy : SchT := .alt (.op 4 2 zgv) (.op 9 1 zaU)
def zgz : SchT := .alt (.op 1 2 zgy) (.alt (.op 4 2 zgx) (.op 9 1 zgw))
def zgA : SchT := .op 8 3 zgz
def zgB : SchT := .op 5 3 zgA
def zgC : SchT := .op 3 3 zgB
def zgD : SchT := .op 2 3 zgC
def zgE : SchT := .op 0 3 zgD
def cf15 : Cfg := { wio := fun f i => (f == 999999 && (i == 0)), live := fun r => if r = 10 then some [1, 2, 5, 6, 7, 57, 58, 59] else if r = 16 then some [1, 2, 5, 6, 10, 71, 72] else if r = 21 then some [1, 2, 5, 6, 10, 82, 83, 84] else if r = 25 then some [1, 2, 5, 6, 10, 12, 82, 83, 84, 95, 96, 97] else if r = 28 then some [1, 2, 5, 6, 10, 12, 17, 82, 83, 84, 95, 96, 97, 102, 103, 104] else if r = 37 then some [1, 2, 5, 6, 10, 20, 126, 127] else if r = 41 then some [1, 2, 5, 6, 10, 20, 21, 22, 126, 127] else if r = 49 then some [1, 2, 5, 10, 23] else if r = 52 then some [1, 2, 5, 10, 23, 181, 182] else if r = 55 then some [1, 2, 5, 10, 23, 24, 181, 182, 187, 188] else if r = 63 then some [1, 2, 5, 244, 245] else if r = 67 then some [1, 2, 5, 26, 244, 245, 256, 257, 258] else if r = 72 then some [1, 2, 5, 26, 27, 28, 29, 244, 245, 256, 257, 258, 278, 279, 280] else if r = 81 then some [1, 2, 5, 333, 334] else if r = 84 then some [1, 2, 5, 32, 33, 333, 334] else if r = 88 then some [1, 2, 5, 32, 33, 35, 333, 334, 360, 361, 362] else if r = 95 then some [1, 2, 5, 32, 33, 35, 333, 334, 393, 394, 395] else none, dr := fun r => if r = 57 then some [(0, 0), (1, 0), (2, 0), (3, 0), (4, 0), (5, 1), (6, 0), (7, 0), (8, 0), (9, 0), (10, 0), (11, 0), (12, 0), (13, 0), (14, 0), (15, 0), (16, 0), (17, 0), (18, 0), (19, 0), (20, 0), (21, 0), (22, 0), (23, 0), (24, 0), (25, 0), (26, 0), (27, 0), (28, 0), (29, 0), (30, 0), (31, 0), (32, 0), (33, 0), (34, 0), (35, 0), (36, 0), (37, 0), (38, 0)] else if r = 58 then some [(0, 0), (1, 0), (2, 0), (3, 0), (4, 0), (5, 0), (6, 0), (7, 0), (8, 0), (9, 0), (10, 2)] else if r = 84 then some [(0, 0), (1, 0), (2, 0), (3, 0), (4, 0), (5, 0), (6, 0), (7, 0), (8, 0), (9, 0), (10, 0)] else if r = 86 then some [(0, 0), (1, 0), (2, 0), (3, 0), (4, 0), (5, 0), (6, 1), (7, 0), (8, 0), (9, 0), (10, 0), (11, 0)] else if r = 91 then some [(0, 0), (1, 0), (2, 0), (3, 0), (4, 0), (5, 0), (6, 0), (7, 0), (8, 2)] else if r = 93 then some [(0, 0), (1, 0), (2, 0), (3, 0), (4, 0), (5, 0), (6, 1), (7, 0), (8, 0), (9, 0), (10, 0), (11, 0)] else if r = 98 then some [(0, 0), (1, 0), (2, 0), (3, 0), (4, 0), (5, 0), (6, 0), (7, 0), (8, 2)] else none, dt := fun r => if r = 47 then some (zgO) else if r = 77 then some (zgE) else none }
@[simp] theorem wio15 : cf15.wio = fun f i => (f == 999999 && (i == 0)) := rfl
@[simp] theorem live15 : cf15.live = fun r => if r = 10 then some [1, 2, 5, 6, 7, 57, 58, 59] else if r = 16 then some [1, 2, 5, 6, 10, 71, 72] else if r = 21 then some [1, 2, 5, 6, 10, 82, 83, 84] else if r = 25 then some [1, 2, 5, 6, 10, 12, 82, 83, 84, 95, 96, 97] else if r = 28 then some [1, 2, 5, 6, 10, 12, 17, 82, 83, 84, 95, 96, 97, 102, 103, 104] else if r = 37 then some [1, 2, 5, 6, 10, 20, 126, 127] else if r = 41 then some [1, 2, 5, 6, 10, 20, 21, 22, 126, 127] else if r = 49 then some [1, 2, 5, 10, 23] else if r = 52 then some [1, 2, 5, 10, 23, 181, 182] else if r = 55 then some [1, 2, 5, 10, 23, 24, 181, 182, 187, 188] else if r = 63 then some [1, 2, 5, 244, 245] else if r = 67 then some [1, 2, 5, 26, 244, 245, 256, 257, 258] else if r = 72 then some [1, 2, 5, 26, 27, 28, 29, 244, 245, 256, 257, 258, 278, 279, 280] else if r = 81 then some [1, 2, 5, 333, 334] else if r = 84 then some [1, 2, 5, 32, 33, 333, 334] else if r = 88 then some [1, 2, 5, 32, 33, 35, 333, 334, 360, 361, 362] else if r = 95 then some [1, 2, 5, 32, 33, 35, 333, 334, 393, 394, 395] else none := rfl
@[simp] theorem wr15 : cf15.wr = fun _ => [] := rfl
def cf16 : Cfg := { wio := fun f i => (f == 999999 && (i == 0)), live := fun r => none, dr := fun r => none }
@[simp] theorem wio16 : cf16.wio = fun f i => (f == 999999 && (i == 0)) := rfl
@[simp] theorem live16 : cf16.live = fun r => none := rfl
@[simp] theorem wr16 : cf16.wr = fun _ => [] := rfl
def cf17 : Cfg := { wio := fun f i => (f == 999999 && (i == 0)), live := fun r => none, dr := fun r => none }
@[simp] theorem wio17 : cf17.wio = fun f i => (f == 999999 && (i == 0)) := rfl
@[simp] theorem live17 : cf17.live = fun r => none := rfl
@[simp] theorem wr17 : cf17.wr = fun _ => [] := rfl
def cf18 : Cfg := { wio := fun f i => (f == 999999 && (i == 0)), live := fun r => if r = 2 then some [0, 3] else none, dr := fun r => none }
@[simp] theorem wio18 : cf18.wio = fun f i => (f == 999999 && (i == 0)) := rfl
@[simp] theorem live18 : cf18.live = fun r => if r = 2 then some [0, 3] else none := rfl
@[simp] theorem wr18 : cf18.wr = fun _ => [] := rfl
def cf19 : Cfg := { wio := fun f i => (f == 999999 && (i == 0)), live := fun r => if r = 7 then some [1, 2, 3, 27, 28] else none, dr := fun r => if r = 9 then some [(0, 0), (1, 0), (2, 0), (3, 0), (4, 0), (5, 0), (6, 0), (7, 1), (8, 0)] else none }
@[simp] theorem wio19 : cf19.wio = fun f i => (f == 999999 && (i == 0)) := rfl
@[simp] theorem live19 : cf19.live = fun r => if r = 7 then some [1, 2, 3, 27, 28] else none := rfl
@[simp] theorem wr19 : cf19.wr = fun _ => [] := rfl
def cf20 : Cfg := { wio := fun f i => (f == 30 && (i == 0)) || (f == 999999 && (i == 0)), live := fun r => if r = 3 then some [0, 1, 7, 8] else none, dr := fun r => none }
@[simp] theorem wio20 : cf20.wio = fun f i => (f == 30 && (i == 0)) || (f == 999999 && (i == 0)) := rfl
@[simp] theorem live20 : cf20.live = fun r => if r = 3 then some [0, 1, 7, 8] else none := rfl
@[simp] theorem wr20 : cf20.wr = fun _ => [] := rfl
def cf21 : Cfg := { wio := fun f i => (f == 999999 && (i == 0)), live := fun r => none, dr := fun r => none }
@[simp] theorem wio21 : cf21.wio = fun f i => (f == 999999 && (i == 0)) := rfl
@[simp] theorem live21 : cf21.live = fun r => none := rfl
@[simp] theorem wr21 : cf21.wr = fun _ => [] := rfl
def cf22 : Cfg := { wio := fun f i => (f == 999999 && (i == 0)), live := fun r => none, dr := fun r => none }
@[simp] theorem wio22 : cf22.wio = fun f i => (f == 999999 && (i == 0)) := rfl
@[simp] theorem live22 : cf22.live = fun r => none := rfl
@[simp] theorem wr22 : cf22.wr = fun _ => [] := rfl
def cf23 : Cfg := { wio := fun f i => (f == 999999 && (i == 0)), live := fun r => if r = 3 then some [3, 6, 7, 8] else none, dr := fun r => none }
@[simp] theorem wio23 : cf23.wio = fun f i => (f == 999999 && (i == 0)) := rfl
@[simp] theorem live23 : cf23.live = fun r => if r = 3 then some [3, 6, 7, 8] else none := rfl
@[simp] theorem wr23 : cf23.wr = fun _ => [] := rfl
def cf24 : Cfg := { wio := fun f i => (f == 999999 && (i == 0)), live := fun r => none, dr := fun r => none }
@[simp] theorem wio24 : cf24.wio = fun f i => (f == 999999 && (i == 0)) := rfl
@[simp] theorem live24 : cf24.live = fun r => none := rfl
@[simp] theorem wr24 : cf24.wr = fun _ => [] := rfl
def cf25 : Cfg := { wio := fun f i => (f == 999999 && (i == 0)), live := fun r => if r = 8 then some [1, 11, 35, 36, 37] else none, dr := fun r => none }
@[simp] theorem wio25 : cf25.wio = fun f i => (f == 999999 && (i == 0)) := rfl
@[simp] theorem live25 : cf25.live = fun r => if r = 8 then some [1, 11, 35, 36, 37] else none := rfl
@[simp] theorem wr25 : cf25.wr = fun _ => [] := rfl
def cf26 : Cfg := { wio := fun f i => (f == 999999 && (i == 0)), live := fun r => if r = 8 then some [1, 11, 35, 36, 37] else none, dr := fun r => none }
@[simp] theorem wio26 : cf26.wio = fun f i => (f == 999999 && (i == 0)) := rfl
@[simp] theorem live26 : cf26.live = fun r => if r = 8 then some [1, 11, 35, 36, 37] else none := rfl
@[simp] theorem wr26 : cf26.wr = fun _ => [] := rfl
def cf27 : Cfg := { wio := fun f i => (f == 999999 && (i == 0)), live := fun r => if r = 4 then some [0, 1, 5] else none, dr := fun r => none }
@[simp] theorem wio27 : cf27.wio = fun f i => (f == 999999 && (i == 0)) := rfl
@[simp] theorem live27 : cf27.live = fun r => if r = 4 then some [0, 1, 5] else none := rfl
@[simp] theorem wr27 : cf27.wr = fun _ => [] := rfl
def cf28 : Cfg := { wio := fun f i => (f == 999999 && (i == 0)), live := fun r => if r = 4 then some [16, 17, 18] else none, dr := fun r => none }
@[simp] theorem wio28 : cf28.wio = fun f i => (f == 999999 && (i == 0)) := rfl
@[simp] theorem live28 : cf28.live = fun r => if r = 4 then some [16, 17, 18] else none := rfl
@[simp] theorem wr28 : cf28.wr = fun _ => [] := rfl
def cf29 : Cfg := { wio := fun f i => (f == 999999 && (i == 0)), live := fun r => none, dr := fun r => none }
@[simp] theorem wio29 : cf29.wio = fun f i => (f == 999999 && (i == 0)) := rfl
@[simp] theorem live29 : cf29.live = fun r => none := rfl
@[simp] theorem wr29 : cf29.wr = fun _ => [] := rfl
def cf30 : Cfg := { wio := fun f i => (f == 999999 && (i == 0)), live := fun r => none, dr := fun r => if r = 1 then some [(0, 0), (1, 0), (2, 0), (3, 0), (4, 0), (5, 0), (6, 0), (7, 0), (8, 0), (9, 0)] else if r = 4 then some [(0, 0), (1, 0), (2, 0), (3, 0), (4, 0), (5, 0), (6, 0), (7, 0), (8, 0), (9, 0), (10, 0), (11, 0), (12, 1), (13, 0)] else none }
@[simp] theorem wio30 : cf30.wio = fun f i => (f == 999999 && (i == 0)) := rfl
@[simp] theorem live30 : cf30.live = fun r => none := rfl
@[simp] theorem wr30 : cf30.wr = fun _ => [] := rfl
def cf31 : Cfg := { wio := fun f i => (f == 34 && (i == 0)) || (f == 999999 && (i == 0)), live := fun r => if r = 3 then some [6, 7, 17, 18] else if r = 6 then some [6, 7, 8, 17, 18, 25, 26, 27] else none, dr := fun r => none }
@[simp] theorem wio31 : cf31.wio = fun f i => (f == 34 && (i == 0)) || (f == 999999 && (i == 0)) := rfl
@[simp] theorem live31 : cf31.live = fun r => if r = 3 then some [6, 7, 17, 18] else if r = 6 then some [6, 7, 8, 17, 18, 25, 26, 27] else none := rfl
@[simp] theorem wr31 : cf31.wr = fun _ => [] := rfl
def zgc : SchT := .nil
def zgd : SchT := .op 16 2 zgc
def zge : SchT := .op 15 0 zgd
def zgf : SchT := .op 14 2 zge
def zce : SchT := .op 12 2 zgf
def zcf : SchT := .op 11 1 zce
def zcg : SchT := .op 13 3 zce
def z7R : SchT := .op 6 2 zcg
def zch : SchT := .op 8 2 zcg
def zgg : SchT := .op 10 1 zcf
def zci : SchT := .op 13 3 zcf
def z9W : SchT := .op 1 2 z7R
def z7S : SchT := .op 5 1 z7R
def z9X : SchT := .alt (.op 6 2 zch) (.op 8 2 z7R)
def z7T : SchT := .alt (.op 6 2 zci) (.op 11 1 z7R)
def zcj : SchT := .alt (.op 8 2 zci) (.op 11 1 zch)
def zck : SchT := .op 13 3 zgg
def z9Y : SchT := .alt (.op 1 2 z7S) (.op 5 1 z9W)
def zcl : SchT := .alt (.op 1 2 z9X) (.op 8 2 z9W)
def z9Z : SchT := .alt (.op 1 2 z7T) (.op 11 1 z9W)
def zgh : SchT := .op 4 0 z7S
def za0 : SchT := .alt (.op 5 1 z9X) (.op 8 2 z7S)
def z7U : SchT := .alt (.op 5 1 z7T) (.op 11 1 z7S)
def za1 : SchT := .alt (.op 6 2 zcj) (.alt (.op 8 2 z7T) (.op 11 1 z9X))
def za2 : SchT := .alt (.op 6 2 zck) (.op 10 1 z7T)
def zgi : SchT := .alt (.op 8 2 zck) (.op 10 1 zcj)
def zgj : SchT := .op 4 3 z9Y
def zcm : SchT := .alt (.op 1 2 za0) (.alt (.op 5 1 zcl) (.op 8 2 z9Y))
def za3 : SchT := .alt (.op 1 2 z7U) (.alt (.op 5 1 z9Z) (.op 11 1 z9Y))
def zcn : SchT := .alt (.op 1 2 za1) (.alt (.op 8 2 z9Z) (.op 11 1 zcl))
def zco : SchT := .alt (.op 1 2 za2) (.op 10 1 z9Z)
def za4 : SchT := .op 3 1 zgh
def zgk : SchT := .op 4 3 za0
def zgl : SchT := .op 4 0 z7U
def za5 : SchT := .alt (.op 5 1 za1) (.alt (.op 8 2 z7U) (.op 11 1 za0))
def za6 : SchT := .alt (.op 5 1 za2) (.op 10 1 z7U)
def zcp : SchT := .alt (.op 6 2 zgi) (.alt (.op 8 2 za2) (.op 10 1 za1))
def zcq : SchT := .alt (.op 1 2 za4) (.op 3 1 zgj)
def zgm : SchT := .op 4 3 zcm
def zgn : SchT := .op 4 3 za3
def zcr : SchT := .alt (.op 1 2 za5) (.alt (.op 5 1 zcn) (.alt (.op 8 2 za3) (.op 11 1 zcm)))
def zcs : SchT := .alt (.op 1 2 za6) (.alt (.op 5 1 zco) (.op 10 1 za3))
def zgo : SchT := .alt (.op 1 2 zcp) (.alt (.op 8 2 zco) (.op 10 1 zcn))
def zct : SchT := .alt (.op 3 1 zgk) (.op 8 2 za4)
def za7 : SchT := .alt (.op 3 1 zgl) (.op 11 1 za4)
def zgp : SchT := .op 4 3 za5
def zgq : SchT := .op 4 0 za6
def zcu : SchT := .alt (.op 5 1 zcp) (.alt (.op 8 2 za6) (.op 10 1 za5))
def zgr : SchT := .alt (.op 1 2 zct) (.alt (.op 3 1 zgm) (.op 8 2 zcq))
def zcv : SchT := .alt (.op 1 2 za7) (.alt (.op 3 1 zgn) (.op 11 1 zcq))
def zgs : SchT := .op 4 3 zcr
def zgt : SchT := .op 4 3 zcs
def zgu : SchT := .alt (.op 1 2 zcu) (.alt (.op 5 1 zgo) (.alt (.op 8 2 zcs) (.op 10 1 zcr)))
def zcw : SchT := .alt (.op 3 1 zgp) (.alt (.op 8 2 za7) (.op 11 1 zct))
def zcx : SchT := .alt (.op 3 1 zgq) (.op 10 1 za7)
def zjh : SchT := .op 4 3 zcu
def zji : SchT := .alt (.op 1 2 zcw) (.alt (.op 3 1 zgs) (.alt (.op 8 2 zcv) (.op 11 1 zgr)))
def zjj : SchT := .alt (.op 1 2 zcx) (.alt (.op 3 1 zgt) (.op 10 1 zcv))
def zjk : SchT := .op 4 3 zgu
def zjl : SchT := .alt (.op 3 1 zjh) (.alt (.op 8 2 zcx) (.op 10 1 zcw))
def zjm : SchT := .alt (.op 1 2 zjl) (.alt (.op 3 1 zjk) (.alt (.op 8 2 zjj) (.op 10 1 zji)))
def zjn : SchT := .op 9 3 zjm
def zjo : SchT := .op 7 3 zjn
def zjp : SchT := .op 2 3 zjo
def zjq : SchT := .op 0 3 zjp
def cf32 : Cfg := { wio := fun f i => (f == 30 && (i == 0)) || (f == 999999 && (i == 0)), live := fun r => if r = 5 then some [0, 1, 6, 7, 8, 9] else if r = 9 then some [0, 1, 6, 7, 8, 10] else if r = 13 then some [0, 1, 6, 7, 8, 10, 11, 12] else if r = 17 then some [0, 1, 6, 7, 8, 10, 11, 13] else none, dr := fun r => if r = 20 then some [(0, 0), (1, 0), (2, 0), (3, 0), (4, 0), (5, 0), (6, 0), (7, 0), (8, 0), (9, 0), (10, 0), (11, 2)] else if r = 21 then some [(1, 0), (2, 0), (3, 0), (5, 3), (6, 3), (7, 3), (8, 3), (0, 1), (4, 2), (9, 2), (10, 0)] else none, wr := fun r => if r = 7 then [0] else [], dt := fun r => if r = 7 then some (zjq) else none }
@[simp] theorem wio32 : cf32.wio = fun f i => (f == 30 && (i == 0)) || (f == 999999 && (i == 0)) := rfl
@[simp] theorem live32 : cf32.live = fun r => if r = 5 then some [0, 1, 6, 7, 8, 9] else if r = 9 then some [0, 1, 6, 7, 8, 10] else if r = 13 then some [0, 1, 6, 7, 8, 10, 11, 12] else if r = 17 then some [0, 1, 6, 7, 8, 10, 11, 13] else none := rfl
@[simp] theorem wr32 : cf32.wr = fun r => if r = 7 then [0] else [] := rfl
def cf33 : Cfg := { wio := fun f i => (f == 30 && (i == 0)) || (f == 999999 && (i == 0)), live := fun r => if r = 4 then some [0, 1, 4, 5, 6, 22, 23, 24] else if r = 9 then some [0, 1, 4, 5, 6, 8, 9, 10, 22, 23, 24] else if r = 13 then some [0, 1, 4, 5, 6, 8, 9, 10, 11, 12, 22, 23, 24] else if r = 15 then some [0, 1, 4, 5, 6, 8, 9, 10, 11, 12, 22, 23, 24, 50, 51, 52] else none, dr := fun r => if r = 6 then some [(0, 0), (1, 0), (2, 0), (3, 1), (4, 0), (5, 1), (6, 2), (7, 0), (8, 2)] else none, wr := fun r => if r = 6 then [0] else [] }
@[simp] theorem wio33 : cf33.wio = fun f i => (f == 30 && (i == 0)) || (f == 999999 && (i == 0)) := rfl
@[simp] theorem live33 : cf33.live = fun r => if r = 4 then some [0, 1, 4, 5, 6, 22, 23, 24] else if r = 9 then some [0, 1, 4, 5, 6, 8, 9, 10, 22, 23, 24] else if r = 13 then some [0, 1, 4, 5, 6, 8, 9, 10, 11, 12, 22, 23, 24] else if r = 15 then some [0, 1, 4, 5, 6, 8, 9, 10, 11, 12, 22, 23, 24, 50, 51, 52] else none := rfl
@[simp] theorem wr33 : cf33.wr = fun r => if r = 6 then [0] else [] := rfl
def cf34 : Cfg := { wio := fun f i => (f == 30 && (i == 0)) || (f == 999999 && (i == 0)), live := fun r => if r = 5 then some [0, 1, 6, 7, 8, 9] else if r = 10 then some [0, 1, 6, 7, 8, 9, 10, 11] else none, dr := fun r => if r = 7 then some [(0, 0), (1, 0), (2, 0), (3, 1), (4, 0), (5, 1), (6, 2), (7, 0), (8, 2)] else none, wr := fun r => if r = 7 then [0] else [] }
@[simp] theorem wio34 : cf34.wio = fun f i => (f == 30 && (i == 0)) || (f == 999999 && (i == 0)) := rfl
@[simp] theorem live34 : cf34.live = fun r => if r = 5 then some [0, 1, 6, 7, 8, 9] else if r = 10 then some [0, 1, 6, 7, 8, 9, 10, 11] else none := rfl
@[simp] theorem wr34 : cf34.wr = fun r => if r = 7 then [0] else [] := rfl
def cf35 : Cfg := { wio := fun f i => (f == 999999 && (i == 0)), live := fun r => none, dr := fun r => none }
@[simp] theorem wio35 : cf35.wio = fun f i => (f == 999999 && (i == 0)) := rfl
@[simp] theorem live35 : cf35.live = fun r => none := rfl
@[simp] theorem wr35 : cf35.wr = fun _ => [] := rfl
def cf36 : Cfg := { wio := fun f i => (f == 64 && (i == 0)) || (f == 999999 && (i == 0)), live := fun r => if r = 3 then some [3, 18, 19] else none, dr := fun r => if r = 1 then some [(0, 0), (1, 0), (2, 0), (3, 0), (4, 0), (5, 0), (6, 1), (7, 0), (8, 0), (9, 0), (10, 0), (11, 0)] else none }
@[simp] theorem wio36 : cf36.wio = fun f i => (f == 64 && (i == 0)) || (f == 999999 && (i == 0)) := rfl
@[simp] theorem live36 : cf36.live = fun r => if r = 3 then some [3, 18, 19] else none := rfl
@[simp] theorem wr36 : cf36.wr = fun _ => [] := rfl
def cf37 : Cfg := { wio := fun f i => (f == 999999 && (i == 0)), live := fun r => if r = 3 then some [1, 2, 4, 5, 24, 25, 26] else if r = 9 then some [1, 2, 4, 5, 8, 44, 45, 46] else if r = 13 then some [1, 2, 4, 5, 8, 9, 10, 44, 45, 46, 59, 60] else if r = 20 then some [1, 4, 8, 87, 88] else if r = 24 then some [1, 4, 8, 12, 13, 87, 88, 97, 98, 99] else if r = 27 then some [1, 4, 8, 12, 13, 15, 16, 87, 88, 97, 98, 99, 104, 105, 106] else none, dr := fun r => if r = 11 then some [(0, 0), (1, 0), (2, 0), (3, 0), (4, 0), (5, 1), (6, 0), (7, 2)] else if r = 15 then some [(0, 0), (1, 0), (2, 0), (3, 0), (4, 0), (5, 0), (6, 0), (7, 0), (8, 0), (9, 0), (10, 1), (11, 0), (12, 0), (13, 0), (14, 2)] else if r = 17 then some [(0, 0), (1, 0), (2, 0), (3, 0), (4, 0), (5, 1), (6, 0), (7, 2)] else none, dt := fun r => if r = 7 then some (.op 0 0 (.op 1 0 (.op 2 0 (.op 4 0 (.op 5 0 (.alt (.op 3 1 (.alt (.op 6 1 (.op 7 0 (.op 8 1 (.op 9 2 .nil)))) (.op 8 1 (.op 6 1 (.op 7 0 (.op 9 2 .nil)))))) (.alt (.op 6 1 (.alt (.op 3 1 (.op 7 0 (.op 8 1 (.op 9 2 .nil)))) (.op 8 1 (.op 3 1 (.op 7 0 (.op 9 2 .nil)))))) (.op 8 1 (.alt (.op 3 1 (.op 6 1 (.op 7 0 (.op 9 2 .nil)))) (.op 6 1 (.op 3 1 (.op 7 0 (.op 9 2 .nil))))))))))))) else none }
@[simp] theorem wio37 : cf37.wio = fun f i => (f == 999999 && (i == 0)) := rfl
@[simp] theorem live37 : cf37.live = fun r => if r = 3 then some [1, 2, 4, 5, 24, 25, 26] else if r = 9 then some [1, 2, 4, 5, 8, 44, 45, 46] else if r = 13 then some [1, 2, 4, 5, 8, 9, 10, 44, 45, 46, 59, 60] else if r = 20 then some [1, 4, 8, 87, 88] else if r = 24 then some [1, 4, 8, 12, 13, 87, 88, 97, 98, 99] else if r = 27 then some [1, 4, 8, 12, 13, 15, 16, 87, 88, 97, 98, 99, 104, 105, 106] else none := rfl
@[simp] theorem wr37 : cf37.wr = fun _ => [] := rfl
def cf38 : Cfg := { wio := fun f i => (f == 999999 && (i == 0)), live := fun r => if r = 4 then some [1, 4, 5, 15, 16] else if r = 8 then some [1, 4, 5, 6, 15, 16, 24, 25, 26] else none, dr := fun r => none }
@[simp] theorem wio38 : cf38.wio = fun f i => (f == 999999 && (i == 0)) := rfl
@[simp] theorem live38 : cf38.live = fun r => if r = 4 then some [1, 4, 5, 15, 16] else if r = 8 then some [1, 4, 5, 6, 15, 16, 24, 25, 26] else none := rfl
@[simp] theorem wr38 : cf38.wr = fun _ => [] := rfl
def cf39 : Cfg := { wio := fun f i => (f == 69 && (i == 0)) || (f == 999999 && (i == 0)), live := fun r => if r = 4 then some [1, 2, 5, 6, 23, 24] else if r = 8 then some [1, 2, 5, 6, 7, 23, 24, 33, 34] else if r = 17 then some [1, 2, 9, 60, 61, 62] else if r = 21 then some [1, 2, 9, 11, 60, 61, 62, 75, 76] else none, dr := fun r => if r = 23 then some [(0, 0), (1, 0), (2, 0), (3, 0), (4, 0), (5, 0), (6, 0), (7, 0), (8, 0), (9, 0), (10, 0), (11, 0), (12, 0), (13, 0), (14, 0), (15, 0), (16, 0), (17, 0), (18, 0)] else if r = 24 then some [(0, 0), (1, 0), (2, 0), (3, 0), (4, 0), (5, 0), (6, 0), (7, 0), (8, 0), (9, 0), (10, 0), (11, 0), (12, 0), (13, 2)] else none, fz := fun r => if r = 14 then some [5] else none }
@[simp] theorem wio39 : cf39.wio = fun f i => (f == 69 && (i == 0)) || (f == 999999 && (i == 0)) := rfl
@[simp] theorem live39 : cf39.live = fun r => if r = 4 then some [1, 2, 5, 6, 23, 24] else if r = 8 then some [1, 2, 5, 6, 7, 23, 24, 33, 34] else if r = 17 then some [1, 2, 9, 60, 61, 62] else if r = 21 then some [1, 2, 9, 11, 60, 61, 62, 75, 76] else none := rfl
@[simp] theorem wr39 : cf39.wr = fun _ => [] := rfl
def cf40 : Cfg := { wio := fun f i => (f == 999999 && (i == 0)), live := fun r => if r = 5 then some [1, 2, 5, 21, 22, 23] else if r = 12 then some [2, 5, 8, 45, 46, 47] else if r = 15 then some [2, 5, 8, 10, 45, 46, 47, 51, 52, 53] else none, dr := fun r => if r = 17 then some [(0, 0), (1, 0), (2, 0), (3, 0), (4, 0), (5, 0), (6, 0), (7, 0), (8, 0), (9, 0), (10, 0), (11, 0), (12, 0), (13, 0), (14, 1), (15, 0)] else none }
@[simp] theorem wio40 : cf40.wio = fun f i => (f == 999999 && (i == 0)) := rfl
@[simp] theorem live40 : cf40.live = fun r => if r = 5 then some [1, 2, 5, 21, 22, 23] else if r = 12 then some [2, 5, 8, 45, 46, 47] else if r = 15 then some [2, 5, 8, 10, 45, 46, 47, 51, 52, 53] else none := rfl
@[simp] theorem wr40 : cf40.wr = fun _ => [] := rfl
def cf41 : Cfg := { wio := fun f i => (f == 999999 && (i == 0)), live := fun r => if r = 6 then some [2, 6, 7, 8, 9] else if r = 9 then some [2, 6, 7, 8, 9, 38, 39, 40] else none, dr := fun r => if r = 8 then some [(0, 0), (1, 0), (2, 0), (3, 0), (4, 0), (5, 0), (6, 0), (7, 0), (8, 0), (9, 0)] else if r = 13 then some [(0, 0), (1, 0), (2, 0), (3, 0), (4, 0), (5, 0), (6, 0), (7, 0), (8, 0), (9, 0), (10, 0), (11, 0), (12, 1), (13, 0), (14, 0), (15, 0), (16, 2)] else none }
@[simp] theorem wio41 : cf41.wio = fun f i => (f == 999999 && (i == 0)) := rfl
@[simp] theorem live41 : cf41.live = fun r => if r = 6 then some [2, 6, 7, 8, 9] else if r = 9 then some [2, 6, 7, 8, 9, 38, 39, 40] else none := rfl
@[simp] theorem wr41 : cf41.wr = fun _ => [] := rfl
def cf42 : Cfg := { wio := fun f i => (f == 999999 && (i == 0)), live := fun r => if r = 3 then some [3, 22, 23] else if r = 8 then some [3, 6, 7, 22, 23, 29, 30, 31] else if r = 17 then some [10, 53, 54] else if r = 20 then some [10, 12, 53, 54] else none, dr := fun r => if r = 1 then some [(0, 0), (1, 0), (2, 1), (3, 1), (4, 0), (5, 0), (6, 0), (7, 0), (8, 0)] else if r = 20 then some [(0, 0), (1, 0), (2, 0), (3, 0), (4, 0), (5, 0), (6, 0), (7, 0), (8, 0), (9, 0), (10, 0), (11, 0), (12, 1), (13, 0)] else if r = 22 then some [(0, 0), (1, 0), (2, 3), (3, 3), (4, 3), (5, 0), (6, 0), (7, 0), (8, 0), (9, 0), (10, 0), (11, 0), (12, 0), (13, 0), (14, 0), (15, 2), (16, 0), (17, 2)] else none }
@[simp] theorem wio42 : cf42.wio = fun f i => (f == 999999 && (i == 0)) := rfl
@[simp] theorem live42 : cf42.live = fun r => if r = 3 then some [3, 22, 23] else if r = 8 then some [3, 6, 7, 22, 23, 29, 30, 31] else if r = 17 then some [10, 53, 54] else if r = 20 then some [10, 12, 53, 54] else none := rfl
@[simp] theorem wr42 : cf42.wr = fun _ => [] := rfl
def cf43 : Cfg := { wio := fun f i => (f == 999999 && (i == 0)), live := fun r => if r = 4 then some [2, 6, 7, 8, 9] else if r = 7 then some [2, 6, 7, 8, 9, 10] else none, dr := fun r => if r = 9 then some [(0, 0), (1, 0), (2, 0), (3, 0), (4, 0), (5, 0), (6, 1), (7, 0)] else none, wr := fun r => if r = 12 then [6, 46] else [], dt := fun r => if r = 12 then some (.op 0 0 (.op 1 0 (.op 4 0 (.op 5 0 (.op 6 0 (.op 7 0 (.op 8 0 (.op 9 0 (.op 10 0 (.op 11 0 (.alt (.op 2 1 (.alt (.op 3 1 (.op 12 1 (.op 13 0 (.op 14 0 (.op 15 1 (.op 16 2 (.op 17 0 (.op 18 0 .nil)))))))) (.op 12 1 (.op 13 0 (.op 14 0 (.alt (.op 3 1 (.op 15 1 (.op 16 2 (.op 17 0 (.op 18 0 .nil))))) (.op 15 1 (.op 3 1 (.op 16 2 (.op 17 0 (.op 18 0 .nil))))))))))) (.op 12 1 (.op 13 0 (.op 14 0 (.alt (.op 2 1 (.alt (.op 3 1 (.op 15 1 (.op 16 2 (.op 17 0 (.op 18 0 .nil))))) (.op 15 1 (.op 3 1 (.op 16 2 (.op 17 0 (.op 18 0 .nil))))))) (.op 15 1 (.op 2 1 (.op 3 1 (.op 16 2 (.op 17 0 (.op 18 0 .nil))))))))))))))))))))) else none }
@[simp] theorem wio43 : cf43.wio = fun f i => (f == 999999 && (i == 0)) := rfl
@[simp] theorem live43 : cf43.live = fun r => if r = 4 then some [2, 6, 7, 8, 9] else if r = 7 then some [2, 6, 7, 8, 9, 10] else none := rfl
@[simp] theorem wr43 : cf43.wr = fun r => if r = 12 then [6, 46] else [] := rfl
def cf44 : Cfg := { wio := fun f i => (f == 999999 && (i == 0)), live := fun r => if r = 7 then some [3, 4, 5, 17, 18, 19] else none, dr := fun r => none }
@[simp] theorem wio44 : cf44.wio = fun f i => (f == 999999 && (i == 0)) := rfl
@[simp] theorem live44 : cf44.live = fun r => if r = 7 then some [3, 4, 5, 17, 18, 19] else none := rfl
@[simp] theorem wr44 : cf44.wr = fun _ => [] := rfl
def cf45 : Cfg := { wio := fun f i => (f == 999999 && (i == 0)), live := fun r => if r = 4 then some [0, 1, 12, 13] else none, dr := fun r => if r = 6 then some [(0, 0), (1, 0), (2, 0), (3, 0), (4, 0), (5, 0), (6, 0), (7, 0), (8, 0)] else none }
@[simp] theorem wio45 : cf45.wio = fun f i => (f == 999999 && (i == 0)) := rfl
@[simp] theorem live45 : cf45.live = fun r => if r = 4 then some [0, 1, 12, 13] else none := rfl
@[simp] theorem wr45 : cf45.wr = fun _ => [] := rfl
def cf46 : Cfg := { wio := fun f i => (f == 999999 && (i == 0)), live := fun r => if r = 4 then some [0, 1, 12, 13] else none, dr := fun r => if r = 6 then some [(0, 0), (1, 0), (2, 0), (3, 0), (4, 0), (5, 0), (6, 0), (7, 0), (8, 1), (9, 0)] else none }
@[simp] theorem wio46 : cf46.wio = fun f i => (f == 999999 && (i == 0)) := rfl
@[simp] theorem live46 : cf46.live = fun r => if r = 4 then some [0, 1, 12, 13] else none := rfl
@[simp] theorem wr46 : cf46.wr = fun _ => [] := rfl
def cf47 : Cfg := { wio := fun f i => (f == 999999 && (i == 0)), live := fun r => if r = 4 then some [0, 1, 12, 13] else none, dr := fun r => if r = 6 then some [(0, 0), (1, 0), (2, 0), (3, 0), (4, 0), (5, 0), (6, 0), (7, 0), (8, 0)] else none }
@[simp] theorem wio47 : cf47.wio = fun f i => (f == 999999 && (i == 0)) := rfl
@[simp] theorem live47 : cf47.live = fun r => if r = 4 then some [0, 1, 12, 13] else none := rfl
@[simp] theorem wr47 : cf47.wr = fun _ => [] := rfl
def cf48 : Cfg := { wio := fun f i => (f == 999999 && (i == 0)), live := fun r => none, dr := fun r => none }
@[simp] theorem wio48 : cf48.wio = fun f i => (f == 999999 && (i == 0)) := rfl
@[simp] theorem live48 : cf48.live = fun r => none := rfl
@[simp] theorem wr48 : cf48.wr = fun _ => [] := rfl
def cf49 : Cfg := { wio := fun f i => (f == 999999 && (i == 0)), live := fun r => none, dr := fun r => none }
@[simp] theorem wio49 : cf49.wio = fun f i => (f == 999999 && (i == 0)) := rfl
@[simp] theorem live49 : cf49.live = fun r => none := rfl
@[simp] theorem wr49 : cf49.wr = fun _ => [] := rfl
def cf50 : Cfg := { wio := fun f i => (f == 999999 && (i == 0)), live := fun r => if r = 4 then some [0, 1, 18, 19] else none, dr := fun r => none }
@[simp] theorem wio50 : cf50.wio = fun f i => (f == 999999 && (i == 0)) := rfl
@[simp] theorem live50 : cf50.live = fun r => if r = 4 then some [0, 1, 18, 19] else none := rfl
@[simp] theorem wr50 : cf50.wr = fun _ => [] := rfl
def cf51 : Cfg := { wio := fun f i => (f == 999999 && (i == 0)), live := fun r => if r = 3 then some [1, 2, 7, 11, 12, 13] else none, dr := fun r => none }
@[simp] theorem wio51 : cf51.wio = fun f i => (f == 999999 && (i == 0)) := rfl
@[simp] theorem live51 : cf51.live = fun r => if r = 3 then some [1, 2, 7, 11, 12, 13] else none := rfl
@[simp] theorem wr51 : cf51.wr = fun _ => [] := rfl
def cf52 : Cfg := { wio := fun f i => (f == 999999 && (i == 0)), live := fun r => if r = 4 then some [0, 1, 12, 13] else none, dr := fun r => if r = 6 then some [(0, 0), (1, 0), (2, 0), (3, 0), (4, 0), (5, 0), (6, 0), (7, 0), (8, 0)] else none }
@[simp] theorem wio52 : cf52.wio = fun f i => (f == 999999 && (i == 0)) := rfl
@[simp] theorem live52 : cf52.live = fun r => if r = 4 then some [0, 1, 12, 13] else none := rfl
@[simp] theorem wr52 : cf52.wr = fun _ => [] := rfl
def cf53 : Cfg := { wio := fun f i => (f == 999999 && (i == 0)), live := fun r => if r = 4 then some [1, 2, 15, 16, 17] else none, dr := fun r => none }
@[simp] theorem wio53 : cf53.wio = fun f i => (f == 999999 && (i == 0)) := rfl
@[simp] theorem live53 : cf53.live = fun r => if r = 4 then some [1, 2, 15, 16, 17] else none := rfl
@[simp] theorem wr53 : cf53.wr = fun _ => [] := rfl
def cf54 : Cfg := { wio := fun f i => (f == 999999 && (i == 0)), live := fun r => if r = 4 then some [0, 1, 12, 13] else none, dr := fun r => if r = 6 then some [(0, 0), (1, 0), (2, 0), (3, 0), (4, 0), (5, 0), (6, 0), (7, 0), (8, 0)] else none }
@[simp] theorem wio54 : cf54.wio = fun f i => (f == 999999 && (i == 0)) := rfl
@[simp] theorem live54 : cf54.live = fun r => if r = 4 then some [0, 1, 12, 13] else none := rfl
@[simp] theorem wr54 : cf54.wr = fun _ => [] := rfl
def cf55 : Cfg := { wio := fun f i => (f == 999999 && (i == 0)), live := fun r => none, dr := fun r => none }
@[simp] theorem wio55 : cf55.wio = fun f i => (f == 999999 && (i == 0)) := rfl
@[simp] theorem live55 : cf55.live = fun r => none := rfl
@[simp] theorem wr55 : cf55.wr = fun _ => [] := rfl
def cf56 : Cfg := { wio := fun f i => (f == 999999 && (i == 0)), live := fun r => if r = 2 then some [1, 2, 3, 7] else none, dr := fun r => if r = 4 then some [(0, 0), (1, 0), (2, 0), (3, 0), (4, 0), (5, 0), (6, 0), (7, 1), (8, 0)] else none }
@[simp] theorem wio56 : cf56.wio = fun f i => (f == 999999 && (i == 0)) := rfl
@[simp] theorem live56 : cf56.live = fun r => if r = 2 then some [1, 2, 3, 7] else none := rfl
@[simp] theorem wr56 : cf56.wr = fun _ => [] := rfl
def cf57 : Cfg := { wio := fun f i => (f == 999999 && (i == 0)), live := fun r => if r = 5 then some [2, 6, 7, 8, 9] else if r = 8 then some [2, 6, 7, 8, 9, 30, 31] else none, dr := fun r => if r = 10 then some [(0, 0), (1, 0), (2, 0), (3, 0), (4, 0), (5, 0), (6, 1), (7, 0)] else if r = 14 then some [(0, 0), (1, 0), (2, 0), (3, 0), (4, 0), (5, 0), (6, 0), (7, 0), (8, 1), (9, 0), (10, 0), (11, 1), (12, 2), (13, 0)] else none }
@[simp] theorem wio57 : cf57.wio = fun f i => (f == 999999 && (i == 0)) := rfl
@[simp] theorem live57 : cf57.live = fun r => if r = 5 then some [2, 6, 7, 8, 9] else if r = 8 then some [2, 6, 7, 8, 9, 30, 31] else none := rfl
@[simp] theorem wr57 : cf57.wr = fun _ => [] := rfl
def cf58 : Cfg := { wio := fun f i => (f == 999999 && (i == 0)), live := fun r => none, dr := fun r => none }
@[simp] theorem wio58 : cf58.wio = fun f i => (f == 999999 && (i == 0)) := rfl
@[simp] theorem live58 : cf58.live = fun r => none := rfl
@[simp] theorem wr58 : cf58.wr = fun _ => [] := rfl
def cf59 : Cfg := { wio := fun f i => (f == 999999 && (i == 0)), live := fun r => none, dr := fun r => none }
@[simp] theorem wio59 : cf59.wio = fun f i => (f == 999999 && (i == 0)) := rfl
@[simp] theorem live59 : cf59.live = fun r => none := rfl
@[simp] theorem wr59 : cf59.wr = fun _ => [] := rfl
def cf60 : Cfg := { wio := fun f i => (f == 999999 && (i == 0)), live := fun r => if r = 9 then some [1, 3, 38, 39, 40] else if r = 14 then some [1, 3, 38, 39, 40, 49, 50, 51] else none, dr := fun r => none }
@[simp] theorem wio60 : cf60.wio = fun f i => (f == 999999 && (i == 0)) := rfl
@[simp] theorem live60 : cf60.live = fun r => if r = 9 then some [1, 3, 38, 39, 40] else if r = 14 then some [1, 3, 38, 39, 40, 49, 50, 51] else none := rfl
@[simp] theorem wr60 : cf60.wr = fun _ => [] := rfl
def cf61 : Cfg := { wio := fun f i => (f == 999999 && (i == 0)), live := fun r => if r = 3 then some [0, 1, 5, 6] else if r = 6 then some [0, 1, 5, 6, 7] else none, dr := fun r => if r = 8 then some [(0, 0), (1, 0), (2, 0), (3, 0), (4, 0), (5, 0), (6, 0), (7, 0), (8, 1), (9, 0), (10, 0), (11, 1), (12, 2), (13, 0)] else none }
@[simp] theorem wio61 : cf61.wio = fun f i => (f == 999999 && (i == 0)) := rfl
@[simp] theorem live61 : cf61.live = fun r => if r = 3 then some [0, 1, 5, 6] else if r = 6 then some [0, 1, 5, 6, 7] else none := rfl
@[simp] theorem wr61 : cf61.wr = fun _ => [] := rfl
def cf62 : Cfg := { wio := fun f i => (f == 999999 && (i == 0)), live := fun r => if r = 9 then some [1, 3, 38, 39, 40] else if r = 14 then some [1, 3, 38, 39, 40, 49, 50, 51] else none, dr := fun r => none }
@[simp] theorem wio62 : cf62.wio = fun f i => (f == 999999 && (i == 0)) := rfl
@[simp] theorem live62 : cf62.live = fun r => if r = 9 then some [1, 3, 38, 39, 40] else if r = 14 then some [1, 3, 38, 39, 40, 49, 50, 51] else none := rfl
@[simp] theorem wr62 : cf62.wr = fun _ => [] := rfl
def cf63 : Cfg := { wio := fun f i => (f == 999999 && (i == 0)), live := fun r => none, dr := fun r => none }
@[simp] theorem wio63 : cf63.wio = fun f i => (f == 999999 && (i == 0)) := rfl
@[simp] theorem live63 : cf63.live = fun r => none := rfl
@[simp] theorem wr63 : cf63.wr = fun _ => [] := rfl
def cf65 : Cfg := { wio := fun f i => (f == 999999 && (i == 0)), live := fun r => none, dr := fun r => none }
@[simp] theorem wio65 : cf65.wio = fun f i => (f == 999999 && (i == 0)) := rfl
@[simp] theorem live65 : cf65.live = fun r => none := rfl
@[simp] theorem wr65 : cf65.wr = fun _ => [] := rfl
def cf66 : Cfg := { wio := fun f i => (f == 999999 && (i == 0)), live := fun r => if r = 3 then some [3, 6, 7, 8] else none, dr := fun r => none }
@[simp] theorem wio66 : cf66.wio = fun f i => (f == 999999 && (i == 0)) := rfl
@[simp] theorem live66 : cf66.live = fun r => if r = 3 then some [3, 6, 7, 8] else none := rfl
@[simp] theorem wr66 : cf66.wr = fun _ => [] := rfl
def cf67 : Cfg := { wio := fun f i => (f == 999999 && (i == 0)), live := fun r => none, dr := fun r => none }
@[simp] theorem wio67 : cf67.wio = fun f i => (f == 999999 && (i == 0)) := rfl
@[simp] theorem live67 : cf67.live = fun r => none := rfl
@[simp] theorem wr67 : cf67.wr = fun _ => [] := rfl
def cf68 : Cfg := { wio := fun f i => (f == 999999 && (i == 0)), live := fun r => none, dr := fun r => none }
@[simp] theorem wio68 : cf68.wio = fun f i => (f == 999999 && (i == 0)) := rfl
@[simp] theorem live68 : cf68.live = fun r => none := rfl
@[simp] theorem wr68 : cf68.wr = fun _ => [] := rfl
def cf69 : Cfg := { wio := fun f i => (f == 79 && (i == 0)) || (f == 999999 && (i == 0)), live := fun r => none, dr := fun r => none }
@[simp] theorem wio69 : cf69.wio = fun f i => (f == 79 && (i == 0)) || (f == 999999 && (i == 0)) := rfl
@[simp] theorem live69 : cf69.live = fun r => none := rfl
@[simp] theorem wr69 : cf69.wr = fun _ => [] := rfl
def cf70 : Cfg := { wio := fun f i => (f == 999999 && (i == 0)), live := fun r => none, dr := fun r => if r = 1 then some [(0, 0), (1, 0), (2, 0), (3, 0), (4, 0), (5, 0), (6, 0), (7, 0), (8, 1), (9, 0)] else none }
@[simp] theorem wio70 : cf70.wio = fun f i => (f == 999999 && (i == 0)) := rfl
@[simp] theorem live70 : cf70.live = fun r => none := rfl
@[simp] theorem wr70 : cf70.wr = fun _ => [] := rfl
def cf71 : Cfg := { wio := fun f i => (f == 999999 && (i == 0)), live := fun r => none, dr := fun r => none }
@[simp] theorem wio71 : cf71.wio = fun f i => (f == 999999 && (i == 0)) := rfl
@[simp] theorem live71 : cf71.live = fun r => none := rfl
@[simp] theorem wr71 : cf71.wr = fun _ => [] := rfl
def cf72 : Cfg := { wio := fun f i => (f == 999999 && (i == 0)), live := fun r => none, dr := fun r => none }
@[simp] theorem wio72 : cf72.wio = fun f i => (f == 999999 && (i == 0)) := rfl
@[simp] theorem live72 : cf72.live = fun r => none := rfl
@[simp] theorem wr72 : cf72.wr = fun _ => [] := rfl
def cf73 : Cfg := { wio := fun f i => (f == 999999 && (i == 0)), live := fun r => if r = 3 then some [1, 2, 3, 7, 11, 12] else none, dr := fun r => none }
@[simp] theorem wio73 : cf73.wio = fun f i => (f == 999999 && (i == 0)) := rfl
@[simp] theorem live73 : cf73.live = fun r => if r = 3 then some [1, 2, 3, 7, 11, 12] else none := rfl
@[simp] theorem wr73 : cf73.wr = fun _ => [] := rfl
def cf74 : Cfg := { wio := fun f i => (f == 999999 && (i == 0)), live := fun r => if r = 2 then some [0, 1, 7, 8] else none, dr := fun r => none }
@[simp] theorem wio74 : cf74.wio = fun f i => (f == 999999 && (i == 0)) := rfl
@[simp] theorem live74 : cf74.live = fun r => if r = 2 then some [0, 1, 7, 8] else none := rfl
@[simp] theorem wr74 : cf74.wr = fun _ => [] := rfl
def cf76 : Cfg := { wio := fun f i => (f == 999999 && (i == 0)), live := fun r => none, dr := fun r => none }
@[simp] theorem wio76 : cf76.wio = fun f i => (f == 999999 && (i == 0)) := rfl
@[simp] theorem live76 : cf76.live = fun r => none := rfl
@[simp] theorem wr76 : cf76.wr = fun _ => [] := rfl
def cf77 : Cfg := { wio := fun f i => (f == 999999 && (i == 0)), live := fun r => none, dr := fun r => none }
@[simp] theorem wio77 : cf77.wio = fun f i => (f == 999999 && (i == 0)) := rfl
@[simp] theorem live77 : cf77.live = fun r => none := rfl
@[simp] theorem wr77 : cf77.wr = fun _ => [] := rfl
def cf78 : Cfg := { wio := fun f i => (f == 999999 && (i == 0)), live := fun r => none, dr := fun r => none }
@[simp] theorem wio78 : cf78.wio = fun f i => (f == 999999 && (i == 0)) := rfl
@[simp] theorem live78 : cf78.live = fun r => none := rfl
@[simp] theorem wr78 : cf78.wr = fun _ => [] := rfl
def cf79 : Cfg := { wio := fun f i => (f == 80 && (i == 0)) || (f == 92 && (i == 0)) || (f == 999999 && (i == 0)), live := fun r => if r = 2 then some [0, 1, 2, 6, 7, 8] else if r = 7 then some [0, 1, 2, 6] else if r = 9 then some [0, 1, 2, 6, 7, 8] else none, dr := fun r => none }
@[simp] theorem wio79 : cf79.wio = fun f i => (f == 80 && (i == 0)) || (f == 92 && (i == 0)) || (f == 999999 && (i == 0)) := rfl
@[simp] theorem live79 : cf79.live = fun r => if r = 2 then some [0, 1, 2, 6, 7, 8] else if r = 7 then some [0, 1, 2, 6] else if r = 9 then some [0, 1, 2, 6, 7, 8] else none := rfl
@[simp] theorem wr79 : cf79.wr = fun _ => [] := rfl
def cf80 : Cfg := { wio := fun f i => (f == 999999 && (i == 0)), live := fun r => if r = 1 then some [0, 1, 2, 3, 8] else if r = 4 then some [0, 1, 2, 3, 8, 9] else none, dr := fun r => if r = 4 then some [(0, 0), (1, 0), (2, 0), (3, 0), (4, 0), (5, 0), (6, 0), (7, 0), (8, 0), (9, 0), (10, 0), (11, 0), (12, 0), (13, 0), (14, 1), (15, 0), (16, 0)] else if r = 6 then some [(0, 0), (1, 0), (2, 3), (3, 3), (4, 3), (5, 0), (6, 0), (7, 0), (8, 0), (9, 0), (10, 0), (11, 0), (12, 0), (13, 0), (14, 0), (15, 2), (16, 0), (17, 2)] else none }
@[simp] theorem wio80 : cf80.wio = fun f i => (f == 999999 && (i == 0)) := rfl
@[simp] theorem live80 : cf80.live = fun r => if r = 1 then some [0, 1, 2, 3, 8] else if r = 4 then some [0, 1, 2, 3, 8, 9] else none := rfl
@[simp] theorem wr80 : cf80.wr = fun _ => [] := rfl
def cf88 : Cfg := { wio := fun f i => (f == 999999 && (i == 0)), live := fun r => none, dr := fun r => none }
@[simp] theorem wio88 : cf88.wio = fun f i => (f == 999999 && (i == 0)) := rfl
@[simp] theorem live88 : cf88.live = fun r => none := rfl
@[simp] theorem wr88 : cf88.wr = fun _ => [] := rfl
def cf89 : Cfg := { wio := fun f i => (f == 999999 && (i == 0)), live := fun r => none, dr := fun r => none }
@[simp] theorem wio89 : cf89.wio = fun f i => (f == 999999 && (i == 0)) := rfl
@[simp] theorem live89 : cf89.live = fun r => none := rfl
@[simp] theorem wr89 : cf89.wr = fun _ => [] := rfl
def cf90 : Cfg := { wio := fun f i => (f == 999999 && (i == 0)), live := fun r => none, dr := fun r => if r = 1 then some [(0, 0), (1, 0), (2, 0), (3, 0), (4, 0), (5, 0), (6, 0), (7, 0), (8, 0), (9, 0), (10, 0), (11, 0), (12, 0), (13, 0), (14, 0), (15, 0), (16, 0), (17, 0), (18, 0)] else none }
@[simp] theorem wio90 : cf90.wio = fun f i => (f == 999999 && (i == 0)) := rfl
@[simp] theorem live90 : cf90.live = fun r => none := rfl
@[simp] theorem wr90 : cf90.wr = fun _ => [] := rfl
def cf91 : Cfg := { wio := fun f i => (f == 999999 && (i == 0)), live := fun r => none, dr := fun r => none }
@[simp] theorem wio91 : cf91.wio = fun f i => (f == 999999 && (i == 0)) := rfl
@[simp] theorem live91 : cf91.live = fun r => none := rfl
@[simp] theorem wr91 : cf91.wr = fun _ => [] := rfl
def cf92 : Cfg := { wio := fun f i => (f == 98 && (i == 0)) || (f == 92 && (i == 0)) || (f == 999999 && (i == 0)), live := fun r => if r = 3 then some [0, 1, 4, 10, 11] else if r = 9 then some [0, 10, 13] else if r = 15 then some [0, 2, 4, 14, 15] else if r = 21 then some [0, 14, 17] else if r = 33 then some [0, 1, 2, 3, 4, 18, 19, 20, 21, 22] else none, dr := fun r => if r = 5 then some [(0, 0), (1, 0), (2, 0), (3, 0), (4, 0), (5, 0), (6, 0), (7, 0), (8, 0), (9, 1), (10, 0)] else if r = 11 then some [(0, 0), (1, 0), (2, 3), (3, 3), (4, 3), (5, 0), (6, 0), (7, 0), (8, 0), (9, 0), (10, 0), (11, 0), (12, 0), (13, 0), (14, 0), (15, 2), (16, 0), (17, 2)] else if r = 17 then some [(0, 0), (1, 0), (2, 0), (3, 0), (4, 0), (5, 0), (6, 0), (7, 0), (8, 0), (9, 1), (10, 0), (11, 0)] else if r = 23 then some [(0, 0), (1, 0), (2, 3), (3, 3), (4, 3), (5, 0), (6, 0), (7, 0), (8, 0), (9, 0), (10, 0), (11, 0), (12, 0), (13, 0), (14, 0), (15, 2), (16, 0), (17, 2)] else if r = 35 then some [(0, 0), (1, 0), (2, 0), (3, 0), (4, 0), (5, 0), (6, 0), (7, 0), (8, 0), (9, 0), (10, 0), (11, 1), (12, 0), (13, 0)] else none }
@[simp] theorem wio92 : cf92.wio = fun f i => (f == 98 && (i == 0)) || (f == 92 && (i == 0)) || (f == 999999 && (i == 0)) := rfl
@[simp] theorem live92 : cf92.live = fun r => if r = 3 then some [0, 1, 4, 10, 11] else if r = 9 then some [0, 10, 13] else if r = 15 then some [0, 2, 4, 14, 15] else if r = 21 then some [0, 14, 17] else if r = 33 then some [0, 1, 2, 3, 4, 18, 19, 20, 21, 22] else none := rfl
@[simp] theorem wr92 : cf92.wr = fun _ => [] := rfl
def cf98 : Cfg := { wio := fun f i => (f == 100 && (i == 0)) || (f == 999999 && (i == 0)), live := fun r => if r = 2 then some [0, 2, 4, 10, 11] else none, dr := fun r => none }
@[simp] theorem wio98 : cf98.wio = fun f i => (f == 100 && (i == 0)) || (f == 999999 && (i == 0)) := rfl
@[simp] theorem live98 : cf98.live = fun r => if r = 2 then some [0, 2, 4, 10, 11] else none := rfl
@[simp] theorem wr98 : cf98.wr = fun _ => [] := rfl
def cf100 : Cfg := { wio := fun f i => (f == 999999 && (i == 0)), live := fun r => if r = 1 then some [0, 1, 2, 3, 10] else none, dr := fun r => if r = 3 then some [(0, 0), (1, 0), (2, 0), (3, 0), (4, 3), (5, 3), (6, 3), (7, 3), (8, 0), (9, 0), (10, 0), (11, 0), (12, 0), (13, 0), (14, 0), (15, 0), (16, 0), (17, 0), (18, 0), (19, 0), (20, 0), (21, 2), (22, 0), (23, 2)] else none }
@[simp] theorem wio100 : cf100.wio = fun f i => (f == 999999 && (i == 0)) := rfl
@[simp] theorem live100 : cf100.live = fun r => if r = 1 then some [0, 1, 2, 3, 10] else none := rfl
@[simp] theorem wr100 : cf100.wr = fun _ => [] := rfl
def z2p (f : FuncId) : Option Cfg :=
  if f = 3 then some cf3 else
  if f = 4 then some cf4 else
  if f = 5 then some cf5 else
  if f = 6 then some cf6 else
  if f = 8 then some cf8 else
  if f = 9 then some cf9 else
  if f = 10 then some cf10 else
  if f = 11 then some cf11 else
  if f = 12 then some cf12 else
  if f = 13 then some cf13 else
  if f = 14 then some cf14 else
  if f = 15 then some cf15 else
  if f = 16 then some cf16 else
  if f = 17 then some cf17 else
  if f = 18 then some cf18 else
  if f = 19 then some cf19 else
  if f = 20 then some cf20 else
  if f = 21 then some cf21 else
  if f = 22 then some cf22 else
  if f = 23 then some cf23 else
  if f = 24 then some cf24 else
  if f = 25 then some cf25 else
  if f = 26 then some cf26 else
  if f = 27 then some cf27 else
  if f = 28 then some cf28 else
  if f = 29 then some cf29 else
  if f = 30 then some cf30 else
  if f = 31 then some cf31 else
  if f = 32 then some cf32 else
  if f = 33 then some cf33 else
  if f = 34 then some cf34 else
  if f = 35 then some cf35 else
  if f = 36 then some cf36 else
  if f = 37 then some cf37 else
  if f = 38 then some cf38 else
  if f = 39 then some cf39 else
  if f = 40 then some cf40 else
  if f = 41 then some cf41 else
  if f = 42 then some cf42 else
  if f = 43 then some cf43 else
  if f = 44 then some cf44 else
  if f = 45 then some cf45 else
  if f = 46 then some cf46 else
  if f = 47 then some cf47 else
  if f = 48 then some cf48 else
  if f = 49 then some cf49 else
  if f = 50 then some cf50 else
  if f = 51 then some cf51 else
  if f = 52 then some cf52 else
  if f = 53 then some cf53 else
  if f = 54 then some cf54 else
  if f = 55 then some cf55 else
  if f = 56 then some cf56 else
  if f = 57 then some cf57 else
  if f = 58 then some cf58 else
  if f = 59 then some cf59 else
  if f = 60 then some cf60 else
  if f = 61 then some cf61 else
  if f = 62 then some cf62 else
  if f = 63 then some cf63 else
  if f = 65 then some cf65 else
  if f = 66 then some cf66 else
  if f = 67 then some cf67 else
  if f = 68 then some cf68 else
  if f = 69 then some cf69 else
  if f = 70 then some cf70 else
  if f = 71 then some cf71 else
  if f = 72 then some cf72 else
  if f = 73 then some cf73 else
  if f = 74 then some cf74 else
  if f = 76 then some cf76 else
  if f = 77 then some cf77 else
  if f = 78 then some cf78 else
  if f = 79 then some cf79 else
  if f = 80 then some cf80 else
  if f = 88 then some cf88 else
  if f = 89 then some cf89 else
  if f = 90 then some cf90 else
  if f = 91 then some cf91 else
  if f = 92 then some cf92 else
  if f = 98 then some cf98 else
  if f = 100 then some cf100 else none
theorem zvw : z2p 4 = some cf4 := rfl
theorem zvv : z2p 5 = some cf5 := rfl
theorem zvu : z2p 6 = some cf6 := rfl
theorem zug : z2p 11 = some cf11 := rfl
theorem zuf : z2p 12 = some cf12 := rfl
theorem zue : z2p 13 = some cf13 := rfl
theorem zud : z2p 14 = some cf14 := rfl
theorem zuc : z2p 18 = some cf18 := rfl
theorem zub : z2p 19 = some cf19 := rfl
theorem zua : z2p 20 = some cf20 := rfl
theorem zu9 : z2p 21 = some cf21 := rfl
theorem zu8 : z2p 30 = some cf30 := rfl
theorem zu7 : z2p 31 = some cf31 := rfl
theorem zu6 : z2p 32 = some cf32 := rfl
theorem zu5 : z2p 33 = some cf33 := rfl
theorem zu4 : z2p 34 = some cf34 := rfl
theorem zu3 : z2p 35 = some cf35 := rfl
theorem zu2 : z2p 36 = some cf36 := rfl
theorem zu1 : z2p 37 = some cf37 := rfl
theorem zu0 : z2p 38 = some cf38 := rfl
theorem ztZ : z2p 39 = some cf39 := rfl
theorem ztY : z2p 40 = some cf40 := rfl
theorem ztX : z2p 41 = some cf41 := rfl
theorem ztW : z2p 49 = some cf49 := rfl
theorem ztV : z2p 50 = some cf50 := rfl
theorem ztU : z2p 51 = some cf51 := rfl
theorem ztT : z2p 57 = some cf57 := rfl
theorem ztS : z2p 58 = some cf58 := rfl
theorem ztR : z2p 61 = some cf61 := rfl
theorem ztQ : z2p 62 = some cf62 := rfl
theorem ztP : z2p 63 = some cf63 := rfl
theorem ztO : z2p 67 = some cf67 := rfl
theorem ztN : z2p 68 = some cf68 := rfl
theorem ztM : z2p 69 = some cf69 := rfl
theorem ztL : z2p 70 = some cf70 := rfl
theorem ztK : z2p 74 = some cf74 := rfl
theorem ztJ : z2p 77 = some cf77 := rfl
theorem ztI : z2p 78 = some cf78 := rfl
theorem ztH : z2p 79 = some cf79 := rfl
theorem ztG : z2p 80 = some cf80 := rfl
theorem ztF : z2p 91 = some cf91 := rfl
theorem ztE : z2p 92 = some cf92 := rfl
theorem ztD : z2p 98 = some cf98 := rfl
theorem zrx : z2p 100 = some cf100 := rfl
theorem fn4 : Try.prog.funcs[4]? = some Try.f4 := by kernel_rfl
theorem fn5 : Try.prog.funcs[5]? = some Try.f5 := by kernel_rfl
theorem fn6 : Try.prog.funcs[6]? = some Try.f6 := by kernel_rfl
theorem zvn : Try.prog.funcs[11]? = some Try.f11 := by kernel_rfl
theorem zvm : Try.prog.funcs[12]? = some Try.f12 := by kernel_rfl
theorem zvl : Try.prog.funcs[13]? = some Try.f13 := by kernel_rfl
theorem zuq : Try.prog.funcs[14]? = some Try.f14 := by kernel_rfl
theorem zvk : Try.prog.funcs[15]? = some Try.f15 := by kernel_rfl
theorem zvj : Try.prog.funcs[18]? = some Try.f18 := by kernel_rfl
theorem zvi : Try.prog.funcs[19]? = some Try.f19 := by kernel_rfl
theorem zvh : Try.prog.funcs[20]? = some Try.f20 := by kernel_rfl
theorem zvg : Try.prog.funcs[21]? = some Try.f21 := by kernel_rfl
theorem zvf : Try.prog.funcs[30]? = some Try.f30 := by kernel_rfl
theorem zve : Try.prog.funcs[31]? = some Try.f31 := by kernel_rfl
theorem zup : Try.prog.funcs[32]? = some Try.f32 := by kernel_rfl
theorem zvd : Try.prog.funcs[33]? = some Try.f33 := by kernel_rfl
theorem zvc : Try.prog.funcs[34]? = some Try.f34 := by kernel_rfl
theorem zvb : Try.prog.funcs[35]? = some Try.f35 := by kernel_rfl
theorem zva : Try.prog.funcs[36]? = some Try.f36 := by kernel_rfl
theorem zv9 : Try.prog.funcs[37]? = some Try.f37 := by kernel_rfl
theorem zv8 : Try.prog.funcs[38]? = some Try.f38 := by kernel_rfl
theorem zv7 : Try.prog.funcs[39]? = some Try.f39 := by kernel_rfl
theorem zv6 : Try.prog.funcs[40]? = some Try.f40 := by kernel_rfl
theorem zv5 : Try.prog.funcs[41]? = some Try.f41 := by kernel_rfl
theorem zv4 : Try.prog.funcs[49]? = some Try.f49 := by kernel_rfl
theorem zv3 : Try.prog.funcs[50]? = some Try.f50 := by kernel_rfl
theorem zv2 : Try.prog.funcs[51]? = some Try.f51 := by kernel_rfl
theorem zv1 : Try.prog.funcs[57]? = some Try.f57 := by kernel_rfl
theorem zv0 : Try.prog.funcs[58]? = some Try.f58 := by kernel_rfl
theorem zuZ : Try.prog.funcs[61]? = some Try.f61 := by kernel_rfl
theorem zuY : Try.prog.funcs[62]? = some Try.f62 := by kernel_rfl
theorem zuX : Try.prog.funcs[63]? = some Try.f63 := by kernel_rfl
theorem zuW : Try.prog.funcs[67]? = some Try.f67 := by kernel_rfl
theorem zuV : Try.prog.funcs[68]? = some Try.f68 := by kernel_rfl
theorem zuU : Try.prog.funcs[69]? = some Try.f69 := by kernel_rfl
theorem zuT : Try.prog.funcs[70]? = some Try.f70 := by kernel_rfl
theorem zuS : Try.prog.funcs[74]? = some Try.f74 := by kernel_rfl
theorem zuR : Try.prog.funcs[77]? = some Try.f77 := by kernel_rfl
theorem zuQ : Try.prog.funcs[78]? = some Try.f78 := by kernel_rfl
theorem zuP : Try.prog.funcs[79]? = some Try.f79 := by kernel_rfl
theorem zuO : Try.prog.funcs[80]? = some Try.f80 := by kernel_rfl
theorem zuN : Try.prog.funcs[91]? = some Try.f91 := by kernel_rfl
theorem zuM : Try.prog.funcs[92]? = some Try.f92 := by kernel_rfl
theorem zuL : Try.prog.funcs[98]? = some Try.f98 := by kernel_rfl
theorem zsf : Try.prog.funcs[100]? = some Try.f100 := by kernel_rfl
noncomputable def cd4 : Code := match Try.f4.body with | some c => c | none => .skip
theorem bd4 : Try.f4.body = some cd4 := by kernel_rfl
noncomputable def cd5 : Code := match Try.f5.body with | some c => c | none => .skip
theorem bd5 : Try.f5.body = some cd5 := by kernel_rfl
noncomputable def cd6 : Code := match Try.f6.body with | some c => c | none => .skip
theorem bd6 : Try.f6.body = some cd6 := by kernel_rfl
noncomputable def zw8 : Code := match Try.f11.body with | some c => c | none => .skip
theorem zwM : Try.f11.body = some zw8 := by kernel_rfl
noncomputable def zw7 : Code := match Try.f12.body with | some c => c | none => .skip
theorem zwL : Try.f12.body = some zw7 := by kernel_rfl
noncomputable def zw6 : Code := match Try.f13.body with | some c => c | none => .skip
theorem zwK : Try.f13.body = some zw6 := by kernel_rfl
noncomputable def z6V : Code := match Try.f14.body with | some c => c | none => .skip
theorem zuu : Try.f14.body = some z6V := by kernel_rfl
noncomputable def z4m : Code := match Try.f15.body with | some c => c | none => .skip
theorem zwJ : Try.f15.body = some z4m := by kernel_rfl
noncomputable def zw5 : Code := match Try.f18.body with | some c => c | none => .skip
theorem zwI : Try.f18.body = some zw5 := by kernel_rfl
noncomputable def zw4 : Code := match Try.f19.body with | some c => c | none => .skip
theorem zwH : Try.f19.body = some zw4 := by kernel_rfl
noncomputable def zw3 : Code := match Try.f20.body with | some c => c | none => .skip
theorem zwG : Try.f20.body = some zw3 := by kernel_rfl
noncomputable def zw2 : Code := match Try.f21.body with | some c => c | none => .skip
theorem zwF : Try.f21.body = some zw2 := by kernel_rfl
noncomputable def zw1 : Code := match Try.f30.body with | some c => c | none => .skip
theorem zwE : Try.f30.body = some zw1 := by kernel_rfl
noncomputable def zw0 : Code := match Try.f31.body with | some c => c | none => .skip
theorem zwD : Try.f31.body = some zw0 := by kernel_rfl
noncomputable def z4G : Code := match Try.f32.body with | some c => c | none => .skip
theorem zut : Try.f32.body = some z4G := by kernel_rfl
noncomputable def zvZ : Code := match Try.f33.body with | some c => c | none => .skip
theorem zwC : Try.f33.body = some zvZ := by kernel_rfl
noncomputable def zvY : Code := match Try.f34.body with | some c => c | none => .skip
theorem zwB : Try.f34.body = some zvY := by kernel_rfl
noncomputable def zvX : Code := match Try.f35.body with | some c => c | none => .skip
theorem zwA : Try.f35.body = some zvX := by kernel_rfl
noncomputable def zvW : Code := match Try.f36.body with | some c => c | none => .skip
theorem zwz : Try.f36.body = some zvW := by kernel_rfl
noncomputable def zvV : Code := match Try.f37.body with | some c => c | none => .skip
theorem zwy : Try.f37.body = some zvV := by kernel_rfl
noncomputable def zvU : Code := match Try.f38.body with | some c => c | none => .skip
theorem zwx : Try.f38.body = some zvU := by kernel_rfl
noncomputable def zvT : Code := match Try.f39.body with | some c => c | none => .skip
theorem zww : Try.f39.body = some zvT := by kernel_rfl
noncomputable def zvS : Code := match Try.f40.body with | some c => c | none => .skip
theorem zwv : Try.f40.body = some zvS := by kernel_rfl
noncomputable def zvR : Code := match Try.f41.body with | some c => c | none => .skip
theorem zwu : Try.f41.body = some zvR := by kernel_rfl
noncomputable def zvQ : Code := match Try.f49.body with | some c => c | none => .skip
theorem zwt : Try.f49.body = some zvQ := by kernel_rfl
noncomputable def zvP : Code := match Try.f50.body with | some c => c | none => .skip
theorem zws : Try.f50.body = some zvP := by kernel_rfl
noncomputable def zvO : Code := match Try.f51.body with | some c => c | none => .skip
theorem zwr : Try.f51.body = some zvO := by kernel_rfl
noncomputable def zvN : Code := match Try.f57.body with | some c => c | none => .skip
theorem zwq : Try.f57.body = some zvN := by kernel_rfl
noncomputable def zvM : Code := match Try.f58.body with | some c => c | none => .skip
theorem zwp : Try.f58.body = some zvM := by kernel_rfl
noncomputable def zvL : Code := match Try.f61.body with | some c => c | none => .skip
theorem zwo : Try.f61.body = some zvL := by kernel_rfl
noncomputable def zvK : Code := match Try.f62.body with | some c => c | none => .skip
theorem zwn : Try.f62.body = some zvK := by kernel_rfl
noncomputable def zvJ : Code := match Try.f63.body with | some c => c | none => .skip
theorem zwm : Try.f63.body = some zvJ := by kernel_rfl
noncomputable def zvI : Code := match Try.f67.body with | some c => c | none => .skip
theorem zwl : Try.f67.body = some zvI := by kernel_rfl
noncomputable def zvH : Code := match Try.f68.body with | some c => c | none => .skip
theorem zwk : Try.f68.body = some zvH := by kernel_rfl
noncomputable def zvG : Code := match Try.f69.body with | some c => c | none => .skip
theorem zwj : Try.f69.body = some zvG := by kernel_rfl
noncomputable def zvF : Code := match Try.f70.body with | some c => c | none => .skip
theorem zwi : Try.f70.body = some zvF := by kernel_rfl
noncomputable def zvE : Code := match Try.f74.body with | some c => c | none => .skip
theorem zwh : Try.f74.body = some zvE := by kernel_rfl
noncomputable def zvD : Code := match Try.f77.body with | some c => c | none => .skip
theorem zwg : Try.f77.body = some zvD := by kernel_rfl
noncomputable def zvC : Code := match Try.f78.body with | some c => c | none => .skip
theorem zwf : Try.f78.body = some zvC := by kernel_rfl
noncomputable def zvB : Code := match Try.f79.body with | some c => c | none => .skip
theorem zwe : Try.f79.body = some zvB := by kernel_rfl
noncomputable def zvA : Code := match Try.f80.body with | some c => c | none => .skip
theorem zwd : Try.f80.body = some zvA := by kernel_rfl
noncomputable def zvz : Code := match Try.f91.body with | some c => c | none => .skip
theorem zwc : Try.f91.body = some zvz := by kernel_rfl
noncomputable def zvy : Code := match Try.f92.body with | some c => c | none => .skip
theorem zwb : Try.f92.body = some zvy := by kernel_rfl
noncomputable def zvx : Code := match Try.f98.body with | some c => c | none => .skip
theorem zwa : Try.f98.body = some zvx := by kernel_rfl
noncomputable def zui : Code := match Try.f100.body with | some c => c | none => .skip
theorem zuj : Try.f100.body = some zui := by kernel_rfl
def xt : z0C := xtC
noncomputable def L : z0C := Lim Try.prog xt z2p
theorem z3M {f : FuncId} {c : Cfg} {fn : Func} {args : List T} {o : T × List T} (hc : z2p f = some c) (hfn : Try.prog.funcs[f]? = some fn) (h : zg7 Try.prog L c LFm fn args = some o) : L f args = some o := znj hc hfn h
end Go.Proofs.Ytbnnipkanechoaa
end
section
namespace Go.Proofs.Ytbnnipkanechoaa
open Go.RowKit
def Cells (w : World) (ga : Option Addr) (n : Nat) (F : Nat → Value) : Prop := ∀ j, j < n → ∃ g o, ga = some ⟨g, o, none⟩ ∧ w.cell? ⟨g, o + j, none⟩ = some (F j)
theorem zbI {w w' : World} (hb : Below w.heap.size w w') {a : Addr} {v : Value} (h : w.cell? a = some v) : w'.cell? a = some v := by
  rw [hb.cell (World.block_lt_of_cell? w a h)]; exact h
theorem Cells.below {w w' : World} {ga : Option Addr} {n : Nat} {F : Nat → Value} (h : Cells w ga n F) (hb : Below w.heap.size w w') : Cells w' ga n F := fun j hj => by
  obtain ⟨g, o, e, hc⟩ := h j hj
  exact ⟨g, o, e, zbI hb hc⟩
theorem Cells.mono {w : World} {ga : Option Addr} {n m : Nat} {F : Nat → Value} (h : Cells w ga n F) (hm : m ≤ n) : Cells w ga m F := fun j hj => h j (by omega)
theorem Cells.congr {w : World} {ga : Option Addr} {n : Nat} {F G : Nat → Value} (h : Cells w ga n F) (e : ∀ j, j < n → F j = G j) : Cells w ga n G := fun j hj => by
  obtain ⟨g, o, e1, hc⟩ := h j hj
  exact ⟨g, o, e1, by rw [hc, e j hj]⟩
def IntsAt (w : World) (v : Value) (xs : List Int) : Prop :=
  ∃ ga cap, v = .slice ga xs.length cap ∧ xs.length ≤ cap ∧ cap ≤ maxLen ∧ Cells w ga xs.length (fun j => .int .i64 (xs.getD j 0))
theorem IntsAt.below {w w' : World} {v : Value} {xs : List Int} (h : IntsAt w v xs) (hb : Below w.heap.size w w') : IntsAt w' v xs := by
  obtain ⟨ga, cap, e, h1, h2, h3⟩ := h
  exact ⟨ga, cap, e, h1, h2, h3.below hb⟩
def RowsAt (w : World) (v : Value) (rows : List (List Int)) : Prop :=
  ∃ ga cap, ∃ F : Nat → Value, v = .slice ga rows.length cap ∧ rows.length ≤ cap ∧ cap ≤ maxLen ∧ Cells w ga rows.length F ∧ ∀ j, j < rows.length → IntsAt w (F j) (rows.getD j [])
theorem RowsAt.below {w w' : World} {v : Value} {rows : List (List Int)} (h : RowsAt w v rows) (hb : Below w.heap.size w w') : RowsAt w' v rows := by
  obtain ⟨ga, cap, F, e, h1, h2, h3, h4⟩ := h
  exact ⟨ga, cap, F, e, h1, h2, h3.below hb, fun j hj => (h4 j hj).below hb⟩
structure CRow where
  pre : List Int
  maps : List (List Int)
deriving Inhabited
structure Casc where
  letters : Int
  sizes : List Int
  rows : List CRow
deriving Inhabited
def CRowsAt (w : World) (v : Value) (rows : List CRow) : Prop :=
  ∃ ga cap, ∃ F G : Nat → Value, v = .slice ga rows.length cap ∧ rows.length ≤ cap ∧ cap ≤ maxLen ∧ ∀ j, (h : j < rows.length) → ∃ g o, ga = some ⟨g, o, none⟩ ∧ w.cell? ⟨g, o + j * 2, none⟩ = some (F j) ∧ w.cell? ⟨g, o + j * 2 + 1, none⟩ = some (G j) ∧ IntsAt w (F j) rows[j].pre ∧ RowsAt w (G j) rows[j].maps
theorem CRowsAt.below {w w' : World} {v : Value} {rows : List CRow} (h : CRowsAt w v rows) (hb : Below w.heap.size w w') : CRowsAt w' v rows := by
  obtain ⟨ga, cap, F, G, e, h1, h2, h3⟩ := h
  refine ⟨ga, cap, F, G, e, h1, h2, fun j hj => ?_⟩
  obtain ⟨g, o, e1, c1, c2, i1, i2⟩ := h3 j hj
  exact ⟨g, o, e1, zbI hb c1, zbI hb c2, i1.below hb, i2.below hb⟩
def CascAt (w : World) (v : Value) (c : Casc) : Prop :=
  ∃ s r, v = .agg #[.int .i64 c.letters, s, r] ∧ IntsAt w s c.sizes ∧ CRowsAt w r c.rows
theorem CascAt.below {w w' : World} {v : Value} {c : Casc} (h : CascAt w v c) (hb : Below w.heap.size w w') : CascAt w' v c := by
  obtain ⟨s, r, e, h1, h2⟩ := h
  exact ⟨s, r, e, h1.below hb, h2.below hb⟩
end Go.Proofs.Ytbnnipkanechoaa
end
section
namespace Go.Proofs.Ytbnnipkanechoaa
open Go
noncomputable section
set_option maxRecDepth 100000
set_option maxHeartbeats 1000000
structure Tape where
  l : List Int
  at_ : Int
deriving Inhabited
structure DFA where
  letters : Int
  start : Int
  final : List Bool
  next : List (List Int)
deriving Inhabited
def z8S (a0 : Int) (a1 : Int) : Option (Int) :=
  if a1 < 1 then
    some 0
  else
    chk (¬ a1 = 0) <|
    if (Int.tmod a0 a1) < 0 then
      some (IntKind.i64.wrap ((Int.tmod a0 a1) + a1))
    else
      some (Int.tmod a0 a1)
theorem zdn {a0 : Int} {a1 : Int} {r : Int} (h0 : z8S a0 a1 = some r) : L 21 [.sc (.int .i64 a0), .sc (.int .i64 a1)] = some (.sc (.int .i64 r), [.dead, .dead]) := by
  simp only [z8S] at h0
  refine z3M zu9 zvg (z1B zwF ⟨of_decide_eq_true rfl, of_decide_eq_true rfl⟩ ?_)
  simp only [z1M, z1G, z1E, z1Q, z3Q]
  refine zq rfl (zr rfl rfl rfl (by simp; rfl) ?_)
  refine z0a (zq rfl (zq rfl (zr rfl rfl rfl (by simp; rfl) ?_)))
  refine z0a ?_
  by_cases c4 : a1 < 1
  ·rw [if_pos c4] at h0
   refine z0v rfl (by simp [c4]) (zq rfl (zr rfl rfl rfl (by simp; rfl) ?_))
   refine z0a (z1o rfl (z0e ?_))
   cases h0
   simp
  ·rw [if_neg c4] at h0
   refine z0t rfl (by simp [c4]) (z0g rfl (z0a (zq rfl ?_)))
   obtain ⟨f5, h1⟩ := z1N h0
   refine zr rfl rfl rfl (by simp [f5]; rfl) ?_
   refine z0a (zq rfl (zq rfl (zr rfl rfl rfl (by simp; rfl) ?_)))
   refine z0a ?_
   by_cases c6 : (Int.tmod a0 a1) < 0
   ·rw [if_pos c6] at h1
    refine z0v rfl (by simp [c6]) (zr rfl rfl rfl (by simp; rfl) ?_)
    refine z0a (zq rfl (zr rfl rfl rfl (by simp; rfl) ?_))
    refine z0a (z1o rfl ?_)
    cases h1
    simp
   ·rw [if_neg c6] at h1
    refine z0t rfl (by simp [c6]) (z0g rfl (z0a (zq rfl (zr rfl rfl rfl (by simp; rfl) ?_))))
    refine z0a (z1o rfl ?_)
    cases h1
    simp
def z1x (a0 : Tape) (a1 : Int) : Option (Int × Tape) :=
  if (a0.l.length : Int) ≤ a0.at_ then
    some (0, a0)
  else
    (atI a0.l (IntKind.i64.wrap ((IntKind.i64.wrap (a0.at_ + 1)) - 1))).bind fun v3 =>
    (z8S v3 a1).bind fun v4 =>
    some (v4, (⟨a0.l, IntKind.i64.wrap (a0.at_ + 1)⟩ : Tape))
theorem z1v {a0 : Tape} {a1 : Int} {r : Int × Tape} (h0 : z1x a0 a1 = some r) : L 30 [.vr [.sl a0.l.length (a0.l.map fun x0 => .sc (.int .i64 x0)), .sc (.int .i64 a0.at_)], .sc (.int .i64 a1)] = some (.sc (.int .i64 r.1), [.vr [.sl r.2.l.length (r.2.l.map fun x0 => .sc (.int .i64 x0)), .sc (.int .i64 r.2.at_)], .dead]) := by
  simp only [z1x] at h0
  refine z3M zu8 zvf (z1B zwE ⟨of_decide_eq_true rfl, of_decide_eq_true rfl⟩ ?_)
  simp only [z1M, z1G, z1E, z1Q, z3Q]
  refine zq rfl (zr rfl rfl rfl (by simp; rfl) ?_)
  refine z0a (zq rfl (zq rfl ?_))
  refine z1g rfl rfl rfl rfl ?_; repeat' ((first | refine z0p rfl rfl fun Q' hQ => ?_ | refine z0m rfl fun Q' hQ => ?_); simp; refine hQ.out _ ?_; clear hQ; clear Q')
  refine z0a ?_
  by_cases c4 : (a0.l.length : Int) ≤ a0.at_
  ·rw [if_pos c4] at h0
   refine z0v rfl (by simp [c4]) (zq rfl (zr rfl rfl rfl (by simp; rfl) ?_))
   refine z0a (z1o rfl (z0e ?_))
   cases h0
   simp
  ·rw [if_neg c4] at h0
   refine z0t rfl (by simp [c4]) (z0g rfl (z0a (zq rfl (zr rfl rfl rfl (by simp; rfl) ?_))))
   refine z0a (zq rfl ?_)
   obtain ⟨v3, f5, h1⟩ := z1e h0
   obtain ⟨v4, f6, h2⟩ := z0c h1
   have f6k := zdn f6
   try simp at f6k
   refine z1g rfl rfl rfl rfl ?_; repeat' ((first | refine z0p rfl rfl fun Q' hQ => ?_ | refine z0m rfl fun Q' hQ => ?_); simp [f5, f6k]; refine hQ.out _ ?_; clear hQ; clear Q')
   refine z0a (z1o rfl ?_)
   cases h2
   simp
def z7B (a0 : List Int) : Option (Tape) :=
  if 80 < (a0.length : Int) then
    (z7g a0 0 80).bind fun v2 =>
    some (⟨v2, 0⟩ : Tape)
  else
    some (⟨a0, 0⟩ : Tape)
theorem z9K {a0 : List Int} {r : Tape} (h0 : z7B a0 = some r) : L 11 [.sl a0.length (a0.map fun x0 => .sc (.int .i64 x0))] = some (.vr [.sl r.l.length (r.l.map fun x0 => .sc (.int .i64 x0)), .sc (.int .i64 r.at_)], [.dead]) := by
  simp only [z7B] at h0
  refine z3M zug zvn (z1B zwM ⟨of_decide_eq_true rfl, of_decide_eq_true rfl⟩ ?_)
  simp only [z1M, z1G, z1E, z1Q, z3Q]
  refine zq rfl (zr rfl rfl rfl (by simp; rfl) ?_)
  refine z0a (zq rfl (zq rfl (zr rfl rfl rfl (by simp; rfl) ?_)))
  refine z0a ?_
  by_cases c3 : 80 < (a0.length : Int)
  ·rw [if_pos c3] at h0
   refine z0v rfl (by simp [c3]) ?_
   obtain ⟨v2, f4, h1⟩ := z0c h0
   obtain ⟨f4a, f4b, f4c, -⟩ := z6x f4
   obtain ⟨f4d, f4g⟩ := zc1 f4a f4b
   have f4e := zby (g := fun x : Int => (.sc (.int .i64 x) : T)) f4
   try simp at f4e
   have f4f := zbx f4
   try simp only [Int.reduceToNat, Int.toNat_natCast, Nat.sub_zero] at f4f
   refine zr rfl rfl rfl (by simp [f4a, f4b, f4c, f4d, f4g, f4e, f4f]; rfl) ?_
   refine z0a (zq rfl (zr rfl rfl rfl (by simp; rfl) ?_))
   refine z0a (z1o rfl ?_)
   cases h1
   simp
  ·rw [if_neg c3] at h0
   refine z0t rfl (by simp [c3]) (z0g rfl (z0a (zq rfl (zr rfl rfl rfl (by simp; rfl) ?_))))
   refine z0a (z1o rfl ?_)
   cases h0
   simp
def z4y (a1 : Int) : Int × List Int × Int × List Int → Option ((Int × List Int × Int × List Int) ⊕ (ByteArray × Tape))
  | (w11, w12, w13, w14) =>
  if 0 < w11 then
    (z1x (⟨w12, w13⟩ : Tape) a1).bind fun v16 =>
    chk (z3O 1 (w14.length + 1)) <|
    z0Z (IntKind.i64.wrap (w11 - 1), v16.2.l, v16.2.at_, w14 ++ [IntKind.u8.wrap (IntKind.i64.wrap (97 + v16.1))])
  else
    z0Y <|
    some (z9Q w14, (⟨w12, w13⟩ : Tape))
def z4x (a1 : Int) : Int × List Int × Int × List Int → Fr
  | (w11, w12, w13, w14) => ⟨27, [(0, .one (.a 0 [] (0))), (1, .one (.t none (.sc (.int .i64 a1)))), (7, .one (.h 7 [])), (8, .one (.t none (.sc (.int .i64 w11)))), (1027, .one (.a 0 [] (0)))], [(0, .vr [.sl w12.length (w12.map fun x0 => .sc (.int .i64 x0)), .sc (.int .i64 w13)]), (7, .os 1 w14.length (w14.map fun x0 => .sc (.int .u8 x0)))]⟩
def z4K (a0 : Tape) (a1 : Int) (a2 : Int) : Option (ByteArray × Tape) :=
  (z1x a0 (IntKind.i64.wrap (a2 + 1))).bind fun v9 =>
  z1q (z4y a1) LFm (v9.1, v9.2.l, v9.2.at_, [])
theorem zbA {a0 : Tape} {a1 : Int} {a2 : Int} {r : ByteArray × Tape} (h0 : z4K a0 a1 a2 = some r) : L 20 [.vr [.sl a0.l.length (a0.l.map fun x0 => .sc (.int .i64 x0)), .sc (.int .i64 a0.at_)], .sc (.int .i64 a1), .sc (.int .i64 a2)] = some (.sc (.string r.1), [.vr [.sl r.2.l.length (r.2.l.map fun x0 => .sc (.int .i64 x0)), .sc (.int .i64 r.2.at_)], .dead, .dead]) := by
  simp only [z4K] at h0
  refine z3M zua zvh (z1B zwG ⟨of_decide_eq_true rfl, of_decide_eq_true rfl⟩ ?_)
  simp only [z1M, z1G, z1E, z1Q, z3Q]
  refine zq rfl (zr rfl rfl rfl (by simp; rfl) ?_)
  refine z0a (zq rfl (zr rfl rfl rfl (by simp; rfl) ?_))
  refine z0a (zq rfl (zq rfl ?_))
  obtain ⟨v9, f10, h1⟩ := z0c h0
  have f10k := z1v f10
  try simp at f10k
  refine zr rfl rfl rfl (by simp [f10k]; rfl) ?_
  refine z0a (zb rfl (z0X h1 (z4x a1) rfl rfl (by simp [z4x]) fun s o1 h2 hr1 => ?_))
  obtain ⟨w11, w12, w13, w14⟩ := s
  simp only [z4y] at h2
  simp only [z4x]
  refine zq rfl (zq rfl (zr rfl rfl rfl (by simp; rfl) ?_))
  refine z0a ?_
  by_cases c16 : 0 < w11
  ·rw [if_pos c16] at h2
   refine z0v rfl (by simp [c16]) (z0g rfl (z0a (zq rfl (zb rfl ?_))))
   obtain ⟨v16, f17, h3⟩ := z0c h2
   have f17k := z1v f17
   try simp at f17k
   obtain ⟨f18, h4⟩ := zp9 h3
   refine zr rfl rfl rfl (by simp [f17k, f18]; rfl) ?_
   refine z0l (z0a (zr rfl rfl rfl (by simp; rfl) ?_))
   have ho := z0d h4
   refine z0i ho ?_
   simp [z4x]
  ·rw [if_neg c16] at h2
   refine z0t rfl (by simp [c16]) (z1t rfl (z0T ?_))
   obtain ⟨rr1, h3, ho1⟩ := z0b h2
   have hs1 := hr1 _ ho1
   subst hs1
   refine z0y ho1 (z0f rfl (z0a (zq rfl (zr rfl rfl rfl (by simp; rfl) ?_))))
   refine z0a (z1o rfl ?_)
   cases h3
   simp
def z2D (a0 : Tape) : Option (Int × Tape) :=
  (z1x a0 8).bind fun v2 =>
  some (IntKind.i64.wrap (2 - (zrD .i64 v2.1 7)), v2.2)
theorem z4F {a0 : Tape} {r : Int × Tape} (h0 : z2D a0 = some r) : L 13 [.vr [.sl a0.l.length (a0.l.map fun x0 => .sc (.int .i64 x0)), .sc (.int .i64 a0.at_)]] = some (.sc (.int .i64 r.1), [.vr [.sl r.2.l.length (r.2.l.map fun x0 => .sc (.int .i64 x0)), .sc (.int .i64 r.2.at_)]]) := by
  simp only [z2D] at h0
  refine z3M zue zvl (z1B zwK ⟨of_decide_eq_true rfl, of_decide_eq_true rfl⟩ ?_)
  simp only [z1M, z1G, z1E, z1Q, z3Q]
  refine zq rfl (zr rfl rfl rfl (by simp; rfl) ?_)
  refine z0a (zq rfl ?_)
  obtain ⟨v2, f2, h1⟩ := z0c h0
  have f2k := z1v f2
  try simp at f2k
  refine zr rfl rfl rfl (by simp [f2k]; rfl) ?_
  refine z0a (z1o rfl ?_)
  cases h1
  simp
def z4A (a1 : Int) (v32 : Int × Tape) (w42 : Int) (w45 : List Bool) (w46 : List (List Int)) (v55 : Int × Tape) : Int × List Int × Int × List Int → Option ((Int × List Int × Int × List Int) ⊕ ((Int × List Int × Int × List Bool × List (List Int)) ⊕ (DFA × Tape)))
  | (w57, w58, w59, w60) =>
  if w57 < a1 then
    (z1x (⟨w58, w59⟩ : Tape) (IntKind.i64.wrap (1 + v32.1))).bind fun v62 =>
    chk (z3O 8 (w60.length + 1)) <|
    z0Z (IntKind.i64.wrap (w57 + 1), v62.2.l, v62.2.at_, w60 ++ [v62.1])
  else
    z0Y <|
    chk (z3O 24 (w46.length + 1)) <|
    z0Z (IntKind.i64.wrap (w42 + 1), w58, w59, w45 ++ [decide (v55.1 = 1)], w46 ++ [w60])
def z4z (a1 : Int) (v32 : Int × Tape) (v33 : Int × Tape) (w42 : Int) (w45 : List Bool) (w46 : List (List Int)) (v55 : Int × Tape) : Int × List Int × Int × List Int → Fr
  | (w57, w58, w59, w60) => ⟨53, [(0, .one (.a 0 [] (0))), (1, .one (.t none (.sc (.int .i64 a1)))), (6, .one (.a 6 [] (0))), (7, .one (.a 7 [] (0))), (8, .one (.t none (.sc (.int .i64 (IntKind.i64.wrap (1 + v32.1)))))), (9, .one (.t none (.sc (.int .i64 w42)))), (10, .one (.h 10 [])), (11, .one (.t none (.sc (.int .i64 w57)))), (1053, .one (.a 0 [] (0)))], [(0, .vr [.sl w58.length (w58.map fun x0 => .sc (.int .i64 x0)), .sc (.int .i64 w59)]), (6, .vr [.sc (.int .i64 0), .sc (.int .i64 0), .os 1 0 [], .os 1 0 []]), (7, .vr [.sc (.int .i64 a1), .sc (.int .i64 v33.1), .os 1 (w45 ++ [decide (v55.1 = 1)]).length ((w45 ++ [decide (v55.1 = 1)]).map fun x0 => .sc (.bool x0)), .os 1 w46.length (w46.map fun x0 => .os 1 x0.length (x0.map fun x1 => .sc (.int .i64 x1)))]), (10, .os 1 w60.length (w60.map fun x0 => .sc (.int .i64 x0)))]⟩
def z4R (a1 : Int) (v32 : Int × Tape) (v33 : Int × Tape) : Int × List Int × Int × List Bool × List (List Int) → Option ((Int × List Int × Int × List Bool × List (List Int)) ⊕ (DFA × Tape))
  | (w42, w43, w44, w45, w46) =>
  if w42 < (IntKind.i64.wrap (1 + v32.1)) then
    (z1x (⟨w43, w44⟩ : Tape) 2).bind fun v55 =>
    chk (z3O 1 (w45.length + 1)) <|
    z1q (z4A a1 v32 w42 w45 w46 v55) LFm (0, v55.2.l, v55.2.at_, [])
  else
    z0Y <|
    some ((⟨a1, v33.1, w45, w46⟩ : DFA), (⟨w43, w44⟩ : Tape))
def z4Q (a1 : Int) (v32 : Int × Tape) (v33 : Int × Tape) : Int × List Int × Int × List Bool × List (List Int) → Fr
  | (w42, w43, w44, w45, w46) => ⟨53, [(0, .one (.a 0 [] (0))), (1, .one (.t none (.sc (.int .i64 a1)))), (6, .one (.a 6 [] (0))), (7, .one (.a 7 [] (0))), (8, .one (.t none (.sc (.int .i64 (IntKind.i64.wrap (1 + v32.1)))))), (9, .one (.t none (.sc (.int .i64 w42)))), (1053, .one (.a 0 [] (0)))], [(0, .vr [.sl w43.length (w43.map fun x0 => .sc (.int .i64 x0)), .sc (.int .i64 w44)]), (6, .vr [.sc (.int .i64 0), .sc (.int .i64 0), .os 1 0 [], .os 1 0 []]), (7, .vr [.sc (.int .i64 a1), .sc (.int .i64 v33.1), .os 1 w45.length (w45.map fun x0 => .sc (.bool x0)), .os 1 w46.length (w46.map fun x0 => .os 1 x0.length (x0.map fun x1 => .sc (.int .i64 x1)))])]⟩
def z4B (a0 : Tape) (a1 : Int) (a2 : Int) : Option (DFA × Tape) :=
  (z1x a0 a2).bind fun v32 =>
  (z1x v32.2 (IntKind.i64.wrap (1 + v32.1))).bind fun v33 =>
  z1q (z4R a1 v32 v33) LFm (0, v33.2.l, v33.2.at_, [], [])
theorem z7G {a0 : Tape} {a1 : Int} {a2 : Int} {r : DFA × Tape} (h0 : z4B a0 a1 a2 = some r) : L 34 [.vr [.sl a0.l.length (a0.l.map fun x0 => .sc (.int .i64 x0)), .sc (.int .i64 a0.at_)], .sc (.int .i64 a1), .sc (.int .i64 a2)] = some (.agg [.sc (.int .i64 r.1.letters), .sc (.int .i64 r.1.start), .os 1 r.1.final.length (r.1.final.map fun x0 => .sc (.bool x0)), .os 1 r.1.next.length (r.1.next.map fun x0 => .os 1 x0.length (x0.map fun x1 => .sc (.int .i64 x1)))], [.vr [.sl r.2.l.length (r.2.l.map fun x0 => .sc (.int .i64 x0)), .sc (.int .i64 r.2.at_)], .dead, .dead]) := by
  simp only [z4B] at h0
  refine z3M zu4 zvc (z1B zwB ⟨of_decide_eq_true rfl, of_decide_eq_true rfl⟩ ?_)
  simp only [z1M, z1G, z1E, z1Q, z3Q]
  refine zq rfl (zr rfl rfl rfl (by simp; rfl) ?_)
  refine z0a (zq rfl (zr rfl rfl rfl (by simp; rfl) ?_))
  refine z0a (zq rfl ?_)
  obtain ⟨v32, f37, h1⟩ := z0c h0
  have f37k := z1v f37
  try simp at f37k
  refine zr rfl rfl rfl (by simp [f37k]; rfl) ?_
  refine z0a (zq rfl ?_)
  obtain ⟨v33, f38, h2⟩ := z0c h1
  have f38k := z1v f38
  try simp at f38k
  refine zr rfl rfl rfl (by simp [f38k]; rfl) ?_
  refine z0a (zq rfl (zq rfl (zr rfl rfl rfl (by simp; rfl) ?_)))
  refine z0a (zb rfl (z0X h2 (z4Q a1 v32 v33) rfl rfl (by simp [z4Q]) fun s o1 h3 hr1 => ?_))
  obtain ⟨w42, w43, w44, w45, w46⟩ := s
  simp only [z4R] at h3
  simp only [z4Q]
  refine zq rfl (zq rfl (zr rfl rfl rfl (by simp; rfl) ?_))
  refine z0a ?_
  by_cases c61 : w42 < (IntKind.i64.wrap (1 + v32.1))
  ·rw [if_pos c61] at h3
   refine z0v rfl (by simp [c61]) (z0g rfl (z0a (zq rfl (zb rfl (zq rfl ?_)))))
   obtain ⟨v55, f62, h4⟩ := z0c h3
   have f62k := z1v f62
   try simp at f62k
   obtain ⟨f63, h5⟩ := zp9 h4
   refine z1g rfl rfl rfl rfl ?_; repeat' ((first | refine z0p rfl rfl fun Q' hQ => ?_ | refine z0m rfl fun Q' hQ => ?_); simp [f62k, f63]; refine hQ.out _ ?_; clear hQ; clear Q')
   refine z0a (zq rfl (zr rfl rfl rfl (by simp; rfl) ?_))
   refine z0a (zq rfl (zq rfl (zr rfl rfl rfl (by simp; rfl) ?_)))
   refine z0a (zb rfl (z0X h5 (z4z a1 v32 v33 w42 w45 w46 v55) rfl rfl (by simp [z4z]) fun s o2 h6 hr2 => ?_))
   obtain ⟨w57, w58, w59, w60⟩ := s
   simp only [z4A] at h6
   simp only [z4z]
   refine zq rfl (zq rfl (zr rfl rfl rfl (by simp; rfl) ?_))
   refine z0a ?_
   by_cases c69 : w57 < a1
   ·rw [if_pos c69] at h6
    refine z0v rfl (by simp [c69]) (z0g rfl (z0a (zq rfl (zb rfl ?_))))
    obtain ⟨v62, f70, h7⟩ := z0c h6
    have f70k := z1v f70
    try simp at f70k
    obtain ⟨f71, h8⟩ := z9d h7
    refine zr rfl rfl rfl (by simp [f70k, f71]; rfl) ?_
    refine z0l (z0a (zr rfl rfl rfl (by simp; rfl) ?_))
    have ho := z0d h8
    refine z0i ho ?_
    simp [z4z]
   ·rw [if_neg c69] at h6
    refine z0t rfl (by simp [c69]) (z1t rfl (z0T ?_))
    obtain ⟨rr2, h7, ho2⟩ := z0b h6
    have hs2 := hr2 _ ho2
    subst hs2
    refine z0y ho2 (z0f rfl (z0a ?_))
    obtain ⟨f72, h8⟩ := z9d h7
    refine zr rfl rfl rfl (by simp [f72]; rfl) ?_
    refine z0l (z0a (zr rfl rfl rfl (by simp; rfl) ?_))
    have ho := z0d h8
    refine z0i ho ?_
    simp [z4Q]
  ·rw [if_neg c61] at h3
   refine z0t rfl (by simp [c61]) (z1t rfl (z0T ?_))
   obtain ⟨rr1, h4, ho1⟩ := z0b h3
   have hs1 := hr1 _ ho1
   subst hs1
   refine z0y ho1 (z0f rfl (z0a (zq rfl (zr rfl rfl rfl (by simp; rfl) ?_))))
   refine z0a (z1o rfl ?_)
   cases h4
   simp
def z3T (w61 : Int) (v77 : List Int) : Int × List (List Int) → Option ((Int × List (List Int)) ⊕ ((Int × List (List Int)) ⊕ (DFA × Tape)))
  | (w81, w82) =>
  (atI w82 w61).bind fun v87 =>
  if w81 < (v77.length : Int) then
    (atI v87 w81).bind fun v88 =>
    z0Z (IntKind.i64.wrap (w81 + 1), (w82.set w61.toNat (v87.set w81.toNat (if w61 < v88 then v88 else w61))))
  else
    z0Y <|
    z0Z (IntKind.i64.wrap (w61 + 1), w82)
def z3R (v46 : DFA × Tape) (w61 : Int) (v77 : List Int) : Int × List (List Int) → Fr
  | (w81, w82) => ⟨46, [(6, .one (.a 6 [] (0))), (7, .one (.a 7 [] (0))), (8, .one (.t none (.sc (.int .i64 w61)))), (17, .one (.t none (.sc (.int .i64 (v46.1.next.length : Int))))), (18, .one (.t none (.sc (.int .i64 w61)))), (25, .one (.h 7 [3, w61.toNat])), (26, .one (.t none (.sc (.int .i64 (v77.length : Int))))), (27, .one (.t none (.sc (.int .i64 w81)))), (1046, .one (.a 0 [] (0)))], [(6, .vr [.sc (.int .i64 0), .sc (.int .i64 0), .os 1 0 [], .os 1 0 []]), (7, .vr [.sc (.int .i64 v46.1.letters), .sc (.int .i64 v46.1.start), .os 1 v46.1.final.length (v46.1.final.map fun x0 => .sc (.bool x0)), .os 1 w82.length (w82.map fun x0 => .os 1 x0.length (x0.map fun x1 => .sc (.int .i64 x1)))]), (0, .vr [.sl v46.2.l.length (v46.2.l.map fun x0 => .sc (.int .i64 x0)), .sc (.int .i64 v46.2.at_)])]⟩
def z3U (v46 : DFA × Tape) : Int × List (List Int) → Option ((Int × List (List Int)) ⊕ (DFA × Tape))
  | (w61, w62) =>
  if w61 < (v46.1.next.length : Int) then
    (atI w62 w61).bind fun v77 =>
    z1q (z3T w61 v77) LFm (0, w62)
  else
    z0Y <|
    some ((⟨v46.1.letters, 0, v46.1.final, w62⟩ : DFA), v46.2)
def z3S (v46 : DFA × Tape) : Int × List (List Int) → Fr
  | (w61, w62) => ⟨46, [(6, .one (.a 6 [] (0))), (7, .one (.a 7 [] (0))), (17, .one (.t none (.sc (.int .i64 (v46.1.next.length : Int))))), (18, .one (.t none (.sc (.int .i64 w61)))), (1046, .one (.a 0 [] (0)))], [(6, .vr [.sc (.int .i64 0), .sc (.int .i64 0), .os 1 0 [], .os 1 0 []]), (7, .vr [.sc (.int .i64 v46.1.letters), .sc (.int .i64 v46.1.start), .os 1 v46.1.final.length (v46.1.final.map fun x0 => .sc (.bool x0)), .os 1 w62.length (w62.map fun x0 => .os 1 x0.length (x0.map fun x1 => .sc (.int .i64 x1)))]), (0, .vr [.sl v46.2.l.length (v46.2.l.map fun x0 => .sc (.int .i64 x0)), .sc (.int .i64 v46.2.at_)])]⟩
def z4b (a0 : Tape) (a1 : Int) (a2 : Int) : Option (DFA × Tape) :=
  (z4B a0 a1 a2).bind fun v46 =>
  z1q (z3U v46) LFm (0, v46.1.next)
theorem z8Y {a0 : Tape} {a1 : Int} {a2 : Int} {r : DFA × Tape} (h0 : z4b a0 a1 a2 = some r) : L 31 [.vr [.sl a0.l.length (a0.l.map fun x0 => .sc (.int .i64 x0)), .sc (.int .i64 a0.at_)], .sc (.int .i64 a1), .sc (.int .i64 a2)] = some (.agg [.sc (.int .i64 r.1.letters), .sc (.int .i64 r.1.start), .os 1 r.1.final.length (r.1.final.map fun x0 => .sc (.bool x0)), .os 1 r.1.next.length (r.1.next.map fun x0 => .os 1 x0.length (x0.map fun x1 => .sc (.int .i64 x1)))], [.vr [.sl r.2.l.length (r.2.l.map fun x0 => .sc (.int .i64 x0)), .sc (.int .i64 r.2.at_)], .dead, .dead]) := by
  simp only [z4b] at h0
  refine z3M zu7 zve (z1B zwD ⟨of_decide_eq_true rfl, of_decide_eq_true rfl⟩ ?_)
  simp only [z1M, z1G, z1E, z1Q, z3Q]
  refine zq rfl (zr rfl rfl rfl (by simp; rfl) ?_)
  refine z0a (zq rfl ?_)
  obtain ⟨v46, f38, h1⟩ := z0c h0
  have f38k := z7G f38
  try simp at f38k
  refine zr rfl rfl rfl (by simp [f38k]; rfl) ?_
  refine z0a (zq rfl (zq rfl (zr rfl rfl rfl (by simp; rfl) ?_)))
  refine z0a (zb rfl (z0X h1 (z3S v46) rfl rfl (by simp [z3S]) fun s o1 h2 hr1 => ?_))
  obtain ⟨w61, w62⟩ := s
  simp only [z3U] at h2
  simp only [z3S]
  refine zq rfl (zr rfl rfl rfl (by simp; rfl) ?_)
  refine z0a (zq rfl ?_)
  by_cases c63 : w61 < (v46.1.next.length : Int)
  ·rw [if_pos c63] at h2
   refine z0v rfl (by simp [c63]) (z0g rfl (z0a (zq rfl (zb rfl (zq rfl (zr rfl rfl rfl (by simp; rfl) ?_))))))
   refine z0a (zq rfl ?_)
   obtain ⟨v77, f64, h3⟩ := z1e h2
   refine zr rfl rfl rfl (by simp [f64]; rfl) ?_
   refine z0a (zb rfl (z0X h3 (z3R v46 w61 v77) rfl rfl (by simp [z3R]) fun s o2 h4 hr2 => ?_))
   obtain ⟨w81, w82⟩ := s
   simp only [z3T] at h4
   simp only [z3R]
   obtain ⟨v87, f72, h5⟩ := z1e h4
   refine zq rfl (zr rfl rfl rfl (by simp [f72]; rfl) ?_)
   refine z0a (zq rfl ?_)
   by_cases c73 : w81 < (v77.length : Int)
   ·rw [if_pos c73] at h5
    refine z0v rfl (by simp [c73]) (z0g rfl (z0a (zq rfl (zb rfl (zq rfl ?_)))))
    obtain ⟨v88, f74, h6⟩ := z1e h5
    refine zr rfl rfl rfl (by simp [f72, f74]; rfl) ?_
    refine z0a (zr rfl rfl rfl (by simp [f72, f74]; rfl) ?_)
    refine z0l (z0a (zr rfl rfl rfl (by simp [f72]; rfl) ?_))
    have ho := z0d h6
    refine z0i ho ?_
    simp [z3R]
   ·rw [if_neg c73] at h5
    refine z0t rfl (by simp [c73]) (z1t rfl (z0T ?_))
    obtain ⟨rr2, h6, ho2⟩ := z0b h5
    have hs2 := hr2 _ ho2
    subst hs2
    refine z0y ho2 (z0f rfl (z0l (z0a (zr rfl rfl rfl (by simp [f72]; rfl) ?_))))
    have ho := z0d h6
    refine z0i ho ?_
    simp [z3S]
  ·rw [if_neg c63] at h2
   refine z0t rfl (by simp [c63]) (z1t rfl (z0T ?_))
   obtain ⟨rr1, h3, ho1⟩ := z0b h2
   have hs1 := hr1 _ ho1
   subst hs1
   refine z0y ho1 (z0f rfl (z0a (zq rfl (zr rfl rfl rfl (by simp; rfl) ?_))))
   refine z0a (zq rfl (zr rfl rfl rfl (by simp; rfl) ?_))
   refine z0a (z1o rfl ?_)
   cases h3
   simp
def z2u (v90 : Int × Tape) (w125 : Int) : Int × List Int × Int × List (List Int) × List Int → Option ((Int × List Int × Int × List (List Int) × List Int) ⊕ ((Int × List Int × Int × List (List Int)) ⊕ (DFA × Tape)))
  | (w162, w163, w164, w165, w166) =>
  if w162 < (IntKind.i64.wrap (1 + v90.1)) then
    (z1x (⟨w163, w164⟩ : Tape) (w166.length : Int)).bind fun v173 =>
    (atI w165 w162).bind fun v174 =>
    (atI w166 v173.1).bind fun v175 =>
    (atI v174 w125).bind fun v176 =>
    (z7g w166 0 v173.1).bind fun v177 =>
    (z7g w166 (IntKind.i64.wrap (v173.1 + 1)) (w166.length : Int)).bind fun v178 =>
    chk (z3O 8 (v177.length)) <|
    chk (z3O 8 (v177.length + v178.length)) <|
    z0Z (IntKind.i64.wrap (w162 + 1), v173.2.l, v173.2.at_, (w165.set w162.toNat (v174.set w125.toNat v175)), v177 ++ v178)
  else
    z0Y <|
    z0Z (IntKind.i64.wrap (w125 + 1), w163, w164, w165)
def z2s (a1 : Int) (v90 : Int × Tape) (v91 : Int × Tape) (w96 : List Bool) (w125 : Int) : Int × List Int × Int × List (List Int) × List Int → Fr
  | (w162, w163, w164, w165, w166) => ⟨90, [(0, .one (.a 0 [] (0))), (1, .one (.t none (.sc (.int .i64 a1)))), (6, .one (.a 6 [] (0))), (7, .one (.a 7 [] (0))), (8, .one (.t none (.sc (.int .i64 (IntKind.i64.wrap (1 + v90.1)))))), (10, .one (.t none (.sc (.int .i64 w125)))), (11, .one (.h 11 [])), (13, .one (.t none (.sc (.int .i64 w162)))), (1090, .one (.a 0 [] (0)))], [(0, .vr [.sl w163.length (w163.map fun x0 => .sc (.int .i64 x0)), .sc (.int .i64 w164)]), (6, .vr [.sc (.int .i64 0), .sc (.int .i64 0), .os 1 0 [], .os 1 0 []]), (7, .vr [.sc (.int .i64 a1), .sc (.int .i64 v91.1), .os 1 w96.length (w96.map fun x0 => .sc (.bool x0)), .os 1 w165.length (w165.map fun x0 => .os 1 x0.length (x0.map fun x1 => .sc (.int .i64 x1)))]), (11, .os 1 w166.length (w166.map fun x0 => .sc (.int .i64 x0)))]⟩
def z2v (v90 : Int × Tape) (w125 : Int) (w126 : List Int) (w127 : Int) (w128 : List (List Int)) : Int × List Int → Option ((Int × List Int) ⊕ ((Int × List Int × Int × List (List Int)) ⊕ (DFA × Tape)))
  | (w154, w155) =>
  if w154 < (IntKind.i64.wrap (1 + v90.1)) then
    chk (z3O 8 (w155.length + 1)) <|
    z0Z (IntKind.i64.wrap (w154 + 1), w155 ++ [w154])
  else
    z0Y <|
    z1q (z2u v90 w125) LFm (0, w126, w127, w128, w155)
def z2t (a1 : Int) (v90 : Int × Tape) (v91 : Int × Tape) (w96 : List Bool) (w125 : Int) (w126 : List Int) (w127 : Int) (w128 : List (List Int)) : Int × List Int → Fr
  | (w154, w155) => ⟨90, [(0, .one (.a 0 [] (0))), (1, .one (.t none (.sc (.int .i64 a1)))), (6, .one (.a 6 [] (0))), (7, .one (.a 7 [] (0))), (8, .one (.t none (.sc (.int .i64 (IntKind.i64.wrap (1 + v90.1)))))), (10, .one (.t none (.sc (.int .i64 w125)))), (11, .one (.h 11 [])), (12, .one (.t none (.sc (.int .i64 w154)))), (1090, .one (.a 0 [] (0)))], [(0, .vr [.sl w126.length (w126.map fun x0 => .sc (.int .i64 x0)), .sc (.int .i64 w127)]), (6, .vr [.sc (.int .i64 0), .sc (.int .i64 0), .os 1 0 [], .os 1 0 []]), (7, .vr [.sc (.int .i64 a1), .sc (.int .i64 v91.1), .os 1 w96.length (w96.map fun x0 => .sc (.bool x0)), .os 1 w128.length (w128.map fun x0 => .os 1 x0.length (x0.map fun x1 => .sc (.int .i64 x1)))]), (11, .os 1 w155.length (w155.map fun x0 => .sc (.int .i64 x0)))]⟩
def z2K (a1 : Int) (v90 : Int × Tape) (v91 : Int × Tape) (w96 : List Bool) : Int × List Int × Int × List (List Int) → Option ((Int × List Int × Int × List (List Int)) ⊕ (DFA × Tape))
  | (w125, w126, w127, w128) =>
  if w125 < a1 then
    z1q (z2v v90 w125 w126 w127 w128) LFm (0, [])
  else
    z0Y <|
    some ((⟨a1, v91.1, w96, w128⟩ : DFA), (⟨w126, w127⟩ : Tape))
def z2I (a1 : Int) (v90 : Int × Tape) (v91 : Int × Tape) (w96 : List Bool) : Int × List Int × Int × List (List Int) → Fr
  | (w125, w126, w127, w128) => ⟨90, [(0, .one (.a 0 [] (0))), (1, .one (.t none (.sc (.int .i64 a1)))), (6, .one (.a 6 [] (0))), (7, .one (.a 7 [] (0))), (8, .one (.t none (.sc (.int .i64 (IntKind.i64.wrap (1 + v90.1)))))), (10, .one (.t none (.sc (.int .i64 w125)))), (1090, .one (.a 0 [] (0)))], [(0, .vr [.sl w126.length (w126.map fun x0 => .sc (.int .i64 x0)), .sc (.int .i64 w127)]), (6, .vr [.sc (.int .i64 0), .sc (.int .i64 0), .os 1 0 [], .os 1 0 []]), (7, .vr [.sc (.int .i64 a1), .sc (.int .i64 v91.1), .os 1 w96.length (w96.map fun x0 => .sc (.bool x0)), .os 1 w128.length (w128.map fun x0 => .os 1 x0.length (x0.map fun x1 => .sc (.int .i64 x1)))])]⟩
def z2L (a1 : Int) (v90 : Int × Tape) (v91 : Int × Tape) : Int × List Int × Int × List Bool × List (List Int) → Option ((Int × List Int × Int × List Bool × List (List Int)) ⊕ (DFA × Tape))
  | (w93, w94, w95, w96, w97) =>
  if w93 < (IntKind.i64.wrap (1 + v90.1)) then
    (z1x (⟨w94, w95⟩ : Tape) 2).bind fun v99 =>
    chk (z3O 1 (w96.length + 1)) <|
    chk (z3w 8 a1) <|
    chk (z3O 24 (w97.length + 1)) <|
    z0Z (IntKind.i64.wrap (w93 + 1), v99.2.l, v99.2.at_, w96 ++ [decide (v99.1 = 1)], w97 ++ [List.replicate a1.toNat (0 : Int)])
  else
    z0Y <|
    z1q (z2K a1 v90 v91 w96) LFm (0, w94, w95, w97)
def z2J (a1 : Int) (v90 : Int × Tape) (v91 : Int × Tape) : Int × List Int × Int × List Bool × List (List Int) → Fr
  | (w93, w94, w95, w96, w97) => ⟨90, [(0, .one (.a 0 [] (0))), (1, .one (.t none (.sc (.int .i64 a1)))), (6, .one (.a 6 [] (0))), (7, .one (.a 7 [] (0))), (8, .one (.t none (.sc (.int .i64 (IntKind.i64.wrap (1 + v90.1)))))), (9, .one (.t none (.sc (.int .i64 w93)))), (1090, .one (.a 0 [] (0)))], [(0, .vr [.sl w94.length (w94.map fun x0 => .sc (.int .i64 x0)), .sc (.int .i64 w95)]), (6, .vr [.sc (.int .i64 0), .sc (.int .i64 0), .os 1 0 [], .os 1 0 []]), (7, .vr [.sc (.int .i64 a1), .sc (.int .i64 v91.1), .os 1 w96.length (w96.map fun x0 => .sc (.bool x0)), .os 1 w97.length (w97.map fun x0 => .os 1 x0.length (x0.map fun x1 => .sc (.int .i64 x1)))])]⟩
def z2y (a0 : Tape) (a1 : Int) (a2 : Int) : Option (DFA × Tape) :=
  (z1x a0 a2).bind fun v90 =>
  (z1x v90.2 (IntKind.i64.wrap (1 + v90.1))).bind fun v91 =>
  z1q (z2L a1 v90 v91) LFm (0, v91.2.l, v91.2.at_, [], [])
theorem z6O {a0 : Tape} {a1 : Int} {a2 : Int} {r : DFA × Tape} (h0 : z2y a0 a1 a2 = some r) : L 32 [.vr [.sl a0.l.length (a0.l.map fun x0 => .sc (.int .i64 x0)), .sc (.int .i64 a0.at_)], .sc (.int .i64 a1), .sc (.int .i64 a2)] = some (.agg [.sc (.int .i64 r.1.letters), .sc (.int .i64 r.1.start), .os 1 r.1.final.length (r.1.final.map fun x0 => .sc (.bool x0)), .os 1 r.1.next.length (r.1.next.map fun x0 => .os 1 x0.length (x0.map fun x1 => .sc (.int .i64 x1)))], [.vr [.sl r.2.l.length (r.2.l.map fun x0 => .sc (.int .i64 x0)), .sc (.int .i64 r.2.at_)], .dead, .dead]) := by
  simp only [z2y] at h0
  refine z3M zu6 zup (z1B zut ⟨of_decide_eq_true rfl, of_decide_eq_true rfl⟩ ?_)
  simp only [z1M, z1G, z1E, z1Q, z3Q]
  refine zq rfl (zr rfl rfl rfl (by simp; rfl) ?_)
  refine z0a (zq rfl (zr rfl rfl rfl (by simp; rfl) ?_))
  refine z0a (zq rfl ?_)
  obtain ⟨v90, f115, h1⟩ := z0c h0
  have f115k := z1v f115
  try simp at f115k
  refine zr rfl rfl rfl (by simp [f115k]; rfl) ?_
  refine z0a (zq rfl ?_)
  obtain ⟨v91, f116, h2⟩ := z0c h1
  have f116k := z1v f116
  try simp at f116k
  refine zr rfl rfl rfl (by simp [f116k]; rfl) ?_
  refine z0a (zq rfl (zq rfl (zr rfl rfl rfl (by simp; rfl) ?_)))
  refine z0a (zb rfl (z0X h2 (z2J a1 v90 v91) rfl rfl (by simp [z2J]) fun s o1 h3 hr1 => ?_))
  obtain ⟨w93, w94, w95, w96, w97⟩ := s
  simp only [z2L] at h3
  simp only [z2J]
  refine zq rfl (zq rfl (zr rfl rfl rfl (by simp; rfl) ?_))
  refine z0a ?_
  by_cases c125 : w93 < (IntKind.i64.wrap (1 + v90.1))
  ·rw [if_pos c125] at h3
   refine z0v rfl (by simp [c125]) (z0g rfl (z0a (zq rfl (zb rfl ?_))))
   obtain ⟨v99, f126, h4⟩ := z0c h3
   have f126k := z1v f126
   try simp at f126k
   obtain ⟨f127, h5⟩ := zp9 h4
   obtain ⟨f128, h6⟩ := zog h5
   obtain ⟨f129, h7⟩ := z9d h6
   refine zn5 rfl rfl rfl rfl ?_
   refine zpn [(0, 0, 3, 1), (1, 2, 3, 2), (2, 7, 3, 3), (3, 9, 3, 4), (4, 1, 2, 5), (4, 3, 1, 6), (4, 8, 2, 7), (4, 10, 1, 8), (5, 3, 1, 9), (5, 8, 2, 10), (5, 10, 1, 11), (6, 4, 3, 12), (7, 1, 2, 10), (7, 3, 1, 13), (7, 10, 1, 15), (8, 1, 2, 11), (8, 3, 1, 14), (8, 8, 2, 15), (8, 11, 1, 16), (9, 4, 3, 17), (10, 3, 1, 18), (10, 10, 1, 20), (11, 3, 1, 19), (11, 8, 2, 20), (11, 11, 1, 21), (12, 1, 2, 17), (12, 5, 1, 22), (12, 8, 2, 23), (12, 10, 1, 24), (13, 4, 3, 23), (14, 4, 3, 24), (15, 1, 2, 20), (15, 3, 1, 25), (15, 11, 1, 27), (16, 1, 2, 21), (16, 3, 1, 26), (16, 8, 2, 27), (17, 5, 1, 28), (17, 8, 2, 29), (17, 10, 1, 30), (18, 4, 0, 29), (19, 4, 3, 30), (20, 3, 1, 31), (20, 11, 1, 33), (21, 3, 1, 32), (21, 8, 2, 33), (22, 1, 2, 28), (22, 8, 2, 34), (22, 10, 1, 35), (23, 1, 2, 29), (23, 5, 1, 34), (23, 10, 1, 36), (24, 1, 2, 30), (24, 5, 1, 35), (24, 8, 2, 36), (24, 11, 1, 37), (25, 4, 3, 36), (26, 4, 3, 37), (27, 1, 2, 33), (27, 3, 1, 38), (28, 6, 2, 39), (28, 8, 2, 40), (28, 10, 1, 41), (29, 5, 1, 40), (29, 10, 1, 42), (30, 5, 1, 41), (30, 8, 2, 42), (30, 11, 1, 43), (31, 4, 0, 42), (32, 4, 3, 43), (33, 3, 1, 44), (34, 1, 2, 40), (34, 10, 1, 45), (35, 1, 2, 41), (35, 8, 2, 45), (35, 11, 1, 46), (36, 1, 2, 42), (36, 5, 1, 45), (36, 11, 1, 47), (37, 1, 2, 43), (37, 5, 1, 46), (37, 8, 2, 47), (38, 4, 3, 47), (39, 8, 2, 48), (39, 10, 1, 49), (40, 6, 2, 48), (40, 10, 1, 50), (41, 6, 2, 49), (41, 8, 2, 50), (41, 11, 1, 51), (42, 5, 1, 50), (42, 11, 1, 52), (43, 5, 1, 51), (43, 8, 2, 52), (44, 4, 0, 52), (45, 1, 2, 50), (45, 11, 1, 53), (46, 1, 2, 51), (46, 8, 2, 53), (47, 1, 2, 52), (47, 5, 1, 53), (48, 13, 3, 55), (49, 8, 2, 54), (49, 11, 1, 56), (50, 6, 2, 54), (50, 11, 1, 57), (51, 6, 2, 56), (51, 8, 2, 57), (52, 5, 1, 57), (53, 1, 2, 57), (54, 13, 3, 59), (55, 10, 1, 59), (56, 8, 2, 58), (57, 6, 2, 58), (58, 13, 3, 60), (59, 11, 1, 60), (60, 12, 2, 61), (61, 14, 2, 62), (62, 15, 0, 63), (63, 16, 2, 64)] 64 (by kernel_rfl) ?_
   refine z0F rfl rfl rfl rfl (by simp [z0k, z0j, f126k, f127, f128, f129]; rfl) ?_
   refine z0F rfl rfl rfl rfl (by simp [z0k, z0j, f126k, f127, f128, f129]; rfl) ?_
   refine z0F rfl rfl rfl rfl (by simp [z0k, z0j, f126k, f127, f128, f129]; rfl) ?_
   refine z0F rfl rfl rfl rfl (by simp [z0k, z0j, f126k, f127, f128, f129]; rfl) ?_
   refine z0F rfl rfl rfl rfl (by simp [z0k, z0j, f126k, f127, f128, f129]; rfl) ?_
   refine z0F rfl rfl rfl rfl (by simp [z0k, z0j, f126k, f127, f128, f129]; rfl) ?_
   refine z0F rfl rfl rfl rfl (by simp [z0k, z0j, f126k, f127, f128, f129]; rfl) ?_
   refine z0F rfl rfl rfl rfl (by simp [z0k, z0j, f126k, f127, f128, f129]; rfl) ?_
   refine z0F rfl rfl rfl rfl (by simp [z0k, z0j, f126k, f127, f128, f129]; rfl) ?_
   refine z0F rfl rfl rfl rfl (by simp [z0k, z0j, f126k, f127, f128, f129]; rfl) ?_
   refine z0F rfl rfl rfl rfl (by simp [z0k, z0j, f126k, f127, f128, f129]; rfl) ?_
   refine z0F rfl rfl rfl rfl (by simp [z0k, z0j, f126k, f127, f128, f129]; rfl) ?_
   refine z0E rfl rfl rfl rfl (by simp [z0k, z0j, f126k, f127, f128, f129]) ?_
   refine z0F rfl rfl rfl rfl (by simp [z0k, z0j, f126k, f127, f128, f129]; rfl) ?_
   refine z0F rfl rfl rfl rfl (by simp [z0k, z0j, f126k, f127, f128, f129]; rfl) ?_
   refine z0E rfl rfl rfl rfl (by simp [z0k, z0j, f126k, f127, f128, f129]) ?_
   refine z0F rfl rfl rfl rfl (by simp [z0k, z0j, f126k, f127, f128, f129]; rfl) ?_
   refine z0E rfl rfl rfl rfl (by simp [z0k, z0j, f126k, f127, f128, f129]) ?_
   refine z0F rfl rfl rfl rfl (by simp [z0k, z0j, f126k, f127, f128, f129]; rfl) ?_
   refine z0F rfl rfl rfl rfl (by simp [z0k, z0j, f126k, f127, f128, f129]; rfl) ?_
   refine z0F rfl rfl rfl rfl (by simp [z0k, z0j, f126k, f127, f128, f129]; rfl) ?_
   refine z0F rfl rfl rfl rfl (by simp [z0k, z0j, f126k, f127, f128, f129]; rfl) ?_
   refine z0F rfl rfl rfl rfl (by simp [z0k, z0j, f126k, f127, f128, f129]; rfl) ?_
   refine z0E rfl rfl rfl rfl (by simp [z0k, z0j, f126k, f127, f128, f129]) ?_
   refine z0F rfl rfl rfl rfl (by simp [z0k, z0j, f126k, f127, f128, f129]; rfl) ?_
   refine z0E rfl rfl rfl rfl (by simp [z0k, z0j, f126k, f127, f128, f129]) ?_
   refine z0F rfl rfl rfl rfl (by simp [z0k, z0j, f126k, f127, f128, f129]; rfl) ?_
   refine z0F rfl rfl rfl rfl (by simp [z0k, z0j, f126k, f127, f128, f129]; rfl) ?_
   refine z0F rfl rfl rfl rfl (by simp [z0k, z0j, f126k, f127, f128, f129]; rfl) ?_
   refine z0E rfl rfl rfl rfl (by simp [z0k, z0j, f126k, f127, f128, f129]) ?_
   refine z0E rfl rfl rfl rfl (by simp [z0k, z0j, f126k, f127, f128, f129]) ?_
   refine z0E rfl rfl rfl rfl (by simp [z0k, z0j, f126k, f127, f128, f129]) ?_
   refine z0F rfl rfl rfl rfl (by simp [z0k, z0j, f126k, f127, f128, f129]; rfl) ?_
   refine z0F rfl rfl rfl rfl (by simp [z0k, z0j, f126k, f127, f128, f129]; rfl) ?_
   refine z0E rfl rfl rfl rfl (by simp [z0k, z0j, f126k, f127, f128, f129]) ?_
   refine z0F rfl rfl rfl rfl (by simp [z0k, z0j, f126k, f127, f128, f129]; rfl) ?_
   refine z0E rfl rfl rfl rfl (by simp [z0k, z0j, f126k, f127, f128, f129]) ?_
   refine z0F rfl rfl rfl rfl (by simp [z0k, z0j, f126k, f127, f128, f129]; rfl) ?_
   refine z0F rfl rfl rfl rfl (by simp [z0k, z0j, f126k, f127, f128, f129]; rfl) ?_
   refine z0F rfl rfl rfl rfl (by simp [z0k, z0j, f126k, f127, f128, f129]; rfl) ?_
   refine z0E rfl rfl rfl rfl (by simp [z0k, z0j, f126k, f127, f128, f129]) ?_
   refine z0E rfl rfl rfl rfl (by simp [z0k, z0j, f126k, f127, f128, f129]) ?_
   refine z0F rfl rfl rfl rfl (by simp [z0k, z0j, f126k, f127, f128, f129]; rfl) ?_
   refine z0F rfl rfl rfl rfl (by simp [z0k, z0j, f126k, f127, f128, f129]; rfl) ?_
   refine z0F rfl rfl rfl rfl (by simp [z0k, z0j, f126k, f127, f128, f129]; rfl) ?_
   refine z0E rfl rfl rfl rfl (by simp [z0k, z0j, f126k, f127, f128, f129]) ?_
   refine z0E rfl rfl rfl rfl (by simp [z0k, z0j, f126k, f127, f128, f129]) ?_
   refine z0F rfl rfl rfl rfl (by simp [z0k, z0j, f126k, f127, f128, f129]; rfl) ?_
   refine z0F rfl rfl rfl rfl (by simp [z0k, z0j, f126k, f127, f128, f129]; rfl) ?_
   refine z0E rfl rfl rfl rfl (by simp [z0k, z0j, f126k, f127, f128, f129]) ?_
   refine z0E rfl rfl rfl rfl (by simp [z0k, z0j, f126k, f127, f128, f129]) ?_
   refine z0F rfl rfl rfl rfl (by simp [z0k, z0j, f126k, f127, f128, f129]; rfl) ?_
   refine z0E rfl rfl rfl rfl (by simp [z0k, z0j, f126k, f127, f128, f129]) ?_
   refine z0E rfl rfl rfl rfl (by simp [z0k, z0j, f126k, f127, f128, f129]) ?_
   refine z0E rfl rfl rfl rfl (by simp [z0k, z0j, f126k, f127, f128, f129]) ?_
   refine z0F rfl rfl rfl rfl (by simp [z0k, z0j, f126k, f127, f128, f129]; rfl) ?_
   refine z0E rfl rfl rfl rfl (by simp [z0k, z0j, f126k, f127, f128, f129]) ?_
   refine z0E rfl rfl rfl rfl (by simp [z0k, z0j, f126k, f127, f128, f129]) ?_
   refine z0E rfl rfl rfl rfl (by simp [z0k, z0j, f126k, f127, f128, f129]) ?_
   refine z0F rfl rfl rfl rfl (by simp [z0k, z0j, f126k, f127, f128, f129]; rfl) ?_
   refine z0F rfl rfl rfl rfl (by simp [z0k, z0j, f126k, f127, f128, f129]; rfl) ?_
   refine z0F rfl rfl rfl rfl (by simp [z0k, z0j, f126k, f127, f128, f129]; rfl) ?_
   refine z0F rfl rfl rfl rfl (by simp [z0k, z0j, f126k, f127, f128, f129]; rfl) ?_
   refine z0E rfl rfl rfl rfl (by simp [z0k, z0j, f126k, f127, f128, f129]) ?_
   refine z0F rfl rfl rfl rfl (by simp [z0k, z0j, f126k, f127, f128, f129]; rfl) ?_
   refine z0E rfl rfl rfl rfl (by simp [z0k, z0j, f126k, f127, f128, f129]) ?_
   refine z0E rfl rfl rfl rfl (by simp [z0k, z0j, f126k, f127, f128, f129]) ?_
   refine z0F rfl rfl rfl rfl (by simp [z0k, z0j, f126k, f127, f128, f129]; rfl) ?_
   refine z0E rfl rfl rfl rfl (by simp [z0k, z0j, f126k, f127, f128, f129]) ?_
   refine z0E rfl rfl rfl rfl (by simp [z0k, z0j, f126k, f127, f128, f129]) ?_
   refine z0F rfl rfl rfl rfl (by simp [z0k, z0j, f126k, f127, f128, f129]; rfl) ?_
   refine z0E rfl rfl rfl rfl (by simp [z0k, z0j, f126k, f127, f128, f129]) ?_
   refine z0F rfl rfl rfl rfl (by simp [z0k, z0j, f126k, f127, f128, f129]; rfl) ?_
   refine z0E rfl rfl rfl rfl (by simp [z0k, z0j, f126k, f127, f128, f129]) ?_
   refine z0E rfl rfl rfl rfl (by simp [z0k, z0j, f126k, f127, f128, f129]) ?_
   refine z0F rfl rfl rfl rfl (by simp [z0k, z0j, f126k, f127, f128, f129]; rfl) ?_
   refine z0E rfl rfl rfl rfl (by simp [z0k, z0j, f126k, f127, f128, f129]) ?_
   refine z0E rfl rfl rfl rfl (by simp [z0k, z0j, f126k, f127, f128, f129]) ?_
   refine z0F rfl rfl rfl rfl (by simp [z0k, z0j, f126k, f127, f128, f129]; rfl) ?_
   refine z0E rfl rfl rfl rfl (by simp [z0k, z0j, f126k, f127, f128, f129]) ?_
   refine z0E rfl rfl rfl rfl (by simp [z0k, z0j, f126k, f127, f128, f129]) ?_
   refine z0E rfl rfl rfl rfl (by simp [z0k, z0j, f126k, f127, f128, f129]) ?_
   refine z0E rfl rfl rfl rfl (by simp [z0k, z0j, f126k, f127, f128, f129]) ?_
   refine z0F rfl rfl rfl rfl (by simp [z0k, z0j, f126k, f127, f128, f129]; rfl) ?_
   refine z0F rfl rfl rfl rfl (by simp [z0k, z0j, f126k, f127, f128, f129]; rfl) ?_
   refine z0E rfl rfl rfl rfl (by simp [z0k, z0j, f126k, f127, f128, f129]) ?_
   refine z0F rfl rfl rfl rfl (by simp [z0k, z0j, f126k, f127, f128, f129]; rfl) ?_
   refine z0E rfl rfl rfl rfl (by simp [z0k, z0j, f126k, f127, f128, f129]) ?_
   refine z0E rfl rfl rfl rfl (by simp [z0k, z0j, f126k, f127, f128, f129]) ?_
   refine z0F rfl rfl rfl rfl (by simp [z0k, z0j, f126k, f127, f128, f129]; rfl) ?_
   refine z0E rfl rfl rfl rfl (by simp [z0k, z0j, f126k, f127, f128, f129]) ?_
   refine z0F rfl rfl rfl rfl (by simp [z0k, z0j, f126k, f127, f128, f129]; rfl) ?_
   refine z0E rfl rfl rfl rfl (by simp [z0k, z0j, f126k, f127, f128, f129]) ?_
   refine z0E rfl rfl rfl rfl (by simp [z0k, z0j, f126k, f127, f128, f129]) ?_
   refine z0E rfl rfl rfl rfl (by simp [z0k, z0j, f126k, f127, f128, f129]) ?_
   refine z0E rfl rfl rfl rfl (by simp [z0k, z0j, f126k, f127, f128, f129]) ?_
   refine z0F rfl rfl rfl rfl (by simp [z0k, z0j, f126k, f127, f128, f129]; rfl) ?_
   refine z0E rfl rfl rfl rfl (by simp [z0k, z0j, f126k, f127, f128, f129]) ?_
   refine z0E rfl rfl rfl rfl (by simp [z0k, z0j, f126k, f127, f128, f129]) ?_
   refine z0E rfl rfl rfl rfl (by simp [z0k, z0j, f126k, f127, f128, f129]) ?_
   refine z0E rfl rfl rfl rfl (by simp [z0k, z0j, f126k, f127, f128, f129]) ?_
   refine z0F rfl rfl rfl rfl (by simp [z0k, z0j, f126k, f127, f128, f129]; rfl) ?_
   refine z0F rfl rfl rfl rfl (by simp [z0k, z0j, f126k, f127, f128, f129]; rfl) ?_
   refine z0F rfl rfl rfl rfl (by simp [z0k, z0j, f126k, f127, f128, f129]; rfl) ?_
   refine z0E rfl rfl rfl rfl (by simp [z0k, z0j, f126k, f127, f128, f129]) ?_
   refine z0F rfl rfl rfl rfl (by simp [z0k, z0j, f126k, f127, f128, f129]; rfl) ?_
   refine z0E rfl rfl rfl rfl (by simp [z0k, z0j, f126k, f127, f128, f129]) ?_
   refine z0E rfl rfl rfl rfl (by simp [z0k, z0j, f126k, f127, f128, f129]) ?_
   refine z0E rfl rfl rfl rfl (by simp [z0k, z0j, f126k, f127, f128, f129]) ?_
   refine z0E rfl rfl rfl rfl (by simp [z0k, z0j, f126k, f127, f128, f129]) ?_
   refine z0F rfl rfl rfl rfl (by simp [z0k, z0j, f126k, f127, f128, f129]; rfl) ?_
   refine z0E rfl rfl rfl rfl (by simp [z0k, z0j, f126k, f127, f128, f129]) ?_
   refine z0F rfl rfl rfl rfl (by simp [z0k, z0j, f126k, f127, f128, f129]; rfl) ?_
   refine z0E rfl rfl rfl rfl (by simp [z0k, z0j, f126k, f127, f128, f129]) ?_
   refine z0F rfl rfl rfl rfl (by simp [z0k, z0j, f126k, f127, f128, f129]; rfl) ?_
   refine z0E rfl rfl rfl rfl (by simp [z0k, z0j, f126k, f127, f128, f129]) ?_
   refine z0F rfl rfl rfl rfl (by simp [z0k, z0j, f126k, f127, f128, f129]; rfl) ?_
   refine z0F rfl rfl rfl rfl (by simp [z0k, z0j, f126k, f127, f128, f129]; rfl) ?_
   refine z0F rfl rfl rfl rfl (by simp [z0k, z0j, f126k, f127, f128, f129]; rfl) ?_
   refine z0F rfl rfl rfl rfl (by simp [z0k, z0j, f126k, f127, f128, f129]; rfl) ?_
   refine zpF rfl ?_
   refine zmB rfl (by simp [f126k, f127, f128, f129]; rfl) ?_
   refine z0l (z0a (zr rfl rfl rfl (by simp; rfl) ?_))
   have ho := z0d h7
   refine z0i ho ?_
   simp [z2J]
  ·rw [if_neg c125] at h3
   refine z0t rfl (by simp [c125]) (z1t rfl (z0T ?_))
   obtain ⟨rr1, h4, ho1⟩ := z0b h3
   have hs1 := hr1 _ ho1
   subst hs1
   refine z0y ho1 (z0f rfl (z0a (zq rfl (zq rfl (zr rfl rfl rfl (by simp; rfl) ?_)))))
   refine z0a (zb rfl (z0X h4 (z2I a1 v90 v91 w96) rfl rfl (by simp [z2I]) fun s o2 h5 hr2 => ?_))
   obtain ⟨w125, w126, w127, w128⟩ := s
   simp only [z2K] at h5
   simp only [z2I]
   refine zq rfl (zq rfl (zr rfl rfl rfl (by simp; rfl) ?_))
   refine z0a ?_
   by_cases c196 : w125 < a1
   ·rw [if_pos c196] at h5
    refine z0v rfl (by simp [c196]) (z0g rfl (z0a (zq rfl (zb rfl (zq rfl (zr rfl rfl rfl (by simp; rfl) ?_))))))
    refine z0a (zq rfl (zq rfl (zr rfl rfl rfl (by simp; rfl) ?_)))
    refine z0a (zb rfl (z0X h5 (z2t a1 v90 v91 w96 w125 w126 w127 w128) rfl rfl (by simp [z2t]) fun s o3 h6 hr3 => ?_))
    obtain ⟨w154, w155⟩ := s
    simp only [z2v] at h6
    simp only [z2t]
    refine zq rfl (zq rfl (zr rfl rfl rfl (by simp; rfl) ?_))
    refine z0a ?_
    by_cases c200 : w154 < (IntKind.i64.wrap (1 + v90.1))
    ·rw [if_pos c200] at h6
     refine z0v rfl (by simp [c200]) (z0g rfl (z0a (zq rfl (zb rfl ?_))))
     obtain ⟨f201, h7⟩ := z9d h6
     refine zr rfl rfl rfl (by simp [f201]; rfl) ?_
     refine z0l (z0a (zr rfl rfl rfl (by simp; rfl) ?_))
     have ho := z0d h7
     refine z0i ho ?_
     simp [z2t]
    ·rw [if_neg c200] at h6
     refine z0t rfl (by simp [c200]) (z1t rfl (z0T ?_))
     obtain ⟨rr3, h7, ho3⟩ := z0b h6
     have hs3 := hr3 _ ho3
     subst hs3
     refine z0y ho3 (z0f rfl (z0a (zq rfl (zr rfl rfl rfl (by simp; rfl) ?_))))
     refine z0a (zb rfl (z0X h7 (z2s a1 v90 v91 w96 w125) rfl rfl (by simp [z2s]) fun s o4 h8 hr4 => ?_))
     obtain ⟨w162, w163, w164, w165, w166⟩ := s
     simp only [z2u] at h8
     simp only [z2s]
     refine zq rfl (zq rfl (zr rfl rfl rfl (by simp; rfl) ?_))
     refine z0a ?_
     by_cases c220 : w162 < (IntKind.i64.wrap (1 + v90.1))
     ·rw [if_pos c220] at h8
      refine z0v rfl (by simp [c220]) (z0g rfl (z0a (zq rfl (zb rfl (zq rfl ?_)))))
      obtain ⟨v173, f221, h9⟩ := z0c h8
      have f221k := z1v f221
      try simp at f221k
      refine zr rfl rfl rfl (by simp [f221k]; rfl) ?_
      refine z0a (zq rfl ?_)
      obtain ⟨v174, f222, h10⟩ := z1e h9
      obtain ⟨v175, f223, h11⟩ := z1e h10
      obtain ⟨v176, f224, h12⟩ := z1e h11
      refine z1g rfl rfl rfl rfl ?_; repeat' ((first | refine z0p rfl rfl fun Q' hQ => ?_ | refine z0m rfl fun Q' hQ => ?_); simp [f222, f223, f224]; refine hQ.out _ ?_; clear hQ; clear Q')
      refine z0a ?_
      obtain ⟨v177, f225, h13⟩ := z0c h12
      obtain ⟨f225a, f225b, f225c, -⟩ := z6x f225
      obtain ⟨f225d, f225g⟩ := zc1 f225a f225b
      have f225e := zby (g := fun x : Int => (.sc (.int .i64 x) : T)) f225
      try simp at f225e
      have f225f := zbx f225
      try simp only [Int.reduceToNat, Int.toNat_natCast, Nat.sub_zero] at f225f
      obtain ⟨v178, f226, h14⟩ := z0c h13
      obtain ⟨f226a, f226b, f226c, -⟩ := z6x f226
      obtain ⟨f226d, f226g⟩ := zc1 f226a f226b
      have f226e := zby (g := fun x : Int => (.sc (.int .i64 x) : T)) f226
      try simp at f226e
      have f226f := zbx f226
      try simp only [Int.reduceToNat, Int.toNat_natCast, Nat.sub_zero] at f226f
      obtain ⟨f227, h15⟩ := z9d h14
      obtain ⟨f228, h16⟩ := z9d h15
      refine z1g rfl rfl rfl rfl ?_; repeat' ((first | refine z0p rfl rfl fun Q' hQ => ?_ | refine z0m rfl fun Q' hQ => ?_); simp [f222, f225a, f225b, f225c, f225d, f225g, f225e, f225f, f226a, f226b, f226c, f226d, f226g, f226e, f226f, f227, f228]; refine hQ.out _ ?_; clear hQ; clear Q')
      refine z0l (z0a (zr rfl rfl rfl (by simp [f222]; rfl) ?_))
      have ho := z0d h16
      refine z0i ho ?_
      simp [z2s]
     ·rw [if_neg c220] at h8
      refine z0t rfl (by simp [c220]) (z1t rfl (z0T ?_))
      obtain ⟨rr4, h9, ho4⟩ := z0b h8
      have hs4 := hr4 _ ho4
      subst hs4
      refine z0y ho4 (z0f rfl (z0l (z0a (zr rfl rfl rfl (by simp; rfl) ?_))))
      have ho := z0d h9
      refine z0i ho ?_
      simp [z2I]
   ·rw [if_neg c196] at h5
    refine z0t rfl (by simp [c196]) (z1t rfl (z0T ?_))
    obtain ⟨rr2, h6, ho2⟩ := z0b h5
    have hs2 := hr2 _ ho2
    subst hs2
    refine z0y ho2 (z0f rfl (z0a (zq rfl (zr rfl rfl rfl (by simp; rfl) ?_))))
    refine z0a (z1o rfl ?_)
    cases h6
    simp
def zai (a0 : Int) (a1 : Int) (w31 : Int) : Int × List ByteArray → Option ((Int × List ByteArray) ⊕ ((Int × List ByteArray) ⊕ List ByteArray))
  | (w43, w44) =>
  if w43 < a0 then
    (atI w44 w31).bind fun v47 =>
    if (v47.size : Int) < a1 then
      chk (zaw v47 ⟨#[UInt8.ofNat (IntKind.u8.wrap (IntKind.i64.wrap (97 + w43))).toNat]⟩) <|
      chk (z3O 16 (w44.length + 1)) <|
      z0Z (IntKind.i64.wrap (w43 + 1), w44 ++ [v47 ++ ⟨#[UInt8.ofNat (IntKind.u8.wrap (IntKind.i64.wrap (97 + w43))).toNat]⟩])
    else
      z0Y <|
      z0Z (IntKind.i64.wrap (w31 + 1), w44)
  else
    z0Y <|
    z0Z (IntKind.i64.wrap (w31 + 1), w44)
def z5Y (a0 : Int) (a1 : Int) (w31 : Int) : Int × List ByteArray → Fr
  | (w43, w44) => ⟨43, [(0, .one (.t none (.sc (.int .i64 a0)))), (1, .one (.t none (.sc (.int .i64 a1)))), (5, .one (.h 5 [])), (6, .one (.t none (.sc (.int .i64 w31)))), (7, .one (.t none (.sc (.int .i64 w43))))], [(5, .os 1 w44.length (w44.map fun x0 => .sc (.string x0)))]⟩
def zaj (a0 : Int) (a1 : Int) : Int × List ByteArray → Option ((Int × List ByteArray) ⊕ List ByteArray)
  | (w31, w32) =>
  if w31 < (w32.length : Int) then
    z1q (zai a0 a1 w31) LFm (0, w32)
  else
    z0Y <|
    some w32
def z5f (a0 : Int) (a1 : Int) : Int × List ByteArray → Fr
  | (w31, w32) => ⟨43, [(0, .one (.t none (.sc (.int .i64 a0)))), (1, .one (.t none (.sc (.int .i64 a1)))), (5, .one (.h 5 [])), (6, .one (.t none (.sc (.int .i64 w31))))], [(5, .os 1 w32.length (w32.map fun x0 => .sc (.string x0)))]⟩
def z8R (a0 : Int) (a1 : Int) : Option (List ByteArray) :=
  z1q (zaj a0 a1) LFm (0, [ByteArray.empty])
theorem zfF {a0 : Int} {a1 : Int} {r : List ByteArray} (h0 : z8R a0 a1 = some r) : L 61 [.sc (.int .i64 a0), .sc (.int .i64 a1)] = some (.os 1 r.length (r.map fun x0 => .sc (.string x0)), [.dead, .dead]) := by
  simp only [z8R] at h0
  refine z3M ztR zuZ (z1B zwo ⟨of_decide_eq_true rfl, of_decide_eq_true rfl⟩ ?_)
  simp only [z1M, z1G, z1E, z1Q, z3Q]
  refine zq rfl (zr rfl rfl rfl (by simp; rfl) ?_)
  refine z0a (zq rfl (zr rfl rfl rfl (by simp; rfl) ?_))
  refine z0a (zq rfl (zq rfl (zr rfl rfl rfl (by simp; rfl) ?_)))
  refine z0a (zb rfl (z0X h0 (z5f a0 a1) rfl rfl (by simp [z5f]) fun s o1 h1 hr1 => ?_))
  obtain ⟨w31, w32⟩ := s
  simp only [zaj] at h1
  simp only [z5f]
  refine zq rfl (zq rfl (zr rfl rfl rfl (by simp; rfl) ?_))
  refine z0a ?_
  by_cases c77 : w31 < (w32.length : Int)
  ·rw [if_pos c77] at h1
   refine z0v rfl (by simp [c77]) (z0g rfl (z0a (zq rfl (zb rfl (zq rfl (zr rfl rfl rfl (by simp; rfl) ?_))))))
   refine z0a (zb rfl (z0X h1 (z5Y a0 a1 w31) rfl rfl (by simp [z5Y]) fun s o2 h2 hr2 => ?_))
   obtain ⟨w43, w44⟩ := s
   simp only [zai] at h2
   simp only [z5Y]
   refine zq rfl (zq rfl ?_)
   by_cases c88 : w43 < a0
   ·rw [if_pos c88] at h2
    obtain ⟨v47, f89, h3⟩ := z1e h2
    refine zr rfl rfl rfl (by simp [c88, f89]; rfl) ?_
    refine z0a ?_
    by_cases c90 : (v47.size : Int) < a1
    ·rw [if_pos c90] at h3
     refine z0v rfl (by simp [c90]) (z0g rfl (z0a (zq rfl (zb rfl ?_))))
     obtain ⟨f91, h4⟩ := z1N h3
     obtain ⟨f92, h5⟩ := z9d h4
     refine z1g rfl rfl rfl rfl ?_; repeat' ((first | refine z0p rfl rfl fun Q' hQ => ?_ | refine z0m rfl fun Q' hQ => ?_); simp [f89, f91, f92]; refine hQ.out _ ?_; clear hQ; clear Q')
     refine z0l (z0a (zr rfl rfl rfl (by simp; rfl) ?_))
     have ho := z0d h5
     refine z0i ho ?_
     simp [z5Y]
    ·rw [if_neg c90] at h3
     refine z0t rfl (by simp [c90]) (z1t rfl (z0T ?_))
     obtain ⟨rr2, h4, ho2⟩ := z0b h3
     have hs2 := hr2 _ ho2
     subst hs2
     refine z0y ho2 (z0f rfl (z0l (z0a (zr rfl rfl rfl (by simp; rfl) ?_))))
     have ho := z0d h4
     refine z0i ho ?_
     simp [z5f]
   ·rw [if_neg c88] at h2
    refine zr rfl rfl rfl (by simp [c88]; rfl) ?_
    refine z0a (z0t rfl (by simp) (z1t rfl (z0T ?_)))
    obtain ⟨rr2, h3, ho2⟩ := z0b h2
    have hs2 := hr2 _ ho2
    subst hs2
    refine z0y ho2 (z0f rfl (z0l (z0a (zr rfl rfl rfl (by simp; rfl) ?_))))
    have ho := z0d h3
    refine z0i ho ?_
    simp [z5f]
  ·rw [if_neg c77] at h1
   refine z0t rfl (by simp [c77]) (z1t rfl (z0T ?_))
   obtain ⟨rr1, h2, ho1⟩ := z0b h1
   have hs1 := hr1 _ ho1
   subst hs1
   refine z0y ho1 (z0f rfl (z0a (zq rfl (zr rfl rfl rfl (by simp; rfl) ?_))))
   refine z0a (z1o rfl ?_)
   cases h2
   simp
def z5q (v201 : List ByteArray) (w385 : ByteArray) : Int × Int → Option ((Int × Int) ⊕ ((ByteArray × Int) ⊕ ((Int × List Int) ⊕ ((Int × List Int × Int × List Bool × List (List Int)) ⊕ (DFA × Tape)))))
  | (w394, w395) =>
  if w395 < (v201.length : Int) then
    (atI v201 w395).bind fun v397 =>
    if v397 = w385 then
      z0Z (w395, IntKind.i64.wrap (w395 + 1))
    else
      z0Z (w394, IntKind.i64.wrap (w395 + 1))
  else
    z0Y <|
    (zn6 w385 1 (w385.size : Int)).bind fun v398 =>
    z0Z (v398, w394)
def z2z (a1 : Int) (v201 : List ByteArray) (w266 : Int) (w269 : List Bool) (w270 : List (List Int)) (v335 : ByteArray) (v336 : Int × Tape) (w357 : Int) (w358 : List Int) (w385 : ByteArray) : Int × Int → Fr
  | (w394, w395) => ⟨76, [(0, .one (.a 0 [] (0))), (1, .one (.t none (.sc (.int .i64 a1)))), (4, .one (.a 4 [] (0))), (5, .one (.a 5 [] (0))), (6, .one (.h 6 [])), (8, .one (.t none (.sc (.string v335)))), (9, .one (.h 9 [])), (10, .one (.t none (.sc (.int .i64 w357)))), (11, .one (.t none (.sc (.string w385)))), (12, .one (.t none (.sc (.int .i64 w394)))), (22, .one (.h 6 [])), (23, .one (.t none (.sc (.int .i64 (v201.length : Int))))), (24, .one (.t none (.sc (.int .i64 w266)))), (50, .one (.h 6 [])), (51, .one (.t none (.sc (.int .i64 (v201.length : Int))))), (52, .one (.t none (.sc (.int .i64 w395)))), (1076, .one (.a 0 [] (0)))], [(0, .vr [.sl v336.2.l.length (v336.2.l.map fun x0 => .sc (.int .i64 x0)), .sc (.int .i64 v336.2.at_)]), (4, .vr [.sc (.int .i64 0), .sc (.int .i64 0), .os 1 0 [], .os 1 0 []]), (5, .vr [.sc (.int .i64 a1), .sc (.int .i64 0), .os 1 (w269 ++ [decide (v336.1 = 1)]).length ((w269 ++ [decide (v336.1 = 1)]).map fun x0 => .sc (.bool x0)), .os 1 w270.length (w270.map fun x0 => .os 1 x0.length (x0.map fun x1 => .sc (.int .i64 x1)))]), (6, .os 1 v201.length (v201.map fun x0 => .sc (.string x0))), (9, .os 1 w358.length (w358.map fun x0 => .sc (.int .i64 x0)))]⟩
def z3u (v201 : List ByteArray) (w357 : Int) (w358 : List Int) : ByteArray × Int → Option ((ByteArray × Int) ⊕ ((Int × List Int) ⊕ ((Int × List Int × Int × List Bool × List (List Int)) ⊕ (DFA × Tape))))
  | (w385, w386) =>
  if w386 = (-1) then
    z1q (z5q v201 w385) LFm (w386, 0)
  else
    z0Y <|
    chk (z3O 8 (w358.length + 1)) <|
    z0Z (IntKind.i64.wrap (w357 + 1), w358 ++ [w386])
def z3t (a1 : Int) (v201 : List ByteArray) (w266 : Int) (w269 : List Bool) (w270 : List (List Int)) (v335 : ByteArray) (v336 : Int × Tape) (w357 : Int) (w358 : List Int) : ByteArray × Int → Fr
  | (w385, w386) => ⟨76, [(0, .one (.a 0 [] (0))), (1, .one (.t none (.sc (.int .i64 a1)))), (4, .one (.a 4 [] (0))), (5, .one (.a 5 [] (0))), (6, .one (.h 6 [])), (8, .one (.t none (.sc (.string v335)))), (9, .one (.h 9 [])), (10, .one (.t none (.sc (.int .i64 w357)))), (11, .one (.t none (.sc (.string w385)))), (12, .one (.t none (.sc (.int .i64 w386)))), (22, .one (.h 6 [])), (23, .one (.t none (.sc (.int .i64 (v201.length : Int))))), (24, .one (.t none (.sc (.int .i64 w266)))), (1076, .one (.a 0 [] (0)))], [(0, .vr [.sl v336.2.l.length (v336.2.l.map fun x0 => .sc (.int .i64 x0)), .sc (.int .i64 v336.2.at_)]), (4, .vr [.sc (.int .i64 0), .sc (.int .i64 0), .os 1 0 [], .os 1 0 []]), (5, .vr [.sc (.int .i64 a1), .sc (.int .i64 0), .os 1 (w269 ++ [decide (v336.1 = 1)]).length ((w269 ++ [decide (v336.1 = 1)]).map fun x0 => .sc (.bool x0)), .os 1 w270.length (w270.map fun x0 => .os 1 x0.length (x0.map fun x1 => .sc (.int .i64 x1)))]), (6, .os 1 v201.length (v201.map fun x0 => .sc (.string x0))), (9, .os 1 w358.length (w358.map fun x0 => .sc (.int .i64 x0)))]⟩
def z2S (a1 : Int) (v201 : List ByteArray) (w266 : Int) (w269 : List Bool) (w270 : List (List Int)) (v335 : ByteArray) (v336 : Int × Tape) : Int × List Int → Option ((Int × List Int) ⊕ ((Int × List Int × Int × List Bool × List (List Int)) ⊕ (DFA × Tape)))
  | (w357, w358) =>
  if w357 < a1 then
    chk (zaw v335 ⟨#[UInt8.ofNat (IntKind.u8.wrap (IntKind.i64.wrap (97 + w357))).toNat]⟩) <|
    z1q (z3u v201 w357 w358) LFm (v335 ++ ⟨#[UInt8.ofNat (IntKind.u8.wrap (IntKind.i64.wrap (97 + w357))).toNat]⟩, (-1))
  else
    z0Y <|
    chk (z3O 24 (w270.length + 1)) <|
    z0Z (IntKind.i64.wrap (w266 + 1), v336.2.l, v336.2.at_, w269 ++ [decide (v336.1 = 1)], w270 ++ [w358])
def z3B (a1 : Int) (v201 : List ByteArray) (w266 : Int) (w269 : List Bool) (w270 : List (List Int)) (v335 : ByteArray) (v336 : Int × Tape) : Int × List Int → Fr
  | (w357, w358) => ⟨76, [(0, .one (.a 0 [] (0))), (1, .one (.t none (.sc (.int .i64 a1)))), (4, .one (.a 4 [] (0))), (5, .one (.a 5 [] (0))), (6, .one (.h 6 [])), (8, .one (.t none (.sc (.string v335)))), (9, .one (.h 9 [])), (10, .one (.t none (.sc (.int .i64 w357)))), (22, .one (.h 6 [])), (23, .one (.t none (.sc (.int .i64 (v201.length : Int))))), (24, .one (.t none (.sc (.int .i64 w266)))), (1076, .one (.a 0 [] (0)))], [(0, .vr [.sl v336.2.l.length (v336.2.l.map fun x0 => .sc (.int .i64 x0)), .sc (.int .i64 v336.2.at_)]), (4, .vr [.sc (.int .i64 0), .sc (.int .i64 0), .os 1 0 [], .os 1 0 []]), (5, .vr [.sc (.int .i64 a1), .sc (.int .i64 0), .os 1 (w269 ++ [decide (v336.1 = 1)]).length ((w269 ++ [decide (v336.1 = 1)]).map fun x0 => .sc (.bool x0)), .os 1 w270.length (w270.map fun x0 => .os 1 x0.length (x0.map fun x1 => .sc (.int .i64 x1)))]), (6, .os 1 v201.length (v201.map fun x0 => .sc (.string x0))), (9, .os 1 w358.length (w358.map fun x0 => .sc (.int .i64 x0)))]⟩
def z3D (a1 : Int) (v201 : List ByteArray) : Int × List Int × Int × List Bool × List (List Int) → Option ((Int × List Int × Int × List Bool × List (List Int)) ⊕ (DFA × Tape))
  | (w266, w267, w268, w269, w270) =>
  if w266 < (v201.length : Int) then
    (atI v201 w266).bind fun v335 =>
    (z1x (⟨w267, w268⟩ : Tape) 2).bind fun v336 =>
    chk (z3O 1 (w269.length + 1)) <|
    z1q (z2S a1 v201 w266 w269 w270 v335 v336) LFm (0, [])
  else
    z0Y <|
    some ((⟨a1, 0, w269, w270⟩ : DFA), (⟨w267, w268⟩ : Tape))
def z3C (a1 : Int) (v201 : List ByteArray) : Int × List Int × Int × List Bool × List (List Int) → Fr
  | (w266, w267, w268, w269, w270) => ⟨76, [(0, .one (.a 0 [] (0))), (1, .one (.t none (.sc (.int .i64 a1)))), (4, .one (.a 4 [] (0))), (5, .one (.a 5 [] (0))), (6, .one (.h 6 [])), (22, .one (.h 6 [])), (23, .one (.t none (.sc (.int .i64 (v201.length : Int))))), (24, .one (.t none (.sc (.int .i64 w266)))), (1076, .one (.a 0 [] (0)))], [(0, .vr [.sl w267.length (w267.map fun x0 => .sc (.int .i64 x0)), .sc (.int .i64 w268)]), (4, .vr [.sc (.int .i64 0), .sc (.int .i64 0), .os 1 0 [], .os 1 0 []]), (5, .vr [.sc (.int .i64 a1), .sc (.int .i64 0), .os 1 w269.length (w269.map fun x0 => .sc (.bool x0)), .os 1 w270.length (w270.map fun x0 => .os 1 x0.length (x0.map fun x1 => .sc (.int .i64 x1)))]), (6, .os 1 v201.length (v201.map fun x0 => .sc (.string x0)))]⟩
def z3E (a0 : Tape) (a1 : Int) : Option (DFA × Tape) :=
  (z1x a0 2).bind fun v200 =>
  (z8R a1 (IntKind.i64.wrap (1 + v200.1))).bind fun v201 =>
  z1q (z3D a1 v201) LFm (0, v200.2.l, v200.2.at_, [], [])
theorem z7Z {a0 : Tape} {a1 : Int} {r : DFA × Tape} (h0 : z3E a0 a1 = some r) : L 33 [.vr [.sl a0.l.length (a0.l.map fun x0 => .sc (.int .i64 x0)), .sc (.int .i64 a0.at_)], .sc (.int .i64 a1)] = some (.agg [.sc (.int .i64 r.1.letters), .sc (.int .i64 r.1.start), .os 1 r.1.final.length (r.1.final.map fun x0 => .sc (.bool x0)), .os 1 r.1.next.length (r.1.next.map fun x0 => .os 1 x0.length (x0.map fun x1 => .sc (.int .i64 x1)))], [.vr [.sl r.2.l.length (r.2.l.map fun x0 => .sc (.int .i64 x0)), .sc (.int .i64 r.2.at_)], .dead]) := by
  simp only [z3E] at h0
  refine z3M zu5 zvd (z1B zwC ⟨of_decide_eq_true rfl, of_decide_eq_true rfl⟩ ?_)
  simp only [z1M, z1G, z1E, z1Q, z3Q]
  refine zq rfl (zr rfl rfl rfl (by simp; rfl) ?_)
  refine z0a (zq rfl (zr rfl rfl rfl (by simp; rfl) ?_))
  refine z0a (zq rfl ?_)
  obtain ⟨v200, f337, h1⟩ := z0c h0
  have f337k := z1v f337
  try simp at f337k
  obtain ⟨v201, f338, h2⟩ := z0c h1
  have f338k := zfF f338
  try simp at f338k
  refine zr rfl rfl rfl (by simp [f337k, f338k]; rfl) ?_
  refine z0a (zq rfl (zq rfl (zr rfl rfl rfl (by simp; rfl) ?_)))
  refine z0a (zb rfl (z0X h2 (z3C a1 v201) rfl rfl (by simp [z3C]) fun s o1 h3 hr1 => ?_))
  obtain ⟨w266, w267, w268, w269, w270⟩ := s
  simp only [z3D] at h3
  simp only [z3C]
  refine zq rfl (zr rfl rfl rfl (by simp; rfl) ?_)
  refine z0a (zq rfl ?_)
  by_cases c561 : w266 < (v201.length : Int)
  ·rw [if_pos c561] at h3
   refine z0v rfl (by simp [c561]) (z0g rfl (z0a (zq rfl (zb rfl (zq rfl ?_)))))
   obtain ⟨v335, f562, h4⟩ := z1e h3
   refine zr rfl rfl rfl (by simp [f562]; rfl) ?_
   refine z0a (zq rfl ?_)
   obtain ⟨v336, f563, h5⟩ := z0c h4
   have f563k := z1v f563
   try simp at f563k
   obtain ⟨f564, h6⟩ := zp9 h5
   refine z1g rfl rfl rfl rfl ?_; repeat' ((first | refine z0p rfl rfl fun Q' hQ => ?_ | refine z0m rfl fun Q' hQ => ?_); simp [f563k, f564]; refine hQ.out _ ?_; clear hQ; clear Q')
   refine z0a (zq rfl (zr rfl rfl rfl (by simp; rfl) ?_))
   refine z0a (zq rfl (zq rfl (zr rfl rfl rfl (by simp; rfl) ?_)))
   refine z0a (zb rfl (z0X h6 (z3B a1 v201 w266 w269 w270 v335 v336) rfl rfl (by simp [z3B]) fun s o2 h7 hr2 => ?_))
   obtain ⟨w357, w358⟩ := s
   simp only [z2S] at h7
   simp only [z3B]
   refine zq rfl (zq rfl (zr rfl rfl rfl (by simp; rfl) ?_))
   refine z0a ?_
   by_cases c636 : w357 < a1
   ·rw [if_pos c636] at h7
    refine z0v rfl (by simp [c636]) (z0g rfl (z0a (zq rfl (zb rfl (zq rfl ?_)))))
    obtain ⟨f637, h8⟩ := z1N h7
    refine zr rfl rfl rfl (by simp [f637]; rfl) ?_
    refine z0a (zq rfl (zr rfl rfl rfl (by simp; rfl) ?_))
    refine z0a (zq rfl (zb rfl (z0X h8 (z3t a1 v201 w266 w269 w270 v335 v336 w357 w358) rfl rfl (by simp [z3t]) fun s o3 h9 hr3 => ?_)))
    obtain ⟨w385, w386⟩ := s
    simp only [z3u] at h9
    simp only [z3t]
    refine zq rfl (zq rfl (zr rfl rfl rfl (by simp; rfl) ?_))
    refine z0a ?_
    by_cases c660 : w386 = (-1)
    ·rw [if_pos c660] at h9
     have c660e := eq_true c660
     refine z0v rfl (by simp [c660e]) (z0g rfl (z0a (zb rfl (zq rfl (zq rfl (zr rfl rfl rfl (by simp; rfl) ?_))))))
     refine z0a (zb rfl (z0X h9 (z2z a1 v201 w266 w269 w270 v335 v336 w357 w358 w385) rfl rfl (by simp [z2z]) fun s o4 h10 hr4 => ?_))
     obtain ⟨w394, w395⟩ := s
     simp only [z5q] at h10
     simp only [z2z]
     refine zq rfl (zr rfl rfl rfl (by simp; rfl) ?_)
     refine z0a (zq rfl ?_)
     by_cases c667 : w395 < (v201.length : Int)
     ·rw [if_pos c667] at h10
      refine z0v rfl (by simp [c667]) (z0g rfl (z0a (zq rfl (zb rfl (zq rfl ?_)))))
      obtain ⟨v397, f668, h11⟩ := z1e h10
      refine zr rfl rfl rfl (by simp [f668]; rfl) ?_
      refine z0a (zq rfl (zr rfl rfl rfl (by simp; rfl) ?_))
      refine z0a ?_
      by_cases c669 : v397 = w385
      ·rw [if_pos c669] at h11
       have c669e := eq_true c669
       refine z0v rfl (by simp [c669e]) (zr rfl rfl rfl (by simp; rfl) ?_)
       refine z0l (z0a (zr rfl rfl rfl (by simp; rfl) ?_))
       have ho := z0d h11
       refine z0i ho ?_
       simp [z2z]
      ·rw [if_neg c669] at h11
       have c669e := eq_false c669
       refine z0t rfl (by simp [c669e]) (z0g rfl (z0l (z0a (zr rfl rfl rfl (by simp; rfl) ?_))))
       have ho := z0d h11
       refine z0i ho ?_
       simp [z2z]
     ·rw [if_neg c667] at h10
      refine z0t rfl (by simp [c667]) (z1t rfl (z0T ?_))
      obtain ⟨rr4, h11, ho4⟩ := z0b h10
      have hs4 := hr4 _ ho4
      subst hs4
      refine z0y ho4 (z0f rfl (z0a ?_))
      obtain ⟨v398, f670, h12⟩ := z0c h11
      obtain ⟨f670a, f670b, f670c, f670d⟩ := ziE f670
      obtain ⟨f670e, f670f⟩ := zc1 f670a f670b
      have f670d := f670d.symm
      try simp only [Int.reduceToNat, Int.toNat_natCast] at f670d
      refine zr rfl rfl rfl (by simp [f670a, f670b, f670c, f670d, f670e, f670f]; rfl) ?_
      refine z0l ?_
      have ho := z0d h12
      refine z0i ho ?_
      simp [z3t]
    ·rw [if_neg c660] at h9
     have c660e := eq_false c660
     refine z0t rfl (by simp [c660e]) (z1t rfl (z0T ?_))
     obtain ⟨rr3, h10, ho3⟩ := z0b h9
     have hs3 := hr3 _ ho3
     subst hs3
     refine z0y ho3 (z0f rfl (z0a ?_))
     obtain ⟨f671, h11⟩ := z9d h10
     refine zr rfl rfl rfl (by simp [f671]; rfl) ?_
     refine z0l (z0a (zr rfl rfl rfl (by simp; rfl) ?_))
     have ho := z0d h11
     refine z0i ho ?_
     simp [z3B]
   ·rw [if_neg c636] at h7
    refine z0t rfl (by simp [c636]) (z1t rfl (z0T ?_))
    obtain ⟨rr2, h8, ho2⟩ := z0b h7
    have hs2 := hr2 _ ho2
    subst hs2
    refine z0y ho2 (z0f rfl (z0a ?_))
    obtain ⟨f672, h9⟩ := z9d h8
    refine zr rfl rfl rfl (by simp [f672]; rfl) ?_
    refine z0l (z0a (zr rfl rfl rfl (by simp; rfl) ?_))
    have ho := z0d h9
    refine z0i ho ?_
    simp [z3C]
  ·rw [if_neg c561] at h3
   refine z0t rfl (by simp [c561]) (z1t rfl (z0T ?_))
   obtain ⟨rr1, h4, ho1⟩ := z0b h3
   have hs1 := hr1 _ ho1
   subst hs1
   refine z0y ho1 (z0f rfl (z0a (zq rfl (zr rfl rfl rfl (by simp; rfl) ?_))))
   refine z0a (z1o rfl ?_)
   cases h4
   simp
def z2M (a0 : Tape) (a1 : Int) (a2 : Int) : Option (DFA × Tape) :=
  (z1x a0 6).bind fun v6 =>
  if v6.1 = 1 then
    (z4b v6.2 a1 a2).bind fun v7 =>
    some (v7.1, v7.2)
  else
    if v6.1 = 2 then
      (z2y v6.2 a1 (if 4 < a2 then 4 else a2)).bind fun v8 =>
      some (v8.1, v8.2)
    else
      if v6.1 = 3 then
        (z3E v6.2 a1).bind fun v9 =>
        some (v9.1, v9.2)
      else
        (z4B v6.2 a1 a2).bind fun v10 =>
        some (v10.1, v10.2)
theorem z5N {a0 : Tape} {a1 : Int} {a2 : Int} {r : DFA × Tape} (h0 : z2M a0 a1 a2 = some r) : L 12 [.vr [.sl a0.l.length (a0.l.map fun x0 => .sc (.int .i64 x0)), .sc (.int .i64 a0.at_)], .sc (.int .i64 a1), .sc (.int .i64 a2)] = some (.agg [.sc (.int .i64 r.1.letters), .sc (.int .i64 r.1.start), .os 1 r.1.final.length (r.1.final.map fun x0 => .sc (.bool x0)), .os 1 r.1.next.length (r.1.next.map fun x0 => .os 1 x0.length (x0.map fun x1 => .sc (.int .i64 x1)))], [.vr [.sl r.2.l.length (r.2.l.map fun x0 => .sc (.int .i64 x0)), .sc (.int .i64 r.2.at_)], .dead, .dead]) := by
  simp only [z2M] at h0
  refine z3M zuf zvm (z1B zwL ⟨of_decide_eq_true rfl, of_decide_eq_true rfl⟩ ?_)
  simp only [z1M, z1G, z1E, z1Q, z3Q]
  refine zq rfl (zr rfl rfl rfl (by simp; rfl) ?_)
  refine z0a (zq rfl (zq rfl ?_))
  obtain ⟨v6, f9, h1⟩ := z0c h0
  have f9k := z1v f9
  try simp at f9k
  refine zr rfl rfl rfl (by simp [f9k]; rfl) ?_
  refine z0a (zb rfl (zq rfl (zr rfl rfl rfl (by simp; rfl) ?_)))
  refine z0a ?_
  by_cases c10 : v6.1 = 1
  ·rw [if_pos c10] at h1
   have c10e := eq_true c10
   refine z0v rfl (by simp [c10e]) (zq rfl ?_)
   obtain ⟨v7, f11, h2⟩ := z0c h1
   have f11k := z8Y f11
   try simp at f11k
   refine zr rfl rfl rfl (by simp [f11k]; rfl) ?_
   refine z0a (z1o rfl (z0n (z0e ?_)))
   cases h2
   simp
  ·rw [if_neg c10] at h1
   have c10e := eq_false c10
   refine z0t rfl (by simp [c10e]) (zq rfl (zr rfl rfl rfl (by simp; rfl) ?_))
   refine z0a ?_
   by_cases c12 : v6.1 = 2
   ·rw [if_pos c12] at h1
    have c12e := eq_true c12
    refine z0v rfl (by simp [c12e]) (zq rfl ?_)
    obtain ⟨v8, f13, h2⟩ := z0c h1
    have f13k := z6O f13
    try simp at f13k
    refine zr rfl rfl rfl (by simp [f13k]; rfl) ?_
    refine z0a (z1o rfl (z0n (z0e ?_)))
    cases h2
    simp
   ·rw [if_neg c12] at h1
    have c12e := eq_false c12
    refine z0t rfl (by simp [c12e]) (zq rfl (zr rfl rfl rfl (by simp; rfl) ?_))
    refine z0a ?_
    by_cases c14 : v6.1 = 3
    ·rw [if_pos c14] at h1
     have c14e := eq_true c14
     refine z0v rfl (by simp [c14e]) (zq rfl ?_)
     obtain ⟨v9, f15, h2⟩ := z0c h1
     have f15k := z7Z f15
     try simp at f15k
     refine zr rfl rfl rfl (by simp [f15k]; rfl) ?_
     refine z0a (z1o rfl (z0n (z0e ?_)))
     cases h2
     simp
    ·rw [if_neg c14] at h1
     have c14e := eq_false c14
     refine z0t rfl (by simp [c14e]) (z0g rfl (z0l (z0a (zq rfl ?_))))
     obtain ⟨v10, f16, h2⟩ := z0c h1
     have f16k := z7G f16
     try simp at f16k
     refine zr rfl rfl rfl (by simp [f16k]; rfl) ?_
     refine z0a (z1o rfl ?_)
     cases h2
     simp
end
end Go.Proofs.Ytbnnipkanechoaa
end
section
namespace Go.Proofs.Ytbnnipkanechoaa
open Go
structure TapeOk (t : Tape) : Prop where
  a0 : 0 ≤ t.at_
  a1 : t.at_ ≤ t.l.length
  a2 : t.l.length ≤ 80
theorem zdo (x n : Int) (h1 : 1 ≤ n) (h2 : n < 4611686018427387904) : ∃ v, z8S x n = some v ∧ 0 ≤ v ∧ v < n := by
  have hx : x.tmod n < n := Int.tmod_lt_of_pos _ (by omega)
  have hy : -n < x.tmod n := Int.lt_tmod_of_pos x (by omega)
  unfold z8S
  rw [if_neg (by omega), z1s _ (by omega)]
  split
  · rw [z2r (by omega) (by omega)]; exact ⟨_, rfl, by omega, by omega⟩
  · exact ⟨_, rfl, by omega, by omega⟩
theorem z5e {t : Tape} (ht : TapeOk t) (n : Int) (h1 : 1 ≤ n) (h2 : n < 4611686018427387904) : ∃ v t', z1x t n = some (v, t') ∧ 0 ≤ v ∧ v < n ∧ TapeOk t' := by
  obtain ⟨a0, a1, a2⟩ := ht
  unfold z1x
  split
  · exact ⟨_, _, rfl, by omega, by omega, a0, a1, a2⟩
  · rename_i hlt
    rw [z2r (x := t.at_ + 1) (by omega) (by omega), z2r (by omega) (by omega)]
    obtain ⟨k, hk⟩ := Int.eq_ofNat_of_zero_le a0
    have e : t.at_ + 1 - 1 = (k : Int) := by omega
    rw [e, z3s (by omega)]
    obtain ⟨v, hv, h3, h4⟩ := zdo t.l[k] n h1 h2
    simp only [Option.bind_some, hv]
    exact ⟨_, _, rfl, h3, h4, by simp only; omega, by simp only; omega, a2⟩
theorem zne (l : List Int) : ∃ t, z7B l = some t ∧ TapeOk t := by
  unfold z7B
  split
  · rename_i h
    have := zhi (xs := l) (k := 80) (by omega)
    simp only [Int.cast_ofNat_Int] at this
    rw [this]
    exact ⟨_, rfl, by simp, by simp, by simp only [List.length_take]; omega⟩
  · exact ⟨_, rfl, by simp, by simp, by simp; omega⟩
def zjL (m : Int) (w : ByteArray) : Prop := ∀ k, ∀ h : k < w.size, 97 ≤ (w[k].toNat : Int) ∧ (w[k].toNat : Int) < 97 + m
theorem z8k (l : List Int) : (z9Q l).size = l.length := by simp [z9Q, ByteArray.size]
theorem zja (l : List Int) (k : Nat) (h : k < (z9Q l).size) : (z9Q l)[k] = UInt8.ofNat (l[k]'(by rw [z8k] at h; exact h)).toNat := by
  simp [z9Q, ByteArray.getElem_eq_getElem_data]
theorem zpS {t : Tape} (ht : TapeOk t) (m most : Int) (hm : 1 ≤ m ∧ m ≤ 26) (hk : 0 ≤ most ∧ most < 1000) : ∃ w t', z4K t m most = some (w, t') ∧ zjL m w ∧ (w.size : Int) ≤ most ∧ TapeOk t' := by
  unfold z4K
  rw [z2r (by omega) (by omega)]
  obtain ⟨n, t1, e1, n0, n1, ht1⟩ := z5e ht (most + 1) (by omega) (by omega)
  simp only [e1, Option.bind_some]
  refine Exists.elim (z2E (b := z4y m) (fun s => 0 ≤ s.1 ∧ s.1 + s.2.2.2.length = n ∧ TapeOk ⟨s.2.1, s.2.2.1⟩ ∧ ∀ x ∈ s.2.2.2, 97 ≤ x ∧ x < 97 + m) (fun s => s.1.toNat) (fun r => zjL m r.1 ∧ (r.1.size : Int) ≤ most ∧ TapeOk r.2) ?_ LFm (n, t1.l, t1.at_, []) ⟨n0, by simp, ht1, by simp⟩ (by simp only [LFm]; omega)) fun r h => ⟨r.1, r.2, h⟩
  rintro ⟨q, l, a, b⟩ ⟨i1, i2, i3, i4⟩
  simp only at i1 i2 i3 i4 ⊢
  simp only [z4y]
  by_cases hq : 0 < q
  · left
    obtain ⟨v, t2, e2, v0, v1, ht2⟩ := z5e i3 m (by omega) (by omega)
    rw [if_pos hq, e2]
    simp only [Option.bind_some]
    rw [z1s _ (by unfold z3O; omega), z2r (x := q - 1) (by omega) (by omega), z2r (x := 97 + v) (by omega) (by omega), zpN (by omega) (by omega)]
    refine ⟨_, rfl, ⟨by simp only; omega, by simp only [List.length_append, List.length_singleton]; omega, ht2, ?_⟩, by simp only; omega⟩
    intro x hx
    rcases List.mem_append.1 hx with h | h
    · exact i4 x h
    · have : x = 97 + v := by simpa using h
      omega
  · right
    rw [if_neg hq]
    refine ⟨_, rfl, fun k hk => ?_, by rw [z8k]; omega, i3⟩
    rw [zja]
    have := i4 _ (List.getElem_mem (by rw [z8k] at hk; exact hk))
    generalize b[k]'_ = z at this
    simp only [UInt8.toNat_ofNat']
    omega
end Go.Proofs.Ytbnnipkanechoaa
end
section
namespace Go.Proofs.Ytbnnipkanechoaa
open Go
def z7o (m n : Nat) (r : List Int) : Prop := r.length = m ∧ ∀ x ∈ r, 0 ≤ x ∧ x < n
structure DfaOk (d : DFA) (m n : Nat) : Prop where
  lt : d.letters = m
  m1 : 1 ≤ m
  m6 : m ≤ 6
  n1 : 1 ≤ n
  fin : d.final.length = n
  nl : d.next.length = n
  s0 : 0 ≤ d.start
  s1 : d.start < n
  row : ∀ r ∈ d.next, z7o m n r
theorem zfG {σ τ ρ : Type} {b : σ → Option (σ ⊕ (τ ⊕ ρ))} (I : σ → Prop) (m : σ → Nat) (Post : τ → Prop) {s : σ} (hI : I s) (hm : m s < LFm)
    (step : ∀ s, I s → (∃ s', b s = some (.inl s') ∧ I s' ∧ m s' < m s) ∨ (∃ r, b s = some (.inr (.inl r)) ∧ Post r)) : ∃ r, z1q b LFm s = some (.inl r) ∧ Post r := by
  obtain ⟨r, h1, r', h2, h3⟩ := z2E I m (fun r => ∃ t, r = .inl t ∧ Post t) (fun s hs => (step s hs).imp id fun ⟨r, h, hp⟩ => ⟨_, h, r, rfl, hp⟩) LFm s hI hm
  exact ⟨r', by rw [h1, h2], h3⟩
theorem zag {α : Type} {l : List α} {x y : α} : y ∈ l ++ [x] ↔ y ∈ l ∨ y = x := by simp
theorem zpG {t : Tape} (ht : TapeOk t) (m most : Nat) (hm : 1 ≤ m ∧ m ≤ 6) (hk : 1 ≤ most ∧ most ≤ 1000) : ∃ d t' n, z4B t m most = some (d, t') ∧ DfaOk d m n ∧ n ≤ most ∧ TapeOk t' := by
  unfold z4B
  obtain ⟨v, t1, e1, v0, v1, ht1⟩ := z5e ht (most : Int) (by omega) (by omega)
  simp only [e1, Option.bind_some]
  obtain ⟨k, rfl⟩ := Int.eq_ofNat_of_zero_le v0
  have hw : IntKind.i64.wrap (1 + (k : Int)) = ((k + 1 : Nat) : Int) := by rw [z2r (by omega) (by omega)]; omega
  rw [hw]
  obtain ⟨s, t2, e2, s0, s1, ht2⟩ := z5e ht1 ((k + 1 : Nat) : Int) (by omega) (by omega)
  simp only [e2, Option.bind_some]
  refine Exists.elim (z2E (b := z4R m ((k : Int), t1) (s, t2)) (fun z => 0 ≤ z.1 ∧ z.1 ≤ (k + 1 : Nat) ∧ TapeOk ⟨z.2.1, z.2.2.1⟩ ∧ (z.2.2.2.1.length : Int) = z.1 ∧ (z.2.2.2.2.length : Int) = z.1 ∧ ∀ r ∈ z.2.2.2.2, z7o m (k + 1) r) (fun z => k + 2 - z.1.toNat)
    (fun r => DfaOk r.1 m (k + 1) ∧ TapeOk r.2) ?_ LFm (0, t2.l, t2.at_, [], []) ⟨by simp, by simp; omega, ht2, by simp, by simp, by simp⟩ (by simp only [LFm]; omega)) fun r h => ⟨r.1, r.2, k + 1, h.1, h.2.1, by omega, h.2.2⟩
  rintro ⟨i, tl, ta, fs, rs⟩ ⟨i0, i1, i2, i3, i4, i5⟩
  simp only at i0 i1 i2 i3 i4 i5 ⊢
  simp only [z4R, hw]
  by_cases hi : i < ((k + 1 : Nat) : Int)
  · left
    rw [if_pos hi]
    obtain ⟨u, t3, e3, u0, u1, ht3⟩ := z5e i2 2 (by omega) (by omega)
    simp only [e3, Option.bind_some]
    rw [z1s _ (by unfold z3O; omega)]
    refine Exists.elim (zfG (b := z4A m ((k : Int), t1) i fs rs (u, t3)) (fun z => 0 ≤ z.1 ∧ z.1 ≤ m ∧ TapeOk ⟨z.2.1, z.2.2.1⟩ ∧ (z.2.2.2.length : Int) = z.1 ∧ ∀ x ∈ z.2.2.2, 0 ≤ x ∧ x < (k + 1 : Nat)) (fun z => m + 1 - z.1.toNat)
      (fun z => z.1 = i + 1 ∧ TapeOk ⟨z.2.1, z.2.2.1⟩ ∧ (z.2.2.2.1.length : Int) = i + 1 ∧ (z.2.2.2.2.length : Int) = i + 1 ∧ ∀ r ∈ z.2.2.2.2, z7o m (k + 1) r) (s := (0, t3.l, t3.at_, [])) ⟨by simp, by simp, ht3, by simp, by simp⟩ (by simp only [LFm]; omega) ?_) fun r h => ⟨_, h.1, ⟨by have := h.2.1; omega, by have := h.2.1; omega, h.2.2.1, by have := h.2.1; have := h.2.2.2.1; omega, by have := h.2.1; have := h.2.2.2.2.1; omega, h.2.2.2.2.2⟩, by have := h.2.1; omega⟩
    rintro ⟨j, ul, ua, row⟩ ⟨j0, j1, j2, j3, j4⟩
    simp only at j0 j1 j2 j3 j4 ⊢
    simp only [z4A, hw]
    by_cases hj : j < (m : Int)
    · left
      rw [if_pos hj]
      obtain ⟨x, t4, e4, x0, x1, ht4⟩ := z5e j2 ((k + 1 : Nat) : Int) (by omega) (by omega)
      simp only [e4, Option.bind_some]
      rw [z1s _ (by unfold z3O; omega), z2r (by omega) (by omega)]
      refine ⟨_, rfl, ⟨by simp only; omega, by simp only; omega, ht4, by simp only [List.length_append, List.length_singleton]; omega, fun y hy => ?_⟩, by simp only; omega⟩
      rcases zag.1 hy with h | rfl
      · exact j4 y h
      · exact ⟨x0, x1⟩
    · right
      rw [if_neg hj, z1s _ (by unfold z3O; omega), z2r (by omega) (by omega)]
      refine ⟨_, rfl, by simp only, j2, by simp only [List.length_append, List.length_singleton]; omega, by simp only [List.length_append, List.length_singleton]; omega, fun y hy => ?_⟩
      rcases zag.1 hy with h | rfl
      · exact i5 y h
      · exact ⟨by omega, j4⟩
  · right
    rw [if_neg hi]
    exact ⟨_, rfl, ⟨rfl, hm.1, hm.2, by omega, by simp only; omega, by simp only; omega, s0, s1, i5⟩, i2⟩
theorem zbB {t : Tape} (ht : TapeOk t) : ∃ m t', z2D t = some (((m : Nat) : Int), t') ∧ 1 ≤ m ∧ m ≤ 2 ∧ TapeOk t' := by
  unfold z2D
  obtain ⟨v, t1, e1, v0, v1, ht1⟩ := z5e ht 8 (by omega) (by omega)
  simp only [e1, Option.bind_some]
  obtain ⟨k, rfl⟩ := Int.eq_ofNat_of_zero_le v0
  have : zrD .i64 (k : Int) 7 = ((k / 7 : Nat) : Int) := by
    unfold zrD
    rw [show ((k : Int).tdiv 7) = ((k / 7 : Nat) : Int) by rfl, z2r (by omega) (by omega)]
  rw [this, z2r (by omega) (by omega)]
  exact ⟨2 - k / 7, t1, by congr 2; omega, by omega, by omega, ht1⟩
end Go.Proofs.Ytbnnipkanechoaa
end
section
namespace Go.Proofs.Ytbnnipkanechoaa
open Go
set_option maxRecDepth 100000
theorem zjz {m n : Nat} {rs : List (List Int)} (h : ∀ r ∈ rs, z7o m n r) {r' : List Int} (hr : z7o m n r') (i : Nat) : ∀ r ∈ rs.set i r', z7o m n r := fun r hm => by
  rcases List.mem_or_eq_of_mem_set hm with h' | rfl
  · exact h r h'
  · exact hr
theorem zn0 {m n : Nat} {r : List Int} (h : z7o m n r) {x : Int} (hx : 0 ≤ x ∧ x < n) (j : Nat) : z7o m n (r.set j x) := ⟨by simp [h.1], fun y hy => by
  rcases List.mem_or_eq_of_mem_set hy with h' | rfl
  · exact h.2 y h'
  · exact hx⟩
theorem zn1 {m n : Nat} {rs : List (List Int)} (h : ∀ r ∈ rs, z7o m n r) {k : Nat} (hk : k < rs.length) : z7o m n rs[k] := h _ (List.getElem_mem hk)
theorem zlz {t : Tape} (ht : TapeOk t) (m most : Nat) (hm : 1 ≤ m ∧ m ≤ 6) (hk : 1 ≤ most ∧ most ≤ 1000) : ∃ d t' n, z4b t m most = some (d, t') ∧ DfaOk d m n ∧ n ≤ most ∧ TapeOk t' := by
  unfold z4b
  obtain ⟨d, t1, n, e1, hd, hn, ht1⟩ := zpG ht m most hm hk
  simp only [e1, Option.bind_some]
  refine Exists.elim (z2E (b := z3U (d, t1)) (fun z => 0 ≤ z.1 ∧ z.1 ≤ n ∧ z.2.length = n ∧ ∀ r ∈ z.2, z7o m n r) (fun z => n + 1 - z.1.toNat) (fun r => DfaOk r.1 m n ∧ TapeOk r.2) ?_ LFm (0, d.next) ⟨by simp, by simp, hd.nl, hd.row⟩ (by simp only [LFm]; omega)) fun r h => ⟨r.1, r.2, n, h.1, h.2.1, hn, h.2.2⟩
  rintro ⟨i, rs⟩ ⟨i0, i1, i2, i3⟩
  simp only at i0 i1 i2 i3 ⊢
  simp only [z3U, hd.nl]
  obtain ⟨i, rfl⟩ := Int.eq_ofNat_of_zero_le i0
  by_cases hi : (i : Int) < n
  · left
    rw [if_pos hi, z3s (by omega)]
    simp only [Option.bind_some]
    have hri := zn1 i3 (show i < rs.length by omega)
    refine Exists.elim (zfG (b := z3T (i : Int) rs[i]) (fun z => 0 ≤ z.1 ∧ z.1 ≤ m ∧ z.2.length = n ∧ ∀ r ∈ z.2, z7o m n r) (fun z => m + 1 - z.1.toNat) (fun z => z.1 = (i : Int) + 1 ∧ z.2.length = n ∧ ∀ r ∈ z.2, z7o m n r) (s := (0, rs)) ⟨by simp, by simp, i2, i3⟩ (by simp only [LFm]; omega) ?_) fun r h => ⟨_, h.1, ⟨by have := h.2.1; omega, by have := h.2.1; omega, h.2.2.1, h.2.2.2⟩, by have := h.2.1; omega⟩
    rintro ⟨j, us⟩ ⟨j0, j1, j2, j3⟩
    simp only at j0 j1 j2 j3 ⊢
    obtain ⟨j, rfl⟩ := Int.eq_ofNat_of_zero_le j0
    simp only [z3T, hri.1]
    rw [z3s (by omega)]
    simp only [Option.bind_some]
    have hui := zn1 j3 (show i < us.length by omega)
    by_cases hj : (j : Int) < m
    · left
      rw [if_pos hj, z3s (by rw [hui.1]; omega), z2r (by omega) (by omega)]
      simp only [Option.bind_some]
      refine ⟨_, rfl, ⟨by simp only; omega, by simp only; omega, by simp only [List.length_set]; exact j2, zjz j3 (zn0 hui ?_ _) _⟩, by simp only; omega⟩
      have := hui.2 _ (List.getElem_mem (show j < us[i].length by rw [hui.1]; omega))
      split <;> omega
    · right
      rw [if_neg hj, z2r (by omega) (by omega)]
      exact ⟨_, rfl, rfl, j2, j3⟩
  · right
    rw [if_neg hi]
    exact ⟨_, rfl, ⟨hd.lt, hd.m1, hd.m6, hd.n1, hd.fin, by simp only; omega, by simp, by simp only; have := hd.n1; omega, i3⟩, ht1⟩
theorem zoE (m n : Nat) (hn : 1 ≤ n) : z7o m n (List.replicate m 0) := ⟨by simp, fun x hx => by rw [(List.mem_replicate.1 hx).2]; omega⟩
theorem zq7 {xs : List Int} {k : Nat} (h : k < xs.length) : z7g xs 0 (k : Int) = some (xs.take k) := zhi (by omega)
theorem zq6 {xs : List Int} {k : Nat} (h : k < xs.length) : z7g xs ((k : Int) + 1) (xs.length : Int) = some (xs.drop (k + 1)) := by
  have := ziF (xs := xs) (k := k + 1) (by omega)
  rwa [show ((k + 1 : Nat) : Int) = (k : Int) + 1 by omega] at this
theorem zoI {t : Tape} (ht : TapeOk t) (m most : Nat) (hm : 1 ≤ m ∧ m ≤ 6) (hk : 1 ≤ most ∧ most ≤ 1000) : ∃ d t' n, z2y t m most = some (d, t') ∧ DfaOk d m n ∧ n ≤ most ∧ TapeOk t' := by
  unfold z2y
  obtain ⟨v, t1, e1, v0, v1, ht1⟩ := z5e ht (most : Int) (by omega) (by omega)
  simp only [e1, Option.bind_some]
  obtain ⟨k, rfl⟩ := Int.eq_ofNat_of_zero_le v0
  have hw : IntKind.i64.wrap (1 + (k : Int)) = ((k + 1 : Nat) : Int) := by rw [z2r (by omega) (by omega)]; omega
  rw [hw]
  obtain ⟨s, t2, e2, s0, s1, ht2⟩ := z5e ht1 ((k + 1 : Nat) : Int) (by omega) (by omega)
  simp only [e2, Option.bind_some]
  refine Exists.elim (z2E (b := z2L m ((k : Int), t1) (s, t2)) (fun z => 0 ≤ z.1 ∧ z.1 ≤ (k + 1 : Nat) ∧ TapeOk ⟨z.2.1, z.2.2.1⟩ ∧ (z.2.2.2.1.length : Int) = z.1 ∧ (z.2.2.2.2.length : Int) = z.1 ∧ ∀ r ∈ z.2.2.2.2, z7o m (k + 1) r) (fun z => k + 2 - z.1.toNat)
    (fun r => DfaOk r.1 m (k + 1) ∧ TapeOk r.2) ?_ LFm (0, t2.l, t2.at_, [], []) ⟨by simp, by simp; omega, ht2, by simp, by simp, by simp⟩ (by simp only [LFm]; omega)) fun r h => ⟨r.1, r.2, k + 1, h.1, h.2.1, by omega, h.2.2⟩
  rintro ⟨i, tl, ta, fs, rs⟩ ⟨i0, i1, i2, i3, i4, i5⟩
  simp only at i0 i1 i2 i3 i4 i5 ⊢
  simp only [z2L, hw]
  by_cases hi : i < ((k + 1 : Nat) : Int)
  · left
    rw [if_pos hi]
    obtain ⟨u, t3, e3, u0, u1, ht3⟩ := z5e i2 2 (by omega) (by omega)
    simp only [e3, Option.bind_some]
    rw [z1s _ (by unfold z3O; omega), z1s _ (by unfold z3w; omega), z1s _ (by unfold z3O; omega), z2r (by omega) (by omega)]
    refine ⟨_, rfl, ⟨by simp only; omega, by simp only; omega, ht3, by simp only [List.length_append, List.length_singleton]; omega, by simp only [List.length_append, List.length_singleton]; omega, fun y hy => ?_⟩, by simp only; omega⟩
    rcases zag.1 hy with h | rfl
    · exact i5 y h
    · exact zoE m (k + 1) (by omega)
  · right
    rw [if_neg hi]
    refine Exists.elim (z2E (b := z2K m ((k : Int), t1) (s, t2) fs) (fun z => 0 ≤ z.1 ∧ z.1 ≤ m ∧ TapeOk ⟨z.2.1, z.2.2.1⟩ ∧ z.2.2.2.length = k + 1 ∧ ∀ r ∈ z.2.2.2, z7o m (k + 1) r) (fun z => m + 1 - z.1.toNat)
      (fun r => DfaOk r.1 m (k + 1) ∧ TapeOk r.2) ?_ LFm (0, tl, ta, rs) ⟨by simp, by simp, i2, by simp only; omega, i5⟩ (by simp only [LFm]; omega)) fun r h => ⟨r, by rw [h.1]; rfl, h.2⟩
    rintro ⟨a, ul, ua, us⟩ ⟨a0, a1, a2, a3, a4⟩
    simp only at a0 a1 a2 a3 a4 ⊢
    obtain ⟨a, rfl⟩ := Int.eq_ofNat_of_zero_le a0
    simp only [z2K]
    by_cases ha : (a : Int) < m
    · left
      rw [if_pos ha]
      refine Exists.elim (zfG (b := z2v ((k : Int), t1) (a : Int) ul ua us) (fun z => 0 ≤ z.1 ∧ z.1 ≤ (k + 1 : Nat) ∧ (z.2.length : Int) = z.1 ∧ ∀ x ∈ z.2, 0 ≤ x ∧ x < (k + 1 : Nat)) (fun z => k + 2 - z.1.toNat)
        (fun z => z.1 = (a : Int) + 1 ∧ TapeOk ⟨z.2.1, z.2.2.1⟩ ∧ z.2.2.2.length = k + 1 ∧ ∀ r ∈ z.2.2.2, z7o m (k + 1) r) (s := (0, [])) ⟨by simp, by simp; omega, by simp, by simp⟩ (by simp only [LFm]; omega) ?_) fun r h => ⟨_, h.1, ⟨by have := h.2.1; omega, by have := h.2.1; omega, h.2.2.1, h.2.2.2.1, h.2.2.2.2⟩, by have := h.2.1; omega⟩
      rintro ⟨q, left⟩ ⟨q0, q1, q2, q3⟩
      simp only at q0 q1 q2 q3 ⊢
      simp only [z2v, hw]
      by_cases hq : q < ((k + 1 : Nat) : Int)
      · left
        rw [if_pos hq, z1s _ (by unfold z3O; omega), z2r (by omega) (by omega)]
        refine ⟨_, rfl, ⟨by simp only; omega, by simp only; omega, by simp only [List.length_append, List.length_singleton]; omega, fun y hy => ?_⟩, by simp only; omega⟩
        rcases zag.1 hy with h | rfl
        · exact q3 y h
        · omega
      · right
        rw [if_neg hq]
        refine Exists.elim (zfG (b := z2u ((k : Int), t1) (a : Int)) (fun z => 0 ≤ z.1 ∧ z.1 ≤ (k + 1 : Nat) ∧ TapeOk ⟨z.2.1, z.2.2.1⟩ ∧ z.2.2.2.1.length = k + 1 ∧ (∀ r ∈ z.2.2.2.1, z7o m (k + 1) r) ∧ (z.2.2.2.2.length : Int) = (k + 1 : Nat) - z.1 ∧ ∀ x ∈ z.2.2.2.2, 0 ≤ x ∧ x < (k + 1 : Nat)) (fun z => k + 2 - z.1.toNat)
          (fun z => z.1 = (a : Int) + 1 ∧ TapeOk ⟨z.2.1, z.2.2.1⟩ ∧ z.2.2.2.length = k + 1 ∧ ∀ r ∈ z.2.2.2, z7o m (k + 1) r) (s := (0, ul, ua, us, left)) ⟨by simp, by simp; omega, a2, a3, a4, by simp only; omega, q3⟩ (by simp only [LFm]; omega) ?_) fun r h => ⟨r, by rw [h.1]; rfl, h.2⟩
        rintro ⟨p, xl, xa, xs, lf⟩ ⟨p0, p1, p2, p3, p4, p5, p6⟩
        simp only at p0 p1 p2 p3 p4 p5 p6 ⊢
        obtain ⟨p, rfl⟩ := Int.eq_ofNat_of_zero_le p0
        simp only [z2u, hw]
        by_cases hp : (p : Int) < ((k + 1 : Nat) : Int)
        · left
          rw [if_pos hp]
          obtain ⟨x, t4, e4, x0, x1, ht4⟩ := z5e p2 (lf.length : Int) (by omega) (by omega)
          obtain ⟨x, rfl⟩ := Int.eq_ofNat_of_zero_le x0
          have hrp := zn1 p4 (show p < xs.length by omega)
          have hlx : x < lf.length := by omega
          simp only [e4, Option.bind_some]
          rw [z3s (show p < xs.length by omega)]
          simp only [Option.bind_some]
          rw [z3s hlx]
          simp only [Option.bind_some]
          rw [z3s (show a < xs[p].length by rw [hrp.1]; omega), z2r (x := (x : Int) + 1) (by omega) (by omega), zq7 hlx]
          simp only [Option.bind_some]
          rw [zq6 hlx]
          simp only [Option.bind_some]
          rw [z1s _ (by unfold z3O; simp only [List.length_take]; omega), z1s _ (by unfold z3O; simp only [List.length_take, List.length_drop]; omega), z2r (by omega) (by omega)]
          refine ⟨_, rfl, ⟨by simp only; omega, by simp only; omega, ht4, by simp only [List.length_set]; exact p3, zjz p4 (zn0 hrp (p6 _ (List.getElem_mem hlx)) _) _, by simp only [List.length_append, List.length_take, List.length_drop]; omega, fun y hy => ?_⟩, by simp only; omega⟩
          rcases List.mem_append.1 hy with h | h
          · exact p6 y (List.mem_of_mem_take h)
          · exact p6 y (List.mem_of_mem_drop h)
        · right
          rw [if_neg hp, z2r (by omega) (by omega)]
          exact ⟨_, rfl, rfl, p2, p3, p4⟩
    · right
      rw [if_neg ha]
      exact ⟨_, rfl, ⟨rfl, hm.1, hm.2, by omega, by simp only; omega, a3, s0, s1, a4⟩, a2⟩
end Go.Proofs.Ytbnnipkanechoaa
end
section
namespace Go.Proofs.Ytbnnipkanechoaa
open Go
noncomputable section
set_option maxRecDepth 100000
set_option maxHeartbeats 1000000
def z5M (a0 : Int) : Option (Bool) :=
  if 1 ≤ a0 then
    some (decide (a0 ≤ 6))
  else
    some false
def z4T (a0 : DFA) (w22 : Int) (v28 : List Int) : Int → Option (Int ⊕ (Int ⊕ Int))
  | w30 =>
  if w30 < (v28.length : Int) then
    (atI v28 w30).bind fun v32 =>
    if v32 < 0 then
      z0Y <|
      z0Y <|
      some 4
    else
      if (a0.final.length : Int) ≤ v32 then
        z0Y <|
        z0Y <|
        some 4
      else
        z0Z (IntKind.i64.wrap (w30 + 1))
  else
    z0Y <|
    z0Z (IntKind.i64.wrap (w22 + 1))
def z4S (a0 : DFA) (w22 : Int) (v28 : List Int) : Int → Fr
  | w30 => ⟨64, [(1, .one (.a 1 [] (0))), (3, .one (.t none (.sc (.int .i64 (a0.final.length : Int))))), (38, .one (.t none (.sl a0.next.length (a0.next.map fun x0 => .sl x0.length (x0.map fun x1 => .sc (.int .i64 x1)))))), (39, .one (.t none (.sc (.int .i64 (a0.next.length : Int))))), (40, .one (.t none (.sc (.int .i64 w22)))), (49, .one (.t none (.sl v28.length (v28.map fun x0 => .sc (.int .i64 x0))))), (50, .one (.t none (.sc (.int .i64 (v28.length : Int))))), (51, .one (.t none (.sc (.int .i64 w30))))], [(1, .vr [.sc (.int .i64 a0.letters), .sc (.int .i64 a0.start), .sl a0.final.length (a0.final.map fun x0 => .sc (.bool x0)), .sl a0.next.length (a0.next.map fun x0 => .sl x0.length (x0.map fun x1 => .sc (.int .i64 x1)))])]⟩
def z4u (a0 : DFA) : Int → Option (Int ⊕ Int)
  | w22 =>
  if w22 < (a0.next.length : Int) then
    (atI a0.next w22).bind fun v28 =>
    if (v28.length : Int) = a0.letters then
      z1q (z4T a0 w22 v28) LFm 0
    else
      z0Y <|
      some 4
  else
    z0Y <|
    some 0
def z5n (a0 : DFA) : Int → Fr
  | w22 => ⟨64, [(1, .one (.a 1 [] (0))), (3, .one (.t none (.sc (.int .i64 (a0.final.length : Int))))), (38, .one (.t none (.sl a0.next.length (a0.next.map fun x0 => .sl x0.length (x0.map fun x1 => .sc (.int .i64 x1)))))), (39, .one (.t none (.sc (.int .i64 (a0.next.length : Int))))), (40, .one (.t none (.sc (.int .i64 w22))))], [(1, .vr [.sc (.int .i64 a0.letters), .sc (.int .i64 a0.start), .sl a0.final.length (a0.final.map fun x0 => .sc (.bool x0)), .sl a0.next.length (a0.next.map fun x0 => .sl x0.length (x0.map fun x1 => .sc (.int .i64 x1)))])]⟩
def z5K (a0 : DFA) : Option (Int) :=
  if a0.letters < 1 then
    some 1
  else
    if 6 < a0.letters then
      some 1
    else
      if 512 < (a0.final.length : Int) then
        some 3
      else
        if (a0.next.length : Int) = (a0.final.length : Int) then
          if a0.start < 0 then
            some 4
          else
            if (a0.final.length : Int) ≤ a0.start then
              some 4
            else
              z1q (z4u a0) LFm 0
        else
          some 4
theorem zdM {a0 : DFA} {r : Int} (h0 : z5K a0 = some r) : L 62 [.agg [.sc (.int .i64 a0.letters), .sc (.int .i64 a0.start), .sl a0.final.length (a0.final.map fun x0 => .sc (.bool x0)), .sl a0.next.length (a0.next.map fun x0 => .sl x0.length (x0.map fun x1 => .sc (.int .i64 x1)))]] = some (.sc (.int .i64 r), [.dead]) := by
  simp only [z5K] at h0
  refine z3M ztQ zuY (z1B zwn ⟨of_decide_eq_true rfl, of_decide_eq_true rfl⟩ ?_)
  simp only [z1M, z1G, z1E, z1Q, z3Q]
  refine zq rfl (zr rfl rfl rfl (by simp; rfl) ?_)
  refine z0a (zq rfl (zq rfl ?_))
  by_cases c52 : a0.letters < 1
  ·rw [if_pos c52] at h0
   refine zr rfl rfl rfl (by simp [c52]; rfl) ?_
   refine z0a (z0v rfl (by simp) (zq rfl (zr rfl rfl rfl (by simp; rfl) ?_)))
   refine z0a (z1o rfl (z0e ?_))
   cases h0
   simp
  ·rw [if_neg c52] at h0
   refine zr rfl rfl rfl (by simp [c52]; rfl) ?_
   refine z0a ?_
   by_cases c53 : 6 < a0.letters
   ·rw [if_pos c53] at h0
    refine z0v rfl (by simp [c53]) (zq rfl (zr rfl rfl rfl (by simp; rfl) ?_))
    refine z0a (z1o rfl (z0e ?_))
    cases h0
    simp
   ·rw [if_neg c53] at h0
    refine z0t rfl (by simp [c53]) (z0g rfl (z0a (zq rfl (zr rfl rfl rfl (by simp; rfl) ?_))))
    refine z0a (zq rfl (zq rfl (zr rfl rfl rfl (by simp; rfl) ?_)))
    refine z0a ?_
    by_cases c54 : 512 < (a0.final.length : Int)
    ·rw [if_pos c54] at h0
     refine z0v rfl (by simp [c54]) (zq rfl (zr rfl rfl rfl (by simp; rfl) ?_))
     refine z0a (z1o rfl (z0e ?_))
     cases h0
     simp
    ·rw [if_neg c54] at h0
     refine z0t rfl (by simp [c54]) (z0g rfl (z0a (zq rfl (zq rfl ?_))))
     by_cases c55 : (a0.next.length : Int) = (a0.final.length : Int)
     ·rw [if_pos c55] at h0
      have c55e := eq_true c55
      by_cases c56 : a0.start < 0
      ·rw [if_pos c56] at h0
       refine zr rfl rfl rfl (by simp [c55e, c56]; rfl) ?_
       refine z0a (z0v rfl (by simp) (zq rfl (zr rfl rfl rfl (by simp; rfl) ?_)))
       refine z0a (z1o rfl (z0e ?_))
       cases h0
       simp
      ·rw [if_neg c56] at h0
       refine zr rfl rfl rfl (by simp [c55e, c56]; rfl) ?_
       refine z0a ?_
       by_cases c57 : (a0.final.length : Int) ≤ a0.start
       ·rw [if_pos c57] at h0
        refine z0v rfl (by simp [c57]) (zq rfl (zr rfl rfl rfl (by simp; rfl) ?_))
        refine z0a (z1o rfl (z0e ?_))
        cases h0
        simp
       ·rw [if_neg c57] at h0
        refine z0t rfl (by simp [c57]) (z0g rfl (z0a (zq rfl (zq rfl (zr rfl rfl rfl (by simp; rfl) ?_)))))
        refine z0a (zb rfl (z0X h0 (z5n a0) rfl rfl (by simp [z5n]) fun s o1 h1 hr1 => ?_))
        obtain ⟨w22, hs1⟩ : ∃ y, y = s := ⟨_, rfl⟩
        subst hs1
        simp only [z4u] at h1
        simp only [z5n]
        refine zq rfl (zr rfl rfl rfl (by simp; rfl) ?_)
        refine z0a (zq rfl ?_)
        by_cases c88 : w22 < (a0.next.length : Int)
        ·rw [if_pos c88] at h1
         refine z0v rfl (by simp [c88]) (z0g rfl (z0a (zq rfl (zb rfl (zq rfl ?_)))))
         obtain ⟨v28, f89, h2⟩ := z1e h1
         refine zr rfl rfl rfl (by simp [f89]; rfl) ?_
         refine z0a (zq rfl (zq rfl (zr rfl rfl rfl (by simp; rfl) ?_)))
         refine z0a ?_
         by_cases c90 : (v28.length : Int) = a0.letters
         ·rw [if_pos c90] at h2
          have c90e := eq_true c90
          refine z0t rfl (by simp [c90e]) (z0g rfl (z0a (zq rfl (zr rfl rfl rfl (by simp; rfl) ?_))))
          refine z0a (zb rfl (z0X h2 (z4S a0 w22 v28) rfl rfl (by simp [z4S]) fun s o2 h3 hr2 => ?_))
          obtain ⟨w30, hs2⟩ : ∃ y, y = s := ⟨_, rfl⟩
          subst hs2
          simp only [z4T] at h3
          simp only [z4S]
          refine zq rfl (zr rfl rfl rfl (by simp; rfl) ?_)
          refine z0a (zq rfl ?_)
          by_cases c99 : w30 < (v28.length : Int)
          ·rw [if_pos c99] at h3
           refine z0v rfl (by simp [c99]) (z0g rfl (z0a (zq rfl (zb rfl (zq rfl ?_)))))
           obtain ⟨v32, f100, h4⟩ := z1e h3
           refine zr rfl rfl rfl (by simp [f100]; rfl) ?_
           refine z0a (zq rfl ?_)
           by_cases c101 : v32 < 0
           ·rw [if_pos c101] at h4
            refine zr rfl rfl rfl (by simp [c101]; rfl) ?_
            refine z0a (z0v rfl (by simp) (zq rfl (zr rfl rfl rfl (by simp; rfl) ?_)))
            refine z0a (z1o rfl (z0n (z0e ?_)))
            obtain ⟨rr2, h5, ho2⟩ := z0b h4
            have hs2 := hr2 _ ho2
            subst hs2
            refine z1n ho2 (z0n (z0n (z0e ?_)))
            obtain ⟨rr1, h6, ho1⟩ := z0b h5
            have hs1 := hr1 _ ho1
            subst hs1
            refine z1n ho1 (z0n (z0e ?_))
            cases h6
            simp
           ·rw [if_neg c101] at h4
            refine zr rfl rfl rfl (by simp [c101]; rfl) ?_
            refine z0a ?_
            by_cases c102 : (a0.final.length : Int) ≤ v32
            ·rw [if_pos c102] at h4
             refine z0v rfl (by simp [c102]) (zq rfl (zr rfl rfl rfl (by simp; rfl) ?_))
             refine z0a (z1o rfl (z0n (z0e ?_)))
             obtain ⟨rr2, h5, ho2⟩ := z0b h4
             have hs2 := hr2 _ ho2
             subst hs2
             refine z1n ho2 (z0n (z0n (z0e ?_)))
             obtain ⟨rr1, h6, ho1⟩ := z0b h5
             have hs1 := hr1 _ ho1
             subst hs1
             refine z1n ho1 (z0n (z0e ?_))
             cases h6
             simp
            ·rw [if_neg c102] at h4
             refine z0t rfl (by simp [c102]) (z0g rfl (z0l (z0a (zr rfl rfl rfl (by simp; rfl) ?_))))
             have ho := z0d h4
             refine z0i ho ?_
             simp [z4S]
          ·rw [if_neg c99] at h3
           refine z0t rfl (by simp [c99]) (z1t rfl (z0T ?_))
           obtain ⟨rr2, h4, ho2⟩ := z0b h3
           have hs2 := hr2 _ ho2
           subst hs2
           refine z0y ho2 (z0f rfl (z0l (z0a (zr rfl rfl rfl (by simp; rfl) ?_))))
           have ho := z0d h4
           refine z0i ho ?_
           simp [z5n]
         ·rw [if_neg c90] at h2
          have c90e := eq_false c90
          refine z0v rfl (by simp [c90e]) (zq rfl (zr rfl rfl rfl (by simp; rfl) ?_))
          refine z0a (z1o rfl (z0e (z0n (z0e ?_))))
          obtain ⟨rr1, h3, ho1⟩ := z0b h2
          have hs1 := hr1 _ ho1
          subst hs1
          refine z1n ho1 (z0n (z0e ?_))
          cases h3
          simp
        ·rw [if_neg c88] at h1
         refine z0t rfl (by simp [c88]) (z1t rfl (z0T ?_))
         obtain ⟨rr1, h2, ho1⟩ := z0b h1
         have hs1 := hr1 _ ho1
         subst hs1
         refine z0y ho1 (z0f rfl (z0a (zq rfl (zr rfl rfl rfl (by simp; rfl) ?_))))
         refine z0a (z1o rfl ?_)
         cases h2
         simp
     ·rw [if_neg c55] at h0
      have c55e := eq_false c55
      refine zr rfl rfl rfl (by simp [c55e]; rfl) ?_
      refine z0a (z0v rfl (by simp) (zq rfl (zr rfl rfl rfl (by simp; rfl) ?_)))
      refine z0a (z1o rfl (z0e ?_))
      cases h0
      simp
def z4c (a0 : DFA) : Option (Int) :=
  (z5K a0).bind fun v2 =>
  if v2 = 0 then
    if 12 < (a0.final.length : Int) then
      some 3
    else
      some 0
  else
    some v2
theorem z6J {a0 : DFA} {r : Int} (h0 : z4c a0 = some r) : L 35 [.agg [.sc (.int .i64 a0.letters), .sc (.int .i64 a0.start), .sl a0.final.length (a0.final.map fun x0 => .sc (.bool x0)), .sl a0.next.length (a0.next.map fun x0 => .sl x0.length (x0.map fun x1 => .sc (.int .i64 x1)))]] = some (.sc (.int .i64 r), [.dead]) := by
  simp only [z4c] at h0
  refine z3M zu3 zvb (z1B zwA ⟨of_decide_eq_true rfl, of_decide_eq_true rfl⟩ ?_)
  simp only [z1M, z1G, z1E, z1Q, z3Q]
  refine zq rfl (zr rfl rfl rfl (by simp; rfl) ?_)
  refine z0a (zq rfl (zq rfl ?_))
  obtain ⟨v2, f4, h1⟩ := z0c h0
  have f4k := zdM f4
  try simp at f4k
  refine zr rfl rfl rfl (by simp [f4k]; rfl) ?_
  refine z0a (zq rfl (zr rfl rfl rfl (by simp; rfl) ?_))
  refine z0a ?_
  by_cases c5 : v2 = 0
  ·rw [if_pos c5] at h1
   have c5e := eq_true c5
   refine z0t rfl (by simp [c5e]) (z0g rfl (z0a (zq rfl (zq rfl (zr rfl rfl rfl (by simp; rfl) ?_)))))
   refine z0a ?_
   by_cases c6 : 12 < (a0.final.length : Int)
   ·rw [if_pos c6] at h1
    refine z0v rfl (by simp [c6]) (zq rfl (zr rfl rfl rfl (by simp; rfl) ?_))
    refine z0a (z1o rfl (z0e ?_))
    cases h1
    simp
   ·rw [if_neg c6] at h1
    refine z0t rfl (by simp [c6]) (z0g rfl (z0a (zq rfl (zr rfl rfl rfl (by simp; rfl) ?_))))
    refine z0a (z1o rfl ?_)
    cases h1
    simp
  ·rw [if_neg c5] at h1
   have c5e := eq_false c5
   refine z0v rfl (by simp [c5e]) (zq rfl (zr rfl rfl rfl (by simp; rfl) ?_))
   refine z0a (z1o rfl (z0e ?_))
   cases h1
   simp
def z6L (a0 : ByteArray) (a1 : Int) : Int → Option (Int ⊕ Bool)
  | w12 =>
  if w12 < (a0.size : Int) then
    (zjb a0 w12).bind fun v15 =>
    if v15 < 97 then
      z0Y <|
      some false
    else
      if a1 ≤ (IntKind.i64.wrap (IntKind.u8.wrap (v15 - 97))) then
        z0Y <|
        some false
      else
        z0Z (IntKind.i64.wrap (w12 + 1))
  else
    z0Y <|
    some true
def z6u (a0 : ByteArray) (a1 : Int) : Option (Bool) :=
  (z5M a1).bind fun v9 =>
  if v9 = true then
    if 2048 < (a0.size : Int) then
      some false
    else
      z1q (z6L a0 a1) LFm 0
  else
    some false
def z9U (a0 : ByteArray) (a1 : Int) : Int → Option (Int ⊕ Bool)
  | w10 =>
  if w10 < (a0.size : Int) then
    (zjb a0 w10).bind fun v13 =>
    if v13 < 97 then
      z0Y <|
      some false
    else
      if a1 ≤ (IntKind.i64.wrap (IntKind.u8.wrap (v13 - 97))) then
        z0Y <|
        some false
      else
        z0Z (IntKind.i64.wrap (w10 + 1))
  else
    z0Y <|
    some true
def z5R (a0 : ByteArray) (a1 : Int) : Int → Fr
  | w10 => ⟨36, [(0, .one (.t none (.sc (.string a0)))), (1, .one (.t none (.sc (.int .i64 a1)))), (18, .one (.t none (.sc (.int .i64 (a0.size : Int))))), (19, .one (.t none (.sc (.int .i64 w10))))], []⟩
def z6W (a0 : ByteArray) (a1 : Int) : Option (Bool) :=
  if a1 < 1 then
    some false
  else
    if 6 < a1 then
      some false
    else
      if 2048 < (a0.size : Int) then
        some false
      else
        z1q (z9U a0 a1) LFm 0
theorem zfl {a0 : ByteArray} {a1 : Int} {r : Bool} (h0 : z6W a0 a1 = some r) : L 50 [.sc (.string a0), .sc (.int .i64 a1)] = some (.sc (.bool r), [.dead, .dead]) := by
  simp only [z6W] at h0
  refine z3M ztV zv3 (z1B zws ⟨of_decide_eq_true rfl, of_decide_eq_true rfl⟩ ?_)
  simp only [z1M, z1G, z1E, z1Q, z3Q]
  refine zq rfl (zr rfl rfl rfl (by simp; rfl) ?_)
  refine z0a (zq rfl (zq rfl ?_))
  by_cases c16 : a1 < 1
  ·rw [if_pos c16] at h0
   refine zr rfl rfl rfl (by simp [c16]; rfl) ?_
   refine z0a (z0v rfl (by simp) (zq rfl (zr rfl rfl rfl (by simp; rfl) ?_)))
   refine z0a (z1o rfl (z0e ?_))
   cases h0
   simp
  ·rw [if_neg c16] at h0
   by_cases c17 : 6 < a1
   ·rw [if_pos c17] at h0
    refine zr rfl rfl rfl (by simp [c16, c17]; rfl) ?_
    refine z0a (z0v rfl (by simp) (zq rfl (zr rfl rfl rfl (by simp; rfl) ?_)))
    refine z0a (z1o rfl (z0e ?_))
    cases h0
    simp
   ·rw [if_neg c17] at h0
    refine zr rfl rfl rfl (by simp [c16, c17]; rfl) ?_
    refine z0a ?_
    by_cases c18 : 2048 < (a0.size : Int)
    ·rw [if_pos c18] at h0
     refine z0v rfl (by simp [c18]) (zq rfl (zr rfl rfl rfl (by simp; rfl) ?_))
     refine z0a (z1o rfl (z0e ?_))
     cases h0
     simp
    ·rw [if_neg c18] at h0
     refine z0t rfl (by simp [c18]) (z0g rfl (z0a (zq rfl (zq rfl (zr rfl rfl rfl (by simp; rfl) ?_)))))
     refine z0a (zb rfl (z0X h0 (z5R a0 a1) rfl rfl (by simp [z5R]) fun s o1 h1 hr1 => ?_))
     obtain ⟨w10, hs1⟩ : ∃ y, y = s := ⟨_, rfl⟩
     subst hs1
     simp only [z9U] at h1
     simp only [z5R]
     refine zq rfl (zr rfl rfl rfl (by simp; rfl) ?_)
     refine z0a (zq rfl ?_)
     by_cases c27 : w10 < (a0.size : Int)
     ·rw [if_pos c27] at h1
      refine z0v rfl (by simp [c27]) (z0g rfl (z0a (zq rfl (zb rfl (zq rfl (zr rfl rfl rfl (by simp; rfl) ?_))))))
      refine z0a (zq rfl ?_)
      obtain ⟨v13, f28, h2⟩ := z0c h1
      obtain ⟨f28a, f28b, f28w, f28c, f28d, f28g⟩ := zfg f28
      have f28d := f28d.symm
      by_cases c29 : v13 < 97
      ·rw [if_pos c29] at h2
       refine zr rfl rfl rfl (by simp [f28a, f28b, f28c, f28d, f28g, c29]; rfl) ?_
       refine z0a (z0v rfl (by simp) (zq rfl (zr rfl rfl rfl (by simp; rfl) ?_)))
       refine z0a (z1o rfl (z0n (z0e ?_)))
       obtain ⟨rr1, h3, ho1⟩ := z0b h2
       have hs1 := hr1 _ ho1
       subst hs1
       refine z1n ho1 (z0n (z0e ?_))
       cases h3
       simp
      ·rw [if_neg c29] at h2
       refine zr rfl rfl rfl (by simp [f28a, f28b, f28c, f28d, f28g, c29]; rfl) ?_
       refine z0a ?_
       by_cases c30 : a1 ≤ (IntKind.i64.wrap (IntKind.u8.wrap (v13 - 97)))
       ·rw [if_pos c30] at h2
        refine z0v rfl (by simp [c30]) (zq rfl (zr rfl rfl rfl (by simp; rfl) ?_))
        refine z0a (z1o rfl (z0n (z0e ?_)))
        obtain ⟨rr1, h3, ho1⟩ := z0b h2
        have hs1 := hr1 _ ho1
        subst hs1
        refine z1n ho1 (z0n (z0e ?_))
        cases h3
        simp
       ·rw [if_neg c30] at h2
        refine z0t rfl (by simp [c30]) (z0g rfl (z0l (z0a (zr rfl rfl rfl (by simp; rfl) ?_))))
        have ho := z0d h2
        refine z0i ho ?_
        simp [z5R]
     ·rw [if_neg c27] at h1
      refine z0t rfl (by simp [c27]) (z1t rfl (z0T ?_))
      obtain ⟨rr1, h2, ho1⟩ := z0b h1
      have hs1 := hr1 _ ho1
      subst hs1
      refine z0y ho1 (z0f rfl (z0a (zq rfl (zr rfl rfl rfl (by simp; rfl) ?_))))
      refine z0a (z1o rfl ?_)
      cases h2
      simp
def z5J (a0 : DFA) (a1 : Int) : Option (Bool) :=
  if 0 ≤ a1 then
    chk (¬ (a0.final.length : Int) < 0) <|
    some (decide (a1 < (ziy .i64 1 (a0.final.length : Int))))
  else
    some false
theorem zdA {a0 : DFA} {a1 : Int} {r : Bool} (h0 : z5J a0 a1 = some r) : L 49 [.agg [.sc (.int .i64 a0.letters), .sc (.int .i64 a0.start), .sl a0.final.length (a0.final.map fun x0 => .sc (.bool x0)), .sl a0.next.length (a0.next.map fun x0 => .sl x0.length (x0.map fun x1 => .sc (.int .i64 x1)))], .sc (.int .i64 a1)] = some (.sc (.bool r), [.dead, .dead]) := by
  simp only [z5J] at h0
  refine z3M ztW zv4 (z1B zwt ⟨of_decide_eq_true rfl, of_decide_eq_true rfl⟩ ?_)
  simp only [z1M, z1G, z1E, z1Q, z3Q]
  refine zq rfl (zr rfl rfl rfl (by simp; rfl) ?_)
  refine z0a (zq rfl ?_)
  by_cases c3 : 0 ≤ a1
  ·rw [if_pos c3] at h0
   obtain ⟨f4, h1⟩ := z1N h0
   refine zr rfl rfl rfl (by simp [c3, f4]; rfl) ?_
   refine z0a (z1o rfl ?_)
   cases h1
   simp
  ·rw [if_neg c3] at h0
   refine zr rfl rfl rfl (by simp [c3]; rfl) ?_
   refine z0a (z1o rfl ?_)
   cases h0
   simp
def z5D (a0 : DFA) (a1 : Int) (a2 : Int) : Int × Int → Option ((Int × Int) ⊕ Int)
  | (w11, w12) =>
  if w12 < (a0.next.length : Int) then
    (atI a0.next w12).bind fun v15 =>
    chk (¬ w12 < 0) <|
    if (z2x .i64 (z0W .i64 a1 w12) 1) = 1 then
      (atI v15 a2).bind fun v16 =>
      chk (¬ v16 < 0) <|
      z0Z (orI .i64 w11 (ziy .i64 1 v16), IntKind.i64.wrap (w12 + 1))
    else
      z0Z (w11, IntKind.i64.wrap (w12 + 1))
  else
    z0Y <|
    some w11
def z4M (a0 : DFA) (a1 : Int) (a2 : Int) : Int × Int → Fr
  | (w11, w12) => ⟨32, [(1, .one (.t none (.sc (.int .i64 a1)))), (2, .one (.t none (.sc (.int .i64 a2)))), (7, .one (.t none (.sc (.int .i64 w11)))), (11, .one (.t none (.sl a0.next.length (a0.next.map fun x0 => .sl x0.length (x0.map fun x1 => .sc (.int .i64 x1)))))), (12, .one (.t none (.sc (.int .i64 (a0.next.length : Int))))), (13, .one (.t none (.sc (.int .i64 w12))))], []⟩
def z4V (a0 : DFA) (a1 : Int) (a2 : Int) : Option (Int) :=
  z1q (z5D a0 a1 a2) LFm (0, 0)
theorem z6Q {a0 : DFA} {a1 : Int} {a2 : Int} {r : Int} (h0 : z4V a0 a1 a2 = some r) : L 51 [.agg [.sc (.int .i64 a0.letters), .sc (.int .i64 a0.start), .sl a0.final.length (a0.final.map fun x0 => .sc (.bool x0)), .sl a0.next.length (a0.next.map fun x0 => .sl x0.length (x0.map fun x1 => .sc (.int .i64 x1)))], .sc (.int .i64 a1), .sc (.int .i64 a2)] = some (.sc (.int .i64 r), [.dead, .dead, .dead]) := by
  simp only [z4V] at h0
  refine z3M ztU zv2 (z1B zwr ⟨of_decide_eq_true rfl, of_decide_eq_true rfl⟩ ?_)
  simp only [z1M, z1G, z1E, z1Q, z3Q]
  refine zq rfl (zr rfl rfl rfl (by simp; rfl) ?_)
  refine z0a (zq rfl (zr rfl rfl rfl (by simp; rfl) ?_))
  refine z0a (zq rfl (zq rfl (zr rfl rfl rfl (by simp; rfl) ?_)))
  refine z0a (zb rfl (z0X h0 (z4M a0 a1 a2) rfl rfl (by simp [z4M]) fun s o1 h1 hr1 => ?_))
  obtain ⟨w11, w12⟩ := s
  simp only [z5D] at h1
  simp only [z4M]
  refine zq rfl (zr rfl rfl rfl (by simp; rfl) ?_)
  refine z0a (zq rfl ?_)
  by_cases c29 : w12 < (a0.next.length : Int)
  ·rw [if_pos c29] at h1
   refine z0v rfl (by simp [c29]) (z0g rfl (z0a (zq rfl (zb rfl (zq rfl ?_)))))
   obtain ⟨v15, f30, h2⟩ := z1e h1
   refine zr rfl rfl rfl (by simp [f30]; rfl) ?_
   refine z0a (zq rfl ?_)
   obtain ⟨f31, h3⟩ := z1N h2
   refine zr rfl rfl rfl (by simp [f31]; rfl) ?_
   refine z0a ?_
   by_cases c32 : (z2x .i64 (z0W .i64 a1 w12) 1) = 1
   ·rw [if_pos c32] at h3
    have c32e := eq_true c32
    refine z0v rfl (by simp [c32e]) ?_
    obtain ⟨v16, f33, h4⟩ := z1e h3
    obtain ⟨f34, h5⟩ := z1N h4
    refine zr rfl rfl rfl (by simp [f33, f34]; rfl) ?_
    refine z0l (z0a (zr rfl rfl rfl (by simp; rfl) ?_))
    have ho := z0d h5
    refine z0i ho ?_
    simp [z4M]
   ·rw [if_neg c32] at h3
    have c32e := eq_false c32
    refine z0t rfl (by simp [c32e]) (z0g rfl (z0l (z0a (zr rfl rfl rfl (by simp; rfl) ?_))))
    have ho := z0d h3
    refine z0i ho ?_
    simp [z4M]
  ·rw [if_neg c29] at h1
   refine z0t rfl (by simp [c29]) (z1t rfl (z0T ?_))
   obtain ⟨rr1, h2, ho1⟩ := z0b h1
   have hs1 := hr1 _ ho1
   subst hs1
   refine z0y ho1 (z0f rfl (z0a (zq rfl (zr rfl rfl rfl (by simp; rfl) ?_))))
   refine z0a (z1o rfl ?_)
   cases h2
   simp
def z4t (a0 : DFA) (a2 : ByteArray) : Int × Int → Option ((Int × Int) ⊕ (Int × Int))
  | (w17, w18) =>
  if w18 < (a2.size : Int) then
    (zjb a2 w18).bind fun v21 =>
    (z4V a0 w17 (IntKind.i64.wrap (IntKind.u8.wrap (v21 - 97)))).bind fun v22 =>
    z0Z (v22, IntKind.i64.wrap (w18 + 1))
  else
    z0Y <|
    some (w17, 0)
def z5l (a0 : DFA) (a2 : ByteArray) : Int × Int → Fr
  | (w17, w18) => ⟨41, [(1, .one (.t none (.sc (.int .i64 w17)))), (2, .one (.t none (.sc (.string a2)))), (3, .one (.a 3 [] (0))), (27, .one (.t none (.sc (.int .i64 (a2.size : Int))))), (28, .one (.t none (.sc (.int .i64 w18))))], [(3, .vr [.sc (.int .i64 a0.letters), .sc (.int .i64 a0.start), .sl a0.final.length (a0.final.map fun x0 => .sc (.bool x0)), .sl a0.next.length (a0.next.map fun x0 => .sl x0.length (x0.map fun x1 => .sc (.int .i64 x1)))])]⟩
def z2q (a0 : DFA) (a1 : Int) (a2 : ByteArray) : Option (Int × Int) :=
  (z4c a0).bind fun v12 =>
  if v12 = 0 then
    (z5J a0 a1).bind fun v13 =>
    if v13 = true then
      (z6W a2 a0.letters).bind fun v14 =>
      if v14 = true then
        z1q (z4t a0 a2) LFm (a1, 0)
      else
        some (0, 1)
    else
      some (0, 1)
  else
    some (0, v12)
theorem z3p {a0 : DFA} {a1 : Int} {a2 : ByteArray} {r : Int × Int} (h0 : z2q a0 a1 a2 = some r) : L 19 [.agg [.sc (.int .i64 a0.letters), .sc (.int .i64 a0.start), .sl a0.final.length (a0.final.map fun x0 => .sc (.bool x0)), .sl a0.next.length (a0.next.map fun x0 => .sl x0.length (x0.map fun x1 => .sc (.int .i64 x1)))], .sc (.int .i64 a1), .sc (.string a2)] = some (.tup [.sc (.int .i64 r.1), .sc (.int .i64 r.2)], [.dead, .dead, .dead]) := by
  simp only [z2q] at h0
  refine z3M zub zvi (z1B zwH ⟨of_decide_eq_true rfl, of_decide_eq_true rfl⟩ ?_)
  simp only [z1M, z1G, z1E, z1Q, z3Q]
  refine zq rfl (zr rfl rfl rfl (by simp; rfl) ?_)
  refine z0a (zq rfl (zq rfl ?_))
  obtain ⟨v12, f16, h1⟩ := z0c h0
  have f16k := z6J f16
  try simp at f16k
  refine zr rfl rfl rfl (by simp [f16k]; rfl) ?_
  refine z0a (zq rfl (zr rfl rfl rfl (by simp; rfl) ?_))
  refine z0a ?_
  by_cases c17 : v12 = 0
  ·rw [if_pos c17] at h1
   have c17e := eq_true c17
   refine z0t rfl (by simp [c17e]) (z0g rfl (z0a (zq rfl (zq rfl ?_))))
   obtain ⟨v13, f18, h2⟩ := z0c h1
   have f18k := zdA f18
   try simp at f18k
   by_cases c19 : v13 = true
   ·rw [if_pos c19] at h2
    obtain ⟨v14, f20, h3⟩ := z0c h2
    have f20k := zfl f20
    try simp at f20k
    refine zr rfl rfl rfl (by simp [f18k, c19, f20k]; rfl) ?_
    refine z0a ?_
    by_cases c21 : v14 = true
    ·rw [if_pos c21] at h3
     refine z0t rfl (by simp [c21]) (z0g rfl (z0a (zq rfl (zq rfl (zr rfl rfl rfl (by simp; rfl) ?_)))))
     refine z0a (zb rfl (z0X h3 (z5l a0 a2) rfl rfl (by simp [z5l]) fun s o1 h4 hr1 => ?_))
     obtain ⟨w17, w18⟩ := s
     simp only [z4t] at h4
     simp only [z5l]
     refine zq rfl (zr rfl rfl rfl (by simp; rfl) ?_)
     refine z0a (zq rfl ?_)
     by_cases c28 : w18 < (a2.size : Int)
     ·rw [if_pos c28] at h4
      refine z0v rfl (by simp [c28]) (z0g rfl (z0a (zq rfl (zb rfl (zq rfl (zr rfl rfl rfl (by simp; rfl) ?_))))))
      refine z0a ?_
      obtain ⟨v21, f29, h5⟩ := z0c h4
      obtain ⟨f29a, f29b, f29w, f29c, f29d, f29g⟩ := zfg f29
      have f29d := f29d.symm
      obtain ⟨v22, f30, h6⟩ := z0c h5
      have f30k := z6Q f30
      try simp at f30k
      refine z1g rfl rfl rfl rfl ?_; repeat' ((first | refine z0p rfl rfl fun Q' hQ => ?_ | refine z0m rfl fun Q' hQ => ?_); simp [f29a, f29b, f29c, f29d, f29g, f30k]; refine hQ.out _ ?_; clear hQ; clear Q')
      refine z0l (z0a (zr rfl rfl rfl (by simp; rfl) ?_))
      have ho := z0d h6
      refine z0i ho ?_
      simp [z5l]
     ·rw [if_neg c28] at h4
      refine z0t rfl (by simp [c28]) (z1t rfl (z0T ?_))
      obtain ⟨rr1, h5, ho1⟩ := z0b h4
      have hs1 := hr1 _ ho1
      subst hs1
      refine z0y ho1 (z0f rfl (z0a (zq rfl (zr rfl rfl rfl (by simp; rfl) ?_))))
      refine z0a (z1o rfl ?_)
      cases h5
      simp
    ·rw [if_neg c21] at h3
     refine z0v rfl (by simp [c21]) (zq rfl (zr rfl rfl rfl (by simp; rfl) ?_))
     refine z0a (z1o rfl (z0e ?_))
     cases h3
     simp [c19, c21]
   ·rw [if_neg c19] at h2
    refine zr rfl rfl rfl (by simp [f18k, c19]; rfl) ?_
    refine z0a (z0v rfl (by simp) (zq rfl (zr rfl rfl rfl (by simp; rfl) ?_)))
    refine z0a (z1o rfl (z0e ?_))
    cases h2
    simp [c19]
  ·rw [if_neg c17] at h1
   have c17e := eq_false c17
   refine z0v rfl (by simp [c17e]) (zq rfl (zr rfl rfl rfl (by simp; rfl) ?_))
   refine z0a (z1o rfl (z0e ?_))
   cases h1
   simp
def z3o (a0 : Int) (a1 : Int) : Option (Bool) :=
  some (decide ((zg3 .i64 a1 a0) = 0))
theorem z5i {a0 : Int} {a1 : Int} {r : Bool} (h0 : z3o a0 a1 = some r) : L 58 [.sc (.int .i64 a0), .sc (.int .i64 a1)] = some (.sc (.bool r), [.dead, .dead]) := by
  simp only [z3o] at h0
  refine z3M ztS zv0 (z1B zwp ⟨of_decide_eq_true rfl, of_decide_eq_true rfl⟩ ?_)
  simp only [z1M, z1G, z1E, z1Q, z3Q]
  refine zq rfl (zr rfl rfl rfl (by simp; rfl) ?_)
  refine z0a (zq rfl (zr rfl rfl rfl (by simp; rfl) ?_))
  refine z0a (z1o rfl ?_)
  cases h0
  simp
def z4s (a0 : DFA) (w77 : Int) : Int × List Bool × List Int × List ByteArray → Option ((Int × List Bool × List Int × List ByteArray) ⊕ ((Int × List Bool × List Int × List ByteArray) ⊕ (List Int × List ByteArray)))
  | (w105, w106, w107, w108) =>
  if w105 < a0.letters then
    (atI w107 w77).bind fun v114 =>
    (z4V a0 v114 w105).bind fun v115 =>
    (atI w106 v115).bind fun v116 =>
    if v116 = true then
      z0Z (IntKind.i64.wrap (w105 + 1), w106, w107, w108)
    else
      chk (z3O 8 (w107.length + 1)) <|
      (atI w108 w77).bind fun v118 =>
      chk (zaw v118 ⟨#[UInt8.ofNat (IntKind.u8.wrap (IntKind.i64.wrap (97 + w105))).toNat]⟩) <|
      chk (z3O 16 (w108.length + 1)) <|
      z0Z (IntKind.i64.wrap (w105 + 1), (w106.set v115.toNat true), w107 ++ [v115], w108 ++ [v118 ++ ⟨#[UInt8.ofNat (IntKind.u8.wrap (IntKind.i64.wrap (97 + w105))).toNat]⟩])
  else
    z0Y <|
    z0Z (IntKind.i64.wrap (w77 + 1), w106, w107, w108)
def z4r (a0 : DFA) (w77 : Int) : Int × List Bool × List Int × List ByteArray → Fr
  | (w105, w106, w107, w108) => ⟨69, [(2, .one (.a 2 [] (0))), (6, .one (.h 6 [])), (7, .one (.h 7 [])), (8, .one (.h 8 [])), (9, .one (.t none (.sc (.int .i64 w77)))), (30, .one (.t none (.sc (.int .i64 a0.letters)))), (31, .one (.t none (.sc (.int .i64 w105))))], [(2, .vr [.sc (.int .i64 a0.letters), .sc (.int .i64 a0.start), .sl a0.final.length (a0.final.map fun x0 => .sc (.bool x0)), .sl a0.next.length (a0.next.map fun x0 => .sl x0.length (x0.map fun x1 => .sc (.int .i64 x1)))]), (6, .os 1 w106.length (w106.map fun x0 => .sc (.bool x0))), (7, .os 1 w107.length (w107.map fun x0 => .sc (.int .i64 x0))), (8, .os 1 w108.length (w108.map fun x0 => .sc (.string x0)))]⟩
def z6y (a0 : DFA) : Int × List Bool × List Int × List ByteArray → Option ((Int × List Bool × List Int × List ByteArray) ⊕ (List Int × List ByteArray))
  | (w77, w78, w79, w80) =>
  if w77 < (w79.length : Int) then
    z1q (z4s a0 w77) LFm (0, w78, w79, w80)
  else
    z0Y <|
    some (w79, w80)
def z5h (a0 : DFA) : Int × List Bool × List Int × List ByteArray → Fr
  | (w77, w78, w79, w80) => ⟨69, [(2, .one (.a 2 [] (0))), (6, .one (.h 6 [])), (7, .one (.h 7 [])), (8, .one (.h 8 [])), (9, .one (.t none (.sc (.int .i64 w77))))], [(2, .vr [.sc (.int .i64 a0.letters), .sc (.int .i64 a0.start), .sl a0.final.length (a0.final.map fun x0 => .sc (.bool x0)), .sl a0.next.length (a0.next.map fun x0 => .sl x0.length (x0.map fun x1 => .sc (.int .i64 x1)))]), (6, .os 1 w78.length (w78.map fun x0 => .sc (.bool x0))), (7, .os 1 w79.length (w79.map fun x0 => .sc (.int .i64 x0))), (8, .os 1 w80.length (w80.map fun x0 => .sc (.string x0)))]⟩
def z5I (a0 : DFA) (a1 : Int) : Option (List Int × List ByteArray) :=
  chk (¬ (a0.final.length : Int) < 0) <|
  chk (z3w 1 (ziy .i64 1 (a0.final.length : Int))) <|
  chk (0 ≤ a1 ∧ a1 < (ziy .i64 1 (a0.final.length : Int))) <|
  z1q (z6y a0) LFm (0, ((List.replicate (ziy .i64 1 (a0.final.length : Int)).toNat (false : Bool)).set a1.toNat true), [a1], [ByteArray.empty])
theorem zdz {a0 : DFA} {a1 : Int} {r : List Int × List ByteArray} (h0 : z5I a0 a1 = some r) : L 57 [.agg [.sc (.int .i64 a0.letters), .sc (.int .i64 a0.start), .sl a0.final.length (a0.final.map fun x0 => .sc (.bool x0)), .sl a0.next.length (a0.next.map fun x0 => .sl x0.length (x0.map fun x1 => .sc (.int .i64 x1)))], .sc (.int .i64 a1)] = some (.tup [.os 1 r.1.length (r.1.map fun x0 => .sc (.int .i64 x0)), .os 1 r.2.length (r.2.map fun x0 => .sc (.string x0))], [.dead, .dead]) := by
  simp only [z5I] at h0
  refine z3M ztT zv1 (z1B zwq ⟨of_decide_eq_true rfl, of_decide_eq_true rfl⟩ ?_)
  simp only [z1M, z1G, z1E, z1Q, z3Q]
  refine zq rfl (zr rfl rfl rfl (by simp; rfl) ?_)
  refine z0a (zq rfl ?_)
  obtain ⟨f84, h1⟩ := z1N h0
  obtain ⟨f85, h2⟩ := zs7 h1
  refine zr rfl rfl rfl (by simp [f84, f85]; rfl) ?_
  refine z0a (zq rfl ?_)
  obtain ⟨f86, h3⟩ := z1N h2
  obtain ⟨f86a, f86b⟩ := f86
  have f86c : a1.toNat < (ziy .i64 1 (a0.final.length : Int)).toNat := by omega
  have f86d : a1.toNat + 1 ≤ (ziy .i64 1 (a0.final.length : Int)).toNat := by omega
  refine zr rfl rfl rfl (by simp [f85, f86a, f86b, f86c, f86d]; rfl) ?_
  refine z0a (zq rfl (zr rfl rfl rfl (by simp; rfl) ?_))
  refine z0a (zq rfl (zq rfl (zr rfl rfl rfl (by simp; rfl) ?_)))
  refine z0a (zb rfl (z0X h3 (z5h a0) rfl rfl (by simp [z5h]) fun s o1 h4 hr1 => ?_))
  obtain ⟨w77, w78, w79, w80⟩ := s
  simp only [z6y] at h4
  simp only [z5h]
  refine zq rfl (zq rfl (zr rfl rfl rfl (by simp; rfl) ?_))
  refine z0a ?_
  by_cases c139 : w77 < (w79.length : Int)
  ·rw [if_pos c139] at h4
   refine z0v rfl (by simp [c139]) (z0g rfl (z0a (zq rfl (zb rfl (zq rfl (zr rfl rfl rfl (by simp; rfl) ?_))))))
   refine z0a (zb rfl (z0X h4 (z4r a0 w77) rfl rfl (by simp [z4r]) fun s o2 h5 hr2 => ?_))
   obtain ⟨w105, w106, w107, w108⟩ := s
   simp only [z4s] at h5
   simp only [z4r]
   refine zq rfl (zr rfl rfl rfl (by simp; rfl) ?_)
   refine z0a (zq rfl ?_)
   by_cases c158 : w105 < a0.letters
   ·rw [if_pos c158] at h5
    refine z0v rfl (by simp [c158]) (z0g rfl (z0a (zq rfl (zb rfl (zq rfl (zr rfl rfl rfl (by simp; rfl) ?_))))))
    refine z0a (zq rfl ?_)
    obtain ⟨v114, f159, h6⟩ := z1e h5
    obtain ⟨v115, f160, h7⟩ := z0c h6
    have f160k := z6Q f160
    try simp at f160k
    refine z1g rfl rfl rfl rfl ?_; repeat' ((first | refine z0p rfl rfl fun Q' hQ => ?_ | refine z0m rfl fun Q' hQ => ?_); simp [f159, f160k]; refine hQ.out _ ?_; clear hQ; clear Q')
    refine z0a (zq rfl ?_)
    obtain ⟨v116, f161, h8⟩ := z1e h7
    refine zr rfl rfl rfl (by simp [f161]; rfl) ?_
    refine z0a ?_
    by_cases c162 : v116 = true
    ·rw [if_pos c162] at h8
     refine z0t rfl (by simp [c162]) (z0g rfl (z0l (z0a (zr rfl rfl rfl (by simp; rfl) ?_))))
     have ho := z0d h8
     refine z0i ho ?_
     simp [z4r, c162]
    ·rw [if_neg c162] at h8
     refine z0v rfl (by simp [c162]) (zq rfl (zr rfl rfl rfl (by simp [f161]; rfl) ?_))
     refine z0a (zq rfl ?_)
     obtain ⟨f163, h9⟩ := z9d h8
     refine zr rfl rfl rfl (by simp [f163]; rfl) ?_
     refine z0a ?_
     obtain ⟨v118, f164, h10⟩ := z1e h9
     obtain ⟨f165, h11⟩ := z1N h10
     obtain ⟨f166, h12⟩ := z9d h11
     refine z1g rfl rfl rfl rfl ?_; repeat' ((first | refine z0p rfl rfl fun Q' hQ => ?_ | refine z0m rfl fun Q' hQ => ?_); simp [f164, f165, f166]; refine hQ.out _ ?_; clear hQ; clear Q')
     refine z0l (z0a (zr rfl rfl rfl (by simp; rfl) ?_))
     have ho := z0d h12
     refine z0i ho ?_
     simp [z4r, c162]
   ·rw [if_neg c158] at h5
    refine z0t rfl (by simp [c158]) (z1t rfl (z0T ?_))
    obtain ⟨rr2, h6, ho2⟩ := z0b h5
    have hs2 := hr2 _ ho2
    subst hs2
    refine z0y ho2 (z0f rfl (z0l (z0a (zr rfl rfl rfl (by simp; rfl) ?_))))
    have ho := z0d h6
    refine z0i ho ?_
    simp [z5h]
  ·rw [if_neg c139] at h4
   refine z0t rfl (by simp [c139]) (z1t rfl (z0T ?_))
   obtain ⟨rr1, h5, ho1⟩ := z0b h4
   have hs1 := hr1 _ ho1
   subst hs1
   refine z0y ho1 (z0f rfl (z0a (zq rfl (zr rfl rfl rfl (by simp; rfl) ?_))))
   refine z0a (z1o rfl ?_)
   cases h5
   simp
def zac : Int × Int → Option ((Int × Int) ⊕ Int)
  | (w3, w4) =>
  if 0 < w3 then
    chk (¬ 1 < 0) <|
    z0Z (z0W .i64 w3 1, IntKind.i64.wrap (w4 + (z2x .i64 w3 1)))
  else
    z0Y <|
    some w4
def z5V : Int × Int → Fr
  | (w3, w4) => ⟨13, [(0, .one (.t none (.sc (.int .i64 w3)))), (3, .one (.t none (.sc (.int .i64 w4))))], []⟩
def z8N (a0 : Int) : Option (Int) :=
  z1q (zac) LFm (a0, 0)
theorem zfw {a0 : Int} {r : Int} (h0 : z8N a0 = some r) : L 18 [.sc (.int .i64 a0)] = some (.sc (.int .i64 r), [.dead]) := by
  simp only [z8N] at h0
  refine z3M zuc zvj (z1B zwI ⟨of_decide_eq_true rfl, of_decide_eq_true rfl⟩ ?_)
  simp only [z1M, z1G, z1E, z1Q, z3Q]
  refine zq rfl (zr rfl rfl rfl (by simp; rfl) ?_)
  refine z0a (zq rfl (zr rfl rfl rfl (by simp; rfl) ?_))
  refine z0a (zq rfl (zb rfl (z0X h0 z5V rfl rfl (by simp [z5V]) fun s o1 h1 hr1 => ?_)))
  obtain ⟨w3, w4⟩ := s
  simp only [zac] at h1
  simp only [z5V]
  refine zq rfl (zq rfl (zr rfl rfl rfl (by simp; rfl) ?_))
  refine z0a ?_
  by_cases c11 : 0 < w3
  ·rw [if_pos c11] at h1
   refine z0v rfl (by simp [c11]) (z0g rfl (z0a (zq rfl (zb rfl (zr rfl rfl rfl (by simp; rfl) ?_)))))
   refine z0l (z0a ?_)
   obtain ⟨f12, h2⟩ := z1N h1
   refine zr rfl rfl rfl (by simp [f12]; rfl) ?_
   have ho := z0d h2
   refine z0i ho ?_
   simp [z5V]
  ·rw [if_neg c11] at h1
   refine z0t rfl (by simp [c11]) (z1t rfl (z0T ?_))
   obtain ⟨rr1, h2, ho1⟩ := z0b h1
   have hs1 := hr1 _ ho1
   subst hs1
   refine z0y ho1 (z0f rfl (z0a (zq rfl (zr rfl rfl rfl (by simp; rfl) ?_))))
   refine z0a (z1o rfl ?_)
   cases h2
   simp
def z2R (a0 : Int) : Option (Int) :=
  chk (¬ 1 < 0) <|
  chk (¬ 2 < 0) <|
  chk (¬ 4 < 0) <|
  chk (¬ 8 < 0) <|
  chk (¬ 16 < 0) <|
  chk (¬ 32 < 0) <|
  some (z2x .i64 (IntKind.i64.wrap (IntKind.u64.wrap ((IntKind.u64.wrap ((IntKind.u64.wrap ((z2x .u64 (IntKind.u64.wrap ((z0W .u64 (IntKind.u64.wrap ((z2x .u64 (z0W .u64 (IntKind.u64.wrap ((z2x .u64 (z0W .u64 a0 1) 6148914691236517205) + (z2x .u64 a0 6148914691236517205))) 2) 3689348814741910323) + (z2x .u64 (IntKind.u64.wrap ((z2x .u64 (z0W .u64 a0 1) 6148914691236517205) + (z2x .u64 a0 6148914691236517205))) 3689348814741910323))) 4) + (IntKind.u64.wrap ((z2x .u64 (z0W .u64 (IntKind.u64.wrap ((z2x .u64 (z0W .u64 a0 1) 6148914691236517205) + (z2x .u64 a0 6148914691236517205))) 2) 3689348814741910323) + (z2x .u64 (IntKind.u64.wrap ((z2x .u64 (z0W .u64 a0 1) 6148914691236517205) + (z2x .u64 a0 6148914691236517205))) 3689348814741910323))))) 1085102592571150095) + (z0W .u64 (z2x .u64 (IntKind.u64.wrap ((z0W .u64 (IntKind.u64.wrap ((z2x .u64 (z0W .u64 (IntKind.u64.wrap ((z2x .u64 (z0W .u64 a0 1) 6148914691236517205) + (z2x .u64 a0 6148914691236517205))) 2) 3689348814741910323) + (z2x .u64 (IntKind.u64.wrap ((z2x .u64 (z0W .u64 a0 1) 6148914691236517205) + (z2x .u64 a0 6148914691236517205))) 3689348814741910323))) 4) + (IntKind.u64.wrap ((z2x .u64 (z0W .u64 (IntKind.u64.wrap ((z2x .u64 (z0W .u64 a0 1) 6148914691236517205) + (z2x .u64 a0 6148914691236517205))) 2) 3689348814741910323) + (z2x .u64 (IntKind.u64.wrap ((z2x .u64 (z0W .u64 a0 1) 6148914691236517205) + (z2x .u64 a0 6148914691236517205))) 3689348814741910323))))) 1085102592571150095) 8))) + (z0W .u64 (IntKind.u64.wrap ((z2x .u64 (IntKind.u64.wrap ((z0W .u64 (IntKind.u64.wrap ((z2x .u64 (z0W .u64 (IntKind.u64.wrap ((z2x .u64 (z0W .u64 a0 1) 6148914691236517205) + (z2x .u64 a0 6148914691236517205))) 2) 3689348814741910323) + (z2x .u64 (IntKind.u64.wrap ((z2x .u64 (z0W .u64 a0 1) 6148914691236517205) + (z2x .u64 a0 6148914691236517205))) 3689348814741910323))) 4) + (IntKind.u64.wrap ((z2x .u64 (z0W .u64 (IntKind.u64.wrap ((z2x .u64 (z0W .u64 a0 1) 6148914691236517205) + (z2x .u64 a0 6148914691236517205))) 2) 3689348814741910323) + (z2x .u64 (IntKind.u64.wrap ((z2x .u64 (z0W .u64 a0 1) 6148914691236517205) + (z2x .u64 a0 6148914691236517205))) 3689348814741910323))))) 1085102592571150095) + (z0W .u64 (z2x .u64 (IntKind.u64.wrap ((z0W .u64 (IntKind.u64.wrap ((z2x .u64 (z0W .u64 (IntKind.u64.wrap ((z2x .u64 (z0W .u64 a0 1) 6148914691236517205) + (z2x .u64 a0 6148914691236517205))) 2) 3689348814741910323) + (z2x .u64 (IntKind.u64.wrap ((z2x .u64 (z0W .u64 a0 1) 6148914691236517205) + (z2x .u64 a0 6148914691236517205))) 3689348814741910323))) 4) + (IntKind.u64.wrap ((z2x .u64 (z0W .u64 (IntKind.u64.wrap ((z2x .u64 (z0W .u64 a0 1) 6148914691236517205) + (z2x .u64 a0 6148914691236517205))) 2) 3689348814741910323) + (z2x .u64 (IntKind.u64.wrap ((z2x .u64 (z0W .u64 a0 1) 6148914691236517205) + (z2x .u64 a0 6148914691236517205))) 3689348814741910323))))) 1085102592571150095) 8))) 16))) + (z0W .u64 (IntKind.u64.wrap ((IntKind.u64.wrap ((z2x .u64 (IntKind.u64.wrap ((z0W .u64 (IntKind.u64.wrap ((z2x .u64 (z0W .u64 (IntKind.u64.wrap ((z2x .u64 (z0W .u64 a0 1) 6148914691236517205) + (z2x .u64 a0 6148914691236517205))) 2) 3689348814741910323) + (z2x .u64 (IntKind.u64.wrap ((z2x .u64 (z0W .u64 a0 1) 6148914691236517205) + (z2x .u64 a0 6148914691236517205))) 3689348814741910323))) 4) + (IntKind.u64.wrap ((z2x .u64 (z0W .u64 (IntKind.u64.wrap ((z2x .u64 (z0W .u64 a0 1) 6148914691236517205) + (z2x .u64 a0 6148914691236517205))) 2) 3689348814741910323) + (z2x .u64 (IntKind.u64.wrap ((z2x .u64 (z0W .u64 a0 1) 6148914691236517205) + (z2x .u64 a0 6148914691236517205))) 3689348814741910323))))) 1085102592571150095) + (z0W .u64 (z2x .u64 (IntKind.u64.wrap ((z0W .u64 (IntKind.u64.wrap ((z2x .u64 (z0W .u64 (IntKind.u64.wrap ((z2x .u64 (z0W .u64 a0 1) 6148914691236517205) + (z2x .u64 a0 6148914691236517205))) 2) 3689348814741910323) + (z2x .u64 (IntKind.u64.wrap ((z2x .u64 (z0W .u64 a0 1) 6148914691236517205) + (z2x .u64 a0 6148914691236517205))) 3689348814741910323))) 4) + (IntKind.u64.wrap ((z2x .u64 (z0W .u64 (IntKind.u64.wrap ((z2x .u64 (z0W .u64 a0 1) 6148914691236517205) + (z2x .u64 a0 6148914691236517205))) 2) 3689348814741910323) + (z2x .u64 (IntKind.u64.wrap ((z2x .u64 (z0W .u64 a0 1) 6148914691236517205) + (z2x .u64 a0 6148914691236517205))) 3689348814741910323))))) 1085102592571150095) 8))) + (z0W .u64 (IntKind.u64.wrap ((z2x .u64 (IntKind.u64.wrap ((z0W .u64 (IntKind.u64.wrap ((z2x .u64 (z0W .u64 (IntKind.u64.wrap ((z2x .u64 (z0W .u64 a0 1) 6148914691236517205) + (z2x .u64 a0 6148914691236517205))) 2) 3689348814741910323) + (z2x .u64 (IntKind.u64.wrap ((z2x .u64 (z0W .u64 a0 1) 6148914691236517205) + (z2x .u64 a0 6148914691236517205))) 3689348814741910323))) 4) + (IntKind.u64.wrap ((z2x .u64 (z0W .u64 (IntKind.u64.wrap ((z2x .u64 (z0W .u64 a0 1) 6148914691236517205) + (z2x .u64 a0 6148914691236517205))) 2) 3689348814741910323) + (z2x .u64 (IntKind.u64.wrap ((z2x .u64 (z0W .u64 a0 1) 6148914691236517205) + (z2x .u64 a0 6148914691236517205))) 3689348814741910323))))) 1085102592571150095) + (z0W .u64 (z2x .u64 (IntKind.u64.wrap ((z0W .u64 (IntKind.u64.wrap ((z2x .u64 (z0W .u64 (IntKind.u64.wrap ((z2x .u64 (z0W .u64 a0 1) 6148914691236517205) + (z2x .u64 a0 6148914691236517205))) 2) 3689348814741910323) + (z2x .u64 (IntKind.u64.wrap ((z2x .u64 (z0W .u64 a0 1) 6148914691236517205) + (z2x .u64 a0 6148914691236517205))) 3689348814741910323))) 4) + (IntKind.u64.wrap ((z2x .u64 (z0W .u64 (IntKind.u64.wrap ((z2x .u64 (z0W .u64 a0 1) 6148914691236517205) + (z2x .u64 a0 6148914691236517205))) 2) 3689348814741910323) + (z2x .u64 (IntKind.u64.wrap ((z2x .u64 (z0W .u64 a0 1) 6148914691236517205) + (z2x .u64 a0 6148914691236517205))) 3689348814741910323))))) 1085102592571150095) 8))) 16))) 32)))) 127)
theorem z7h {a0 : Int} {r : Int} (h0 : z2R a0 = some r) : L 91 [.sc (.int .u64 a0)] = some (.sc (.int .i64 r), [.dead]) := by
  simp only [z2R] at h0
  refine z3M ztF zuN (z1B zwc ⟨of_decide_eq_true rfl, of_decide_eq_true rfl⟩ ?_)
  simp only [z1M, z1G, z1E, z1Q, z3Q]
  refine zq rfl (zr rfl rfl rfl (by simp; rfl) ?_)
  refine z0a (zq rfl ?_)
  obtain ⟨f7, h1⟩ := z1N h0
  refine zr rfl rfl rfl (by simp [f7]; rfl) ?_
  refine z0a (zq rfl ?_)
  obtain ⟨f8, h2⟩ := z1N h1
  refine zr rfl rfl rfl (by simp [f8]; rfl) ?_
  refine z0a (zq rfl ?_)
  obtain ⟨f9, h3⟩ := z1N h2
  refine zr rfl rfl rfl (by simp [f9]; rfl) ?_
  refine z0a (zq rfl ?_)
  obtain ⟨f10, h4⟩ := z1N h3
  refine zr rfl rfl rfl (by simp [f10]; rfl) ?_
  refine z0a (zq rfl ?_)
  obtain ⟨f11, h5⟩ := z1N h4
  refine zr rfl rfl rfl (by simp [f11]; rfl) ?_
  refine z0a (zq rfl ?_)
  obtain ⟨f12, h6⟩ := z1N h5
  refine zr rfl rfl rfl (by simp [f12]; rfl) ?_
  refine z0a (zq rfl (zr rfl rfl rfl (by simp; rfl) ?_))
  refine z0a (z1o rfl ?_)
  cases h6
  simp
def z4h (a0 : Int) : Option (Int) :=
  (z2R a0).bind fun v2 =>
  some v2
theorem z7L {a0 : Int} {r : Int} (h0 : z4h a0 = some r) : L 78 [.sc (.int .u64 a0)] = some (.sc (.int .i64 r), [.dead]) := by
  simp only [z4h] at h0
  refine z3M ztI zuQ (z1B zwf ⟨of_decide_eq_true rfl, of_decide_eq_true rfl⟩ ?_)
  simp only [z1M, z1G, z1E, z1Q, z3Q]
  refine zq rfl (zr rfl rfl rfl (by simp; rfl) ?_)
  refine z0a (zq rfl (z0t rfl (by simp) (z0g rfl (z0a (zq rfl ?_)))))
  obtain ⟨v2, f2, h1⟩ := z0c h0
  have f2k := z7h f2
  try simp at f2k
  refine zr rfl rfl rfl (by simp [f2k]; rfl) ?_
  refine z0a (z1o rfl ?_)
  cases h1
  simp
def z5v (a0 : Int) : Option (Int) :=
  (z4h (IntKind.u64.wrap a0)).bind fun v2 =>
  some v2
theorem z9j {a0 : Int} {r : Int} (h0 : z5v a0 = some r) : L 68 [.sc (.int .i64 a0)] = some (.sc (.int .i64 r), [.dead]) := by
  simp only [z5v] at h0
  refine z3M ztN zuV (z1B zwk ⟨of_decide_eq_true rfl, of_decide_eq_true rfl⟩ ?_)
  simp only [z1M, z1G, z1E, z1Q, z3Q]
  refine zq rfl (zr rfl rfl rfl (by simp; rfl) ?_)
  refine z0a (zq rfl ?_)
  obtain ⟨v2, f2, h1⟩ := z0c h0
  have f2k := z7L f2
  try simp at f2k
  refine zr rfl rfl rfl (by simp [f2k]; rfl) ?_
  refine z0a (z1o rfl ?_)
  cases h1
  simp
end
end Go.Proofs.Ytbnnipkanechoaa
end
section
namespace Go.Proofs.Ytbnnipkanechoaa
open Go
set_option maxRecDepth 100000
theorem zbZ {a : Nat} (h : a < 2 ^ 62) : IntKind.i64.wrap (a : Int) = (a : Int) := z2r (by omega) (by omega)
theorem zks {a b : Nat} (ha : a < 2 ^ 62) (hb : b < 2 ^ 62) : z2x .i64 (a : Int) (b : Int) = ((a &&& b : Nat) : Int) := by
  unfold z2x
  have e : (BitVec.ofInt IntKind.i64.bits (a : Int) &&& BitVec.ofInt IntKind.i64.bits (b : Int)).toNat = a &&& b := by
    show (BitVec.ofInt 64 (a : Int) &&& BitVec.ofInt 64 (b : Int)).toNat = _
    rw [BitVec.toNat_and, BitVec.toNat_ofInt, BitVec.toNat_ofInt]
    have h1 : ((a : Int) % ((2 ^ 64 : Nat) : Int)).toNat = a := by omega
    have h2 : ((b : Int) % ((2 ^ 64 : Nat) : Int)).toNat = b := by omega
    rw [h1, h2]
  rw [e]
  exact zbZ (Nat.lt_of_le_of_lt Nat.and_le_left ha)
theorem zr7 {a b k : Nat} (ha : a < 2 ^ k) (hb : b < 2 ^ k) : a ||| b < 2 ^ k := Nat.or_lt_two_pow ha hb
theorem zna {a b : Nat} (ha : a < 2 ^ 62) (hb : b < 2 ^ 62) : orI .i64 (a : Int) (b : Int) = ((a ||| b : Nat) : Int) := by
  unfold orI
  have e : (BitVec.ofInt IntKind.i64.bits (a : Int) ||| BitVec.ofInt IntKind.i64.bits (b : Int)).toNat = a ||| b := by
    show (BitVec.ofInt 64 (a : Int) ||| BitVec.ofInt 64 (b : Int)).toNat = _
    rw [BitVec.toNat_or, BitVec.toNat_ofInt, BitVec.toNat_ofInt]
    have h1 : ((a : Int) % ((2 ^ 64 : Nat) : Int)).toNat = a := by omega
    have h2 : ((b : Int) % ((2 ^ 64 : Nat) : Int)).toNat = b := by omega
    rw [h1, h2]
  rw [e]
  exact zbZ (zr7 ha hb)
theorem zjd {a b : Nat} (ha : a < 2 ^ 62) (hb : b < 2 ^ 62) : zg3 .i64 (a : Int) (b : Int) = 0 ↔ a &&& b = a := by
  unfold zg3
  have e : (BitVec.ofInt IntKind.i64.bits (a : Int) &&& ~~~ BitVec.ofInt IntKind.i64.bits (b : Int)).toNat = (BitVec.ofNat 64 a &&& ~~~ BitVec.ofNat 64 b).toNat := by
    show (BitVec.ofInt 64 (a : Int) &&& ~~~ BitVec.ofInt 64 (b : Int)).toNat = _
    congr 2
  rw [e]
  have hle : (BitVec.ofNat 64 a &&& ~~~ BitVec.ofNat 64 b).toNat ≤ a := by
    rw [BitVec.toNat_and]
    refine Nat.le_trans Nat.and_le_left ?_
    simp only [BitVec.toNat_ofNat]
    omega
  rw [zbZ (by omega)]
  have ta : ∀ i, (BitVec.ofNat 64 a).toNat.testBit i = a.testBit i := fun i => by
    rw [BitVec.toNat_ofNat, Nat.mod_eq_of_lt (by omega)]
  have tb : ∀ i, (BitVec.ofNat 64 b).toNat.testBit i = b.testBit i := fun i => by
    rw [BitVec.toNat_ofNat, Nat.mod_eq_of_lt (by omega)]
  have hz : ∀ i, (BitVec.ofNat 64 a &&& ~~~ BitVec.ofNat 64 b).toNat.testBit i = (a.testBit i && !(b.testBit i)) := fun i => by
    rw [BitVec.testBit_toNat, BitVec.getLsbD_and, BitVec.getLsbD_not]
    by_cases hi : i < 64
    · simp only [hi, decide_true, Bool.true_and]
      rw [← BitVec.testBit_toNat, ← BitVec.testBit_toNat, ta, tb]
    · have : a.testBit i = false := Nat.testBit_lt_two_pow (Nat.lt_of_lt_of_le ha (Nat.pow_le_pow_right (by omega) (by omega)))
      rw [← BitVec.testBit_toNat, ta, this]; simp
  constructor
  · intro h
    have h0 : (BitVec.ofNat 64 a &&& ~~~ BitVec.ofNat 64 b).toNat = 0 := by omega
    apply Nat.eq_of_testBit_eq
    intro i
    have := hz i
    rw [h0, Nat.zero_testBit] at this
    rw [Nat.testBit_and]
    revert this
    cases a.testBit i <;> cases b.testBit i <;> simp
  · intro h
    have : (BitVec.ofNat 64 a &&& ~~~ BitVec.ofNat 64 b).toNat = 0 := by
      apply Nat.eq_of_testBit_eq
      intro i
      have e2 : (a &&& b).testBit i = a.testBit i := by rw [h]
      rw [Nat.testBit_and] at e2
      rw [hz, Nat.zero_testBit]
      revert e2
      cases a.testBit i <;> cases b.testBit i <;> simp
    omega
theorem zox {a q : Nat} (hq : q ≤ 64) : z0W .i64 (a : Int) (q : Int) = ((a >>> q : Nat) : Int) := by
  unfold z0W
  have e : min ((q : Int).toNat) IntKind.i64.bits = q := by
    show min ((q : Int).toNat) 64 = q
    omega
  rw [e, Nat.shiftRight_eq_div_pow, Int.fdiv_eq_ediv_of_nonneg _ (by exact Int.pow_nonneg (by omega))]
  simp
theorem z8M {q : Nat} (hq : q ≤ 61) : ziy .i64 1 (q : Int) = ((2 ^ q : Nat) : Int) := by
  rw [zmQ]
  have e : min ((q : Int).toNat) IntKind.i64.bits = q := by
    show min ((q : Int).toNat) 64 = q
    omega
  rw [e, Int.one_mul]
  have : ((2 : Int) ^ q) = ((2 ^ q : Nat) : Int) := by simp
  rw [this]
  exact zbZ (Nat.pow_lt_pow_right (by omega) (by omega))
theorem zo3 {a q : Nat} (ha : a < 2 ^ 62) (hq : q ≤ 64) : (z2x .i64 (z0W .i64 (a : Int) (q : Int)) 1 = 1) ↔ a.testBit q = true := by
  rw [zox hq, show (1 : Int) = ((1 : Nat) : Int) from rfl, zks (by rw [Nat.shiftRight_eq_div_pow]; exact Nat.lt_of_le_of_lt (Nat.div_le_self _ _) ha) (by decide), Nat.testBit]
  have : (1 &&& a >>> q) = (a >>> q) &&& 1 := Nat.and_comm ..
  rw [this]
  have h2 := Nat.and_one_is_mod (a >>> q)
  rw [h2]
  simp only [bne_iff_ne, ne_eq]
  omega
theorem zrY {q : Nat} (h : q < 2 ^ 62) : IntKind.u64.wrap (q : Int) = (q : Int) := by rw [IntKind.wrap_u64]; omega
def zjG (rows : List (List Int)) (s a : Nat) : Nat → Nat
  | 0 => 0
  | q + 1 => if s.testBit q = true then zjG rows s a q ||| 2 ^ ((rows.getD q []).getD a 0).toNat else zjG rows s a q
def mvN (d : DFA) (s a : Nat) : Nat := zjG d.next s a d.next.length
theorem zfu {d : DFA} {m n : Nat} (hd : DfaOk d m n) {q a : Nat} (hq : q < n) (ha : a < m) : ∃ h1 : q < d.next.length, ∃ h2 : a < d.next[q].length, (d.next.getD q []).getD a 0 = d.next[q][a] ∧ 0 ≤ d.next[q][a] ∧ d.next[q][a] < n := by
  have h1 : q < d.next.length := by rw [hd.nl]; exact hq
  have hr := hd.row _ (List.getElem_mem h1)
  have h2 : a < d.next[q].length := by rw [hr.1]; exact ha
  exact ⟨h1, h2, by simp [List.getD, h1, h2], hr.2 _ (List.getElem_mem h2)⟩
theorem zjF {d : DFA} {m n : Nat} (hd : DfaOk d m n) {s a : Nat} (ha : a < m) (p : Nat) : ∀ q, q ≤ n → ((zjG d.next s a q).testBit p = true ↔ ∃ i, i < q ∧ s.testBit i = true ∧ ((d.next.getD i []).getD a 0).toNat = p)
  | 0, _ => by simp [zjG]
  | q + 1, hq => by
    have ih := zjF hd (s := s) ha p q (by omega)
    unfold zjG
    by_cases hb : s.testBit q = true
    · rw [if_pos hb, Nat.testBit_or, Bool.or_eq_true, ih, Nat.testBit_two_pow]
      constructor
      · rintro (⟨i, h1, h2, h3⟩ | h)
        · exact ⟨i, by omega, h2, h3⟩
        · exact ⟨q, by omega, hb, by simpa using h⟩
      · rintro ⟨i, h1, h2, h3⟩
        by_cases e : i = q
        · subst e; right; simpa using h3
        · left; exact ⟨i, by omega, h2, h3⟩
    · rw [if_neg hb, ih]
      constructor
      · rintro ⟨i, h1, h2, h3⟩; exact ⟨i, by omega, h2, h3⟩
      · rintro ⟨i, h1, h2, h3⟩
        by_cases e : i = q
        · subst e; exact absurd h2 hb
        · exact ⟨i, by omega, h2, h3⟩
theorem zfB {d : DFA} {m n : Nat} (hd : DfaOk d m n) {s a : Nat} (ha : a < m) : ∀ q, q ≤ n → zjG d.next s a q < 2 ^ n
  | 0, _ => Nat.two_pow_pos n
  | q + 1, hq => by
    have ih := zfB hd (s := s) ha q (by omega)
    unfold zjG
    split
    · obtain ⟨h1, h2, e, h3, h4⟩ := zfu hd (q := q) (by omega) ha
      refine zr7 ih (Nat.pow_lt_pow_right (by omega) ?_)
      rw [e]; omega
    · exact ih
theorem z9I {d : DFA} {m n : Nat} (hd : DfaOk d m n) {s a : Nat} (ha : a < m) (p : Nat) : (mvN d s a).testBit p = true ↔ ∃ i, i < n ∧ s.testBit i = true ∧ ((d.next.getD i []).getD a 0).toNat = p := by
  unfold mvN; rw [hd.nl]; exact zjF hd ha p n (Nat.le_refl _)
theorem zf5 {d : DFA} {m n : Nat} (hd : DfaOk d m n) {s a : Nat} (ha : a < m) : mvN d s a < 2 ^ n := by
  unfold mvN; rw [hd.nl]; exact zfB hd ha n (Nat.le_refl _)
theorem zfy {n : Nat} (h : n ≤ 12) : 2 ^ n ≤ 4096 := Nat.pow_le_pow_right (n := 2) (by omega) h
theorem ziJ {d : DFA} {m n : Nat} (hd : DfaOk d m n) (hn : n ≤ 12) {s a : Nat} (hs : s < 2 ^ n) (ha : a < m) : z4V d (s : Int) (a : Int) = some ((mvN d s a : Nat) : Int) := by
  have h12 := zfy hn
  unfold z4V mvN
  refine z2f (s := ((0 : Int), (0 : Int))) n (fun q => (((zjG d.next s a q : Nat) : Int), (q : Int))) rfl (by simp only [LFm]; omega) (fun q hq => ?_) ?_
  · have hlt := zfB hd (s := s) ha q (by omega)
    obtain ⟨h1, h2, e, h3, h4⟩ := zfu hd (q := q) hq ha
    simp only [z5D]
    rw [if_pos (by omega), z3s h1]
    simp only [Option.bind_some]
    rw [z1s _ (by omega), z3n (by omega)]
    by_cases hb : s.testBit q = true
    · rw [if_pos ((zo3 (by omega) (by omega)).2 hb), z3s h2]
      simp only [Option.bind_some]
      obtain ⟨v, hv⟩ := Int.eq_ofNat_of_zero_le h3
      rw [z1s _ (by omega), hv, z8M (by omega), zna (by omega) (Nat.pow_lt_pow_right (by omega) (by omega))]
      simp only [zjG]
      rw [if_pos hb, e, hv, Int.toNat_natCast]
    · rw [if_neg (fun h => hb ((zo3 (by omega) (by omega)).1 h))]
      simp only [zjG]
      rw [if_neg hb]
  · simp only [z5D]
    rw [if_neg (by rw [hd.nl]; omega), hd.nl]
end Go.Proofs.Ytbnnipkanechoaa
end
section
namespace Go.Proofs.Ytbnnipkanechoaa
open Go
set_option maxRecDepth 100000
def zqC (d : DFA) (r : List Int) : Bool := decide ((r.length : Int) = d.letters) && r.all fun x => decide (0 ≤ x ∧ x < (d.final.length : Int))
def zf0 (d : DFA) : Bool := decide (d.next.length = d.final.length) && decide (0 ≤ d.start ∧ d.start < (d.final.length : Int)) && d.next.all (zqC d)
def zqA (d : DFA) : Int := if d.letters < 1 ∨ 6 < d.letters then 1 else if 512 < d.final.length then 3 else if zf0 d = true then 0 else 4
def zrR (d : DFA) : Prop := d.final.length < 2 ^ 61 ∧ d.next.length < 2 ^ 61 ∧ ∀ r ∈ d.next, r.length < 2 ^ 61
theorem zoo {d : DFA} (hc : zrR d) : z1q (z4u d) LFm 0 = some (if d.next.all (zqC d) = true then 0 else 4) := by
  rw [zhs (l := d.next) ([] : List Int) (zqC d) (A := some 4) (B := some 0) (by have := hc.2.1; omega) (fun k hk => ?_) ?_]
  · split <;> rfl
  · simp only [z4u]
    rw [if_neg (by omega)]
  · simp only [z4u]
    have hkl := hc.2.1
    have hrl := hc.2.2 _ (List.getElem_mem hk)
    rw [if_pos (by omega), z3s hk]
    simp only [Option.bind_some, List.getD, List.getElem?_eq_getElem hk, Option.getD_some]
    by_cases hl : (d.next[k].length : Int) = d.letters
    · rw [if_pos hl]
      rw [zhs (l := d.next[k]) (0 : Int) (fun x => decide (0 ≤ x ∧ x < (d.final.length : Int))) (A := z0Y (some 4)) (B := z0Z ((k + 1 : Nat) : Int)) (by omega) (fun j hj => ?_) ?_]
      · simp only [zqC, hl, decide_true, Bool.true_and]
      · simp only [z4T]
        rw [if_neg (by omega), z3n (by omega)]
      · simp only [z4T]
        rw [if_pos (by omega), z3s hj]
        simp only [Option.bind_some, List.getD, List.getElem?_eq_getElem hj, Option.getD_some]
        by_cases h1 : d.next[k][j] < 0
        · rw [if_pos h1, if_neg (by simp; omega)]
        · rw [if_neg h1]
          by_cases h2 : (d.final.length : Int) ≤ d.next[k][j]
          · rw [if_pos h2, if_neg (by simp; omega)]
          · rw [if_neg h2, if_pos (by simp; omega), z3n (by omega)]
    · rw [if_neg hl]
      rw [if_neg (by simp [zqC, hl])]
theorem znS {d : DFA} (hc : zrR d) : z5K d = some (zqA d) := by
  unfold z5K zqA
  by_cases h1 : d.letters < 1
  · rw [if_pos h1, if_pos (.inl h1)]
  rw [if_neg h1]
  by_cases h2 : 6 < d.letters
  · rw [if_pos h2, if_pos (.inr h2)]
  have hno : ¬ (d.letters < 1 ∨ 6 < d.letters) := by omega
  rw [if_neg h2, if_neg hno]
  by_cases h3 : 512 < (d.final.length : Int)
  · have h3' : 512 < d.final.length := by omega
    rw [if_pos h3, if_pos h3']
  have h3' : ¬ 512 < d.final.length := by omega
  rw [if_neg h3, if_neg h3']
  by_cases h4 : (d.next.length : Int) = (d.final.length : Int)
  · rw [if_pos h4]
    by_cases h5 : d.start < 0
    · rw [if_pos h5, if_neg (by simp [zf0]; omega)]
    rw [if_neg h5]
    by_cases h6 : (d.final.length : Int) ≤ d.start
    · rw [if_pos h6, if_neg (by simp [zf0]; omega)]
    rw [if_neg h6, zoo hc]
    congr 1
    have e1 : decide (d.next.length = d.final.length) = true := by simp; omega
    have e2 : decide (0 ≤ d.start ∧ d.start < (d.final.length : Int)) = true := by simp; omega
    simp only [zf0, e1, e2, Bool.true_and]
  · rw [if_neg h4, if_neg (by simp [zf0]; omega)]
def zrF (d : DFA) : Int := if zqA d = 0 then (if 12 < d.final.length then 3 else 0) else zqA d
theorem zcd {d : DFA} (hc : zrR d) : z4c d = some (zrF d) := by
  unfold z4c zrF
  rw [znS hc]
  simp only [Option.bind_some]
  split
  · split
    · rw [if_pos (by omega)]
    · rw [if_neg (by omega)]
  · rfl
theorem zqQ {d : DFA} {m n : Nat} (hd : DfaOk d m n) (hn : n ≤ 512) : zqA d = 0 := by
  have h1 := hd.lt
  have h2 := hd.m1
  have h3 := hd.m6
  have hf := hd.fin
  have hl := hd.nl
  unfold zqA
  rw [if_neg (by omega), if_neg (by omega), if_pos]
  have e1 : decide (d.next.length = d.final.length) = true := by simp; omega
  have e2 : decide (0 ≤ d.start ∧ d.start < (d.final.length : Int)) = true := by have := hd.s0; have := hd.s1; simp; omega
  simp only [zf0, e1, e2, Bool.true_and, List.all_eq_true]
  intro r hr
  obtain ⟨a, b⟩ := hd.row r hr
  have e3 : decide ((r.length : Int) = d.letters) = true := by simp; omega
  simp only [zqC, e3, Bool.true_and, List.all_eq_true, decide_eq_true_eq]
  intro x hx
  have := b x hx
  omega
theorem zpx {d : DFA} {m n : Nat} (hd : DfaOk d m n) (hn : n ≤ 12) : zrF d = 0 := by
  have hf := hd.fin
  unfold zrF
  rw [zqQ hd (by omega), if_pos rfl, if_neg (by omega)]
theorem zpH {d : DFA} {m n : Nat} (hd : DfaOk d m n) (hn : n ≤ 12) : zrR d := ⟨by rw [hd.fin]; omega, by rw [hd.nl]; omega, fun r hr => by have := (hd.row r hr).1; have := hd.m6; omega⟩
theorem zdY (w : ByteArray) (m : Int) : z6W w m = z6u w m := by
  unfold z6W z6u z5M
  by_cases h1 : m < 1
  · rw [if_pos h1, if_neg (by omega)]; rfl
  rw [if_neg h1]
  have h1' : 1 ≤ m := by omega
  by_cases h2 : 6 < m
  · rw [if_pos h2, if_pos h1']
    simp only [Option.bind_some]
    rw [if_neg (by simp; omega)]
  rw [if_neg h2, if_pos h1']
  simp only [Option.bind_some]
  rw [if_pos (show decide (m ≤ 6) = true by simp; omega)]
  rfl
def z6P (m : Int) (c : UInt8) : Bool := decide (97 ≤ c.toNat) && decide ((c.toNat : Int) < 97 + m)
theorem zea {k : Nat} (h : 97 ≤ k) (h2 : k < 256) : IntKind.i64.wrap (IntKind.u8.wrap ((k : Int) - 97)) = ((k - 97 : Nat) : Int) := by
  rw [zpN (by omega) (by omega), z2r (by omega) (by omega)]; omega
theorem zdQ {w : ByteArray} {k : Nat} (h : k < w.size) : w[k] = w.data.toList.getD k 0 := by
  have h' : k < w.data.toList.length := by rw [Array.length_toList]; exact h
  rw [List.getD, List.getElem?_eq_getElem h', Option.getD_some, Array.getElem_toList]
  rfl
theorem zpj {w : ByteArray} {m : Int} (hm : 1 ≤ m ∧ m ≤ 6) : z6u w m = some (decide (w.size ≤ 2048) && w.data.toList.all (z6P m)) := by
  unfold z6u z5M
  rw [if_pos hm.1]
  simp only [Option.bind_some]
  rw [if_pos (show decide (m ≤ 6) = true by simp; omega)]
  by_cases h : 2048 < (w.size : Int)
  · rw [if_pos h, show decide (w.size ≤ 2048) = false by simp; omega]; rfl
  rw [if_neg h, show decide (w.size ≤ 2048) = true by simp; omega, Bool.true_and]
  have hl : w.data.toList.length = w.size := by rw [Array.length_toList]; rfl
  rw [z8a (s := (0 : Int)) w.size (fun k => (k : Int)) (fun k => !z6P m (w.data.toList.getD k 0)) (fun _ => some false) (x := some true) rfl (by simp only [LFm]; omega)]
  · rw [zfU]
    simp only [Bool.not_not]
    rw [← hl, zdi]
    cases w.data.toList.all (z6P m) <;> rfl
  · intro k hk
    have hb : w[k].toNat < 256 := w[k].toNat_lt
    simp only [z6L]
    rw [if_pos (by omega), zhR hk]
    simp only [Option.bind_some]
    rw [← zdQ hk]
    by_cases h1 : (w[k].toNat : Int) < 97
    · have : z6P m w[k] = false := by simp only [z6P, Bool.and_eq_false_iff, decide_eq_false_iff_not]; omega
      simp only [h1, this, Bool.not_false, if_true]
    · rw [if_neg h1, zea (by omega) hb]
      by_cases h2 : m ≤ ((w[k].toNat - 97 : Nat) : Int)
      · have : z6P m w[k] = false := by simp only [z6P, Bool.and_eq_false_iff, decide_eq_false_iff_not]; omega
        simp only [h2, this, Bool.not_false, if_true]
      · have : z6P m w[k] = true := by simp only [z6P, Bool.and_eq_true, decide_eq_true_eq]; omega
        rw [if_neg h2, this, if_neg (by simp), z3n (by omega)]
  · simp only [z6L]
    rw [if_neg (by omega)]
def zfm (m : Nat) (w : ByteArray) : Prop := w.size ≤ 2048 ∧ ∀ c ∈ w.data.toList, 97 ≤ c.toNat ∧ c.toNat < 97 + m
instance (m : Nat) (w : ByteArray) : Decidable (zfm m w) := by unfold zfm; exact inferInstance
theorem zmd {w : ByteArray} {m : Nat} (hm : 1 ≤ m ∧ m ≤ 6) : z6u w (m : Int) = some (decide (zfm m w)) := by
  rw [zpj (by omega)]
  congr 1
  rw [Bool.eq_iff_iff, decide_eq_true_iff]
  unfold zfm
  simp only [Bool.and_eq_true, decide_eq_true_eq, List.all_eq_true, z6P]
  constructor
  · rintro ⟨a, b⟩; exact ⟨a, fun c hc => by have := b c hc; omega⟩
  · rintro ⟨a, b⟩; exact ⟨a, fun c hc => by have := b c hc; omega⟩
theorem zoS {d : DFA} {m n : Nat} (hd : DfaOk d m n) (hn : n ≤ 12) (s : Int) : z5J d s = some (decide (0 ≤ s ∧ s < ((2 ^ n : Nat) : Int))) := by
  unfold z5J
  rw [hd.fin]
  by_cases h : 0 ≤ s
  · rw [if_pos h, z1s _ (by omega), z8M (by omega)]
    congr 1
    rw [Bool.eq_iff_iff]; simp only [decide_eq_true_eq]; omega
  · rw [if_neg h]
    congr 1
    symm
    simp only [decide_eq_false_iff_not]; omega
theorem z9O {r p : Nat} (hr : r < 2 ^ 62) (hp : p < 2 ^ 62) : z3o (r : Int) (p : Int) = some (decide (p &&& r = p)) := by
  unfold z3o
  congr 1
  rw [Bool.eq_iff_iff]; simp only [decide_eq_true_eq]
  exact zjd hp hr
def z6j (d : DFA) : Nat → List UInt8 → Nat
  | s, [] => s
  | s, c :: w => z6j d (mvN d s (c.toNat - 97)) w
theorem z7z (d : DFA) : ∀ (s : Nat) (u v : List UInt8), z6j d s (u ++ v) = z6j d (z6j d s u) v
  | s, [], v => rfl
  | s, c :: u, v => by simp only [List.cons_append, z6j, z7z]
theorem zdf {d : DFA} {m n : Nat} (hd : DfaOk d m n) : ∀ {w : List UInt8} {s : Nat}, s < 2 ^ n → (∀ c ∈ w, 97 ≤ c.toNat ∧ c.toNat < 97 + m) → z6j d s w < 2 ^ n
  | [], s, hs, _ => hs
  | c :: w, s, hs, hw => by
    have hc := hw c (List.mem_cons_self ..)
    exact zdf (w := w) (s := mvN d s (c.toNat - 97)) hd (zf5 hd (by omega)) fun c' hc' => hw c' (List.mem_cons_of_mem _ hc')
theorem zmF {α : Type} {l : List α} {k : Nat} (h : k < l.length) : l.take (k + 1) = l.take k ++ [l[k]] := by rw [List.take_succ_eq_append_getElem h]
theorem zhV {d : DFA} {m n : Nat} (hd : DfaOk d m n) (hn : n ≤ 12) {s : Nat} (hs : s < 2 ^ n) {w : ByteArray} (hw : zfm m w) : z1q (z4t d w) LFm ((s : Int), 0) = some (((z6j d s w.data.toList : Nat) : Int), 0) := by
  have hl : w.data.toList.length = w.size := by rw [Array.length_toList]; rfl
  have h48 := hw.1
  refine z2f (s := ((s : Int), (0 : Int))) w.size (fun k => (((z6j d s (w.data.toList.take k) : Nat) : Int), (k : Int))) rfl (by simp only [LFm]; omega) (fun k hk => ?_) ?_
  · have hk' : k < w.data.toList.length := by omega
    have hc := hw.2 _ (List.getElem_mem hk')
    have hb : w[k] = w.data.toList[k] := by rw [zdQ hk, List.getD, List.getElem?_eq_getElem hk', Option.getD_some]
    have h256 : w[k].toNat < 256 := w[k].toNat_lt
    simp only [z4t]
    rw [if_pos (by omega), zhR hk]
    simp only [Option.bind_some]
    rw [hb] at *
    rw [zea hc.1 h256, ziJ hd hn (zdf hd hs fun c hc => hw.2 c (List.mem_of_mem_take hc)) (by omega)]
    simp only [Option.bind_some]
    rw [z3n (by omega), zmF hk', z7z]
    rfl
  · simp only [z4t]
    rw [if_neg (by omega), ← hl, List.take_length]
def zhW (d : DFA) (m n : Nat) (s : Int) (w : ByteArray) : Int × Int := if (0 ≤ s ∧ s < ((2 ^ n : Nat) : Int)) ∧ zfm m w then (((z6j d s.toNat w.data.toList : Nat) : Int), 0) else (0, 1)
theorem zkv {d : DFA} {m n : Nat} (hd : DfaOk d m n) (hn : n ≤ 12) (s : Int) (w : ByteArray) : z2q d s w = some (zhW d m n s w) := by
  unfold z2q zhW
  rw [zcd (zpH hd hn), zpx hd hn]
  simp only [Option.bind_some, if_true]
  rw [zoS hd hn]
  simp only [Option.bind_some, decide_eq_true_eq]
  by_cases h : 0 ≤ s ∧ s < ((2 ^ n : Nat) : Int)
  · rw [if_pos h, zdY, hd.lt, zmd ⟨hd.m1, hd.m6⟩]
    simp only [Option.bind_some, decide_eq_true_eq]
    by_cases hw : zfm m w
    · rw [if_pos hw, if_pos ⟨h, hw⟩]
      obtain ⟨k, rfl⟩ := Int.eq_ofNat_of_zero_le h.1
      rw [zhV hd hn (by omega) hw, Int.toNat_natCast]
    · rw [if_neg hw, if_neg (fun hh => hw hh.2)]
  · rw [if_neg h, if_neg (fun hh => h hh.1)]
end Go.Proofs.Ytbnnipkanechoaa
end
section
namespace Go.Proofs.Ytbnnipkanechoaa
open Go
set_option maxRecDepth 100000
def zrG (a : Nat) : ByteArray := ⟨#[UInt8.ofNat (97 + a)]⟩
abbrev RS := List Nat × List ByteArray
def zh2 (d : DFA) (i a : Nat) (st : RS) : RS := if mvN d (st.1.getD i 0) a ∈ st.1 then st else (st.1 ++ [mvN d (st.1.getD i 0) a], st.2 ++ [st.2.getD i ByteArray.empty ++ zrG a])
def z7H (d : DFA) (i : Nat) (st : RS) : Nat → RS
  | 0 => st
  | a + 1 => zh2 d i a (z7H d i st a)
def z6C (d : DFA) (m s : Nat) : Nat → RS
  | 0 => ([s], [ByteArray.empty])
  | k + 1 => if k < (z6C d m s k).1.length then z7H d k (z6C d m s k) m else z6C d m s k
structure RInv (d : DFA) (m n s : Nat) (st : RS) : Prop where
  nd : st.1.Nodup
  lt : ∀ x ∈ st.1, x < 2 ^ n
  len : st.2.length = st.1.length
  f0 : st.1[0]? = some s
  w0 : st.2[0]? = some ByteArray.empty
  ok : ∀ i, i < st.1.length → (st.2.getD i ByteArray.empty).size ≤ i ∧ (∀ c ∈ (st.2.getD i ByteArray.empty).data.toList, 97 ≤ c.toNat ∧ c.toNat < 97 + m) ∧ z6j d s (st.2.getD i ByteArray.empty).data.toList = st.1.getD i 0
theorem z7F {α : Type} {l r : List α} {i : Nat} (d : α) (h : i < l.length) : (l ++ r).getD i d = l.getD i d := by
  rw [List.getD, List.getD, List.getElem?_append_left h]
theorem zdC {α : Type} {l : List α} {x d : α} {i : Nat} (h : i = l.length) : (l ++ [x]).getD i d = x := by
  subst h; simp [List.getD]
theorem z1r {l : List Nat} {i : Nat} (h : i < l.length) : l.getD i 0 ∈ l := by
  rw [List.getD, List.getElem?_eq_getElem h]; exact List.getElem_mem h
theorem zds {α : Type} : ∀ {l r : List α}, l.Nodup → (∀ x ∈ l, x ∈ r) → l.length ≤ r.length
  | [], r, _, _ => by simp
  | x :: l, r, hn, hs => by
    obtain ⟨a, b, rfl⟩ := List.append_of_mem (hs x (List.mem_cons_self ..))
    have hn' := List.nodup_cons.1 hn
    have := zds (r := a ++ b) hn'.2 fun y hy => by
      have h1 := hs y (List.mem_cons_of_mem _ hy)
      have hne : y ≠ x := fun e => hn'.1 (e ▸ hy)
      rcases List.mem_append.1 h1 with h | h
      · exact List.mem_append.2 (.inl h)
      · rcases List.mem_cons.1 h with h | h
        · exact absurd h hne
        · exact List.mem_append.2 (.inr h)
    simp only [List.length_cons, List.length_append] at *
    omega
theorem z1L {l : List Nat} {N : Nat} (hn : l.Nodup) (hl : ∀ x ∈ l, x < N) : l.length ≤ N := by
  have := zds hn (r := List.range N) fun x hx => List.mem_range.2 (hl x hx)
  simpa using this
theorem znm (a : Nat) : (zrG a).data.toList = [UInt8.ofNat (97 + a)] := rfl
theorem zp8 (u v : ByteArray) : (u ++ v).data.toList = u.data.toList ++ v.data.toList := by simp
theorem zp7 (u v : ByteArray) : (u ++ v).size = u.size + v.size := by simp
theorem zdr (a : Nat) : (zrG a).size = 1 := rfl
theorem zjM {a : Nat} (h : a < 26) : (UInt8.ofNat (97 + a)).toNat = 97 + a := by simp [UInt8.toNat_ofNat']; omega
theorem zov {d : DFA} {m n s : Nat} (hd : DfaOk d m n) {st : RS} (h : RInv d m n s st) {i a : Nat} (hi : i < st.1.length) (ha : a < m) :
    RInv d m n s (zh2 d i a st) ∧ mvN d (st.1.getD i 0) a ∈ (zh2 d i a st).1 ∧ ∃ S W, (zh2 d i a st).1 = st.1 ++ S ∧ (zh2 d i a st).2 = st.2 ++ W := by
  have hm6 := hd.m6
  unfold zh2
  split
  · rename_i hm
    exact ⟨h, hm, [], [], by simp, by simp⟩
  · rename_i hm
    obtain ⟨o1, o2, o3⟩ := h.ok i hi
    refine ⟨⟨?_, ?_, by simp [h.len], ?_, ?_, ?_⟩, by simp, _, _, rfl, rfl⟩
    · refine List.nodup_append.2 ⟨h.nd, by simp, fun x hx y hy => ?_⟩
      obtain rfl : y = _ := by simpa using hy
      exact fun e => hm (e ▸ hx)
    · intro x hx
      rcases List.mem_append.1 hx with hx | hx
      · exact h.lt x hx
      · obtain rfl : x = _ := by simpa using hx
        exact zf5 hd ha
    · rw [List.getElem?_append_left (by omega)]; exact h.f0
    · rw [List.getElem?_append_left (by rw [h.len]; omega)]; exact h.w0
    · intro j hj
      simp only [List.length_append, List.length_singleton] at hj
      by_cases e : j = st.1.length
      · rw [zdC e, zdC (by rw [h.len]; exact e), zp7, zp8, znm, zdr, z7z, o3]
        refine ⟨by omega, fun c hc => ?_, ?_⟩
        · rcases List.mem_append.1 hc with hc | hc
          · exact o2 c hc
          · obtain rfl := List.mem_singleton.1 hc
            rw [zjM (by omega)]; omega
        · simp only [z6j]
          rw [zjM (by omega), Nat.add_sub_cancel_left]
      · rw [z7F _ (show j < st.2.length by rw [h.len]; omega), z7F _ (show j < st.1.length by omega)]
        exact h.ok j (by omega)
theorem zfN {d : DFA} {m n s : Nat} (hd : DfaOk d m n) {st : RS} (h : RInv d m n s st) {i : Nat} (hi : i < st.1.length) : ∀ a, a ≤ m →
    RInv d m n s (z7H d i st a) ∧ (∀ b, b < a → mvN d (st.1.getD i 0) b ∈ (z7H d i st a).1) ∧ (∃ S W, (z7H d i st a).1 = st.1 ++ S ∧ (z7H d i st a).2 = st.2 ++ W)
  | 0, _ => ⟨h, fun b hb => by omega, [], [], by simp [z7H], by simp [z7H]⟩
  | a + 1, ha => by
    obtain ⟨h1, h2, S, W, h3, h4⟩ := zfN hd h hi a (by omega)
    have hi' : i < (z7H d i st a).1.length := by rw [h3, List.length_append]; omega
    obtain ⟨k1, k2, S', W', k3, k4⟩ := zov hd h1 hi' (show a < m by omega)
    have e : (z7H d i st a).1.getD i 0 = st.1.getD i 0 := by rw [h3, z7F _ hi]
    rw [e] at k2
    refine ⟨k1, fun b hb => ?_, S ++ S', W ++ W', by rw [z7H, k3, h3, List.append_assoc], by rw [z7H, k4, h4, List.append_assoc]⟩
    by_cases hb' : b = a
    · subst hb'; exact k2
    · rw [z7H, k3]; exact List.mem_append.2 (.inl (h2 b (by omega)))
theorem z9F {d : DFA} {m n s : Nat} (hd : DfaOk d m n) (hs : s < 2 ^ n) : ∀ k, RInv d m n s (z6C d m s k) ∧ ∀ j, j < k → j < (z6C d m s k).1.length → ∀ a, a < m → mvN d ((z6C d m s k).1.getD j 0) a ∈ (z6C d m s k).1
  | 0 => ⟨⟨by simp [z6C], by simpa [z6C] using hs, rfl, rfl, rfl, fun i hi => by
      obtain rfl : i = 0 := by simpa [z6C] using hi
      exact ⟨Nat.le_refl _, fun c hc => by simp [z6C, List.getD] at hc, rfl⟩⟩, fun j hj => by omega⟩
  | k + 1 => by
    obtain ⟨h1, h2⟩ := z9F hd hs k
    unfold z6C
    split
    · rename_i hk
      obtain ⟨k1, k2, S, W, k3, k4⟩ := zfN hd h1 hk m (Nat.le_refl _)
      refine ⟨k1, fun j hj hjl a ha => ?_⟩
      by_cases e : j = k
      · subst e
        have := k2 a ha
        rwa [show (z7H d j (z6C d m s j) m).1.getD j 0 = (z6C d m s j).1.getD j 0 by rw [k3, z7F _ hk]]
      · have hj' : j < (z6C d m s k).1.length := by omega
        have := h2 j (by omega) hj' a ha
        rw [show (z7H d k (z6C d m s k) m).1.getD j 0 = (z6C d m s k).1.getD j 0 by rw [k3, z7F _ hj'], k3]
        exact List.mem_append.2 (.inl this)
    · rename_i hk
      exact ⟨h1, fun j hj hjl a ha => h2 j (by omega) hjl a ha⟩
theorem ziA {d : DFA} {m n s : Nat} (hd : DfaOk d m n) (hs : s < 2 ^ n) (k : Nat) : (z6C d m s k).1.length ≤ 2 ^ n := z1L (z9F hd hs k).1.nd (z9F hd hs k).1.lt
theorem zfs {d : DFA} {m s : Nat} {k : Nat} (h : ¬ k < (z6C d m s k).1.length) : ∀ j, k ≤ j → z6C d m s j = z6C d m s k
  | 0, hj => by
    obtain rfl : k = 0 := by omega
    rfl
  | j + 1, hj => by
    by_cases e : k = j + 1
    · rw [e]
    · have ih := zfs h j (by omega)
      rw [z6C, ih, if_neg (by omega)]
def z1H (d : DFA) (m n s : Nat) : RS := z6C d m s (2 ^ n)
theorem zbR {d : DFA} {m n s : Nat} (hd : DfaOk d m n) (hs : s < 2 ^ n) {x a : Nat} (hx : x ∈ (z1H d m n s).1) (ha : a < m) : mvN d x a ∈ (z1H d m n s).1 := by
  obtain ⟨i, hi, rfl⟩ := List.getElem_of_mem hx
  have hl := ziA hd hs (2 ^ n)
  have := (z9F hd hs (2 ^ n)).2 i (by unfold z1H at hi; omega) hi a ha
  have e : (z6C d m s (2 ^ n)).1.getD i 0 = (z1H d m n s).1[i] := by
    show (z1H d m n s).1.getD i 0 = _
    rw [List.getD, List.getElem?_eq_getElem hi, Option.getD_some]
  rw [e] at this
  exact this
theorem z6v {d : DFA} {m n s : Nat} (hd : DfaOk d m n) (hs : s < 2 ^ n) : RInv d m n s (z1H d m n s) := (z9F hd hs _).1
def toI (l : List Nat) : List Int := l.map fun x => ((x : Nat) : Int)
theorem z0G (l : List Nat) : (toI l).length = l.length := by simp [toI]
theorem z8L (l : List Nat) (x : Nat) : toI (l ++ [x]) = toI l ++ [((x : Nat) : Int)] := by simp [toI]
theorem z3z {l : List Nat} {i : Nat} (h : i < l.length) : atI (toI l) (i : Int) = some ((l.getD i 0 : Nat) : Int) := by
  rw [z3s (by rw [z0G]; exact h)]
  simp [toI, List.getD, h]
theorem zpY {l : List ByteArray} {i : Nat} (h : i < l.length) : atI l (i : Int) = some (l.getD i ByteArray.empty) := by
  rw [z3s h, List.getD, List.getElem?_eq_getElem h, Option.getD_some]
def zho (n : Nat) (S : List Nat) : List Bool := (List.range (2 ^ n)).map fun x => decide (x ∈ S)
theorem zrg {n : Nat} {S : List Nat} {x : Nat} (h : x < 2 ^ n) : atI (zho n S) (x : Int) = some (decide (x ∈ S)) := by
  rw [z3s (by simpa [zho] using h)]; simp [zho]
theorem znf {n : Nat} {S : List Nat} {x : Nat} : (zho n S).set x true = zho n (S ++ [x]) := by
  apply List.ext_getElem (by simp [zho])
  intro i h1 h2
  simp only [zho, List.getElem_set, List.getElem_map, List.getElem_range, List.mem_append, List.mem_singleton]
  by_cases e : x = i
  · subst e; simp
  · rw [if_neg e]
    have : ¬ i = x := fun h => e h.symm
    simp [this]
theorem zng {n s : Nat} : (List.replicate (2 ^ n) false).set s true = zho n [s] := by
  have : List.replicate (2 ^ n) false = zho n [] := by
    apply List.ext_getElem (by simp [zho])
    intro i h1 h2
    simp [zho]
  rw [this, znf]; rfl
def zsa (S : List Nat) : List (Int × Bool) := S.map fun x => (((x : Nat) : Int), true)
theorem map_set {x : Nat} : ∀ {S : List Nat}, x ∉ S → zf1 ((x : Nat) : Int) true (zsa S) = zsa (S ++ [x])
  | [], _ => rfl
  | y :: S, h => by
    have ih := map_set (x := x) (S := S) (fun hh => h (List.mem_cons_of_mem _ hh))
    have hne : y ≠ x := fun e => h (by simp [e])
    simp only [zsa, List.map_cons, zf1, List.cons_append]
    rw [if_neg (by omega)]
    congr 1
theorem znn {a : Nat} (h : a < 26) : (⟨#[UInt8.ofNat (IntKind.u8.wrap (IntKind.i64.wrap (97 + (a : Int)))).toNat]⟩ : ByteArray) = zrG a := by
  rw [z2r (by omega) (by omega), zpN (by omega) (by omega)]
  have : (97 + (a : Int)).toNat = 97 + a := by omega
  rw [this]; rfl
theorem ziS {d : DFA} {m n s : Nat} (hd : DfaOk d m n) (hn : n ≤ 12) {st : RS} (h : RInv d m n s st) {i : Nat} (hi : i < st.1.length) :
    z1q (z4s d i) LFm (0, zho n st.1, toI st.1, st.2) = z0Z (((i + 1 : Nat) : Int), zho n (z7H d i st m).1, toI (z7H d i st m).1, (z7H d i st m).2) := by
  have h12 := zfy hn
  have hm6 := hd.m6
  have hl := z1L h.nd h.lt
  refine z2f (s := ((0 : Int), zho n st.1, toI st.1, st.2)) m (fun a => ((a : Int), zho n (z7H d i st a).1, toI (z7H d i st a).1, (z7H d i st a).2)) rfl (by simp only [LFm]; omega) (fun a ha => ?_) ?_
  · obtain ⟨k1, _, S, W, k3, k4⟩ := zfN hd h hi a (by omega)
    have hl2 := z1L k1.nd k1.lt
    have hi' : i < (z7H d i st a).1.length := by rw [k3, List.length_append]; omega
    have hx : (z7H d i st a).1.getD i 0 < 2 ^ n := k1.lt _ (z1r hi')
    obtain ⟨o1, _, _⟩ := k1.ok i hi'
    simp only [z4s]
    rw [if_pos (by rw [hd.lt]; omega), z3z hi']
    simp only [Option.bind_some]
    rw [ziJ hd hn hx ha]
    simp only [Option.bind_some]
    rw [zrg (zf5 hd ha)]
    simp only [Option.bind_some, decide_eq_true_eq]
    rw [z3n (by omega), z7H]
    unfold zh2
    have hml := zf5 hd (s := (z7H d i st a).1.getD i 0) ha
    have hlt := hd.lt
    clear hd h k3 k4
    revert hml
    generalize z7H d i st a = st' at *
    generalize mvN d (st'.1.getD i 0) a = x
    intro hml
    by_cases hm : x ∈ st'.1
    · rw [if_pos hm, if_pos hm]
    · rw [if_neg hm, if_neg hm, z1s _ (by unfold z3O; rw [z0G]; omega), zpY (by rw [k1.len]; exact hi'), Option.bind_some]
      rw [znn (by omega), z1s _ (by unfold zaw; rw [zdr]; omega), z1s _ (by unfold z3O; rw [k1.len]; omega), Int.toNat_natCast, znf]
      rw [z8L]
  · simp only [z4s]
    rw [if_neg (by rw [hd.lt]; omega), z3n (by omega)]
theorem zoG {d : DFA} {m n s : Nat} (hd : DfaOk d m n) (hn : n ≤ 12) (hs : s < 2 ^ n) : z5I d (s : Int) = some (toI (z1H d m n s).1, (z1H d m n s).2) := by
  have h12 := zfy hn
  have hp := Nat.two_pow_pos n
  unfold z5I
  rw [hd.fin, z1s _ (by omega), z8M (by omega), z1s _ (by unfold z3w; omega), z1s _ (by omega), Int.toNat_natCast, Int.toNat_natCast, zng]
  refine zfH (s := ((0 : Int), zho n [s], [(s : Int)], [ByteArray.empty])) (fun z => ∃ k : Nat, k ≤ 2 ^ n ∧ z = ((k : Int), zho n (z6C d m s k).1, toI (z6C d m s k).1, (z6C d m s k).2)) (fun z => 2 ^ n + 1 - z.1.toNat) ⟨0, by omega, rfl⟩ (by simp only [LFm]; omega) ?_
  rintro z ⟨k, hk, rfl⟩
  have hl := ziA hd hs k
  simp only [z6y]
  by_cases h : k < (z6C d m s k).1.length
  · left
    rw [if_pos (by rw [z0G]; omega), ziS hd hn (z9F hd hs k).1 h]
    refine ⟨_, rfl, ⟨k + 1, by omega, ?_⟩, by simp only; omega⟩
    rw [z6C, if_pos h]
  · right
    rw [if_neg (by rw [z0G]; omega)]
    unfold z1H
    rw [zfs h _ hk]
end Go.Proofs.Ytbnnipkanechoaa
end
section
namespace Go.Proofs.Ytbnnipkanechoaa
open Go
set_option maxRecDepth 100000
def z6D (p r : Nat) : Prop := p &&& r = p
theorem z1Z {p r : Nat} : z6D p r ↔ ∀ q, p.testBit q = true → r.testBit q = true := by
  unfold z6D
  constructor
  · intro h q hq
    have : (p &&& r).testBit q = true := by rw [h]; exact hq
    rw [Nat.testBit_and, Bool.and_eq_true] at this
    exact this.2
  · intro h
    apply Nat.eq_of_testBit_eq
    intro q
    rw [Nat.testBit_and]
    cases hp : p.testBit q with
    | false => rfl
    | true => rw [h q hp]; rfl
theorem za9 (p : Nat) : z6D p p := Nat.and_self p
theorem zh0 {p q r : Nat} (h1 : z6D p q) (h2 : z6D q r) : z6D p r := z1Z.2 fun i hi => z1Z.1 h2 i (z1Z.1 h1 i hi)
theorem z6F {p q : Nat} (h1 : z6D p q) (h2 : z6D q p) : p = q := Nat.eq_of_testBit_eq fun i => by
  have a := z1Z.1 h1 i
  have b := z1Z.1 h2 i
  cases hp : p.testBit i <;> cases hq : q.testBit i <;> simp_all
theorem zqc {d : DFA} {m n : Nat} (hd : DfaOk d m n) {p r a : Nat} (ha : a < m) (h : z6D p r) : z6D (mvN d p a) (mvN d r a) := z1Z.2 fun q hq => by
  obtain ⟨i, h1, h2, h3⟩ := (z9I hd ha q).1 hq
  exact (z9I hd ha q).2 ⟨i, h1, z1Z.1 h i h2, h3⟩
theorem zft {d : DFA} {m n : Nat} (hd : DfaOk d m n) : ∀ {w : List UInt8} {p r : Nat}, (∀ c ∈ w, 97 ≤ c.toNat ∧ c.toNat < 97 + m) → z6D p r → z6D (z6j d p w) (z6j d r w)
  | [], p, r, _, h => h
  | c :: w, p, r, hw, h => zft (w := w) (p := mvN d p (c.toNat - 97)) (r := mvN d r (c.toNat - 97)) hd (fun c' hc' => hw c' (List.mem_cons_of_mem _ hc')) (zqc hd (by have := hw c (List.mem_cons_self ..); omega) h)
theorem zdg {d : DFA} {m n s : Nat} (hd : DfaOk d m n) (hs : s < 2 ^ n) : ∀ {w : List UInt8} {x : Nat}, (∀ c ∈ w, 97 ≤ c.toNat ∧ c.toNat < 97 + m) → x ∈ (z1H d m n s).1 → z6j d x w ∈ (z1H d m n s).1
  | [], x, _, h => h
  | c :: w, x, hw, h => zdg (w := w) (x := mvN d x (c.toNat - 97)) hd hs (fun c' hc' => hw c' (List.mem_cons_of_mem _ hc')) (zbR hd hs h (by have := hw c (List.mem_cons_self ..); omega))
theorem zbv {d : DFA} {m n s : Nat} (hd : DfaOk d m n) (hs : s < 2 ^ n) : s ∈ (z1H d m n s).1 := by
  have := (z6v hd hs).f0
  exact List.mem_of_getElem? this
def zqM (d : DFA) (m : Nat) (p r : Nat) : Prop := ∃ w : List UInt8, (∀ c ∈ w, 97 ≤ c.toNat ∧ c.toNat < 97 + m) ∧ z6D p (z6j d r w)
theorem zo6 {d : DFA} {m n p r : Nat} (hd : DfaOk d m n) (hr : r < 2 ^ n) : zqM d m p r ↔ ∃ x ∈ (z1H d m n r).1, z6D p x := by
  constructor
  · rintro ⟨w, h1, h2⟩
    exact ⟨_, zdg hd hr h1 (zbv hd hr), h2⟩
  · rintro ⟨x, hx, hs⟩
    obtain ⟨i, hi, rfl⟩ := List.getElem_of_mem hx
    obtain ⟨_, o2, o3⟩ := (z6v hd hr).ok i hi
    refine ⟨_, o2, ?_⟩
    rw [o3, List.getD, List.getElem?_eq_getElem hi, Option.getD_some]
    exact hs
theorem zkn (d : DFA) (m p : Nat) : zqM d m p p := ⟨[], fun c hc => by simp at hc, za9 p⟩
theorem zdS {d : DFA} {m n p q r : Nat} (hd : DfaOk d m n) (h1 : zqM d m p q) (h2 : zqM d m q r) : zqM d m p r := by
  obtain ⟨u, u1, u2⟩ := h1
  obtain ⟨v, v1, v2⟩ := h2
  refine ⟨v ++ u, fun c hc => ?_, ?_⟩
  · rcases List.mem_append.1 hc with h | h
    · exact v1 c h
    · exact u1 c h
  · rw [z7z]
    exact zh0 u2 (zft hd u1 v2)
end Go.Proofs.Ytbnnipkanechoaa
end
