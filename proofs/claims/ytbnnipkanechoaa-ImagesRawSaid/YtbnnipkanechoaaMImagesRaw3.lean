/- Proved here: a part of the proof of the law at hand, in one text: no condition. -/
import Derived.Test.YtbnnipkanechoaaMImagesRaw2
import Derived.Test.YtbnnipkanechoaaProg
import Derived.KernelRfl
import Derived.WalkKit
import Derived.Below
set_option linter.unusedVariables false
set_option linter.unusedSimpArgs false
section
namespace Go.Proofs.Ytbnnipkanechoaa
open Go
set_option maxRecDepth 100000
@[simp] theorem ty3 : z3t Try.prog 3 = some ⟨.int .i64, 1, 8, (some [(.sc (.int .i64 0))])⟩ := by kernel_rfl
@[simp] theorem ty4 : z3t Try.prog 4 = some ⟨.bool, 1, 1, (some [(.sc (.bool false))])⟩ := by kernel_rfl
@[simp] theorem ty5 : z3t Try.prog 5 = some ⟨.int .u8, 1, 1, (some [(.sc (.int .u8 0))])⟩ := by kernel_rfl
@[simp] theorem ty9 : z3t Try.prog 9 = some ⟨.string, 1, 16, (some [(.sc (.string ByteArray.empty))])⟩ := by kernel_rfl
@[simp] theorem ty22 : z3t Try.prog 22 = some ⟨.slice 3, 1, 24, (some [(.os 1 0 [])])⟩ := by kernel_rfl
@[simp] theorem ty23 : z3t Try.prog 23 = some ⟨.pointer 60, 1, 8, (some [(.sc (.pointer none))])⟩ := by kernel_rfl
@[simp] theorem ty25 : z3t Try.prog 25 = some ⟨.slice 4, 1, 24, (some [(.os 1 0 [])])⟩ := by kernel_rfl
@[simp] theorem ty26 : z3t Try.prog 26 = some ⟨.slice 22, 1, 24, (some [(.os 1 0 [])])⟩ := by kernel_rfl
noncomputable def zw6 : Array Field := match Try.prog.underlying 28 with | some (.struct fs) => fs | _ => #[]
@[simp] theorem ty28 : z3t Try.prog 28 = some ⟨.struct zw6, 4, 64, (some [(.sc (.int .i64 0)), (.sc (.int .i64 0)), (.os 1 0 []), (.os 1 0 [])])⟩ := by kernel_rfl
@[simp] theorem fi28_0 : z3K Try.prog 28 0 = some (0, 1, false) := by kernel_rfl
@[simp] theorem fi28_1 : z3K Try.prog 28 1 = some (1, 1, false) := by kernel_rfl
@[simp] theorem fi28_2 : z3K Try.prog 28 2 = some (2, 1, false) := by kernel_rfl
@[simp] theorem fi28_3 : z3K Try.prog 28 3 = some (3, 1, false) := by kernel_rfl
@[simp] theorem zvU : zce Try.prog 28 = (some [(.sc (.int .i64 0)), (.sc (.int .i64 0)), (.os 1 0 []), (.os 1 0 [])]) := by kernel_rfl
@[simp] theorem bs28 (fr : Fr) (parts : List (Nat × Operand)) : zbm Try.prog fr 28 parts = match za2 fr (z3K Try.prog 28) ([(.sc (.int .i64 0)), (.sc (.int .i64 0)), (.os 1 0 []), (.os 1 0 [])].map (A.t none)) parts with | some xs => some (E.ag xs) | none => none := z6O zvU fr parts
@[simp] theorem ty31 : z3t Try.prog 31 = some ⟨.slice 9, 1, 24, (some [(.os 1 0 [])])⟩ := by kernel_rfl
noncomputable def zw5 : Array Field := match Try.prog.underlying 33 with | some (.struct fs) => fs | _ => #[]
@[simp] theorem ty33 : z3t Try.prog 33 = some ⟨.struct zw5, 6, 144, (some [(.os 1 0 []), (.os 1 0 []), (.os 1 0 []), (.os 1 0 []), (.os 1 0 []), (.os 1 0 [])])⟩ := by kernel_rfl
@[simp] theorem fi33_0 : z3K Try.prog 33 0 = some (0, 1, false) := by kernel_rfl
@[simp] theorem fi33_1 : z3K Try.prog 33 1 = some (1, 1, false) := by kernel_rfl
@[simp] theorem fi33_2 : z3K Try.prog 33 2 = some (2, 1, false) := by kernel_rfl
@[simp] theorem fi33_3 : z3K Try.prog 33 3 = some (3, 1, false) := by kernel_rfl
@[simp] theorem fi33_4 : z3K Try.prog 33 4 = some (4, 1, false) := by kernel_rfl
@[simp] theorem fi33_5 : z3K Try.prog 33 5 = some (5, 1, false) := by kernel_rfl
@[simp] theorem zvT : zce Try.prog 33 = (some [(.os 1 0 []), (.os 1 0 []), (.os 1 0 []), (.os 1 0 []), (.os 1 0 []), (.os 1 0 [])]) := by kernel_rfl
@[simp] theorem bs33 (fr : Fr) (parts : List (Nat × Operand)) : zbm Try.prog fr 33 parts = match za2 fr (z3K Try.prog 33) ([(.os 1 0 []), (.os 1 0 []), (.os 1 0 []), (.os 1 0 []), (.os 1 0 []), (.os 1 0 [])].map (A.t none)) parts with | some xs => some (E.ag xs) | none => none := z6O zvT fr parts
@[simp] theorem ty34 : z3t Try.prog 34 = some ⟨.int .i64, 1, 8, (some [(.sc (.int .i64 0))])⟩ := by kernel_rfl
@[simp] theorem ty41 : z3t Try.prog 41 = some ⟨.map 3 3, 1, 8, (some [(.sc (.map none))])⟩ := by kernel_rfl
@[simp] theorem mt41 : ziq Try.prog 41 = some ((some .i64), 3) := by kernel_rfl
@[simp] theorem zv41 : znh Try.prog 3 = some (.int .i64 0) := by kernel_rfl
@[simp] theorem ty51 : z3t Try.prog 51 = some ⟨.int .u64, 1, 8, (some [(.sc (.int .u64 0))])⟩ := by kernel_rfl
noncomputable def zw4 : Array Field := match Try.prog.underlying 60 with | some (.struct fs) => fs | _ => #[]
@[simp] theorem ty60 : z3t Try.prog 60 = some ⟨.struct zw4, 2, 32, (some [(.os 1 0 []), (.sc (.int .i64 0))])⟩ := by kernel_rfl
@[simp] theorem fi60_0 : z3K Try.prog 60 0 = some (0, 1, false) := by kernel_rfl
@[simp] theorem fi60_1 : z3K Try.prog 60 1 = some (1, 1, false) := by kernel_rfl
@[simp] theorem zvS : zce Try.prog 60 = (some [(.os 1 0 []), (.sc (.int .i64 0))]) := by kernel_rfl
@[simp] theorem bs60 (fr : Fr) (parts : List (Nat × Operand)) : zbm Try.prog fr 60 parts = match za2 fr (z3K Try.prog 60) ([(.os 1 0 []), (.sc (.int .i64 0))].map (A.t none)) parts with | some xs => some (E.ag xs) | none => none := z6O zvS fr parts
@[simp] theorem ty63 : z3t Try.prog 63 = some ⟨.slice 25, 1, 24, (some [(.os 1 0 [])])⟩ := by kernel_rfl
noncomputable def zw3 : Array Field := match Try.prog.underlying 65 with | some (.struct fs) => fs | _ => #[]
@[simp] theorem ty65 : z3t Try.prog 65 = some ⟨.struct zw3, 3, 72, (some [(.os 1 0 []), (.os 1 0 []), (.os 1 0 [])])⟩ := by kernel_rfl
@[simp] theorem fi65_0 : z3K Try.prog 65 0 = some (0, 1, false) := by kernel_rfl
@[simp] theorem fi65_1 : z3K Try.prog 65 1 = some (1, 1, false) := by kernel_rfl
@[simp] theorem fi65_2 : z3K Try.prog 65 2 = some (2, 1, false) := by kernel_rfl
@[simp] theorem zvR : zce Try.prog 65 = (some [(.os 1 0 []), (.os 1 0 []), (.os 1 0 [])]) := by kernel_rfl
@[simp] theorem bs65 (fr : Fr) (parts : List (Nat × Operand)) : zbm Try.prog fr 65 parts = match za2 fr (z3K Try.prog 65) ([(.os 1 0 []), (.os 1 0 []), (.os 1 0 [])].map (A.t none)) parts with | some xs => some (E.ag xs) | none => none := z6O zvR fr parts
@[simp] theorem ty80 : z3t Try.prog 80 = some ⟨.slice 5, 1, 24, (some [(.os 1 0 [])])⟩ := by kernel_rfl
@[simp] theorem ty89 : z3t Try.prog 89 = some ⟨.map 3 4, 1, 8, (some [(.sc (.map none))])⟩ := by kernel_rfl
@[simp] theorem mt89 : ziq Try.prog 89 = some ((some .i64), 4) := by kernel_rfl
@[simp] theorem zv89 : znh Try.prog 4 = some (.bool false) := by kernel_rfl
@[simp] theorem ty102 : z3t Try.prog 102 = some ⟨.int .u32, 1, 4, (some [(.sc (.int .u32 0))])⟩ := by kernel_rfl
@[simp] theorem ty104 : z3t Try.prog 104 = some ⟨.int .u64, 1, 8, (some [(.sc (.int .u64 0))])⟩ := by kernel_rfl
def cf3 : Cfg := { wio := fun f i => (f == 30 && (i == 0)) || (f == 12 && (i == 0)) || (f == 13 && (i == 0)) || (f == 20 && (i == 0)) || (f == 999999 && (i == 0)), live := fun r => none, dr := fun r => none, fz := fun r => if r = 3 then some [4] else none }
@[simp] theorem wio3 : cf3.wio = fun f i => (f == 30 && (i == 0)) || (f == 12 && (i == 0)) || (f == 13 && (i == 0)) || (f == 20 && (i == 0)) || (f == 999999 && (i == 0)) := rfl
@[simp] theorem live3 : cf3.live = fun r => none := rfl
@[simp] theorem wr3 : cf3.wr = fun _ => [] := rfl
def cf4 : Cfg := { wio := fun f i => (f == 30 && (i == 0)) || (f == 12 && (i == 0)) || (f == 13 && (i == 0)) || (f == 20 && (i == 0)) || (f == 999999 && (i == 0)), live := fun r => if r = 7 then some [5, 35, 36, 37] else if r = 11 then some [5, 7, 8, 9, 35, 36, 37, 46, 47, 48] else none, dr := fun r => if r = 13 then some [(0, 0), (1, 0), (2, 0), (3, 0), (4, 0), (5, 0), (6, 0), (7, 0), (8, 0), (9, 0), (10, 0), (11, 0), (12, 0), (13, 0), (14, 0), (15, 0), (16, 0), (17, 0), (18, 0), (19, 0), (20, 0), (21, 0), (22, 0), (23, 0), (24, 0), (25, 0), (26, 0), (27, 0), (28, 0), (29, 0), (30, 0), (31, 0), (32, 0), (33, 0)] else none, fz := fun r => if r = 3 then some [4] else none }
@[simp] theorem wio4 : cf4.wio = fun f i => (f == 30 && (i == 0)) || (f == 12 && (i == 0)) || (f == 13 && (i == 0)) || (f == 20 && (i == 0)) || (f == 999999 && (i == 0)) := rfl
@[simp] theorem live4 : cf4.live = fun r => if r = 7 then some [5, 35, 36, 37] else if r = 11 then some [5, 7, 8, 9, 35, 36, 37, 46, 47, 48] else none := rfl
@[simp] theorem wr4 : cf4.wr = fun _ => [] := rfl
def cf5 : Cfg := { wio := fun f i => (f == 30 && (i == 0)) || (f == 12 && (i == 0)) || (f == 13 && (i == 0)) || (f == 20 && (i == 0)) || (f == 999999 && (i == 0)), live := fun r => if r = 9 then some [4, 5, 7, 8, 78, 79, 80] else if r = 20 then some [4, 5, 7, 8, 9, 78, 79, 80, 189, 190, 191] else if r = 27 then some [4, 5, 7, 8, 9, 20, 22, 78, 79, 80, 189, 190, 191, 221, 222, 223] else none, dr := fun r => if r = 15 then some [(0, 0), (1, 0), (2, 0), (3, 0), (4, 0), (5, 0), (6, 0), (7, 0), (8, 0), (9, 0), (10, 0), (11, 1), (12, 0), (13, 0), (14, 0), (15, 0), (16, 0)] else if r = 16 then some [(0, 0), (1, 0), (2, 0), (3, 0), (4, 0), (5, 0), (6, 0), (7, 1), (8, 0), (9, 0), (10, 0), (11, 0), (12, 0)] else if r = 17 then some [(0, 0), (1, 0), (2, 0), (3, 0), (4, 0), (5, 0), (6, 0), (7, 0), (8, 0), (9, 0), (10, 0), (11, 0), (12, 0), (13, 0), (14, 0), (15, 0), (16, 0), (17, 0), (18, 0), (19, 0), (20, 0), (21, 0), (22, 0), (23, 0), (24, 0), (25, 0), (26, 0), (27, 0), (28, 0), (29, 0), (30, 0), (31, 0), (32, 0), (33, 0), (34, 0), (35, 0), (36, 0), (37, 0), (38, 0), (39, 0), (40, 0), (41, 0), (42, 0), (43, 0), (44, 0), (45, 0), (46, 0), (47, 0)] else if r = 24 then some [(0, 0), (1, 0), (2, 0), (3, 0), (4, 0), (5, 0), (6, 0), (7, 0), (8, 0), (9, 0), (10, 0), (11, 1), (12, 0), (13, 0), (14, 0), (15, 0), (16, 0)] else none, fz := fun r => if r = 3 then some [4] else none }
@[simp] theorem wio5 : cf5.wio = fun f i => (f == 30 && (i == 0)) || (f == 12 && (i == 0)) || (f == 13 && (i == 0)) || (f == 20 && (i == 0)) || (f == 999999 && (i == 0)) := rfl
@[simp] theorem live5 : cf5.live = fun r => if r = 9 then some [4, 5, 7, 8, 78, 79, 80] else if r = 20 then some [4, 5, 7, 8, 9, 78, 79, 80, 189, 190, 191] else if r = 27 then some [4, 5, 7, 8, 9, 20, 22, 78, 79, 80, 189, 190, 191, 221, 222, 223] else none := rfl
@[simp] theorem wr5 : cf5.wr = fun _ => [] := rfl
def cf6 : Cfg := { wio := fun f i => (f == 30 && (i == 0)) || (f == 12 && (i == 0)) || (f == 13 && (i == 0)) || (f == 20 && (i == 0)) || (f == 999999 && (i == 0)), live := fun r => if r = 10 then some [8, 10, 11, 12, 64, 65, 66] else none, dr := fun r => if r = 8 then some [(0, 0), (1, 0), (2, 0), (3, 0), (4, 0), (5, 0), (6, 0), (7, 1), (8, 0), (9, 0), (10, 0), (11, 0), (12, 0)] else if r = 13 then some [(0, 0), (1, 0), (2, 0), (3, 0), (4, 0), (5, 0), (6, 0), (7, 0), (8, 0), (9, 0), (10, 0), (11, 0), (12, 0), (13, 0), (14, 0), (15, 0), (16, 1), (17, 0), (18, 0)] else none, fz := fun r => if r = 4 then some [6] else none }
@[simp] theorem wio6 : cf6.wio = fun f i => (f == 30 && (i == 0)) || (f == 12 && (i == 0)) || (f == 13 && (i == 0)) || (f == 20 && (i == 0)) || (f == 999999 && (i == 0)) := rfl
@[simp] theorem live6 : cf6.live = fun r => if r = 10 then some [8, 10, 11, 12, 64, 65, 66] else none := rfl
@[simp] theorem wr6 : cf6.wr = fun _ => [] := rfl
def cf8 : Cfg := { wio := fun f i => (f == 30 && (i == 0)) || (f == 12 && (i == 0)) || (f == 13 && (i == 0)) || (f == 20 && (i == 0)) || (f == 999999 && (i == 0)), live := fun r => none, dr := fun r => none }
@[simp] theorem wio8 : cf8.wio = fun f i => (f == 30 && (i == 0)) || (f == 12 && (i == 0)) || (f == 13 && (i == 0)) || (f == 20 && (i == 0)) || (f == 999999 && (i == 0)) := rfl
@[simp] theorem live8 : cf8.live = fun r => none := rfl
@[simp] theorem wr8 : cf8.wr = fun _ => [] := rfl
def cf9 : Cfg := { wio := fun f i => (f == 30 && (i == 0)) || (f == 12 && (i == 0)) || (f == 13 && (i == 0)) || (f == 20 && (i == 0)) || (f == 999999 && (i == 0)), live := fun r => none, dr := fun r => none }
@[simp] theorem wio9 : cf9.wio = fun f i => (f == 30 && (i == 0)) || (f == 12 && (i == 0)) || (f == 13 && (i == 0)) || (f == 20 && (i == 0)) || (f == 999999 && (i == 0)) := rfl
@[simp] theorem live9 : cf9.live = fun r => none := rfl
@[simp] theorem wr9 : cf9.wr = fun _ => [] := rfl
def cf10 : Cfg := { wio := fun f i => (f == 30 && (i == 0)) || (f == 12 && (i == 0)) || (f == 13 && (i == 0)) || (f == 20 && (i == 0)) || (f == 999999 && (i == 0)), live := fun r => none, dr := fun r => none }
@[simp] theorem wio10 : cf10.wio = fun f i => (f == 30 && (i == 0)) || (f == 12 && (i == 0)) || (f == 13 && (i == 0)) || (f == 20 && (i == 0)) || (f == 999999 && (i == 0)) := rfl
@[simp] theorem live10 : cf10.live = fun r => none := rfl
@[simp] theorem wr10 : cf10.wr = fun _ => [] := rfl
def cf11 : Cfg := { wio := fun f i => (f == 999999 && (i == 0)), live := fun r => none, dr := fun r => none }
@[simp] theorem wio11 : cf11.wio = fun f i => (f == 999999 && (i == 0)) := rfl
@[simp] theorem live11 : cf11.live = fun r => none := rfl
@[simp] theorem wr11 : cf11.wr = fun _ => [] := rfl
def cf12 : Cfg := { wio := fun f i => (f == 30 && (i == 0)) || (f == 34 && (i == 0)) || (f == 31 && (i == 0)) || (f == 32 && (i == 0)) || (f == 33 && (i == 0)) || (f == 999999 && (i == 0)), live := fun r => none, dr := fun r => none }
@[simp] theorem wio12 : cf12.wio = fun f i => (f == 30 && (i == 0)) || (f == 34 && (i == 0)) || (f == 31 && (i == 0)) || (f == 32 && (i == 0)) || (f == 33 && (i == 0)) || (f == 999999 && (i == 0)) := rfl
@[simp] theorem live12 : cf12.live = fun r => none := rfl
@[simp] theorem wr12 : cf12.wr = fun _ => [] := rfl
def cf13 : Cfg := { wio := fun f i => (f == 30 && (i == 0)) || (f == 999999 && (i == 0)), live := fun r => none, dr := fun r => none }
@[simp] theorem wio13 : cf13.wio = fun f i => (f == 30 && (i == 0)) || (f == 999999 && (i == 0)) := rfl
@[simp] theorem live13 : cf13.live = fun r => none := rfl
@[simp] theorem wr13 : cf13.wr = fun _ => [] := rfl
def zfM : SchT := .nil
def zc2 : SchT := .op 13 2 zfM
def z7V : SchT := .op 11 0 zc2
def zfN : SchT := .op 12 1 zc2
def z7W : SchT := .op 4 1 z7V
def z7X : SchT := .op 6 1 z7V
def z7Y : SchT := .op 8 1 z7V
def z7Z : SchT := .op 10 1 z7V
def z8a : SchT := .op 11 0 zfN
def z9D : SchT := .alt (.op 4 1 z7X) (.op 6 1 z7W)
def z9E : SchT := .alt (.op 4 1 z7Y) (.op 8 1 z7W)
def z9F : SchT := .alt (.op 4 1 z7Z) (.op 10 1 z7W)
def z9G : SchT := .alt (.op 4 1 z8a) (.op 12 1 z7W)
def z9H : SchT := .alt (.op 6 1 z7Y) (.op 8 1 z7X)
def z9I : SchT := .alt (.op 6 1 z7Z) (.op 10 1 z7X)
def z9J : SchT := .alt (.op 6 1 z8a) (.op 12 1 z7X)
def z9K : SchT := .alt (.op 8 1 z7Z) (.op 10 1 z7Y)
def z9L : SchT := .alt (.op 8 1 z8a) (.op 12 1 z7Y)
def z9M : SchT := .alt (.op 10 1 z8a) (.op 12 1 z7Z)
def zc3 : SchT := .alt (.op 4 1 z9H) (.alt (.op 6 1 z9E) (.op 8 1 z9D))
def zc4 : SchT := .alt (.op 4 1 z9I) (.alt (.op 6 1 z9F) (.op 10 1 z9D))
def zc5 : SchT := .alt (.op 4 1 z9J) (.alt (.op 6 1 z9G) (.op 12 1 z9D))
def zc6 : SchT := .alt (.op 4 1 z9K) (.alt (.op 8 1 z9F) (.op 10 1 z9E))
def zc7 : SchT := .alt (.op 4 1 z9L) (.alt (.op 8 1 z9G) (.op 12 1 z9E))
def zc8 : SchT := .alt (.op 4 1 z9M) (.alt (.op 10 1 z9G) (.op 12 1 z9F))
def zc9 : SchT := .alt (.op 6 1 z9K) (.alt (.op 8 1 z9I) (.op 10 1 z9H))
def zca : SchT := .alt (.op 6 1 z9L) (.alt (.op 8 1 z9J) (.op 12 1 z9H))
def zcb : SchT := .alt (.op 6 1 z9M) (.alt (.op 10 1 z9J) (.op 12 1 z9I))
def zcc : SchT := .alt (.op 8 1 z9M) (.alt (.op 10 1 z9L) (.op 12 1 z9K))
def zfO : SchT := .alt (.op 4 1 zc9) (.alt (.op 6 1 zc6) (.alt (.op 8 1 zc4) (.op 10 1 zc3)))
def zfP : SchT := .alt (.op 4 1 zca) (.alt (.op 6 1 zc7) (.alt (.op 8 1 zc5) (.op 12 1 zc3)))
def zfQ : SchT := .alt (.op 4 1 zcb) (.alt (.op 6 1 zc8) (.alt (.op 10 1 zc5) (.op 12 1 zc4)))
def zhI : SchT := .alt (.op 4 1 zcc) (.alt (.op 8 1 zc8) (.alt (.op 10 1 zc7) (.op 12 1 zc6)))
def zhJ : SchT := .alt (.op 6 1 zcc) (.alt (.op 8 1 zcb) (.alt (.op 10 1 zca) (.op 12 1 zc9)))
def zhK : SchT := .alt (.op 4 1 zhJ) (.alt (.op 6 1 zhI) (.alt (.op 8 1 zfQ) (.alt (.op 10 1 zfP) (.op 12 1 zfO))))
def zhL : SchT := .op 9 0 zhK
def zhM : SchT := .op 7 0 zhL
def zhN : SchT := .op 5 0 zhM
def zhO : SchT := .op 3 0 zhN
def zhP : SchT := .op 2 0 zhO
def zhQ : SchT := .op 1 0 zhP
def zhR : SchT := .op 0 0 zhQ
def cf14 : Cfg := { wio := fun f i => (f == 999999 && (i == 0)), live := fun r => if r = 12 then some [2, 5, 7, 8, 9, 10, 53, 54] else if r = 19 then some [2, 5, 7, 8, 10, 85, 86, 87] else if r = 23 then some [2, 5, 7, 8, 10, 14, 17, 85, 86, 87, 99, 100] else none, dr := fun r => if r = 14 then some [(0, 0), (1, 0), (2, 0), (3, 0), (4, 0), (5, 1), (6, 0), (7, 2)] else if r = 16 then some [(0, 0), (1, 0), (2, 0), (3, 0), (4, 0), (5, 0), (6, 0), (7, 0), (8, 0), (9, 0), (10, 0), (11, 0), (12, 0), (13, 0), (14, 2)] else if r = 26 then some [(0, 0), (1, 0), (2, 0), (3, 0), (4, 0), (5, 0), (6, 0), (7, 0), (8, 2)] else none, fz := fun r => if r = 8 then some [5] else if r = 10 then some [8] else if r = 999998 then some [] else none, dt := fun r => if r = 10 then some (zhR) else none }
@[simp] theorem wio14 : cf14.wio = fun f i => (f == 999999 && (i == 0)) := rfl
@[simp] theorem live14 : cf14.live = fun r => if r = 12 then some [2, 5, 7, 8, 9, 10, 53, 54] else if r = 19 then some [2, 5, 7, 8, 10, 85, 86, 87] else if r = 23 then some [2, 5, 7, 8, 10, 14, 17, 85, 86, 87, 99, 100] else none := rfl
@[simp] theorem wr14 : cf14.wr = fun _ => [] := rfl
def zfy : SchT := .nil
def zfz : SchT := .op 15 2 zfy
def zbJ : SchT := .op 14 0 zfz
def zfA : SchT := .op 7 1 zbJ
def zbK : SchT := .op 13 2 zbJ
def zfB : SchT := .alt (.op 7 1 zbK) (.op 13 2 zfA)
def zbL : SchT := .op 12 0 zbK
def zbM : SchT := .op 5 1 zbL
def zbN : SchT := .op 12 0 zfB
def z9x : SchT := .op 11 2 zbL
def zfC : SchT := .alt (.op 5 1 zbN) (.op 7 1 zbM)
def zbO : SchT := .alt (.op 5 1 z9x) (.op 11 2 zbM)
def zbP : SchT := .alt (.op 7 1 z9x) (.op 11 2 zbN)
def zbQ : SchT := .op 10 0 z9x
def z9y : SchT := .op 3 1 zbQ
def zfD : SchT := .alt (.op 5 1 zbP) (.alt (.op 7 1 zbO) (.op 11 2 zfC))
def zbR : SchT := .op 10 0 zbO
def zbS : SchT := .op 10 0 zbP
def z7U : SchT := .op 9 2 zbQ
def zbT : SchT := .alt (.op 3 1 zbR) (.op 5 1 z9y)
def zbU : SchT := .alt (.op 3 1 zbS) (.op 7 1 z9y)
def z9z : SchT := .alt (.op 3 1 z7U) (.op 9 2 z9y)
def zbV : SchT := .op 10 0 zfD
def z9A : SchT := .alt (.op 5 1 z7U) (.op 9 2 zbR)
def z9B : SchT := .alt (.op 7 1 z7U) (.op 9 2 zbS)
def zfE : SchT := .op 8 0 z7U
def z9C : SchT := .op 1 1 zfE
def zfF : SchT := .alt (.op 3 1 zbV) (.alt (.op 5 1 zbU) (.op 7 1 zbT))
def zbW : SchT := .alt (.op 3 1 z9A) (.alt (.op 5 1 z9z) (.op 9 2 zbT))
def zbX : SchT := .alt (.op 3 1 z9B) (.alt (.op 7 1 z9z) (.op 9 2 zbU))
def zfG : SchT := .op 8 0 z9z
def zbY : SchT := .alt (.op 5 1 z9B) (.alt (.op 7 1 z9A) (.op 9 2 zbV))
def zfH : SchT := .op 8 0 z9A
def zfI : SchT := .op 8 0 z9B
def zbZ : SchT := .alt (.op 1 1 zfG) (.op 3 1 z9C)
def zc0 : SchT := .alt (.op 1 1 zfH) (.op 5 1 z9C)
def zc1 : SchT := .alt (.op 1 1 zfI) (.op 7 1 z9C)
def zfJ : SchT := .alt (.op 3 1 zbY) (.alt (.op 5 1 zbX) (.alt (.op 7 1 zbW) (.op 9 2 zfF)))
def zfK : SchT := .op 8 0 zbW
def zfL : SchT := .op 8 0 zbX
def zhy : SchT := .op 8 0 zbY
def zhz : SchT := .alt (.op 1 1 zfK) (.alt (.op 3 1 zc0) (.op 5 1 zbZ))
def zhA : SchT := .alt (.op 1 1 zfL) (.alt (.op 3 1 zc1) (.op 7 1 zbZ))
def zhB : SchT := .alt (.op 1 1 zhy) (.alt (.op 5 1 zc1) (.op 7 1 zc0))
def zhC : SchT := .op 8 0 zfJ
def zhD : SchT := .alt (.op 1 1 zhC) (.alt (.op 3 1 zhB) (.alt (.op 5 1 zhA) (.op 7 1 zhz)))
def zhE : SchT := .op 6 3 zhD
def zhF : SchT := .op 4 3 zhE
def zhG : SchT := .op 2 3 zhF
def zhH : SchT := .op 0 0 zhG
def zfr : SchT := .nil
def zfs : SchT := .op 12 2 zfr
def zbD : SchT := .op 11 0 zfs
def zft : SchT := .op 1 2 zbD
def z9v : SchT := .op 10 2 zbD
def zbE : SchT := .alt (.op 1 2 z9v) (.op 10 2 zft)
def z9w : SchT := .op 7 2 z9v
def zbF : SchT := .op 9 1 z9v
def zbG : SchT := .alt (.op 1 2 z9w) (.op 7 2 zbE)
def zfu : SchT := .alt (.op 1 2 zbF) (.op 9 1 zbE)
def zfv : SchT := .op 6 0 z9w
def zbH : SchT := .alt (.op 7 2 zbF) (.op 9 1 z9w)
def zfw : SchT := .op 6 3 zbG
def zfx : SchT := .alt (.op 1 2 zbH) (.alt (.op 7 2 zfu) (.op 9 1 zbG))
def zbI : SchT := .op 4 2 zfv
def zho : SchT := .op 6 0 zbH
def zhp : SchT := .alt (.op 1 2 zbI) (.op 4 2 zfw)
def zhq : SchT := .op 6 3 zfx
def zhr : SchT := .alt (.op 4 2 zho) (.op 9 1 zbI)
def zhs : SchT := .alt (.op 1 2 zhr) (.alt (.op 4 2 zhq) (.op 9 1 zhp))
def zht : SchT := .op 8 3 zhs
def zhu : SchT := .op 5 3 zht
def zhv : SchT := .op 3 3 zhu
def zhw : SchT := .op 2 3 zhv
def zhx : SchT := .op 0 3 zhw
def cf15 : Cfg := { wio := fun f i => (f == 999999 && (i == 0)), live := fun r => if r = 10 then some [1, 2, 5, 6, 7, 57, 58, 59] else if r = 16 then some [1, 2, 5, 6, 10, 71, 72] else if r = 21 then some [1, 2, 5, 6, 10, 82, 83, 84] else if r = 25 then some [1, 2, 5, 6, 10, 12, 82, 83, 84, 95, 96, 97] else if r = 28 then some [1, 2, 5, 6, 10, 12, 17, 82, 83, 84, 95, 96, 97, 102, 103, 104] else if r = 37 then some [1, 2, 5, 6, 10, 20, 126, 127] else if r = 41 then some [1, 2, 5, 6, 10, 20, 21, 22, 126, 127] else if r = 49 then some [1, 2, 5, 10, 23] else if r = 52 then some [1, 2, 5, 10, 23, 181, 182] else if r = 55 then some [1, 2, 5, 10, 23, 24, 181, 182, 187, 188] else if r = 63 then some [1, 2, 5, 244, 245] else if r = 67 then some [1, 2, 5, 26, 244, 245, 256, 257, 258] else if r = 72 then some [1, 2, 5, 26, 27, 28, 29, 244, 245, 256, 257, 258, 278, 279, 280] else if r = 81 then some [1, 2, 5, 333, 334] else if r = 84 then some [1, 2, 5, 32, 33, 333, 334] else if r = 88 then some [1, 2, 5, 32, 33, 35, 333, 334, 360, 361, 362] else if r = 95 then some [1, 2, 5, 32, 33, 35, 333, 334, 393, 394, 395] else none, dr := fun r => if r = 57 then some [(0, 0), (1, 0), (2, 0), (3, 0), (4, 0), (5, 1), (6, 0), (7, 0), (8, 0), (9, 0), (10, 0), (11, 0), (12, 0), (13, 0), (14, 0), (15, 0), (16, 0), (17, 0), (18, 0), (19, 0), (20, 0), (21, 0), (22, 0), (23, 0), (24, 0), (25, 0), (26, 0), (27, 0), (28, 0), (29, 0), (30, 0), (31, 0), (32, 0), (33, 0), (34, 0), (35, 0), (36, 0), (37, 0), (38, 0)] else if r = 58 then some [(0, 0), (1, 0), (2, 0), (3, 0), (4, 0), (5, 0), (6, 0), (7, 0), (8, 0), (9, 0), (10, 2)] else if r = 84 then some [(0, 0), (1, 0), (2, 0), (3, 0), (4, 0), (5, 0), (6, 0), (7, 0), (8, 0), (9, 0), (10, 0)] else if r = 86 then some [(0, 0), (1, 0), (2, 0), (3, 0), (4, 0), (5, 0), (6, 1), (7, 0), (8, 0), (9, 0), (10, 0), (11, 0)] else if r = 91 then some [(0, 0), (1, 0), (2, 0), (3, 0), (4, 0), (5, 0), (6, 0), (7, 0), (8, 2)] else if r = 93 then some [(0, 0), (1, 0), (2, 0), (3, 0), (4, 0), (5, 0), (6, 1), (7, 0), (8, 0), (9, 0), (10, 0), (11, 0)] else if r = 98 then some [(0, 0), (1, 0), (2, 0), (3, 0), (4, 0), (5, 0), (6, 0), (7, 0), (8, 2)] else none, dt := fun r => if r = 47 then some (zhH) else if r = 77 then some (zhx) else none }
@[simp] theorem wio15 : cf15.wio = fun f i => (f == 999999 && (i == 0)) := rfl
@[simp] theorem live15 : cf15.live = fun r => if r = 10 then some [1, 2, 5, 6, 7, 57, 58, 59] else if r = 16 then some [1, 2, 5, 6, 10, 71, 72] else if r = 21 then some [1, 2, 5, 6, 10, 82, 83, 84] else if r = 25 then some [1, 2, 5, 6, 10, 12, 82, 83, 84, 95, 96, 97] else if r = 28 then some [1, 2, 5, 6, 10, 12, 17, 82, 83, 84, 95, 96, 97, 102, 103, 104] else if r = 37 then some [1, 2, 5, 6, 10, 20, 126, 127] else if r = 41 then some [1, 2, 5, 6, 10, 20, 21, 22, 126, 127] else if r = 49 then some [1, 2, 5, 10, 23] else if r = 52 then some [1, 2, 5, 10, 23, 181, 182] else if r = 55 then some [1, 2, 5, 10, 23, 24, 181, 182, 187, 188] else if r = 63 then some [1, 2, 5, 244, 245] else if r = 67 then some [1, 2, 5, 26, 244, 245, 256, 257, 258] else if r = 72 then some [1, 2, 5, 26, 27, 28, 29, 244, 245, 256, 257, 258, 278, 279, 280] else if r = 81 then some [1, 2, 5, 333, 334] else if r = 84 then some [1, 2, 5, 32, 33, 333, 334] else if r = 88 then some [1, 2, 5, 32, 33, 35, 333, 334, 360, 361, 362] else if r = 95 then some [1, 2, 5, 32, 33, 35, 333, 334, 393, 394, 395] else none := rfl
@[simp] theorem wr15 : cf15.wr = fun _ => [] := rfl
def cf16 : Cfg := { wio := fun f i => (f == 999999 && (i == 0)), live := fun r => none, dr := fun r => none }
@[simp] theorem wio16 : cf16.wio = fun f i => (f == 999999 && (i == 0)) := rfl
@[simp] theorem live16 : cf16.live = fun r => none := rfl
@[simp] theorem wr16 : cf16.wr = fun _ => [] := rfl
def cf17 : Cfg := { wio := fun f i => (f == 999999 && (i == 0)), live := fun r => none, dr := fun r => none }
@[simp] theorem wio17 : cf17.wio = fun f i => (f == 999999 && (i == 0)) := rfl
@[simp] theorem live17 : cf17.live = fun r => none := rfl
@[simp] theorem wr17 : cf17.wr = fun _ => [] := rfl
def cf18 : Cfg := { wio := fun f i => (f == 999999 && (i == 0)), live := fun r => if r = 2 then some [0, 3] else none, dr := fun r => none }
@[simp] theorem wio18 : cf18.wio = fun f i => (f == 999999 && (i == 0)) := rfl
@[simp] theorem live18 : cf18.live = fun r => if r = 2 then some [0, 3] else none := rfl
@[simp] theorem wr18 : cf18.wr = fun _ => [] := rfl
def cf19 : Cfg := { wio := fun f i => (f == 999999 && (i == 0)), live := fun r => if r = 7 then some [1, 2, 3, 27, 28] else none, dr := fun r => if r = 9 then some [(0, 0), (1, 0), (2, 0), (3, 0), (4, 0), (5, 0), (6, 0), (7, 1), (8, 0)] else none }
@[simp] theorem wio19 : cf19.wio = fun f i => (f == 999999 && (i == 0)) := rfl
@[simp] theorem live19 : cf19.live = fun r => if r = 7 then some [1, 2, 3, 27, 28] else none := rfl
@[simp] theorem wr19 : cf19.wr = fun _ => [] := rfl
def cf20 : Cfg := { wio := fun f i => (f == 30 && (i == 0)) || (f == 999999 && (i == 0)), live := fun r => if r = 3 then some [0, 1, 7, 8] else none, dr := fun r => none }
@[simp] theorem wio20 : cf20.wio = fun f i => (f == 30 && (i == 0)) || (f == 999999 && (i == 0)) := rfl
@[simp] theorem live20 : cf20.live = fun r => if r = 3 then some [0, 1, 7, 8] else none := rfl
@[simp] theorem wr20 : cf20.wr = fun _ => [] := rfl
def cf21 : Cfg := { wio := fun f i => (f == 999999 && (i == 0)), live := fun r => none, dr := fun r => none }
@[simp] theorem wio21 : cf21.wio = fun f i => (f == 999999 && (i == 0)) := rfl
@[simp] theorem live21 : cf21.live = fun r => none := rfl
@[simp] theorem wr21 : cf21.wr = fun _ => [] := rfl
def cf22 : Cfg := { wio := fun f i => (f == 999999 && (i == 0)), live := fun r => none, dr := fun r => none }
@[simp] theorem wio22 : cf22.wio = fun f i => (f == 999999 && (i == 0)) := rfl
@[simp] theorem live22 : cf22.live = fun r => none := rfl
@[simp] theorem wr22 : cf22.wr = fun _ => [] := rfl
def cf23 : Cfg := { wio := fun f i => (f == 999999 && (i == 0)), live := fun r => if r = 3 then some [3, 6, 7, 8] else none, dr := fun r => none }
@[simp] theorem wio23 : cf23.wio = fun f i => (f == 999999 && (i == 0)) := rfl
@[simp] theorem live23 : cf23.live = fun r => if r = 3 then some [3, 6, 7, 8] else none := rfl
@[simp] theorem wr23 : cf23.wr = fun _ => [] := rfl
def cf24 : Cfg := { wio := fun f i => (f == 999999 && (i == 0)), live := fun r => none, dr := fun r => none }
@[simp] theorem wio24 : cf24.wio = fun f i => (f == 999999 && (i == 0)) := rfl
@[simp] theorem live24 : cf24.live = fun r => none := rfl
@[simp] theorem wr24 : cf24.wr = fun _ => [] := rfl
def cf25 : Cfg := { wio := fun f i => (f == 999999 && (i == 0)), live := fun r => if r = 8 then some [1, 11, 35, 36, 37] else none, dr := fun r => none }
@[simp] theorem wio25 : cf25.wio = fun f i => (f == 999999 && (i == 0)) := rfl
@[simp] theorem live25 : cf25.live = fun r => if r = 8 then some [1, 11, 35, 36, 37] else none := rfl
@[simp] theorem wr25 : cf25.wr = fun _ => [] := rfl
def cf26 : Cfg := { wio := fun f i => (f == 999999 && (i == 0)), live := fun r => if r = 8 then some [1, 11, 35, 36, 37] else none, dr := fun r => none }
@[simp] theorem wio26 : cf26.wio = fun f i => (f == 999999 && (i == 0)) := rfl
@[simp] theorem live26 : cf26.live = fun r => if r = 8 then some [1, 11, 35, 36, 37] else none := rfl
@[simp] theorem wr26 : cf26.wr = fun _ => [] := rfl
def cf27 : Cfg := { wio := fun f i => (f == 999999 && (i == 0)), live := fun r => if r = 4 then some [0, 1, 5] else none, dr := fun r => none }
@[simp] theorem wio27 : cf27.wio = fun f i => (f == 999999 && (i == 0)) := rfl
@[simp] theorem live27 : cf27.live = fun r => if r = 4 then some [0, 1, 5] else none := rfl
@[simp] theorem wr27 : cf27.wr = fun _ => [] := rfl
def cf28 : Cfg := { wio := fun f i => (f == 999999 && (i == 0)), live := fun r => if r = 4 then some [16, 17, 18] else none, dr := fun r => none }
@[simp] theorem wio28 : cf28.wio = fun f i => (f == 999999 && (i == 0)) := rfl
@[simp] theorem live28 : cf28.live = fun r => if r = 4 then some [16, 17, 18] else none := rfl
@[simp] theorem wr28 : cf28.wr = fun _ => [] := rfl
def cf29 : Cfg := { wio := fun f i => (f == 999999 && (i == 0)), live := fun r => none, dr := fun r => none }
@[simp] theorem wio29 : cf29.wio = fun f i => (f == 999999 && (i == 0)) := rfl
@[simp] theorem live29 : cf29.live = fun r => none := rfl
@[simp] theorem wr29 : cf29.wr = fun _ => [] := rfl
def cf30 : Cfg := { wio := fun f i => (f == 999999 && (i == 0)), live := fun r => none, dr := fun r => if r = 1 then some [(0, 0), (1, 0), (2, 0), (3, 0), (4, 0), (5, 0), (6, 0), (7, 0), (8, 0), (9, 0)] else if r = 4 then some [(0, 0), (1, 0), (2, 0), (3, 0), (4, 0), (5, 0), (6, 0), (7, 0), (8, 0), (9, 0), (10, 0), (11, 0), (12, 1), (13, 0)] else none }
@[simp] theorem wio30 : cf30.wio = fun f i => (f == 999999 && (i == 0)) := rfl
@[simp] theorem live30 : cf30.live = fun r => none := rfl
@[simp] theorem wr30 : cf30.wr = fun _ => [] := rfl
def cf31 : Cfg := { wio := fun f i => (f == 34 && (i == 0)) || (f == 999999 && (i == 0)), live := fun r => if r = 3 then some [6, 7, 17, 18] else if r = 6 then some [6, 7, 8, 17, 18, 25, 26, 27] else none, dr := fun r => none }
@[simp] theorem wio31 : cf31.wio = fun f i => (f == 34 && (i == 0)) || (f == 999999 && (i == 0)) := rfl
@[simp] theorem live31 : cf31.live = fun r => if r = 3 then some [6, 7, 17, 18] else if r = 6 then some [6, 7, 8, 17, 18, 25, 26, 27] else none := rfl
@[simp] theorem wr31 : cf31.wr = fun _ => [] := rfl
def zh5 : SchT := .nil
def zh6 : SchT := .op 16 2 zh5
def zh7 : SchT := .op 15 0 zh6
def zh8 : SchT := .op 14 2 zh7
def zd6 : SchT := .op 12 2 zh8
def zd7 : SchT := .op 11 1 zd6
def zd8 : SchT := .op 13 3 zd6
def z8P : SchT := .op 6 2 zd8
def zd9 : SchT := .op 8 2 zd8
def zh9 : SchT := .op 10 1 zd7
def zda : SchT := .op 13 3 zd7
def zaJ : SchT := .op 1 2 z8P
def z8Q : SchT := .op 5 1 z8P
def zaK : SchT := .alt (.op 6 2 zd9) (.op 8 2 z8P)
def z8R : SchT := .alt (.op 6 2 zda) (.op 11 1 z8P)
def zdb : SchT := .alt (.op 8 2 zda) (.op 11 1 zd9)
def zdc : SchT := .op 13 3 zh9
def zaL : SchT := .alt (.op 1 2 z8Q) (.op 5 1 zaJ)
def zdd : SchT := .alt (.op 1 2 zaK) (.op 8 2 zaJ)
def zaM : SchT := .alt (.op 1 2 z8R) (.op 11 1 zaJ)
def zha : SchT := .op 4 0 z8Q
def zaN : SchT := .alt (.op 5 1 zaK) (.op 8 2 z8Q)
def z8S : SchT := .alt (.op 5 1 z8R) (.op 11 1 z8Q)
def zaO : SchT := .alt (.op 6 2 zdb) (.alt (.op 8 2 z8R) (.op 11 1 zaK))
def zaP : SchT := .alt (.op 6 2 zdc) (.op 10 1 z8R)
def zhb : SchT := .alt (.op 8 2 zdc) (.op 10 1 zdb)
def zhc : SchT := .op 4 3 zaL
def zde : SchT := .alt (.op 1 2 zaN) (.alt (.op 5 1 zdd) (.op 8 2 zaL))
def zaQ : SchT := .alt (.op 1 2 z8S) (.alt (.op 5 1 zaM) (.op 11 1 zaL))
def zdf : SchT := .alt (.op 1 2 zaO) (.alt (.op 8 2 zaM) (.op 11 1 zdd))
def zdg : SchT := .alt (.op 1 2 zaP) (.op 10 1 zaM)
def zaR : SchT := .op 3 1 zha
def zhd : SchT := .op 4 3 zaN
def zhe : SchT := .op 4 0 z8S
def zaS : SchT := .alt (.op 5 1 zaO) (.alt (.op 8 2 z8S) (.op 11 1 zaN))
def zaT : SchT := .alt (.op 5 1 zaP) (.op 10 1 z8S)
def zdh : SchT := .alt (.op 6 2 zhb) (.alt (.op 8 2 zaP) (.op 10 1 zaO))
def zdi : SchT := .alt (.op 1 2 zaR) (.op 3 1 zhc)
def zhf : SchT := .op 4 3 zde
def zhg : SchT := .op 4 3 zaQ
def zdj : SchT := .alt (.op 1 2 zaS) (.alt (.op 5 1 zdf) (.alt (.op 8 2 zaQ) (.op 11 1 zde)))
def zdk : SchT := .alt (.op 1 2 zaT) (.alt (.op 5 1 zdg) (.op 10 1 zaQ))
def zhh : SchT := .alt (.op 1 2 zdh) (.alt (.op 8 2 zdg) (.op 10 1 zdf))
def zdl : SchT := .alt (.op 3 1 zhd) (.op 8 2 zaR)
def zaU : SchT := .alt (.op 3 1 zhe) (.op 11 1 zaR)
def zhi : SchT := .op 4 3 zaS
def zhj : SchT := .op 4 0 zaT
def zdm : SchT := .alt (.op 5 1 zdh) (.alt (.op 8 2 zaT) (.op 10 1 zaS))
def zhk : SchT := .alt (.op 1 2 zdl) (.alt (.op 3 1 zhf) (.op 8 2 zdi))
def zdn : SchT := .alt (.op 1 2 zaU) (.alt (.op 3 1 zhg) (.op 11 1 zdi))
def zhl : SchT := .op 4 3 zdj
def zhm : SchT := .op 4 3 zdk
def zhn : SchT := .alt (.op 1 2 zdm) (.alt (.op 5 1 zhh) (.alt (.op 8 2 zdk) (.op 10 1 zdj)))
def zdo : SchT := .alt (.op 3 1 zhi) (.alt (.op 8 2 zaU) (.op 11 1 zdl))
def zdp : SchT := .alt (.op 3 1 zhj) (.op 10 1 zaU)
def zkf : SchT := .op 4 3 zdm
def zkg : SchT := .alt (.op 1 2 zdo) (.alt (.op 3 1 zhl) (.alt (.op 8 2 zdn) (.op 11 1 zhk)))
def zkh : SchT := .alt (.op 1 2 zdp) (.alt (.op 3 1 zhm) (.op 10 1 zdn))
def zki : SchT := .op 4 3 zhn
def zkj : SchT := .alt (.op 3 1 zkf) (.alt (.op 8 2 zdp) (.op 10 1 zdo))
def zkk : SchT := .alt (.op 1 2 zkj) (.alt (.op 3 1 zki) (.alt (.op 8 2 zkh) (.op 10 1 zkg)))
def zkl : SchT := .op 9 3 zkk
def zkm : SchT := .op 7 3 zkl
def zkn : SchT := .op 2 3 zkm
def zko : SchT := .op 0 3 zkn
def cf32 : Cfg := { wio := fun f i => (f == 30 && (i == 0)) || (f == 999999 && (i == 0)), live := fun r => if r = 5 then some [0, 1, 6, 7, 8, 9] else if r = 9 then some [0, 1, 6, 7, 8, 10] else if r = 13 then some [0, 1, 6, 7, 8, 10, 11, 12] else if r = 17 then some [0, 1, 6, 7, 8, 10, 11, 13] else none, dr := fun r => if r = 20 then some [(0, 0), (1, 0), (2, 0), (3, 0), (4, 0), (5, 0), (6, 0), (7, 0), (8, 0), (9, 0), (10, 0), (11, 2)] else if r = 21 then some [(1, 0), (2, 0), (3, 0), (5, 3), (6, 3), (7, 3), (8, 3), (0, 1), (4, 2), (9, 2), (10, 0)] else none, wr := fun r => if r = 7 then [0] else [], dt := fun r => if r = 7 then some (zko) else none }
@[simp] theorem wio32 : cf32.wio = fun f i => (f == 30 && (i == 0)) || (f == 999999 && (i == 0)) := rfl
@[simp] theorem live32 : cf32.live = fun r => if r = 5 then some [0, 1, 6, 7, 8, 9] else if r = 9 then some [0, 1, 6, 7, 8, 10] else if r = 13 then some [0, 1, 6, 7, 8, 10, 11, 12] else if r = 17 then some [0, 1, 6, 7, 8, 10, 11, 13] else none := rfl
@[simp] theorem wr32 : cf32.wr = fun r => if r = 7 then [0] else [] := rfl
def cf33 : Cfg := { wio := fun f i => (f == 30 && (i == 0)) || (f == 999999 && (i == 0)), live := fun r => if r = 4 then some [0, 1, 4, 5, 6, 22, 23, 24] else if r = 9 then some [0, 1, 4, 5, 6, 8, 9, 10, 22, 23, 24] else if r = 13 then some [0, 1, 4, 5, 6, 8, 9, 10, 11, 12, 22, 23, 24] else if r = 15 then some [0, 1, 4, 5, 6, 8, 9, 10, 11, 12, 22, 23, 24, 50, 51, 52] else none, dr := fun r => if r = 6 then some [(0, 0), (1, 0), (2, 0), (3, 1), (4, 0), (5, 1), (6, 2), (7, 0), (8, 2)] else none, wr := fun r => if r = 6 then [0] else [] }
@[simp] theorem wio33 : cf33.wio = fun f i => (f == 30 && (i == 0)) || (f == 999999 && (i == 0)) := rfl
@[simp] theorem live33 : cf33.live = fun r => if r = 4 then some [0, 1, 4, 5, 6, 22, 23, 24] else if r = 9 then some [0, 1, 4, 5, 6, 8, 9, 10, 22, 23, 24] else if r = 13 then some [0, 1, 4, 5, 6, 8, 9, 10, 11, 12, 22, 23, 24] else if r = 15 then some [0, 1, 4, 5, 6, 8, 9, 10, 11, 12, 22, 23, 24, 50, 51, 52] else none := rfl
@[simp] theorem wr33 : cf33.wr = fun r => if r = 6 then [0] else [] := rfl
def cf34 : Cfg := { wio := fun f i => (f == 30 && (i == 0)) || (f == 999999 && (i == 0)), live := fun r => if r = 5 then some [0, 1, 6, 7, 8, 9] else if r = 10 then some [0, 1, 6, 7, 8, 9, 10, 11] else none, dr := fun r => if r = 7 then some [(0, 0), (1, 0), (2, 0), (3, 1), (4, 0), (5, 1), (6, 2), (7, 0), (8, 2)] else none, wr := fun r => if r = 7 then [0] else [] }
@[simp] theorem wio34 : cf34.wio = fun f i => (f == 30 && (i == 0)) || (f == 999999 && (i == 0)) := rfl
@[simp] theorem live34 : cf34.live = fun r => if r = 5 then some [0, 1, 6, 7, 8, 9] else if r = 10 then some [0, 1, 6, 7, 8, 9, 10, 11] else none := rfl
@[simp] theorem wr34 : cf34.wr = fun r => if r = 7 then [0] else [] := rfl
def cf35 : Cfg := { wio := fun f i => (f == 999999 && (i == 0)), live := fun r => none, dr := fun r => none }
@[simp] theorem wio35 : cf35.wio = fun f i => (f == 999999 && (i == 0)) := rfl
@[simp] theorem live35 : cf35.live = fun r => none := rfl
@[simp] theorem wr35 : cf35.wr = fun _ => [] := rfl
def cf36 : Cfg := { wio := fun f i => (f == 64 && (i == 0)) || (f == 999999 && (i == 0)), live := fun r => if r = 3 then some [3, 18, 19] else none, dr := fun r => if r = 1 then some [(0, 0), (1, 0), (2, 0), (3, 0), (4, 0), (5, 0), (6, 1), (7, 0), (8, 0), (9, 0), (10, 0), (11, 0)] else none }
@[simp] theorem wio36 : cf36.wio = fun f i => (f == 64 && (i == 0)) || (f == 999999 && (i == 0)) := rfl
@[simp] theorem live36 : cf36.live = fun r => if r = 3 then some [3, 18, 19] else none := rfl
@[simp] theorem wr36 : cf36.wr = fun _ => [] := rfl
def cf37 : Cfg := { wio := fun f i => (f == 999999 && (i == 0)), live := fun r => if r = 3 then some [1, 2, 4, 5, 24, 25, 26] else if r = 9 then some [1, 2, 4, 5, 8, 44, 45, 46] else if r = 13 then some [1, 2, 4, 5, 8, 9, 10, 44, 45, 46, 59, 60] else if r = 20 then some [1, 4, 8, 87, 88] else if r = 24 then some [1, 4, 8, 12, 13, 87, 88, 97, 98, 99] else if r = 27 then some [1, 4, 8, 12, 13, 15, 16, 87, 88, 97, 98, 99, 104, 105, 106] else none, dr := fun r => if r = 11 then some [(0, 0), (1, 0), (2, 0), (3, 0), (4, 0), (5, 1), (6, 0), (7, 2)] else if r = 15 then some [(0, 0), (1, 0), (2, 0), (3, 0), (4, 0), (5, 0), (6, 0), (7, 0), (8, 0), (9, 0), (10, 1), (11, 0), (12, 0), (13, 0), (14, 2)] else if r = 17 then some [(0, 0), (1, 0), (2, 0), (3, 0), (4, 0), (5, 1), (6, 0), (7, 2)] else none, dt := fun r => if r = 7 then some (.op 0 0 (.op 1 0 (.op 2 0 (.op 4 0 (.op 5 0 (.alt (.op 3 1 (.alt (.op 6 1 (.op 7 0 (.op 8 1 (.op 9 2 .nil)))) (.op 8 1 (.op 6 1 (.op 7 0 (.op 9 2 .nil)))))) (.alt (.op 6 1 (.alt (.op 3 1 (.op 7 0 (.op 8 1 (.op 9 2 .nil)))) (.op 8 1 (.op 3 1 (.op 7 0 (.op 9 2 .nil)))))) (.op 8 1 (.alt (.op 3 1 (.op 6 1 (.op 7 0 (.op 9 2 .nil)))) (.op 6 1 (.op 3 1 (.op 7 0 (.op 9 2 .nil))))))))))))) else none }
@[simp] theorem wio37 : cf37.wio = fun f i => (f == 999999 && (i == 0)) := rfl
@[simp] theorem live37 : cf37.live = fun r => if r = 3 then some [1, 2, 4, 5, 24, 25, 26] else if r = 9 then some [1, 2, 4, 5, 8, 44, 45, 46] else if r = 13 then some [1, 2, 4, 5, 8, 9, 10, 44, 45, 46, 59, 60] else if r = 20 then some [1, 4, 8, 87, 88] else if r = 24 then some [1, 4, 8, 12, 13, 87, 88, 97, 98, 99] else if r = 27 then some [1, 4, 8, 12, 13, 15, 16, 87, 88, 97, 98, 99, 104, 105, 106] else none := rfl
@[simp] theorem wr37 : cf37.wr = fun _ => [] := rfl
def cf38 : Cfg := { wio := fun f i => (f == 999999 && (i == 0)), live := fun r => if r = 4 then some [1, 4, 5, 15, 16] else if r = 8 then some [1, 4, 5, 6, 15, 16, 24, 25, 26] else none, dr := fun r => none }
@[simp] theorem wio38 : cf38.wio = fun f i => (f == 999999 && (i == 0)) := rfl
@[simp] theorem live38 : cf38.live = fun r => if r = 4 then some [1, 4, 5, 15, 16] else if r = 8 then some [1, 4, 5, 6, 15, 16, 24, 25, 26] else none := rfl
@[simp] theorem wr38 : cf38.wr = fun _ => [] := rfl
def cf39 : Cfg := { wio := fun f i => (f == 69 && (i == 0)) || (f == 999999 && (i == 0)), live := fun r => if r = 4 then some [1, 2, 5, 6, 23, 24] else if r = 8 then some [1, 2, 5, 6, 7, 23, 24, 33, 34] else if r = 17 then some [1, 2, 9, 60, 61, 62] else if r = 21 then some [1, 2, 9, 11, 60, 61, 62, 75, 76] else none, dr := fun r => if r = 23 then some [(0, 0), (1, 0), (2, 0), (3, 0), (4, 0), (5, 0), (6, 0), (7, 0), (8, 0), (9, 0), (10, 0), (11, 0), (12, 0), (13, 0), (14, 0), (15, 0), (16, 0), (17, 0), (18, 0)] else if r = 24 then some [(0, 0), (1, 0), (2, 0), (3, 0), (4, 0), (5, 0), (6, 0), (7, 0), (8, 0), (9, 0), (10, 0), (11, 0), (12, 0), (13, 2)] else none, fz := fun r => if r = 14 then some [5] else none }
@[simp] theorem wio39 : cf39.wio = fun f i => (f == 69 && (i == 0)) || (f == 999999 && (i == 0)) := rfl
@[simp] theorem live39 : cf39.live = fun r => if r = 4 then some [1, 2, 5, 6, 23, 24] else if r = 8 then some [1, 2, 5, 6, 7, 23, 24, 33, 34] else if r = 17 then some [1, 2, 9, 60, 61, 62] else if r = 21 then some [1, 2, 9, 11, 60, 61, 62, 75, 76] else none := rfl
@[simp] theorem wr39 : cf39.wr = fun _ => [] := rfl
def cf40 : Cfg := { wio := fun f i => (f == 999999 && (i == 0)), live := fun r => if r = 5 then some [1, 2, 5, 21, 22, 23] else if r = 12 then some [2, 5, 8, 45, 46, 47] else if r = 15 then some [2, 5, 8, 10, 45, 46, 47, 51, 52, 53] else none, dr := fun r => if r = 17 then some [(0, 0), (1, 0), (2, 0), (3, 0), (4, 0), (5, 0), (6, 0), (7, 0), (8, 0), (9, 0), (10, 0), (11, 0), (12, 0), (13, 0), (14, 1), (15, 0)] else none }
@[simp] theorem wio40 : cf40.wio = fun f i => (f == 999999 && (i == 0)) := rfl
@[simp] theorem live40 : cf40.live = fun r => if r = 5 then some [1, 2, 5, 21, 22, 23] else if r = 12 then some [2, 5, 8, 45, 46, 47] else if r = 15 then some [2, 5, 8, 10, 45, 46, 47, 51, 52, 53] else none := rfl
@[simp] theorem wr40 : cf40.wr = fun _ => [] := rfl
def cf41 : Cfg := { wio := fun f i => (f == 999999 && (i == 0)), live := fun r => if r = 6 then some [2, 6, 7, 8, 9] else if r = 9 then some [2, 6, 7, 8, 9, 38, 39, 40] else none, dr := fun r => if r = 8 then some [(0, 0), (1, 0), (2, 0), (3, 0), (4, 0), (5, 0), (6, 0), (7, 0), (8, 0), (9, 0)] else if r = 13 then some [(0, 0), (1, 0), (2, 0), (3, 0), (4, 0), (5, 0), (6, 0), (7, 0), (8, 0), (9, 0), (10, 0), (11, 0), (12, 1), (13, 0), (14, 0), (15, 0), (16, 2)] else none }
@[simp] theorem wio41 : cf41.wio = fun f i => (f == 999999 && (i == 0)) := rfl
@[simp] theorem live41 : cf41.live = fun r => if r = 6 then some [2, 6, 7, 8, 9] else if r = 9 then some [2, 6, 7, 8, 9, 38, 39, 40] else none := rfl
@[simp] theorem wr41 : cf41.wr = fun _ => [] := rfl
def cf42 : Cfg := { wio := fun f i => (f == 999999 && (i == 0)), live := fun r => if r = 3 then some [3, 22, 23] else if r = 8 then some [3, 6, 7, 22, 23, 29, 30, 31] else if r = 17 then some [10, 53, 54] else if r = 20 then some [10, 12, 53, 54] else none, dr := fun r => if r = 1 then some [(0, 0), (1, 0), (2, 1), (3, 1), (4, 0), (5, 0), (6, 0), (7, 0), (8, 0)] else if r = 20 then some [(0, 0), (1, 0), (2, 0), (3, 0), (4, 0), (5, 0), (6, 0), (7, 0), (8, 0), (9, 0), (10, 0), (11, 0), (12, 1), (13, 0)] else if r = 22 then some [(0, 0), (1, 0), (2, 3), (3, 3), (4, 3), (5, 0), (6, 0), (7, 0), (8, 0), (9, 0), (10, 0), (11, 0), (12, 0), (13, 0), (14, 0), (15, 2), (16, 0), (17, 2)] else none }
@[simp] theorem wio42 : cf42.wio = fun f i => (f == 999999 && (i == 0)) := rfl
@[simp] theorem live42 : cf42.live = fun r => if r = 3 then some [3, 22, 23] else if r = 8 then some [3, 6, 7, 22, 23, 29, 30, 31] else if r = 17 then some [10, 53, 54] else if r = 20 then some [10, 12, 53, 54] else none := rfl
@[simp] theorem wr42 : cf42.wr = fun _ => [] := rfl
def cf43 : Cfg := { wio := fun f i => (f == 999999 && (i == 0)), live := fun r => if r = 4 then some [2, 6, 7, 8, 9] else if r = 7 then some [2, 6, 7, 8, 9, 10] else none, dr := fun r => if r = 9 then some [(0, 0), (1, 0), (2, 0), (3, 0), (4, 0), (5, 0), (6, 1), (7, 0)] else none, wr := fun r => if r = 12 then [6, 46] else [], dt := fun r => if r = 12 then some (.op 0 0 (.op 1 0 (.op 4 0 (.op 5 0 (.op 6 0 (.op 7 0 (.op 8 0 (.op 9 0 (.op 10 0 (.op 11 0 (.alt (.op 2 1 (.alt (.op 3 1 (.op 12 1 (.op 13 0 (.op 14 0 (.op 15 1 (.op 16 2 (.op 17 0 (.op 18 0 .nil)))))))) (.op 12 1 (.op 13 0 (.op 14 0 (.alt (.op 3 1 (.op 15 1 (.op 16 2 (.op 17 0 (.op 18 0 .nil))))) (.op 15 1 (.op 3 1 (.op 16 2 (.op 17 0 (.op 18 0 .nil))))))))))) (.op 12 1 (.op 13 0 (.op 14 0 (.alt (.op 2 1 (.alt (.op 3 1 (.op 15 1 (.op 16 2 (.op 17 0 (.op 18 0 .nil))))) (.op 15 1 (.op 3 1 (.op 16 2 (.op 17 0 (.op 18 0 .nil))))))) (.op 15 1 (.op 2 1 (.op 3 1 (.op 16 2 (.op 17 0 (.op 18 0 .nil))))))))))))))))))))) else none }
@[simp] theorem wio43 : cf43.wio = fun f i => (f == 999999 && (i == 0)) := rfl
@[simp] theorem live43 : cf43.live = fun r => if r = 4 then some [2, 6, 7, 8, 9] else if r = 7 then some [2, 6, 7, 8, 9, 10] else none := rfl
@[simp] theorem wr43 : cf43.wr = fun r => if r = 12 then [6, 46] else [] := rfl
def cf44 : Cfg := { wio := fun f i => (f == 999999 && (i == 0)), live := fun r => if r = 7 then some [3, 4, 5, 17, 18, 19] else none, dr := fun r => none }
@[simp] theorem wio44 : cf44.wio = fun f i => (f == 999999 && (i == 0)) := rfl
@[simp] theorem live44 : cf44.live = fun r => if r = 7 then some [3, 4, 5, 17, 18, 19] else none := rfl
@[simp] theorem wr44 : cf44.wr = fun _ => [] := rfl
def cf45 : Cfg := { wio := fun f i => (f == 999999 && (i == 0)), live := fun r => if r = 4 then some [0, 1, 12, 13] else none, dr := fun r => if r = 6 then some [(0, 0), (1, 0), (2, 0), (3, 0), (4, 0), (5, 0), (6, 0), (7, 0), (8, 0)] else none }
@[simp] theorem wio45 : cf45.wio = fun f i => (f == 999999 && (i == 0)) := rfl
@[simp] theorem live45 : cf45.live = fun r => if r = 4 then some [0, 1, 12, 13] else none := rfl
@[simp] theorem wr45 : cf45.wr = fun _ => [] := rfl
def cf46 : Cfg := { wio := fun f i => (f == 999999 && (i == 0)), live := fun r => if r = 4 then some [0, 1, 12, 13] else none, dr := fun r => if r = 6 then some [(0, 0), (1, 0), (2, 0), (3, 0), (4, 0), (5, 0), (6, 0), (7, 0), (8, 1), (9, 0)] else none }
@[simp] theorem wio46 : cf46.wio = fun f i => (f == 999999 && (i == 0)) := rfl
@[simp] theorem live46 : cf46.live = fun r => if r = 4 then some [0, 1, 12, 13] else none := rfl
@[simp] theorem wr46 : cf46.wr = fun _ => [] := rfl
def cf47 : Cfg := { wio := fun f i => (f == 999999 && (i == 0)), live := fun r => if r = 4 then some [0, 1, 12, 13] else none, dr := fun r => if r = 6 then some [(0, 0), (1, 0), (2, 0), (3, 0), (4, 0), (5, 0), (6, 0), (7, 0), (8, 0)] else none }
@[simp] theorem wio47 : cf47.wio = fun f i => (f == 999999 && (i == 0)) := rfl
@[simp] theorem live47 : cf47.live = fun r => if r = 4 then some [0, 1, 12, 13] else none := rfl
@[simp] theorem wr47 : cf47.wr = fun _ => [] := rfl
def cf48 : Cfg := { wio := fun f i => (f == 999999 && (i == 0)), live := fun r => none, dr := fun r => none }
@[simp] theorem wio48 : cf48.wio = fun f i => (f == 999999 && (i == 0)) := rfl
@[simp] theorem live48 : cf48.live = fun r => none := rfl
@[simp] theorem wr48 : cf48.wr = fun _ => [] := rfl
def cf49 : Cfg := { wio := fun f i => (f == 999999 && (i == 0)), live := fun r => none, dr := fun r => none }
@[simp] theorem wio49 : cf49.wio = fun f i => (f == 999999 && (i == 0)) := rfl
@[simp] theorem live49 : cf49.live = fun r => none := rfl
@[simp] theorem wr49 : cf49.wr = fun _ => [] := rfl
def cf50 : Cfg := { wio := fun f i => (f == 999999 && (i == 0)), live := fun r => if r = 4 then some [0, 1, 18, 19] else none, dr := fun r => none }
@[simp] theorem wio50 : cf50.wio = fun f i => (f == 999999 && (i == 0)) := rfl
@[simp] theorem live50 : cf50.live = fun r => if r = 4 then some [0, 1, 18, 19] else none := rfl
@[simp] theorem wr50 : cf50.wr = fun _ => [] := rfl
def cf51 : Cfg := { wio := fun f i => (f == 999999 && (i == 0)), live := fun r => if r = 3 then some [1, 2, 7, 11, 12, 13] else none, dr := fun r => none }
@[simp] theorem wio51 : cf51.wio = fun f i => (f == 999999 && (i == 0)) := rfl
@[simp] theorem live51 : cf51.live = fun r => if r = 3 then some [1, 2, 7, 11, 12, 13] else none := rfl
@[simp] theorem wr51 : cf51.wr = fun _ => [] := rfl
def cf52 : Cfg := { wio := fun f i => (f == 999999 && (i == 0)), live := fun r => if r = 4 then some [0, 1, 12, 13] else none, dr := fun r => if r = 6 then some [(0, 0), (1, 0), (2, 0), (3, 0), (4, 0), (5, 0), (6, 0), (7, 0), (8, 0)] else none }
@[simp] theorem wio52 : cf52.wio = fun f i => (f == 999999 && (i == 0)) := rfl
@[simp] theorem live52 : cf52.live = fun r => if r = 4 then some [0, 1, 12, 13] else none := rfl
@[simp] theorem wr52 : cf52.wr = fun _ => [] := rfl
def cf53 : Cfg := { wio := fun f i => (f == 999999 && (i == 0)), live := fun r => if r = 4 then some [1, 2, 15, 16, 17] else none, dr := fun r => none }
@[simp] theorem wio53 : cf53.wio = fun f i => (f == 999999 && (i == 0)) := rfl
@[simp] theorem live53 : cf53.live = fun r => if r = 4 then some [1, 2, 15, 16, 17] else none := rfl
@[simp] theorem wr53 : cf53.wr = fun _ => [] := rfl
def cf54 : Cfg := { wio := fun f i => (f == 999999 && (i == 0)), live := fun r => if r = 4 then some [0, 1, 12, 13] else none, dr := fun r => if r = 6 then some [(0, 0), (1, 0), (2, 0), (3, 0), (4, 0), (5, 0), (6, 0), (7, 0), (8, 0)] else none }
@[simp] theorem wio54 : cf54.wio = fun f i => (f == 999999 && (i == 0)) := rfl
@[simp] theorem live54 : cf54.live = fun r => if r = 4 then some [0, 1, 12, 13] else none := rfl
@[simp] theorem wr54 : cf54.wr = fun _ => [] := rfl
def cf55 : Cfg := { wio := fun f i => (f == 999999 && (i == 0)), live := fun r => none, dr := fun r => none }
@[simp] theorem wio55 : cf55.wio = fun f i => (f == 999999 && (i == 0)) := rfl
@[simp] theorem live55 : cf55.live = fun r => none := rfl
@[simp] theorem wr55 : cf55.wr = fun _ => [] := rfl
def cf56 : Cfg := { wio := fun f i => (f == 999999 && (i == 0)), live := fun r => if r = 2 then some [1, 2, 3, 7] else none, dr := fun r => if r = 4 then some [(0, 0), (1, 0), (2, 0), (3, 0), (4, 0), (5, 0), (6, 0), (7, 1), (8, 0)] else none }
@[simp] theorem wio56 : cf56.wio = fun f i => (f == 999999 && (i == 0)) := rfl
@[simp] theorem live56 : cf56.live = fun r => if r = 2 then some [1, 2, 3, 7] else none := rfl
@[simp] theorem wr56 : cf56.wr = fun _ => [] := rfl
def cf57 : Cfg := { wio := fun f i => (f == 999999 && (i == 0)), live := fun r => if r = 5 then some [2, 6, 7, 8, 9] else if r = 8 then some [2, 6, 7, 8, 9, 30, 31] else none, dr := fun r => if r = 10 then some [(0, 0), (1, 0), (2, 0), (3, 0), (4, 0), (5, 0), (6, 1), (7, 0)] else if r = 14 then some [(0, 0), (1, 0), (2, 0), (3, 0), (4, 0), (5, 0), (6, 0), (7, 0), (8, 1), (9, 0), (10, 0), (11, 1), (12, 2), (13, 0)] else none }
@[simp] theorem wio57 : cf57.wio = fun f i => (f == 999999 && (i == 0)) := rfl
@[simp] theorem live57 : cf57.live = fun r => if r = 5 then some [2, 6, 7, 8, 9] else if r = 8 then some [2, 6, 7, 8, 9, 30, 31] else none := rfl
@[simp] theorem wr57 : cf57.wr = fun _ => [] := rfl
def cf58 : Cfg := { wio := fun f i => (f == 999999 && (i == 0)), live := fun r => none, dr := fun r => none }
@[simp] theorem wio58 : cf58.wio = fun f i => (f == 999999 && (i == 0)) := rfl
@[simp] theorem live58 : cf58.live = fun r => none := rfl
@[simp] theorem wr58 : cf58.wr = fun _ => [] := rfl
def cf59 : Cfg := { wio := fun f i => (f == 999999 && (i == 0)), live := fun r => none, dr := fun r => none }
@[simp] theorem wio59 : cf59.wio = fun f i => (f == 999999 && (i == 0)) := rfl
@[simp] theorem live59 : cf59.live = fun r => none := rfl
@[simp] theorem wr59 : cf59.wr = fun _ => [] := rfl
def cf60 : Cfg := { wio := fun f i => (f == 999999 && (i == 0)), live := fun r => if r = 9 then some [1, 3, 38, 39, 40] else if r = 14 then some [1, 3, 38, 39, 40, 49, 50, 51] else none, dr := fun r => none }
@[simp] theorem wio60 : cf60.wio = fun f i => (f == 999999 && (i == 0)) := rfl
@[simp] theorem live60 : cf60.live = fun r => if r = 9 then some [1, 3, 38, 39, 40] else if r = 14 then some [1, 3, 38, 39, 40, 49, 50, 51] else none := rfl
@[simp] theorem wr60 : cf60.wr = fun _ => [] := rfl
def cf61 : Cfg := { wio := fun f i => (f == 999999 && (i == 0)), live := fun r => if r = 3 then some [0, 1, 5, 6] else if r = 6 then some [0, 1, 5, 6, 7] else none, dr := fun r => if r = 8 then some [(0, 0), (1, 0), (2, 0), (3, 0), (4, 0), (5, 0), (6, 0), (7, 0), (8, 1), (9, 0), (10, 0), (11, 1), (12, 2), (13, 0)] else none }
@[simp] theorem wio61 : cf61.wio = fun f i => (f == 999999 && (i == 0)) := rfl
@[simp] theorem live61 : cf61.live = fun r => if r = 3 then some [0, 1, 5, 6] else if r = 6 then some [0, 1, 5, 6, 7] else none := rfl
@[simp] theorem wr61 : cf61.wr = fun _ => [] := rfl
def cf62 : Cfg := { wio := fun f i => (f == 999999 && (i == 0)), live := fun r => if r = 9 then some [1, 3, 38, 39, 40] else if r = 14 then some [1, 3, 38, 39, 40, 49, 50, 51] else none, dr := fun r => none }
@[simp] theorem wio62 : cf62.wio = fun f i => (f == 999999 && (i == 0)) := rfl
@[simp] theorem live62 : cf62.live = fun r => if r = 9 then some [1, 3, 38, 39, 40] else if r = 14 then some [1, 3, 38, 39, 40, 49, 50, 51] else none := rfl
@[simp] theorem wr62 : cf62.wr = fun _ => [] := rfl
def cf63 : Cfg := { wio := fun f i => (f == 999999 && (i == 0)), live := fun r => none, dr := fun r => none }
@[simp] theorem wio63 : cf63.wio = fun f i => (f == 999999 && (i == 0)) := rfl
@[simp] theorem live63 : cf63.live = fun r => none := rfl
@[simp] theorem wr63 : cf63.wr = fun _ => [] := rfl
def cf65 : Cfg := { wio := fun f i => (f == 999999 && (i == 0)), live := fun r => none, dr := fun r => none }
@[simp] theorem wio65 : cf65.wio = fun f i => (f == 999999 && (i == 0)) := rfl
@[simp] theorem live65 : cf65.live = fun r => none := rfl
@[simp] theorem wr65 : cf65.wr = fun _ => [] := rfl
def cf66 : Cfg := { wio := fun f i => (f == 999999 && (i == 0)), live := fun r => if r = 3 then some [3, 6, 7, 8] else none, dr := fun r => none }
@[simp] theorem wio66 : cf66.wio = fun f i => (f == 999999 && (i == 0)) := rfl
@[simp] theorem live66 : cf66.live = fun r => if r = 3 then some [3, 6, 7, 8] else none := rfl
@[simp] theorem wr66 : cf66.wr = fun _ => [] := rfl
def cf67 : Cfg := { wio := fun f i => (f == 999999 && (i == 0)), live := fun r => none, dr := fun r => none }
@[simp] theorem wio67 : cf67.wio = fun f i => (f == 999999 && (i == 0)) := rfl
@[simp] theorem live67 : cf67.live = fun r => none := rfl
@[simp] theorem wr67 : cf67.wr = fun _ => [] := rfl
def cf68 : Cfg := { wio := fun f i => (f == 999999 && (i == 0)), live := fun r => none, dr := fun r => none }
@[simp] theorem wio68 : cf68.wio = fun f i => (f == 999999 && (i == 0)) := rfl
@[simp] theorem live68 : cf68.live = fun r => none := rfl
@[simp] theorem wr68 : cf68.wr = fun _ => [] := rfl
def cf69 : Cfg := { wio := fun f i => (f == 79 && (i == 0)) || (f == 999999 && (i == 0)), live := fun r => none, dr := fun r => none }
@[simp] theorem wio69 : cf69.wio = fun f i => (f == 79 && (i == 0)) || (f == 999999 && (i == 0)) := rfl
@[simp] theorem live69 : cf69.live = fun r => none := rfl
@[simp] theorem wr69 : cf69.wr = fun _ => [] := rfl
def cf70 : Cfg := { wio := fun f i => (f == 999999 && (i == 0)), live := fun r => none, dr := fun r => if r = 1 then some [(0, 0), (1, 0), (2, 0), (3, 0), (4, 0), (5, 0), (6, 0), (7, 0), (8, 1), (9, 0)] else none }
@[simp] theorem wio70 : cf70.wio = fun f i => (f == 999999 && (i == 0)) := rfl
@[simp] theorem live70 : cf70.live = fun r => none := rfl
@[simp] theorem wr70 : cf70.wr = fun _ => [] := rfl
def cf71 : Cfg := { wio := fun f i => (f == 999999 && (i == 0)), live := fun r => none, dr := fun r => none }
@[simp] theorem wio71 : cf71.wio = fun f i => (f == 999999 && (i == 0)) := rfl
@[simp] theorem live71 : cf71.live = fun r => none := rfl
@[simp] theorem wr71 : cf71.wr = fun _ => [] := rfl
def cf72 : Cfg := { wio := fun f i => (f == 999999 && (i == 0)), live := fun r => none, dr := fun r => none }
@[simp] theorem wio72 : cf72.wio = fun f i => (f == 999999 && (i == 0)) := rfl
@[simp] theorem live72 : cf72.live = fun r => none := rfl
@[simp] theorem wr72 : cf72.wr = fun _ => [] := rfl
def cf73 : Cfg := { wio := fun f i => (f == 999999 && (i == 0)), live := fun r => if r = 3 then some [1, 2, 3, 7, 11, 12] else none, dr := fun r => none }
@[simp] theorem wio73 : cf73.wio = fun f i => (f == 999999 && (i == 0)) := rfl
@[simp] theorem live73 : cf73.live = fun r => if r = 3 then some [1, 2, 3, 7, 11, 12] else none := rfl
@[simp] theorem wr73 : cf73.wr = fun _ => [] := rfl
def cf74 : Cfg := { wio := fun f i => (f == 999999 && (i == 0)), live := fun r => if r = 2 then some [0, 1, 7, 8] else none, dr := fun r => none }
@[simp] theorem wio74 : cf74.wio = fun f i => (f == 999999 && (i == 0)) := rfl
@[simp] theorem live74 : cf74.live = fun r => if r = 2 then some [0, 1, 7, 8] else none := rfl
@[simp] theorem wr74 : cf74.wr = fun _ => [] := rfl
def cf76 : Cfg := { wio := fun f i => (f == 999999 && (i == 0)), live := fun r => none, dr := fun r => none }
@[simp] theorem wio76 : cf76.wio = fun f i => (f == 999999 && (i == 0)) := rfl
@[simp] theorem live76 : cf76.live = fun r => none := rfl
@[simp] theorem wr76 : cf76.wr = fun _ => [] := rfl
def cf77 : Cfg := { wio := fun f i => (f == 999999 && (i == 0)), live := fun r => none, dr := fun r => none }
@[simp] theorem wio77 : cf77.wio = fun f i => (f == 999999 && (i == 0)) := rfl
@[simp] theorem live77 : cf77.live = fun r => none := rfl
@[simp] theorem wr77 : cf77.wr = fun _ => [] := rfl
def cf78 : Cfg := { wio := fun f i => (f == 999999 && (i == 0)), live := fun r => none, dr := fun r => none }
@[simp] theorem wio78 : cf78.wio = fun f i => (f == 999999 && (i == 0)) := rfl
@[simp] theorem live78 : cf78.live = fun r => none := rfl
@[simp] theorem wr78 : cf78.wr = fun _ => [] := rfl
def cf79 : Cfg := { wio := fun f i => (f == 80 && (i == 0)) || (f == 92 && (i == 0)) || (f == 999999 && (i == 0)), live := fun r => if r = 2 then some [0, 1, 2, 6, 7, 8] else if r = 7 then some [0, 1, 2, 6] else if r = 9 then some [0, 1, 2, 6, 7, 8] else none, dr := fun r => none }
@[simp] theorem wio79 : cf79.wio = fun f i => (f == 80 && (i == 0)) || (f == 92 && (i == 0)) || (f == 999999 && (i == 0)) := rfl
@[simp] theorem live79 : cf79.live = fun r => if r = 2 then some [0, 1, 2, 6, 7, 8] else if r = 7 then some [0, 1, 2, 6] else if r = 9 then some [0, 1, 2, 6, 7, 8] else none := rfl
@[simp] theorem wr79 : cf79.wr = fun _ => [] := rfl
def cf80 : Cfg := { wio := fun f i => (f == 999999 && (i == 0)), live := fun r => if r = 1 then some [0, 1, 2, 3, 8] else if r = 4 then some [0, 1, 2, 3, 8, 9] else none, dr := fun r => if r = 4 then some [(0, 0), (1, 0), (2, 0), (3, 0), (4, 0), (5, 0), (6, 0), (7, 0), (8, 0), (9, 0), (10, 0), (11, 0), (12, 0), (13, 0), (14, 1), (15, 0), (16, 0)] else if r = 6 then some [(0, 0), (1, 0), (2, 3), (3, 3), (4, 3), (5, 0), (6, 0), (7, 0), (8, 0), (9, 0), (10, 0), (11, 0), (12, 0), (13, 0), (14, 0), (15, 2), (16, 0), (17, 2)] else none }
@[simp] theorem wio80 : cf80.wio = fun f i => (f == 999999 && (i == 0)) := rfl
@[simp] theorem live80 : cf80.live = fun r => if r = 1 then some [0, 1, 2, 3, 8] else if r = 4 then some [0, 1, 2, 3, 8, 9] else none := rfl
@[simp] theorem wr80 : cf80.wr = fun _ => [] := rfl
def cf88 : Cfg := { wio := fun f i => (f == 999999 && (i == 0)), live := fun r => none, dr := fun r => none }
@[simp] theorem wio88 : cf88.wio = fun f i => (f == 999999 && (i == 0)) := rfl
@[simp] theorem live88 : cf88.live = fun r => none := rfl
@[simp] theorem wr88 : cf88.wr = fun _ => [] := rfl
def cf89 : Cfg := { wio := fun f i => (f == 999999 && (i == 0)), live := fun r => none, dr := fun r => none }
@[simp] theorem wio89 : cf89.wio = fun f i => (f == 999999 && (i == 0)) := rfl
@[simp] theorem live89 : cf89.live = fun r => none := rfl
@[simp] theorem wr89 : cf89.wr = fun _ => [] := rfl
def cf90 : Cfg := { wio := fun f i => (f == 999999 && (i == 0)), live := fun r => none, dr := fun r => if r = 1 then some [(0, 0), (1, 0), (2, 0), (3, 0), (4, 0), (5, 0), (6, 0), (7, 0), (8, 0), (9, 0), (10, 0), (11, 0), (12, 0), (13, 0), (14, 0), (15, 0), (16, 0), (17, 0), (18, 0)] else none }
@[simp] theorem wio90 : cf90.wio = fun f i => (f == 999999 && (i == 0)) := rfl
@[simp] theorem live90 : cf90.live = fun r => none := rfl
@[simp] theorem wr90 : cf90.wr = fun _ => [] := rfl
def cf91 : Cfg := { wio := fun f i => (f == 999999 && (i == 0)), live := fun r => none, dr := fun r => none }
@[simp] theorem wio91 : cf91.wio = fun f i => (f == 999999 && (i == 0)) := rfl
@[simp] theorem live91 : cf91.live = fun r => none := rfl
@[simp] theorem wr91 : cf91.wr = fun _ => [] := rfl
def cf92 : Cfg := { wio := fun f i => (f == 98 && (i == 0)) || (f == 92 && (i == 0)) || (f == 999999 && (i == 0)), live := fun r => if r = 3 then some [0, 1, 4, 10, 11] else if r = 9 then some [0, 10, 13] else if r = 15 then some [0, 2, 4, 14, 15] else if r = 21 then some [0, 14, 17] else if r = 33 then some [0, 1, 2, 3, 4, 18, 19, 20, 21, 22] else none, dr := fun r => if r = 5 then some [(0, 0), (1, 0), (2, 0), (3, 0), (4, 0), (5, 0), (6, 0), (7, 0), (8, 0), (9, 1), (10, 0)] else if r = 11 then some [(0, 0), (1, 0), (2, 3), (3, 3), (4, 3), (5, 0), (6, 0), (7, 0), (8, 0), (9, 0), (10, 0), (11, 0), (12, 0), (13, 0), (14, 0), (15, 2), (16, 0), (17, 2)] else if r = 17 then some [(0, 0), (1, 0), (2, 0), (3, 0), (4, 0), (5, 0), (6, 0), (7, 0), (8, 0), (9, 1), (10, 0), (11, 0)] else if r = 23 then some [(0, 0), (1, 0), (2, 3), (3, 3), (4, 3), (5, 0), (6, 0), (7, 0), (8, 0), (9, 0), (10, 0), (11, 0), (12, 0), (13, 0), (14, 0), (15, 2), (16, 0), (17, 2)] else if r = 35 then some [(0, 0), (1, 0), (2, 0), (3, 0), (4, 0), (5, 0), (6, 0), (7, 0), (8, 0), (9, 0), (10, 0), (11, 1), (12, 0), (13, 0)] else none }
@[simp] theorem wio92 : cf92.wio = fun f i => (f == 98 && (i == 0)) || (f == 92 && (i == 0)) || (f == 999999 && (i == 0)) := rfl
@[simp] theorem live92 : cf92.live = fun r => if r = 3 then some [0, 1, 4, 10, 11] else if r = 9 then some [0, 10, 13] else if r = 15 then some [0, 2, 4, 14, 15] else if r = 21 then some [0, 14, 17] else if r = 33 then some [0, 1, 2, 3, 4, 18, 19, 20, 21, 22] else none := rfl
@[simp] theorem wr92 : cf92.wr = fun _ => [] := rfl
def cf98 : Cfg := { wio := fun f i => (f == 100 && (i == 0)) || (f == 999999 && (i == 0)), live := fun r => if r = 2 then some [0, 2, 4, 10, 11] else none, dr := fun r => none }
@[simp] theorem wio98 : cf98.wio = fun f i => (f == 100 && (i == 0)) || (f == 999999 && (i == 0)) := rfl
@[simp] theorem live98 : cf98.live = fun r => if r = 2 then some [0, 2, 4, 10, 11] else none := rfl
@[simp] theorem wr98 : cf98.wr = fun _ => [] := rfl
def cf100 : Cfg := { wio := fun f i => (f == 999999 && (i == 0)), live := fun r => if r = 1 then some [0, 1, 2, 3, 10] else none, dr := fun r => if r = 3 then some [(0, 0), (1, 0), (2, 0), (3, 0), (4, 3), (5, 3), (6, 3), (7, 3), (8, 0), (9, 0), (10, 0), (11, 0), (12, 0), (13, 0), (14, 0), (15, 0), (16, 0), (17, 0), (18, 0), (19, 0), (20, 0), (21, 2), (22, 0), (23, 2)] else none }
@[simp] theorem wio100 : cf100.wio = fun f i => (f == 999999 && (i == 0)) := rfl
@[simp] theorem live100 : cf100.live = fun r => if r = 1 then some [0, 1, 2, 3, 10] else none := rfl
@[simp] theorem wr100 : cf100.wr = fun _ => [] := rfl
def z1V (f : FuncId) : Option Cfg :=
  if f = 3 then some cf3 else
  if f = 4 then some cf4 else
  if f = 5 then some cf5 else
  if f = 6 then some cf6 else
  if f = 8 then some cf8 else
  if f = 9 then some cf9 else
  if f = 10 then some cf10 else
  if f = 11 then some cf11 else
  if f = 12 then some cf12 else
  if f = 13 then some cf13 else
  if f = 14 then some cf14 else
  if f = 15 then some cf15 else
  if f = 16 then some cf16 else
  if f = 17 then some cf17 else
  if f = 18 then some cf18 else
  if f = 19 then some cf19 else
  if f = 20 then some cf20 else
  if f = 21 then some cf21 else
  if f = 22 then some cf22 else
  if f = 23 then some cf23 else
  if f = 24 then some cf24 else
  if f = 25 then some cf25 else
  if f = 26 then some cf26 else
  if f = 27 then some cf27 else
  if f = 28 then some cf28 else
  if f = 29 then some cf29 else
  if f = 30 then some cf30 else
  if f = 31 then some cf31 else
  if f = 32 then some cf32 else
  if f = 33 then some cf33 else
  if f = 34 then some cf34 else
  if f = 35 then some cf35 else
  if f = 36 then some cf36 else
  if f = 37 then some cf37 else
  if f = 38 then some cf38 else
  if f = 39 then some cf39 else
  if f = 40 then some cf40 else
  if f = 41 then some cf41 else
  if f = 42 then some cf42 else
  if f = 43 then some cf43 else
  if f = 44 then some cf44 else
  if f = 45 then some cf45 else
  if f = 46 then some cf46 else
  if f = 47 then some cf47 else
  if f = 48 then some cf48 else
  if f = 49 then some cf49 else
  if f = 50 then some cf50 else
  if f = 51 then some cf51 else
  if f = 52 then some cf52 else
  if f = 53 then some cf53 else
  if f = 54 then some cf54 else
  if f = 55 then some cf55 else
  if f = 56 then some cf56 else
  if f = 57 then some cf57 else
  if f = 58 then some cf58 else
  if f = 59 then some cf59 else
  if f = 60 then some cf60 else
  if f = 61 then some cf61 else
  if f = 62 then some cf62 else
  if f = 63 then some cf63 else
  if f = 65 then some cf65 else
  if f = 66 then some cf66 else
  if f = 67 then some cf67 else
  if f = 68 then some cf68 else
  if f = 69 then some cf69 else
  if f = 70 then some cf70 else
  if f = 71 then some cf71 else
  if f = 72 then some cf72 else
  if f = 73 then some cf73 else
  if f = 74 then some cf74 else
  if f = 76 then some cf76 else
  if f = 77 then some cf77 else
  if f = 78 then some cf78 else
  if f = 79 then some cf79 else
  if f = 80 then some cf80 else
  if f = 88 then some cf88 else
  if f = 89 then some cf89 else
  if f = 90 then some cf90 else
  if f = 91 then some cf91 else
  if f = 92 then some cf92 else
  if f = 98 then some cf98 else
  if f = 100 then some cf100 else none
theorem zvA : z1V 10 = some cf10 := rfl
theorem zvz : z1V 14 = some cf14 := rfl
theorem zvy : z1V 15 = some cf15 := rfl
theorem zvx : z1V 16 = some cf16 := rfl
theorem zvw : z1V 18 = some cf18 := rfl
theorem zvv : z1V 19 = some cf19 := rfl
theorem zvu : z1V 22 = some cf22 := rfl
theorem zvt : z1V 24 = some cf24 := rfl
theorem zvs : z1V 25 = some cf25 := rfl
theorem zvr : z1V 26 = some cf26 := rfl
theorem zvq : z1V 27 = some cf27 := rfl
theorem zvp : z1V 28 = some cf28 := rfl
theorem zvo : z1V 29 = some cf29 := rfl
theorem zvn : z1V 35 = some cf35 := rfl
theorem zvm : z1V 36 = some cf36 := rfl
theorem zvl : z1V 37 = some cf37 := rfl
theorem zvk : z1V 38 = some cf38 := rfl
theorem zvj : z1V 39 = some cf39 := rfl
theorem zvi : z1V 40 = some cf40 := rfl
theorem zvh : z1V 41 = some cf41 := rfl
theorem zvg : z1V 42 = some cf42 := rfl
theorem zvf : z1V 43 = some cf43 := rfl
theorem zve : z1V 44 = some cf44 := rfl
theorem zvd : z1V 45 = some cf45 := rfl
theorem zvc : z1V 46 = some cf46 := rfl
theorem zvb : z1V 47 = some cf47 := rfl
theorem zva : z1V 49 = some cf49 := rfl
theorem zv9 : z1V 50 = some cf50 := rfl
theorem zv8 : z1V 51 = some cf51 := rfl
theorem zv7 : z1V 52 = some cf52 := rfl
theorem zv6 : z1V 53 = some cf53 := rfl
theorem zv5 : z1V 54 = some cf54 := rfl
theorem zv4 : z1V 55 = some cf55 := rfl
theorem zv3 : z1V 56 = some cf56 := rfl
theorem zv2 : z1V 57 = some cf57 := rfl
theorem zv1 : z1V 58 = some cf58 := rfl
theorem zv0 : z1V 59 = some cf59 := rfl
theorem zuZ : z1V 60 = some cf60 := rfl
theorem zuY : z1V 62 = some cf62 := rfl
theorem zuX : z1V 63 = some cf63 := rfl
theorem zuW : z1V 67 = some cf67 := rfl
theorem zuV : z1V 68 = some cf68 := rfl
theorem zuU : z1V 69 = some cf69 := rfl
theorem zuT : z1V 70 = some cf70 := rfl
theorem zuS : z1V 71 = some cf71 := rfl
theorem zuR : z1V 72 = some cf72 := rfl
theorem zuQ : z1V 73 = some cf73 := rfl
theorem zuP : z1V 74 = some cf74 := rfl
theorem zuO : z1V 77 = some cf77 := rfl
theorem zuN : z1V 78 = some cf78 := rfl
theorem zuM : z1V 79 = some cf79 := rfl
theorem zuL : z1V 80 = some cf80 := rfl
theorem zuK : z1V 91 = some cf91 := rfl
theorem zuJ : z1V 92 = some cf92 := rfl
theorem zuI : z1V 98 = some cf98 := rfl
theorem zsI : z1V 100 = some cf100 := rfl
theorem zwY : Try.prog.funcs[10]? = some Try.f10 := by kernel_rfl
theorem zvL : Try.prog.funcs[14]? = some Try.f14 := by kernel_rfl
theorem zvK : Try.prog.funcs[15]? = some Try.f15 := by kernel_rfl
theorem zwX : Try.prog.funcs[16]? = some Try.f16 := by kernel_rfl
theorem zwW : Try.prog.funcs[18]? = some Try.f18 := by kernel_rfl
theorem zwV : Try.prog.funcs[19]? = some Try.f19 := by kernel_rfl
theorem zwU : Try.prog.funcs[22]? = some Try.f22 := by kernel_rfl
theorem zwT : Try.prog.funcs[24]? = some Try.f24 := by kernel_rfl
theorem zwS : Try.prog.funcs[25]? = some Try.f25 := by kernel_rfl
theorem zwR : Try.prog.funcs[26]? = some Try.f26 := by kernel_rfl
theorem zwQ : Try.prog.funcs[27]? = some Try.f27 := by kernel_rfl
theorem zwP : Try.prog.funcs[28]? = some Try.f28 := by kernel_rfl
theorem zwO : Try.prog.funcs[29]? = some Try.f29 := by kernel_rfl
theorem zwN : Try.prog.funcs[32]? = some Try.f32 := by kernel_rfl
theorem zwM : Try.prog.funcs[35]? = some Try.f35 := by kernel_rfl
theorem zwL : Try.prog.funcs[36]? = some Try.f36 := by kernel_rfl
theorem zwK : Try.prog.funcs[37]? = some Try.f37 := by kernel_rfl
theorem zwJ : Try.prog.funcs[38]? = some Try.f38 := by kernel_rfl
theorem zwI : Try.prog.funcs[39]? = some Try.f39 := by kernel_rfl
theorem zwH : Try.prog.funcs[40]? = some Try.f40 := by kernel_rfl
theorem zwG : Try.prog.funcs[41]? = some Try.f41 := by kernel_rfl
theorem zwF : Try.prog.funcs[42]? = some Try.f42 := by kernel_rfl
theorem zwE : Try.prog.funcs[43]? = some Try.f43 := by kernel_rfl
theorem zwD : Try.prog.funcs[44]? = some Try.f44 := by kernel_rfl
theorem zwC : Try.prog.funcs[45]? = some Try.f45 := by kernel_rfl
theorem zwB : Try.prog.funcs[46]? = some Try.f46 := by kernel_rfl
theorem zwA : Try.prog.funcs[47]? = some Try.f47 := by kernel_rfl
theorem zwz : Try.prog.funcs[49]? = some Try.f49 := by kernel_rfl
theorem zwy : Try.prog.funcs[50]? = some Try.f50 := by kernel_rfl
theorem zwx : Try.prog.funcs[51]? = some Try.f51 := by kernel_rfl
theorem zww : Try.prog.funcs[52]? = some Try.f52 := by kernel_rfl
theorem zwv : Try.prog.funcs[53]? = some Try.f53 := by kernel_rfl
theorem zwu : Try.prog.funcs[54]? = some Try.f54 := by kernel_rfl
theorem zwt : Try.prog.funcs[55]? = some Try.f55 := by kernel_rfl
theorem zws : Try.prog.funcs[56]? = some Try.f56 := by kernel_rfl
theorem zwr : Try.prog.funcs[57]? = some Try.f57 := by kernel_rfl
theorem zwq : Try.prog.funcs[58]? = some Try.f58 := by kernel_rfl
theorem zwp : Try.prog.funcs[59]? = some Try.f59 := by kernel_rfl
theorem zwo : Try.prog.funcs[60]? = some Try.f60 := by kernel_rfl
theorem zwn : Try.prog.funcs[62]? = some Try.f62 := by kernel_rfl
theorem zwm : Try.prog.funcs[63]? = some Try.f63 := by kernel_rfl
theorem zwl : Try.prog.funcs[67]? = some Try.f67 := by kernel_rfl
theorem zwk : Try.prog.funcs[68]? = some Try.f68 := by kernel_rfl
theorem zwj : Try.prog.funcs[69]? = some Try.f69 := by kernel_rfl
theorem zwi : Try.prog.funcs[70]? = some Try.f70 := by kernel_rfl
theorem zwh : Try.prog.funcs[71]? = some Try.f71 := by kernel_rfl
theorem zwg : Try.prog.funcs[72]? = some Try.f72 := by kernel_rfl
theorem zwf : Try.prog.funcs[73]? = some Try.f73 := by kernel_rfl
theorem zwe : Try.prog.funcs[74]? = some Try.f74 := by kernel_rfl
theorem zwd : Try.prog.funcs[77]? = some Try.f77 := by kernel_rfl
theorem zwc : Try.prog.funcs[78]? = some Try.f78 := by kernel_rfl
theorem zwb : Try.prog.funcs[79]? = some Try.f79 := by kernel_rfl
theorem zwa : Try.prog.funcs[80]? = some Try.f80 := by kernel_rfl
theorem zw9 : Try.prog.funcs[91]? = some Try.f91 := by kernel_rfl
theorem zw8 : Try.prog.funcs[92]? = some Try.f92 := by kernel_rfl
theorem zw7 : Try.prog.funcs[98]? = some Try.f98 := by kernel_rfl
theorem ztj : Try.prog.funcs[100]? = some Try.f100 := by kernel_rfl
noncomputable def zxW : Code := match Try.f10.body with | some c => c | none => .skip
theorem zyQ : Try.f10.body = some zxW := by kernel_rfl
noncomputable def z7Q : Code := match Try.f14.body with | some c => c | none => .skip
theorem zvO : Try.f14.body = some z7Q := by kernel_rfl
noncomputable def z3U : Code := match Try.f15.body with | some c => c | none => .skip
theorem zvN : Try.f15.body = some z3U := by kernel_rfl
noncomputable def zxV : Code := match Try.f16.body with | some c => c | none => .skip
theorem zyP : Try.f16.body = some zxV := by kernel_rfl
noncomputable def zxU : Code := match Try.f18.body with | some c => c | none => .skip
theorem zyO : Try.f18.body = some zxU := by kernel_rfl
noncomputable def zxT : Code := match Try.f19.body with | some c => c | none => .skip
theorem zyN : Try.f19.body = some zxT := by kernel_rfl
noncomputable def zxS : Code := match Try.f22.body with | some c => c | none => .skip
theorem zyM : Try.f22.body = some zxS := by kernel_rfl
noncomputable def zxR : Code := match Try.f24.body with | some c => c | none => .skip
theorem zyL : Try.f24.body = some zxR := by kernel_rfl
noncomputable def zxQ : Code := match Try.f25.body with | some c => c | none => .skip
theorem zyK : Try.f25.body = some zxQ := by kernel_rfl
noncomputable def zxP : Code := match Try.f26.body with | some c => c | none => .skip
theorem zyJ : Try.f26.body = some zxP := by kernel_rfl
noncomputable def zxO : Code := match Try.f27.body with | some c => c | none => .skip
theorem zyI : Try.f27.body = some zxO := by kernel_rfl
noncomputable def zxN : Code := match Try.f28.body with | some c => c | none => .skip
theorem zyH : Try.f28.body = some zxN := by kernel_rfl
noncomputable def zxM : Code := match Try.f29.body with | some c => c | none => .skip
theorem zyG : Try.f29.body = some zxM := by kernel_rfl
noncomputable def z4y : Code := match Try.f32.body with | some c => c | none => .skip
theorem zyF : Try.f32.body = some z4y := by kernel_rfl
noncomputable def zxL : Code := match Try.f35.body with | some c => c | none => .skip
theorem zyE : Try.f35.body = some zxL := by kernel_rfl
noncomputable def zxK : Code := match Try.f36.body with | some c => c | none => .skip
theorem zyD : Try.f36.body = some zxK := by kernel_rfl
noncomputable def zxJ : Code := match Try.f37.body with | some c => c | none => .skip
theorem zyC : Try.f37.body = some zxJ := by kernel_rfl
noncomputable def zxI : Code := match Try.f38.body with | some c => c | none => .skip
theorem zyB : Try.f38.body = some zxI := by kernel_rfl
noncomputable def zxH : Code := match Try.f39.body with | some c => c | none => .skip
theorem zyA : Try.f39.body = some zxH := by kernel_rfl
noncomputable def zxG : Code := match Try.f40.body with | some c => c | none => .skip
theorem zyz : Try.f40.body = some zxG := by kernel_rfl
noncomputable def zxF : Code := match Try.f41.body with | some c => c | none => .skip
theorem zyy : Try.f41.body = some zxF := by kernel_rfl
noncomputable def zxE : Code := match Try.f42.body with | some c => c | none => .skip
theorem zyx : Try.f42.body = some zxE := by kernel_rfl
noncomputable def zxD : Code := match Try.f43.body with | some c => c | none => .skip
theorem zyw : Try.f43.body = some zxD := by kernel_rfl
noncomputable def zxC : Code := match Try.f44.body with | some c => c | none => .skip
theorem zyv : Try.f44.body = some zxC := by kernel_rfl
noncomputable def zxB : Code := match Try.f45.body with | some c => c | none => .skip
theorem zyu : Try.f45.body = some zxB := by kernel_rfl
noncomputable def zxA : Code := match Try.f46.body with | some c => c | none => .skip
theorem zyt : Try.f46.body = some zxA := by kernel_rfl
noncomputable def zxz : Code := match Try.f47.body with | some c => c | none => .skip
theorem zys : Try.f47.body = some zxz := by kernel_rfl
noncomputable def zxy : Code := match Try.f49.body with | some c => c | none => .skip
theorem zyr : Try.f49.body = some zxy := by kernel_rfl
noncomputable def zxx : Code := match Try.f50.body with | some c => c | none => .skip
theorem zyq : Try.f50.body = some zxx := by kernel_rfl
noncomputable def zxw : Code := match Try.f51.body with | some c => c | none => .skip
theorem zyp : Try.f51.body = some zxw := by kernel_rfl
noncomputable def zxv : Code := match Try.f52.body with | some c => c | none => .skip
theorem zyo : Try.f52.body = some zxv := by kernel_rfl
noncomputable def zxu : Code := match Try.f53.body with | some c => c | none => .skip
theorem zyn : Try.f53.body = some zxu := by kernel_rfl
noncomputable def zxt : Code := match Try.f54.body with | some c => c | none => .skip
theorem zym : Try.f54.body = some zxt := by kernel_rfl
noncomputable def zxs : Code := match Try.f55.body with | some c => c | none => .skip
theorem zyl : Try.f55.body = some zxs := by kernel_rfl
noncomputable def zxr : Code := match Try.f56.body with | some c => c | none => .skip
theorem zyk : Try.f56.body = some zxr := by kernel_rfl
noncomputable def zxq : Code := match Try.f57.body with | some c => c | none => .skip
theorem zyj : Try.f57.body = some zxq := by kernel_rfl
noncomputable def zxp : Code := match Try.f58.body with | some c => c | none => .skip
theorem zyi : Try.f58.body = some zxp := by kernel_rfl
noncomputable def zxo : Code := match Try.f59.body with | some c => c | none => .skip
theorem zyh : Try.f59.body = some zxo := by kernel_rfl
noncomputable def zxn : Code := match Try.f60.body with | some c => c | none => .skip
theorem zyg : Try.f60.body = some zxn := by kernel_rfl
noncomputable def zxm : Code := match Try.f62.body with | some c => c | none => .skip
theorem zyf : Try.f62.body = some zxm := by kernel_rfl
noncomputable def zxl : Code := match Try.f63.body with | some c => c | none => .skip
theorem zye : Try.f63.body = some zxl := by kernel_rfl
noncomputable def zxk : Code := match Try.f67.body with | some c => c | none => .skip
theorem zyd : Try.f67.body = some zxk := by kernel_rfl
noncomputable def zxj : Code := match Try.f68.body with | some c => c | none => .skip
theorem zyc : Try.f68.body = some zxj := by kernel_rfl
noncomputable def zxi : Code := match Try.f69.body with | some c => c | none => .skip
theorem zyb : Try.f69.body = some zxi := by kernel_rfl
noncomputable def zxh : Code := match Try.f70.body with | some c => c | none => .skip
theorem zya : Try.f70.body = some zxh := by kernel_rfl
noncomputable def zxg : Code := match Try.f71.body with | some c => c | none => .skip
theorem zy9 : Try.f71.body = some zxg := by kernel_rfl
noncomputable def zxf : Code := match Try.f72.body with | some c => c | none => .skip
theorem zy8 : Try.f72.body = some zxf := by kernel_rfl
noncomputable def zxe : Code := match Try.f73.body with | some c => c | none => .skip
theorem zy7 : Try.f73.body = some zxe := by kernel_rfl
noncomputable def zxd : Code := match Try.f74.body with | some c => c | none => .skip
theorem zy6 : Try.f74.body = some zxd := by kernel_rfl
noncomputable def zxc : Code := match Try.f77.body with | some c => c | none => .skip
theorem zy5 : Try.f77.body = some zxc := by kernel_rfl
noncomputable def zxb : Code := match Try.f78.body with | some c => c | none => .skip
theorem zy4 : Try.f78.body = some zxb := by kernel_rfl
noncomputable def zxa : Code := match Try.f79.body with | some c => c | none => .skip
theorem zy3 : Try.f79.body = some zxa := by kernel_rfl
noncomputable def zx9 : Code := match Try.f80.body with | some c => c | none => .skip
theorem zy2 : Try.f80.body = some zx9 := by kernel_rfl
noncomputable def zx8 : Code := match Try.f91.body with | some c => c | none => .skip
theorem zy1 : Try.f91.body = some zx8 := by kernel_rfl
noncomputable def zx7 : Code := match Try.f92.body with | some c => c | none => .skip
theorem zy0 : Try.f92.body = some zx7 := by kernel_rfl
noncomputable def zx6 : Code := match Try.f98.body with | some c => c | none => .skip
theorem zxZ : Try.f98.body = some zx6 := by kernel_rfl
noncomputable def zvB : Code := match Try.f100.body with | some c => c | none => .skip
theorem zvC : Try.f100.body = some zvB := by kernel_rfl
def xt : z0H := xtC
noncomputable def L : z0H := Lim Try.prog xt z1V
theorem z2B {f : FuncId} {c : Cfg} {fn : Func} {args : List T} {o : T × List T} (hc : z1V f = some c) (hfn : Try.prog.funcs[f]? = some fn) (h : zh1 Try.prog L c LFm fn args = some o) : L f args = some o := zoq hc hfn h
end Go.Proofs.Ytbnnipkanechoaa
end
section
namespace Go.Proofs.Ytbnnipkanechoaa
open Go.RowKit
def Cells (w : World) (ga : Option Addr) (n : Nat) (F : Nat -> Value) : Prop := ∀ j, j < n -> ∃ g o, ga = some ⟨g, o, none⟩ /\ w.cell? ⟨g, o + j, none⟩ = some (F j)
theorem zcs {w w' : World} (hb : Below w.heap.size w w') {a : Addr} {v : Value} (h : w.cell? a = some v) : w'.cell? a = some v := by
  rw [hb.cell (World.block_lt_of_cell? w a h)]; exact h
theorem Cells.below {w w' : World} {ga : Option Addr} {n : Nat} {F : Nat -> Value} (h : Cells w ga n F) (hb : Below w.heap.size w w') : Cells w' ga n F := fun j hj => by
  obtain ⟨g, o, e, hc⟩ := h j hj
  exact ⟨g, o, e, zcs hb hc⟩
theorem Cells.mono {w : World} {ga : Option Addr} {n m : Nat} {F : Nat -> Value} (h : Cells w ga n F) (hm : m <= n) : Cells w ga m F := fun j hj => h j (by omega)
theorem Cells.congr {w : World} {ga : Option Addr} {n : Nat} {F G : Nat -> Value} (h : Cells w ga n F) (e : ∀ j, j < n -> F j = G j) : Cells w ga n G := fun j hj => by
  obtain ⟨g, o, e1, hc⟩ := h j hj
  exact ⟨g, o, e1, by rw [hc, e j hj]⟩
def IntsAt (w : World) (v : Value) (xs : List Int) : Prop :=
  ∃ ga cap, v = .slice ga xs.length cap /\ xs.length <= cap /\ cap <= maxLen /\ Cells w ga xs.length (fun j => .int .i64 (xs.getD j 0))
theorem IntsAt.below {w w' : World} {v : Value} {xs : List Int} (h : IntsAt w v xs) (hb : Below w.heap.size w w') : IntsAt w' v xs := by
  obtain ⟨ga, cap, e, h1, h2, h3⟩ := h
  exact ⟨ga, cap, e, h1, h2, h3.below hb⟩
def RowsAt (w : World) (v : Value) (rows : List (List Int)) : Prop :=
  ∃ ga cap, ∃ F : Nat -> Value, v = .slice ga rows.length cap /\ rows.length <= cap /\ cap <= maxLen /\ Cells w ga rows.length F /\ ∀ j, j < rows.length -> IntsAt w (F j) (rows.getD j [])
theorem RowsAt.below {w w' : World} {v : Value} {rows : List (List Int)} (h : RowsAt w v rows) (hb : Below w.heap.size w w') : RowsAt w' v rows := by
  obtain ⟨ga, cap, F, e, h1, h2, h3, h4⟩ := h
  exact ⟨ga, cap, F, e, h1, h2, h3.below hb, fun j hj => (h4 j hj).below hb⟩
structure CRow where
  pre : List Int
  maps : List (List Int)
deriving Inhabited
structure Casc where
  letters : Int
  sizes : List Int
  rows : List CRow
deriving Inhabited
def CRowsAt (w : World) (v : Value) (rows : List CRow) : Prop :=
  ∃ ga cap, ∃ F G : Nat -> Value, v = .slice ga rows.length cap /\ rows.length <= cap /\ cap <= maxLen /\ ∀ j, (h : j < rows.length) -> ∃ g o, ga = some ⟨g, o, none⟩ /\ w.cell? ⟨g, o + j * 2, none⟩ = some (F j) /\ w.cell? ⟨g, o + j * 2 + 1, none⟩ = some (G j) /\ IntsAt w (F j) rows[j].pre /\ RowsAt w (G j) rows[j].maps
theorem CRowsAt.below {w w' : World} {v : Value} {rows : List CRow} (h : CRowsAt w v rows) (hb : Below w.heap.size w w') : CRowsAt w' v rows := by
  obtain ⟨ga, cap, F, G, e, h1, h2, h3⟩ := h
  refine ⟨ga, cap, F, G, e, h1, h2, fun j hj => ?_⟩
  obtain ⟨g, o, e1, c1, c2, i1, i2⟩ := h3 j hj
  exact ⟨g, o, e1, zcs hb c1, zcs hb c2, i1.below hb, i2.below hb⟩
def CascAt (w : World) (v : Value) (c : Casc) : Prop :=
  ∃ s r, v = .agg #[.int .i64 c.letters, s, r] /\ IntsAt w s c.sizes /\ CRowsAt w r c.rows
theorem CascAt.below {w w' : World} {v : Value} {c : Casc} (h : CascAt w v c) (hb : Below w.heap.size w w') : CascAt w' v c := by
  obtain ⟨s, r, e, h1, h2⟩ := h
  exact ⟨s, r, e, h1.below hb, h2.below hb⟩
end Go.Proofs.Ytbnnipkanechoaa
end
section
namespace Go.Proofs.Ytbnnipkanechoaa
open Go
noncomputable section
set_option maxRecDepth 100000
set_option maxHeartbeats 1000000
structure Tape where
  l : List Int
  at_ : Int
deriving Inhabited
structure DFA where
  letters : Int
  start : Int
  final : List Bool
  next : List (List Int)
deriving Inhabited
def z8y (a0 : DFA) : Int -> Option (Int ⊕ Bool)
  | w6 =>
  if w6 < (a0.next.length : Int) then
    (atI a0.next w6).bind fun v8 =>
    if 10 < (v8.length : Int) then
      z1i <|
      some false
    else
      z0B (IntKind.i64.wrap (w6 + 1))
  else
    z1i <|
    some true
def z8x (a0 : DFA) : Int -> Fr
  | w6 => ⟨26, [(16, .one (.t none (.sl a0.next.length (a0.next.map fun x0 => .sl x0.length (x0.map fun x1 => .sc (.int .i64 x1)))))), (17, .one (.t none (.sc (.int .i64 (a0.next.length : Int))))), (18, .one (.t none (.sc (.int .i64 w6))))], []⟩
def z9R (a0 : DFA) : Option (Bool) :=
  if 40 < (a0.final.length : Int) then
    some false
  else
    if 40 < (a0.next.length : Int) then
      some false
    else
      z0Z (z8y a0) LFm 0
theorem zjN {a0 : DFA} {r : Bool} (h0 : z9R a0 = some r) : L 28 [.agg [.sc (.int .i64 a0.letters), .sc (.int .i64 a0.start), .sl a0.final.length (a0.final.map fun x0 => .sc (.bool x0)), .sl a0.next.length (a0.next.map fun x0 => .sl x0.length (x0.map fun x1 => .sc (.int .i64 x1)))]] = some (.sc (.bool r), [.dead]) := by
  simp only [z9R] at h0
  refine z2B zvp zwP (z1v zyH ⟨of_decide_eq_true rfl, of_decide_eq_true rfl⟩ ?_)
  simp only [z1D, z1A, z1z, z1F, z3d]
  refine zq rfl (zr rfl rfl rfl (by simp; rfl) ?_)
  refine z0a (zq rfl (zq rfl ?_))
  by_cases c12 : 40 < (a0.final.length : Int)
  ·rw [if_pos c12] at h0
   refine zr rfl rfl rfl (by simp [c12]; rfl) ?_
   refine z0a (z0n rfl (by simp) (zq rfl (zr rfl rfl rfl (by simp; rfl) ?_)))
   refine z0a (z0F rfl (z0p ?_))
   cases h0
   simp
  ·rw [if_neg c12] at h0
   refine zr rfl rfl rfl (by simp [c12]; rfl) ?_
   refine z0a ?_
   by_cases c13 : 40 < (a0.next.length : Int)
   ·rw [if_pos c13] at h0
    refine z0n rfl (by simp [c13]) (zq rfl (zr rfl rfl rfl (by simp; rfl) ?_))
    refine z0a (z0F rfl (z0p ?_))
    cases h0
    simp
   ·rw [if_neg c13] at h0
    refine z0l rfl (by simp [c13]) (z0e rfl (z0a (zq rfl (zq rfl (zr rfl rfl rfl (by simp; rfl) ?_)))))
    refine z0a (zb rfl (z0G h0 (z8x a0) rfl rfl (by simp [z8x]) fun s o1 h1 hr1 => ?_))
    obtain ⟨w6, hs1⟩ : ∃ y, y = s := ⟨_, rfl⟩
    subst hs1
    simp only [z8y] at h1
    simp only [z8x]
    refine zq rfl (zr rfl rfl rfl (by simp; rfl) ?_)
    refine z0a (zq rfl ?_)
    by_cases c20 : w6 < (a0.next.length : Int)
    ·rw [if_pos c20] at h1
     refine z0n rfl (by simp [c20]) (z0e rfl (z0a (zq rfl (zb rfl (zq rfl ?_)))))
     obtain ⟨v8, f21, h2⟩ := z0T h1
     refine zr rfl rfl rfl (by simp [f21]; rfl) ?_
     refine z0a (zq rfl (zr rfl rfl rfl (by simp; rfl) ?_))
     refine z0a ?_
     by_cases c22 : 10 < (v8.length : Int)
     ·rw [if_pos c22] at h2
      refine z0n rfl (by simp [c22]) (zq rfl (zr rfl rfl rfl (by simp; rfl) ?_))
      refine z0a (z0F rfl (z1o (z0p ?_)))
      obtain ⟨rr1, h3, ho1⟩ := z0f h2
      have hs1 := hr1 _ ho1
      subst hs1
      refine z2q ho1 (z1o (z0p ?_))
      cases h3
      simp
     ·rw [if_neg c22] at h2
      refine z0l rfl (by simp [c22]) (z0e rfl (z0h (z0a (zr rfl rfl rfl (by simp; rfl) ?_))))
      have ho := z0c h2
      refine z0g ho ?_
      simp [z8x]
    ·rw [if_neg c20] at h1
     refine z0l rfl (by simp [c20]) (z1b rfl (z0x ?_))
     obtain ⟨rr1, h2, ho1⟩ := z0f h1
     have hs1 := hr1 _ ho1
     subst hs1
     refine z0o ho1 (z0d rfl (z0a (zq rfl (zr rfl rfl rfl (by simp; rfl) ?_))))
     refine z0a (z0F rfl ?_)
     cases h2
     simp
end
end Go.Proofs.Ytbnnipkanechoaa
end
section
namespace Go.Proofs.Ytbnnipkanechoaa
open Go
structure TapeOk (t : Tape) : Prop where
  a0 : 0 <= t.at_
  a1 : t.at_ <= t.l.length
  a2 : t.l.length <= 80
end Go.Proofs.Ytbnnipkanechoaa
end
section
namespace Go.Proofs.Ytbnnipkanechoaa
open Go
def zvD (m n : Nat) (r : List Int) : Prop := r.length = m /\ ∀ x ∈ r, 0 <= x /\ x < n
structure DfaOk (d : DFA) (m n : Nat) : Prop where
  lt : d.letters = m
  m1 : 1 <= m
  m6 : m <= 6
  n1 : 1 <= n
  fin : d.final.length = n
  nl : d.next.length = n
  s0 : 0 <= d.start
  s1 : d.start < n
  row : ∀ r ∈ d.next, zvD m n r
end Go.Proofs.Ytbnnipkanechoaa
end
section
namespace Go.Proofs.Ytbnnipkanechoaa
open Go
set_option maxRecDepth 100000
end Go.Proofs.Ytbnnipkanechoaa
end
section
namespace Go.Proofs.Ytbnnipkanechoaa
open Go
noncomputable section
set_option maxRecDepth 100000
set_option maxHeartbeats 1000000
def z2W (a0 : Int) : Option (Bool) :=
  if 1 <= a0 then
    some (decide (a0 <= 6))
  else
    some false
theorem z7b {a0 : Int} {r : Bool} (h0 : z2W a0 = some r) : L 59 [.sc (.int .i64 a0)] = some (.sc (.bool r), [.dead]) := by
  simp only [z2W] at h0
  refine z2B zv0 zwp (z1v zyh ⟨of_decide_eq_true rfl, of_decide_eq_true rfl⟩ ?_)
  simp only [z1D, z1A, z1z, z1F, z3d]
  refine zq rfl (zr rfl rfl rfl (by simp; rfl) ?_)
  refine z0a (zq rfl ?_)
  by_cases c2 : 1 <= a0
  ·rw [if_pos c2] at h0
   refine zr rfl rfl rfl (by simp [c2]; rfl) ?_
   refine z0a (z0F rfl ?_)
   cases h0
   simp
  ·rw [if_neg c2] at h0
   refine zr rfl rfl rfl (by simp [c2]; rfl) ?_
   refine z0a (z0F rfl ?_)
   cases h0
   simp
def z7B (a0 : DFA) (w24 : Int) (v30 : List Int) : Int -> Option (Int ⊕ (Int ⊕ Int))
  | w32 =>
  if w32 < (v30.length : Int) then
    (atI v30 w32).bind fun v34 =>
    if v34 < 0 then
      z1i <|
      z1i <|
      some 4
    else
      if (a0.final.length : Int) <= v34 then
        z1i <|
        z1i <|
        some 4
      else
        z0B (IntKind.i64.wrap (w32 + 1))
  else
    z1i <|
    z0B (IntKind.i64.wrap (w24 + 1))
def z3W (a0 : DFA) (w24 : Int) (v30 : List Int) : Int -> Fr
  | w32 => ⟨64, [(1, .one (.a 1 [] (0))), (3, .one (.t none (.sc (.int .i64 (a0.final.length : Int))))), (38, .one (.t none (.sl a0.next.length (a0.next.map fun x0 => .sl x0.length (x0.map fun x1 => .sc (.int .i64 x1)))))), (39, .one (.t none (.sc (.int .i64 (a0.next.length : Int))))), (40, .one (.t none (.sc (.int .i64 w24)))), (49, .one (.t none (.sl v30.length (v30.map fun x0 => .sc (.int .i64 x0))))), (50, .one (.t none (.sc (.int .i64 (v30.length : Int))))), (51, .one (.t none (.sc (.int .i64 w32))))], [(1, .vr [.sc (.int .i64 a0.letters), .sc (.int .i64 a0.start), .sl a0.final.length (a0.final.map fun x0 => .sc (.bool x0)), .sl a0.next.length (a0.next.map fun x0 => .sl x0.length (x0.map fun x1 => .sc (.int .i64 x1)))])]⟩
def z5u (a0 : DFA) : Int -> Option (Int ⊕ Int)
  | w24 =>
  if w24 < (a0.next.length : Int) then
    (atI a0.next w24).bind fun v30 =>
    if (v30.length : Int) = a0.letters then
      z0Z (z7B a0 w24 v30) LFm 0
    else
      z1i <|
      some 4
  else
    z1i <|
    some 0
def z4r (a0 : DFA) : Int -> Fr
  | w24 => ⟨64, [(1, .one (.a 1 [] (0))), (3, .one (.t none (.sc (.int .i64 (a0.final.length : Int))))), (38, .one (.t none (.sl a0.next.length (a0.next.map fun x0 => .sl x0.length (x0.map fun x1 => .sc (.int .i64 x1)))))), (39, .one (.t none (.sc (.int .i64 (a0.next.length : Int))))), (40, .one (.t none (.sc (.int .i64 w24))))], [(1, .vr [.sc (.int .i64 a0.letters), .sc (.int .i64 a0.start), .sl a0.final.length (a0.final.map fun x0 => .sc (.bool x0)), .sl a0.next.length (a0.next.map fun x0 => .sl x0.length (x0.map fun x1 => .sc (.int .i64 x1)))])]⟩
def z4I (a0 : DFA) : Option (Int) :=
  (z2W a0.letters).bind fun v18 =>
  if v18 = true then
    if 512 < (a0.final.length : Int) then
      some 3
    else
      if (a0.final.length : Int) = 0 then
        some 4
      else
        if (a0.next.length : Int) = (a0.final.length : Int) then
          if a0.start < 0 then
            some 4
          else
            if (a0.final.length : Int) <= a0.start then
              some 4
            else
              z0Z (z5u a0) LFm 0
        else
          some 4
  else
    some 1
theorem zch {a0 : DFA} {r : Int} (h0 : z4I a0 = some r) : L 60 [.agg [.sc (.int .i64 a0.letters), .sc (.int .i64 a0.start), .sl a0.final.length (a0.final.map fun x0 => .sc (.bool x0)), .sl a0.next.length (a0.next.map fun x0 => .sl x0.length (x0.map fun x1 => .sc (.int .i64 x1)))]] = some (.sc (.int .i64 r), [.dead]) := by
  simp only [z4I] at h0
  refine z2B zuZ zwo (z1v zyg ⟨of_decide_eq_true rfl, of_decide_eq_true rfl⟩ ?_)
  simp only [z1D, z1A, z1z, z1F, z3d]
  refine zq rfl (zr rfl rfl rfl (by simp; rfl) ?_)
  refine z0a (zq rfl (zr rfl rfl rfl (by simp; rfl) ?_))
  refine z0a (zq rfl (zq rfl ?_))
  obtain ⟨v18, f53, h1⟩ := z0b h0
  have f53k := z7b f53
  try simp at f53k
  refine zr rfl rfl rfl (by simp [f53k]; rfl) ?_
  refine z0a ?_
  by_cases c54 : v18 = true
  ·rw [if_pos c54] at h1
   refine z0l rfl (by simp [c54]) (z0e rfl (z0a (zq rfl (zq rfl (zr rfl rfl rfl (by simp; rfl) ?_)))))
   refine z0a ?_
   by_cases c55 : 512 < (a0.final.length : Int)
   ·rw [if_pos c55] at h1
    refine z0n rfl (by simp [c55]) (zq rfl (zr rfl rfl rfl (by simp; rfl) ?_))
    refine z0a (z0F rfl (z0p ?_))
    cases h1
    simp [c54]
   ·rw [if_neg c55] at h1
    refine z0l rfl (by simp [c55]) (z0e rfl (z0a (zq rfl (zq rfl ?_))))
    by_cases c56 : (a0.final.length : Int) = 0
    ·rw [if_pos c56] at h1
     have c56e := eq_true c56
     have c56s : a0.final = [] := by simpa [List.length_pos_iff] using c56
     refine zr rfl rfl rfl (by simp [c56e, c56s]; rfl) ?_
     refine z0a (z0n rfl (by simp) (zq rfl (zr rfl rfl rfl (by simp; rfl) ?_)))
     refine z0a (z0F rfl (z0p ?_))
     cases h1
     simp [c54]
    ·rw [if_neg c56] at h1
     have c56e := eq_false c56
     have c56s : a0.final ≠ [] := by simpa [List.length_pos_iff] using c56
     by_cases c57 : (a0.next.length : Int) = (a0.final.length : Int)
     ·rw [if_pos c57] at h1
      have c57e := eq_true c57
      by_cases c58 : a0.start < 0
      ·rw [if_pos c58] at h1
       refine zr rfl rfl rfl (by simp [c56e, c56s, c57e, c58]; rfl) ?_
       refine z0a (z0n rfl (by simp) (zq rfl (zr rfl rfl rfl (by simp; rfl) ?_)))
       refine z0a (z0F rfl (z0p ?_))
       cases h1
       simp [c54]
      ·rw [if_neg c58] at h1
       refine zr rfl rfl rfl (by simp [c56e, c56s, c57e, c58]; rfl) ?_
       refine z0a ?_
       by_cases c59 : (a0.final.length : Int) <= a0.start
       ·rw [if_pos c59] at h1
        refine z0n rfl (by simp [c59]) (zq rfl (zr rfl rfl rfl (by simp; rfl) ?_))
        refine z0a (z0F rfl (z0p ?_))
        cases h1
        simp [c54]
       ·rw [if_neg c59] at h1
        refine z0l rfl (by simp [c59]) (z0e rfl (z0a (zq rfl (zq rfl (zr rfl rfl rfl (by simp; rfl) ?_)))))
        refine z0a (zb rfl (z0G h1 (z4r a0) rfl rfl (by simp [z4r]) fun s o1 h2 hr1 => ?_))
        obtain ⟨w24, hs1⟩ : ∃ y, y = s := ⟨_, rfl⟩
        subst hs1
        simp only [z5u] at h2
        simp only [z4r]
        refine zq rfl (zr rfl rfl rfl (by simp; rfl) ?_)
        refine z0a (zq rfl ?_)
        by_cases c90 : w24 < (a0.next.length : Int)
        ·rw [if_pos c90] at h2
         refine z0n rfl (by simp [c90]) (z0e rfl (z0a (zq rfl (zb rfl (zq rfl ?_)))))
         obtain ⟨v30, f91, h3⟩ := z0T h2
         refine zr rfl rfl rfl (by simp [f91]; rfl) ?_
         refine z0a (zq rfl (zq rfl (zr rfl rfl rfl (by simp; rfl) ?_)))
         refine z0a ?_
         by_cases c92 : (v30.length : Int) = a0.letters
         ·rw [if_pos c92] at h3
          have c92e := eq_true c92
          refine z0l rfl (by simp [c92e]) (z0e rfl (z0a (zq rfl (zr rfl rfl rfl (by simp; rfl) ?_))))
          refine z0a (zb rfl (z0G h3 (z3W a0 w24 v30) rfl rfl (by simp [z3W]) fun s o2 h4 hr2 => ?_))
          obtain ⟨w32, hs2⟩ : ∃ y, y = s := ⟨_, rfl⟩
          subst hs2
          simp only [z7B] at h4
          simp only [z3W]
          refine zq rfl (zr rfl rfl rfl (by simp; rfl) ?_)
          refine z0a (zq rfl ?_)
          by_cases c101 : w32 < (v30.length : Int)
          ·rw [if_pos c101] at h4
           refine z0n rfl (by simp [c101]) (z0e rfl (z0a (zq rfl (zb rfl (zq rfl ?_)))))
           obtain ⟨v34, f102, h5⟩ := z0T h4
           refine zr rfl rfl rfl (by simp [f102]; rfl) ?_
           refine z0a (zq rfl ?_)
           by_cases c103 : v34 < 0
           ·rw [if_pos c103] at h5
            refine zr rfl rfl rfl (by simp [c103]; rfl) ?_
            refine z0a (z0n rfl (by simp) (zq rfl (zr rfl rfl rfl (by simp; rfl) ?_)))
            refine z0a (z0F rfl (z1o (z0p ?_)))
            obtain ⟨rr2, h6, ho2⟩ := z0f h5
            have hs2 := hr2 _ ho2
            subst hs2
            refine z2q ho2 (z1o (z1o (z0p ?_)))
            obtain ⟨rr1, h7, ho1⟩ := z0f h6
            have hs1 := hr1 _ ho1
            subst hs1
            refine z2q ho1 (z1o (z0p ?_))
            cases h7
            simp
           ·rw [if_neg c103] at h5
            refine zr rfl rfl rfl (by simp [c103]; rfl) ?_
            refine z0a ?_
            by_cases c104 : (a0.final.length : Int) <= v34
            ·rw [if_pos c104] at h5
             refine z0n rfl (by simp [c104]) (zq rfl (zr rfl rfl rfl (by simp; rfl) ?_))
             refine z0a (z0F rfl (z1o (z0p ?_)))
             obtain ⟨rr2, h6, ho2⟩ := z0f h5
             have hs2 := hr2 _ ho2
             subst hs2
             refine z2q ho2 (z1o (z1o (z0p ?_)))
             obtain ⟨rr1, h7, ho1⟩ := z0f h6
             have hs1 := hr1 _ ho1
             subst hs1
             refine z2q ho1 (z1o (z0p ?_))
             cases h7
             simp
            ·rw [if_neg c104] at h5
             refine z0l rfl (by simp [c104]) (z0e rfl (z0h (z0a (zr rfl rfl rfl (by simp; rfl) ?_))))
             have ho := z0c h5
             refine z0g ho ?_
             simp [z3W]
          ·rw [if_neg c101] at h4
           refine z0l rfl (by simp [c101]) (z1b rfl (z0x ?_))
           obtain ⟨rr2, h5, ho2⟩ := z0f h4
           have hs2 := hr2 _ ho2
           subst hs2
           refine z0o ho2 (z0d rfl (z0h (z0a (zr rfl rfl rfl (by simp; rfl) ?_))))
           have ho := z0c h5
           refine z0g ho ?_
           simp [z4r]
         ·rw [if_neg c92] at h3
          have c92e := eq_false c92
          refine z0n rfl (by simp [c92e]) (zq rfl (zr rfl rfl rfl (by simp; rfl) ?_))
          refine z0a (z0F rfl (z0p (z1o (z0p ?_))))
          obtain ⟨rr1, h4, ho1⟩ := z0f h3
          have hs1 := hr1 _ ho1
          subst hs1
          refine z2q ho1 (z1o (z0p ?_))
          cases h4
          simp
        ·rw [if_neg c90] at h2
         refine z0l rfl (by simp [c90]) (z1b rfl (z0x ?_))
         obtain ⟨rr1, h3, ho1⟩ := z0f h2
         have hs1 := hr1 _ ho1
         subst hs1
         refine z0o ho1 (z0d rfl (z0a (zq rfl (zr rfl rfl rfl (by simp; rfl) ?_))))
         refine z0a (z0F rfl ?_)
         cases h3
         simp
     ·rw [if_neg c57] at h1
      have c57e := eq_false c57
      refine zr rfl rfl rfl (by simp [c56e, c56s, c57e]; rfl) ?_
      refine z0a (z0n rfl (by simp) (zq rfl (zr rfl rfl rfl (by simp; rfl) ?_)))
      refine z0a (z0F rfl (z0p ?_))
      cases h1
      simp [c54]
  ·rw [if_neg c54] at h1
   refine z0n rfl (by simp [c54]) (zq rfl (zr rfl rfl rfl (by simp; rfl) ?_))
   refine z0a (z0F rfl (z0p ?_))
   cases h1
   simp [c54]
def z4N (a0 : DFA) (w22 : Int) (v28 : List Int) : Int -> Option (Int ⊕ (Int ⊕ Int))
  | w30 =>
  if w30 < (v28.length : Int) then
    (atI v28 w30).bind fun v32 =>
    if v32 < 0 then
      z1i <|
      z1i <|
      some 4
    else
      if (a0.final.length : Int) <= v32 then
        z1i <|
        z1i <|
        some 4
      else
        z0B (IntKind.i64.wrap (w30 + 1))
  else
    z1i <|
    z0B (IntKind.i64.wrap (w22 + 1))
def z4M (a0 : DFA) (w22 : Int) (v28 : List Int) : Int -> Fr
  | w30 => ⟨64, [(1, .one (.a 1 [] (0))), (3, .one (.t none (.sc (.int .i64 (a0.final.length : Int))))), (38, .one (.t none (.sl a0.next.length (a0.next.map fun x0 => .sl x0.length (x0.map fun x1 => .sc (.int .i64 x1)))))), (39, .one (.t none (.sc (.int .i64 (a0.next.length : Int))))), (40, .one (.t none (.sc (.int .i64 w22)))), (49, .one (.t none (.sl v28.length (v28.map fun x0 => .sc (.int .i64 x0))))), (50, .one (.t none (.sc (.int .i64 (v28.length : Int))))), (51, .one (.t none (.sc (.int .i64 w30))))], [(1, .vr [.sc (.int .i64 a0.letters), .sc (.int .i64 a0.start), .sl a0.final.length (a0.final.map fun x0 => .sc (.bool x0)), .sl a0.next.length (a0.next.map fun x0 => .sl x0.length (x0.map fun x1 => .sc (.int .i64 x1)))])]⟩
def z3E (a0 : DFA) : Int -> Option (Int ⊕ Int)
  | w22 =>
  if w22 < (a0.next.length : Int) then
    (atI a0.next w22).bind fun v28 =>
    if (v28.length : Int) = a0.letters then
      z0Z (z4N a0 w22 v28) LFm 0
    else
      z1i <|
      some 4
  else
    z1i <|
    some 0
def z5n (a0 : DFA) : Int -> Fr
  | w22 => ⟨64, [(1, .one (.a 1 [] (0))), (3, .one (.t none (.sc (.int .i64 (a0.final.length : Int))))), (38, .one (.t none (.sl a0.next.length (a0.next.map fun x0 => .sl x0.length (x0.map fun x1 => .sc (.int .i64 x1)))))), (39, .one (.t none (.sc (.int .i64 (a0.next.length : Int))))), (40, .one (.t none (.sc (.int .i64 w22))))], [(1, .vr [.sc (.int .i64 a0.letters), .sc (.int .i64 a0.start), .sl a0.final.length (a0.final.map fun x0 => .sc (.bool x0)), .sl a0.next.length (a0.next.map fun x0 => .sl x0.length (x0.map fun x1 => .sc (.int .i64 x1)))])]⟩
def z6l (a0 : DFA) : Option (Int) :=
  if a0.letters < 1 then
    some 1
  else
    if 6 < a0.letters then
      some 1
    else
      if 512 < (a0.final.length : Int) then
        some 3
      else
        if (a0.next.length : Int) = (a0.final.length : Int) then
          if a0.start < 0 then
            some 4
          else
            if (a0.final.length : Int) <= a0.start then
              some 4
            else
              z0Z (z3E a0) LFm 0
        else
          some 4
theorem zeC {a0 : DFA} {r : Int} (h0 : z6l a0 = some r) : L 62 [.agg [.sc (.int .i64 a0.letters), .sc (.int .i64 a0.start), .sl a0.final.length (a0.final.map fun x0 => .sc (.bool x0)), .sl a0.next.length (a0.next.map fun x0 => .sl x0.length (x0.map fun x1 => .sc (.int .i64 x1)))]] = some (.sc (.int .i64 r), [.dead]) := by
  simp only [z6l] at h0
  refine z2B zuY zwn (z1v zyf ⟨of_decide_eq_true rfl, of_decide_eq_true rfl⟩ ?_)
  simp only [z1D, z1A, z1z, z1F, z3d]
  refine zq rfl (zr rfl rfl rfl (by simp; rfl) ?_)
  refine z0a (zq rfl (zq rfl ?_))
  by_cases c52 : a0.letters < 1
  ·rw [if_pos c52] at h0
   refine zr rfl rfl rfl (by simp [c52]; rfl) ?_
   refine z0a (z0n rfl (by simp) (zq rfl (zr rfl rfl rfl (by simp; rfl) ?_)))
   refine z0a (z0F rfl (z0p ?_))
   cases h0
   simp
  ·rw [if_neg c52] at h0
   refine zr rfl rfl rfl (by simp [c52]; rfl) ?_
   refine z0a ?_
   by_cases c53 : 6 < a0.letters
   ·rw [if_pos c53] at h0
    refine z0n rfl (by simp [c53]) (zq rfl (zr rfl rfl rfl (by simp; rfl) ?_))
    refine z0a (z0F rfl (z0p ?_))
    cases h0
    simp
   ·rw [if_neg c53] at h0
    refine z0l rfl (by simp [c53]) (z0e rfl (z0a (zq rfl (zr rfl rfl rfl (by simp; rfl) ?_))))
    refine z0a (zq rfl (zq rfl (zr rfl rfl rfl (by simp; rfl) ?_)))
    refine z0a ?_
    by_cases c54 : 512 < (a0.final.length : Int)
    ·rw [if_pos c54] at h0
     refine z0n rfl (by simp [c54]) (zq rfl (zr rfl rfl rfl (by simp; rfl) ?_))
     refine z0a (z0F rfl (z0p ?_))
     cases h0
     simp
    ·rw [if_neg c54] at h0
     refine z0l rfl (by simp [c54]) (z0e rfl (z0a (zq rfl (zq rfl ?_))))
     by_cases c55 : (a0.next.length : Int) = (a0.final.length : Int)
     ·rw [if_pos c55] at h0
      have c55e := eq_true c55
      by_cases c56 : a0.start < 0
      ·rw [if_pos c56] at h0
       refine zr rfl rfl rfl (by simp [c55e, c56]; rfl) ?_
       refine z0a (z0n rfl (by simp) (zq rfl (zr rfl rfl rfl (by simp; rfl) ?_)))
       refine z0a (z0F rfl (z0p ?_))
       cases h0
       simp
      ·rw [if_neg c56] at h0
       refine zr rfl rfl rfl (by simp [c55e, c56]; rfl) ?_
       refine z0a ?_
       by_cases c57 : (a0.final.length : Int) <= a0.start
       ·rw [if_pos c57] at h0
        refine z0n rfl (by simp [c57]) (zq rfl (zr rfl rfl rfl (by simp; rfl) ?_))
        refine z0a (z0F rfl (z0p ?_))
        cases h0
        simp
       ·rw [if_neg c57] at h0
        refine z0l rfl (by simp [c57]) (z0e rfl (z0a (zq rfl (zq rfl (zr rfl rfl rfl (by simp; rfl) ?_)))))
        refine z0a (zb rfl (z0G h0 (z5n a0) rfl rfl (by simp [z5n]) fun s o1 h1 hr1 => ?_))
        obtain ⟨w22, hs1⟩ : ∃ y, y = s := ⟨_, rfl⟩
        subst hs1
        simp only [z3E] at h1
        simp only [z5n]
        refine zq rfl (zr rfl rfl rfl (by simp; rfl) ?_)
        refine z0a (zq rfl ?_)
        by_cases c88 : w22 < (a0.next.length : Int)
        ·rw [if_pos c88] at h1
         refine z0n rfl (by simp [c88]) (z0e rfl (z0a (zq rfl (zb rfl (zq rfl ?_)))))
         obtain ⟨v28, f89, h2⟩ := z0T h1
         refine zr rfl rfl rfl (by simp [f89]; rfl) ?_
         refine z0a (zq rfl (zq rfl (zr rfl rfl rfl (by simp; rfl) ?_)))
         refine z0a ?_
         by_cases c90 : (v28.length : Int) = a0.letters
         ·rw [if_pos c90] at h2
          have c90e := eq_true c90
          refine z0l rfl (by simp [c90e]) (z0e rfl (z0a (zq rfl (zr rfl rfl rfl (by simp; rfl) ?_))))
          refine z0a (zb rfl (z0G h2 (z4M a0 w22 v28) rfl rfl (by simp [z4M]) fun s o2 h3 hr2 => ?_))
          obtain ⟨w30, hs2⟩ : ∃ y, y = s := ⟨_, rfl⟩
          subst hs2
          simp only [z4N] at h3
          simp only [z4M]
          refine zq rfl (zr rfl rfl rfl (by simp; rfl) ?_)
          refine z0a (zq rfl ?_)
          by_cases c99 : w30 < (v28.length : Int)
          ·rw [if_pos c99] at h3
           refine z0n rfl (by simp [c99]) (z0e rfl (z0a (zq rfl (zb rfl (zq rfl ?_)))))
           obtain ⟨v32, f100, h4⟩ := z0T h3
           refine zr rfl rfl rfl (by simp [f100]; rfl) ?_
           refine z0a (zq rfl ?_)
           by_cases c101 : v32 < 0
           ·rw [if_pos c101] at h4
            refine zr rfl rfl rfl (by simp [c101]; rfl) ?_
            refine z0a (z0n rfl (by simp) (zq rfl (zr rfl rfl rfl (by simp; rfl) ?_)))
            refine z0a (z0F rfl (z1o (z0p ?_)))
            obtain ⟨rr2, h5, ho2⟩ := z0f h4
            have hs2 := hr2 _ ho2
            subst hs2
            refine z2q ho2 (z1o (z1o (z0p ?_)))
            obtain ⟨rr1, h6, ho1⟩ := z0f h5
            have hs1 := hr1 _ ho1
            subst hs1
            refine z2q ho1 (z1o (z0p ?_))
            cases h6
            simp
           ·rw [if_neg c101] at h4
            refine zr rfl rfl rfl (by simp [c101]; rfl) ?_
            refine z0a ?_
            by_cases c102 : (a0.final.length : Int) <= v32
            ·rw [if_pos c102] at h4
             refine z0n rfl (by simp [c102]) (zq rfl (zr rfl rfl rfl (by simp; rfl) ?_))
             refine z0a (z0F rfl (z1o (z0p ?_)))
             obtain ⟨rr2, h5, ho2⟩ := z0f h4
             have hs2 := hr2 _ ho2
             subst hs2
             refine z2q ho2 (z1o (z1o (z0p ?_)))
             obtain ⟨rr1, h6, ho1⟩ := z0f h5
             have hs1 := hr1 _ ho1
             subst hs1
             refine z2q ho1 (z1o (z0p ?_))
             cases h6
             simp
            ·rw [if_neg c102] at h4
             refine z0l rfl (by simp [c102]) (z0e rfl (z0h (z0a (zr rfl rfl rfl (by simp; rfl) ?_))))
             have ho := z0c h4
             refine z0g ho ?_
             simp [z4M]
          ·rw [if_neg c99] at h3
           refine z0l rfl (by simp [c99]) (z1b rfl (z0x ?_))
           obtain ⟨rr2, h4, ho2⟩ := z0f h3
           have hs2 := hr2 _ ho2
           subst hs2
           refine z0o ho2 (z0d rfl (z0h (z0a (zr rfl rfl rfl (by simp; rfl) ?_))))
           have ho := z0c h4
           refine z0g ho ?_
           simp [z5n]
         ·rw [if_neg c90] at h2
          have c90e := eq_false c90
          refine z0n rfl (by simp [c90e]) (zq rfl (zr rfl rfl rfl (by simp; rfl) ?_))
          refine z0a (z0F rfl (z0p (z1o (z0p ?_))))
          obtain ⟨rr1, h3, ho1⟩ := z0f h2
          have hs1 := hr1 _ ho1
          subst hs1
          refine z2q ho1 (z1o (z0p ?_))
          cases h3
          simp
        ·rw [if_neg c88] at h1
         refine z0l rfl (by simp [c88]) (z1b rfl (z0x ?_))
         obtain ⟨rr1, h2, ho1⟩ := z0f h1
         have hs1 := hr1 _ ho1
         subst hs1
         refine z0o ho1 (z0d rfl (z0a (zq rfl (zr rfl rfl rfl (by simp; rfl) ?_))))
         refine z0a (z0F rfl ?_)
         cases h2
         simp
     ·rw [if_neg c55] at h0
      have c55e := eq_false c55
      refine zr rfl rfl rfl (by simp [c55e]; rfl) ?_
      refine z0a (z0n rfl (by simp) (zq rfl (zr rfl rfl rfl (by simp; rfl) ?_)))
      refine z0a (z0F rfl (z0p ?_))
      cases h0
      simp
def z3e (a0 : DFA) : Option (Int) :=
  (z6l a0).bind fun v2 =>
  if v2 = 0 then
    if 12 < (a0.final.length : Int) then
      some 3
    else
      some 0
  else
    some v2
theorem z5g {a0 : DFA} {r : Int} (h0 : z3e a0 = some r) : L 35 [.agg [.sc (.int .i64 a0.letters), .sc (.int .i64 a0.start), .sl a0.final.length (a0.final.map fun x0 => .sc (.bool x0)), .sl a0.next.length (a0.next.map fun x0 => .sl x0.length (x0.map fun x1 => .sc (.int .i64 x1)))]] = some (.sc (.int .i64 r), [.dead]) := by
  simp only [z3e] at h0
  refine z2B zvn zwM (z1v zyE ⟨of_decide_eq_true rfl, of_decide_eq_true rfl⟩ ?_)
  simp only [z1D, z1A, z1z, z1F, z3d]
  refine zq rfl (zr rfl rfl rfl (by simp; rfl) ?_)
  refine z0a (zq rfl (zq rfl ?_))
  obtain ⟨v2, f4, h1⟩ := z0b h0
  have f4k := zeC f4
  try simp at f4k
  refine zr rfl rfl rfl (by simp [f4k]; rfl) ?_
  refine z0a (zq rfl (zr rfl rfl rfl (by simp; rfl) ?_))
  refine z0a ?_
  by_cases c5 : v2 = 0
  ·rw [if_pos c5] at h1
   have c5e := eq_true c5
   refine z0l rfl (by simp [c5e]) (z0e rfl (z0a (zq rfl (zq rfl (zr rfl rfl rfl (by simp; rfl) ?_)))))
   refine z0a ?_
   by_cases c6 : 12 < (a0.final.length : Int)
   ·rw [if_pos c6] at h1
    refine z0n rfl (by simp [c6]) (zq rfl (zr rfl rfl rfl (by simp; rfl) ?_))
    refine z0a (z0F rfl (z0p ?_))
    cases h1
    simp
   ·rw [if_neg c6] at h1
    refine z0l rfl (by simp [c6]) (z0e rfl (z0a (zq rfl (zr rfl rfl rfl (by simp; rfl) ?_))))
    refine z0a (z0F rfl ?_)
    cases h1
    simp
  ·rw [if_neg c5] at h1
   have c5e := eq_false c5
   refine z0n rfl (by simp [c5e]) (zq rfl (zr rfl rfl rfl (by simp; rfl) ?_))
   refine z0a (z0F rfl (z0p ?_))
   cases h1
   simp
def z5d (a0 : DFA) : Option (Int) :=
  (z4I a0).bind fun v2 =>
  if v2 = 0 then
    if 12 < (a0.final.length : Int) then
      some 3
    else
      some 0
  else
    some v2
theorem z7A {a0 : DFA} {r : Int} (h0 : z5d a0 = some r) : L 29 [.agg [.sc (.int .i64 a0.letters), .sc (.int .i64 a0.start), .sl a0.final.length (a0.final.map fun x0 => .sc (.bool x0)), .sl a0.next.length (a0.next.map fun x0 => .sl x0.length (x0.map fun x1 => .sc (.int .i64 x1)))]] = some (.sc (.int .i64 r), [.dead]) := by
  simp only [z5d] at h0
  refine z2B zvo zwO (z1v zyG ⟨of_decide_eq_true rfl, of_decide_eq_true rfl⟩ ?_)
  simp only [z1D, z1A, z1z, z1F, z3d]
  refine zq rfl (zr rfl rfl rfl (by simp; rfl) ?_)
  refine z0a (zq rfl (zq rfl ?_))
  obtain ⟨v2, f4, h1⟩ := z0b h0
  have f4k := zch f4
  try simp at f4k
  refine zr rfl rfl rfl (by simp [f4k]; rfl) ?_
  refine z0a (zq rfl (zr rfl rfl rfl (by simp; rfl) ?_))
  refine z0a ?_
  by_cases c5 : v2 = 0
  ·rw [if_pos c5] at h1
   have c5e := eq_true c5
   refine z0l rfl (by simp [c5e]) (z0e rfl (z0a (zq rfl (zq rfl (zr rfl rfl rfl (by simp; rfl) ?_)))))
   refine z0a ?_
   by_cases c6 : 12 < (a0.final.length : Int)
   ·rw [if_pos c6] at h1
    refine z0n rfl (by simp [c6]) (zq rfl (zr rfl rfl rfl (by simp; rfl) ?_))
    refine z0a (z0F rfl (z0p ?_))
    cases h1
    simp
   ·rw [if_neg c6] at h1
    refine z0l rfl (by simp [c6]) (z0e rfl (z0a (zq rfl (zr rfl rfl rfl (by simp; rfl) ?_))))
    refine z0a (z0F rfl ?_)
    cases h1
    simp
  ·rw [if_neg c5] at h1
   have c5e := eq_false c5
   refine z0n rfl (by simp [c5e]) (zq rfl (zr rfl rfl rfl (by simp; rfl) ?_))
   refine z0a (z0F rfl (z0p ?_))
   cases h1
   simp
def z5M (a0 : ByteArray) (a1 : Int) : Int -> Option (Int ⊕ Bool)
  | w12 =>
  if w12 < (a0.size : Int) then
    (ziS a0 w12).bind fun v15 =>
    if v15 < 97 then
      z1i <|
      some false
    else
      if a1 <= (IntKind.i64.wrap (IntKind.u8.wrap (v15 - 97))) then
        z1i <|
        some false
      else
        z0B (IntKind.i64.wrap (w12 + 1))
  else
    z1i <|
    some true
def z5L (a0 : ByteArray) (a1 : Int) : Int -> Fr
  | w12 => ⟨33, [(0, .one (.t none (.sc (.string a0)))), (1, .one (.t none (.sc (.int .i64 a1)))), (5, .one (.t none (.sc (.int .i64 w12))))], []⟩
def z4f (a0 : ByteArray) (a1 : Int) : Option (Bool) :=
  (z2W a1).bind fun v9 =>
  if v9 = true then
    if 2048 < (a0.size : Int) then
      some false
    else
      z0Z (z5M a0 a1) LFm 0
  else
    some false
theorem zeW {a0 : ByteArray} {a1 : Int} {r : Bool} (h0 : z4f a0 a1 = some r) : L 27 [.sc (.string a0), .sc (.int .i64 a1)] = some (.sc (.bool r), [.dead, .dead]) := by
  simp only [z4f] at h0
  refine z2B zvq zwQ (z1v zyI ⟨of_decide_eq_true rfl, of_decide_eq_true rfl⟩ ?_)
  simp only [z1D, z1A, z1z, z1F, z3d]
  refine zq rfl (zr rfl rfl rfl (by simp; rfl) ?_)
  refine z0a (zq rfl (zq rfl ?_))
  obtain ⟨v9, f16, h1⟩ := z0b h0
  have f16k := z7b f16
  try simp at f16k
  by_cases c17 : v9 = true
  ·rw [if_pos c17] at h1
   refine zr rfl rfl rfl (by simp [f16k, c17]; rfl) ?_
   refine z0a ?_
   by_cases c18 : 2048 < (a0.size : Int)
   ·rw [if_pos c18] at h1
    refine z0n rfl (by simp [c18]) (zq rfl (zr rfl rfl rfl (by simp; rfl) ?_))
    refine z0a (z0F rfl (z0p ?_))
    cases h1
    simp [c17]
   ·rw [if_neg c18] at h1
    refine z0l rfl (by simp [c18]) (z0e rfl (z0a (zq rfl (zq rfl (zr rfl rfl rfl (by simp; rfl) ?_)))))
    refine z0a (zb rfl (z0G h1 (z5L a0 a1) rfl rfl (by simp [z5L]) fun s o1 h2 hr1 => ?_))
    obtain ⟨w12, hs1⟩ : ∃ y, y = s := ⟨_, rfl⟩
    subst hs1
    simp only [z5M] at h2
    simp only [z5L]
    refine zq rfl (zq rfl (zr rfl rfl rfl (by simp; rfl) ?_))
    refine z0a ?_
    by_cases c27 : w12 < (a0.size : Int)
    ·rw [if_pos c27] at h2
     refine z0n rfl (by simp [c27]) (z0e rfl (z0a (zq rfl (zb rfl (zq rfl ?_)))))
     obtain ⟨v15, f28, h3⟩ := z0b h2
     obtain ⟨f28a, f28b, f28w, f28c, f28d, f28g⟩ := z9W f28
     have f28d := f28d.symm
     by_cases c29 : v15 < 97
     ·rw [if_pos c29] at h3
      refine zr rfl rfl rfl (by simp [f28a, f28b, f28c, f28d, f28g, c29]; rfl) ?_
      refine z0a (z0n rfl (by simp) (zq rfl (zr rfl rfl rfl (by simp; rfl) ?_)))
      refine z0a (z0F rfl (z1o (z0p ?_)))
      obtain ⟨rr1, h4, ho1⟩ := z0f h3
      have hs1 := hr1 _ ho1
      subst hs1
      refine z2q ho1 (z1o (z0p ?_))
      cases h4
      simp
     ·rw [if_neg c29] at h3
      refine zr rfl rfl rfl (by simp [f28a, f28b, f28c, f28d, f28g, c29]; rfl) ?_
      refine z0a ?_
      by_cases c30 : a1 <= (IntKind.i64.wrap (IntKind.u8.wrap (v15 - 97)))
      ·rw [if_pos c30] at h3
       refine z0n rfl (by simp [c30]) (zq rfl (zr rfl rfl rfl (by simp; rfl) ?_))
       refine z0a (z0F rfl (z1o (z0p ?_)))
       obtain ⟨rr1, h4, ho1⟩ := z0f h3
       have hs1 := hr1 _ ho1
       subst hs1
       refine z2q ho1 (z1o (z0p ?_))
       cases h4
       simp
      ·rw [if_neg c30] at h3
       refine z0l rfl (by simp [c30]) (z0e rfl (z0h (z0a (zr rfl rfl rfl (by simp; rfl) ?_))))
       have ho := z0c h3
       refine z0g ho ?_
       simp [z5L]
    ·rw [if_neg c27] at h2
     refine z0l rfl (by simp [c27]) (z1b rfl (z0x ?_))
     obtain ⟨rr1, h3, ho1⟩ := z0f h2
     have hs1 := hr1 _ ho1
     subst hs1
     refine z0o ho1 (z0d rfl (z0a (zq rfl (zr rfl rfl rfl (by simp; rfl) ?_))))
     refine z0a (z0F rfl ?_)
     cases h3
     simp
  ·rw [if_neg c17] at h1
   refine zr rfl rfl rfl (by simp [f16k, c17]; rfl) ?_
   refine z0a (z0n rfl (by simp) (zq rfl (zr rfl rfl rfl (by simp; rfl) ?_)))
   refine z0a (z0F rfl (z0p ?_))
   cases h1
   simp [c17]
def zaG (a0 : ByteArray) (a1 : Int) : Int -> Option (Int ⊕ Bool)
  | w10 =>
  if w10 < (a0.size : Int) then
    (ziS a0 w10).bind fun v13 =>
    if v13 < 97 then
      z1i <|
      some false
    else
      if a1 <= (IntKind.i64.wrap (IntKind.u8.wrap (v13 - 97))) then
        z1i <|
        some false
      else
        z0B (IntKind.i64.wrap (w10 + 1))
  else
    z1i <|
    some true
def z6r (a0 : ByteArray) (a1 : Int) : Int -> Fr
  | w10 => ⟨36, [(0, .one (.t none (.sc (.string a0)))), (1, .one (.t none (.sc (.int .i64 a1)))), (18, .one (.t none (.sc (.int .i64 (a0.size : Int))))), (19, .one (.t none (.sc (.int .i64 w10))))], []⟩
def z7S (a0 : ByteArray) (a1 : Int) : Option (Bool) :=
  if a1 < 1 then
    some false
  else
    if 6 < a1 then
      some false
    else
      if 2048 < (a0.size : Int) then
        some false
      else
        z0Z (zaG a0 a1) LFm 0
theorem zgi {a0 : ByteArray} {a1 : Int} {r : Bool} (h0 : z7S a0 a1 = some r) : L 50 [.sc (.string a0), .sc (.int .i64 a1)] = some (.sc (.bool r), [.dead, .dead]) := by
  simp only [z7S] at h0
  refine z2B zv9 zwy (z1v zyq ⟨of_decide_eq_true rfl, of_decide_eq_true rfl⟩ ?_)
  simp only [z1D, z1A, z1z, z1F, z3d]
  refine zq rfl (zr rfl rfl rfl (by simp; rfl) ?_)
  refine z0a (zq rfl (zq rfl ?_))
  by_cases c16 : a1 < 1
  ·rw [if_pos c16] at h0
   refine zr rfl rfl rfl (by simp [c16]; rfl) ?_
   refine z0a (z0n rfl (by simp) (zq rfl (zr rfl rfl rfl (by simp; rfl) ?_)))
   refine z0a (z0F rfl (z0p ?_))
   cases h0
   simp
  ·rw [if_neg c16] at h0
   by_cases c17 : 6 < a1
   ·rw [if_pos c17] at h0
    refine zr rfl rfl rfl (by simp [c16, c17]; rfl) ?_
    refine z0a (z0n rfl (by simp) (zq rfl (zr rfl rfl rfl (by simp; rfl) ?_)))
    refine z0a (z0F rfl (z0p ?_))
    cases h0
    simp
   ·rw [if_neg c17] at h0
    refine zr rfl rfl rfl (by simp [c16, c17]; rfl) ?_
    refine z0a ?_
    by_cases c18 : 2048 < (a0.size : Int)
    ·rw [if_pos c18] at h0
     refine z0n rfl (by simp [c18]) (zq rfl (zr rfl rfl rfl (by simp; rfl) ?_))
     refine z0a (z0F rfl (z0p ?_))
     cases h0
     simp
    ·rw [if_neg c18] at h0
     refine z0l rfl (by simp [c18]) (z0e rfl (z0a (zq rfl (zq rfl (zr rfl rfl rfl (by simp; rfl) ?_)))))
     refine z0a (zb rfl (z0G h0 (z6r a0 a1) rfl rfl (by simp [z6r]) fun s o1 h1 hr1 => ?_))
     obtain ⟨w10, hs1⟩ : ∃ y, y = s := ⟨_, rfl⟩
     subst hs1
     simp only [zaG] at h1
     simp only [z6r]
     refine zq rfl (zr rfl rfl rfl (by simp; rfl) ?_)
     refine z0a (zq rfl ?_)
     by_cases c27 : w10 < (a0.size : Int)
     ·rw [if_pos c27] at h1
      refine z0n rfl (by simp [c27]) (z0e rfl (z0a (zq rfl (zb rfl (zq rfl (zr rfl rfl rfl (by simp; rfl) ?_))))))
      refine z0a (zq rfl ?_)
      obtain ⟨v13, f28, h2⟩ := z0b h1
      obtain ⟨f28a, f28b, f28w, f28c, f28d, f28g⟩ := z9W f28
      have f28d := f28d.symm
      by_cases c29 : v13 < 97
      ·rw [if_pos c29] at h2
       refine zr rfl rfl rfl (by simp [f28a, f28b, f28c, f28d, f28g, c29]; rfl) ?_
       refine z0a (z0n rfl (by simp) (zq rfl (zr rfl rfl rfl (by simp; rfl) ?_)))
       refine z0a (z0F rfl (z1o (z0p ?_)))
       obtain ⟨rr1, h3, ho1⟩ := z0f h2
       have hs1 := hr1 _ ho1
       subst hs1
       refine z2q ho1 (z1o (z0p ?_))
       cases h3
       simp
      ·rw [if_neg c29] at h2
       refine zr rfl rfl rfl (by simp [f28a, f28b, f28c, f28d, f28g, c29]; rfl) ?_
       refine z0a ?_
       by_cases c30 : a1 <= (IntKind.i64.wrap (IntKind.u8.wrap (v13 - 97)))
       ·rw [if_pos c30] at h2
        refine z0n rfl (by simp [c30]) (zq rfl (zr rfl rfl rfl (by simp; rfl) ?_))
        refine z0a (z0F rfl (z1o (z0p ?_)))
        obtain ⟨rr1, h3, ho1⟩ := z0f h2
        have hs1 := hr1 _ ho1
        subst hs1
        refine z2q ho1 (z1o (z0p ?_))
        cases h3
        simp
       ·rw [if_neg c30] at h2
        refine z0l rfl (by simp [c30]) (z0e rfl (z0h (z0a (zr rfl rfl rfl (by simp; rfl) ?_))))
        have ho := z0c h2
        refine z0g ho ?_
        simp [z6r]
     ·rw [if_neg c27] at h1
      refine z0l rfl (by simp [c27]) (z1b rfl (z0x ?_))
      obtain ⟨rr1, h2, ho1⟩ := z0f h1
      have hs1 := hr1 _ ho1
      subst hs1
      refine z0o ho1 (z0d rfl (z0a (zq rfl (zr rfl rfl rfl (by simp; rfl) ?_))))
      refine z0a (z0F rfl ?_)
      cases h2
      simp
def z8e (a0 : DFA) : Option (Int) :=
  chk (¬ (IntKind.u64.wrap (a0.final.length : Int)) < 0) <|
  some (IntKind.i64.wrap ((zfW .i64 1 (IntKind.u64.wrap (a0.final.length : Int))) - 1))
theorem zcC {a0 : DFA} {r : Int} (h0 : z8e a0 = some r) : L 71 [.agg [.sc (.int .i64 a0.letters), .sc (.int .i64 a0.start), .sl a0.final.length (a0.final.map fun x0 => .sc (.bool x0)), .sl a0.next.length (a0.next.map fun x0 => .sl x0.length (x0.map fun x1 => .sc (.int .i64 x1)))]] = some (.sc (.int .i64 r), [.dead]) := by
  simp only [z8e] at h0
  refine z2B zuS zwh (z1v zy9 ⟨of_decide_eq_true rfl, of_decide_eq_true rfl⟩ ?_)
  simp only [z1D, z1A, z1z, z1F, z3d]
  refine zq rfl (zr rfl rfl rfl (by simp; rfl) ?_)
  refine z0a (zq rfl ?_)
  obtain ⟨f2, h1⟩ := z1O h0
  refine zr rfl rfl rfl (by simp [f2]; rfl) ?_
  refine z0a (z0F rfl ?_)
  cases h1
  simp
def z4i (a0 : DFA) (a1 : Int) : Option (Bool) :=
  if 0 <= a1 then
    chk (¬ (a0.final.length : Int) < 0) <|
    some (decide (a1 < (zfW .i64 1 (a0.final.length : Int))))
  else
    some false
theorem z7f {a0 : DFA} {a1 : Int} {r : Bool} (h0 : z4i a0 a1 = some r) : L 49 [.agg [.sc (.int .i64 a0.letters), .sc (.int .i64 a0.start), .sl a0.final.length (a0.final.map fun x0 => .sc (.bool x0)), .sl a0.next.length (a0.next.map fun x0 => .sl x0.length (x0.map fun x1 => .sc (.int .i64 x1)))], .sc (.int .i64 a1)] = some (.sc (.bool r), [.dead, .dead]) := by
  simp only [z4i] at h0
  refine z2B zva zwz (z1v zyr ⟨of_decide_eq_true rfl, of_decide_eq_true rfl⟩ ?_)
  simp only [z1D, z1A, z1z, z1F, z3d]
  refine zq rfl (zr rfl rfl rfl (by simp; rfl) ?_)
  refine z0a (zq rfl ?_)
  by_cases c3 : 0 <= a1
  ·rw [if_pos c3] at h0
   obtain ⟨f4, h1⟩ := z1O h0
   refine zr rfl rfl rfl (by simp [c3, f4]; rfl) ?_
   refine z0a (z0F rfl ?_)
   cases h1
   simp
  ·rw [if_neg c3] at h0
   refine zr rfl rfl rfl (by simp [c3]; rfl) ?_
   refine z0a (z0F rfl ?_)
   cases h0
   simp
def z4O (a0 : DFA) (a1 : Int) : Option (Bool) :=
  if 0 <= a1 then
    (z8e a0).bind fun v2 =>
    some (decide (a1 <= v2))
  else
    some false
theorem z7H {a0 : DFA} {a1 : Int} {r : Bool} (h0 : z4O a0 a1 = some r) : L 55 [.agg [.sc (.int .i64 a0.letters), .sc (.int .i64 a0.start), .sl a0.final.length (a0.final.map fun x0 => .sc (.bool x0)), .sl a0.next.length (a0.next.map fun x0 => .sl x0.length (x0.map fun x1 => .sc (.int .i64 x1)))], .sc (.int .i64 a1)] = some (.sc (.bool r), [.dead, .dead]) := by
  simp only [z4O] at h0
  refine z2B zv4 zwt (z1v zyl ⟨of_decide_eq_true rfl, of_decide_eq_true rfl⟩ ?_)
  simp only [z1D, z1A, z1z, z1F, z3d]
  refine zq rfl (zr rfl rfl rfl (by simp; rfl) ?_)
  refine z0a (zq rfl ?_)
  by_cases c3 : 0 <= a1
  ·rw [if_pos c3] at h0
   obtain ⟨v2, f4, h1⟩ := z0b h0
   have f4k := zcC f4
   try simp at f4k
   refine zr rfl rfl rfl (by simp [c3, f4k]; rfl) ?_
   refine z0a (z0F rfl ?_)
   cases h1
   simp
  ·rw [if_neg c3] at h0
   refine zr rfl rfl rfl (by simp [c3]; rfl) ?_
   refine z0a (z0F rfl ?_)
   cases h0
   simp
def z5e (a0 : DFA) (a1 : Int) (a2 : Int) : Int × Int -> Option ((Int × Int) ⊕ Int)
  | (w11, w12) =>
  if w12 < (a0.final.length : Int) then
    chk (¬ (IntKind.u64.wrap w12) < 0) <|
    if (z2r .i64 (z1c .i64 a1 (IntKind.u64.wrap w12)) 1) = 1 then
      (atI a0.next w12).bind fun v15 =>
      (atI v15 a2).bind fun v16 =>
      chk (¬ (IntKind.u64.wrap v16) < 0) <|
      z0B (orI .i64 w11 (zfW .i64 1 (IntKind.u64.wrap v16)), IntKind.i64.wrap (w12 + 1))
    else
      z0B (w11, IntKind.i64.wrap (w12 + 1))
  else
    z1i <|
    some w11
def z4d (a0 : DFA) (a1 : Int) (a2 : Int) : Int × Int -> Fr
  | (w11, w12) => ⟨35, [(1, .one (.t none (.sc (.int .i64 a1)))), (2, .one (.t none (.sc (.int .i64 a2)))), (3, .one (.a 3 [] (0))), (7, .one (.t none (.sc (.int .i64 w11)))), (11, .one (.t none (.sc (.int .i64 (a0.final.length : Int))))), (12, .one (.t none (.sc (.int .i64 w12))))], [(3, .vr [.sc (.int .i64 a0.letters), .sc (.int .i64 a0.start), .sl a0.final.length (a0.final.map fun x0 => .sc (.bool x0)), .sl a0.next.length (a0.next.map fun x0 => .sl x0.length (x0.map fun x1 => .sc (.int .i64 x1)))])]⟩
def z4U (a0 : DFA) (a1 : Int) (a2 : Int) : Option (Int) :=
  z0Z (z5e a0 a1 a2) LFm (0, 0)
theorem z8X {a0 : DFA} {a1 : Int} {a2 : Int} {r : Int} (h0 : z4U a0 a1 a2 = some r) : L 73 [.agg [.sc (.int .i64 a0.letters), .sc (.int .i64 a0.start), .sl a0.final.length (a0.final.map fun x0 => .sc (.bool x0)), .sl a0.next.length (a0.next.map fun x0 => .sl x0.length (x0.map fun x1 => .sc (.int .i64 x1)))], .sc (.int .i64 a1), .sc (.int .i64 a2)] = some (.sc (.int .i64 r), [.dead, .dead, .dead]) := by
  simp only [z4U] at h0
  refine z2B zuQ zwf (z1v zy7 ⟨of_decide_eq_true rfl, of_decide_eq_true rfl⟩ ?_)
  simp only [z1D, z1A, z1z, z1F, z3d]
  refine zq rfl (zr rfl rfl rfl (by simp; rfl) ?_)
  refine z0a (zq rfl (zr rfl rfl rfl (by simp; rfl) ?_))
  refine z0a (zq rfl (zq rfl (zr rfl rfl rfl (by simp; rfl) ?_)))
  refine z0a (zb rfl (z0G h0 (z4d a0 a1 a2) rfl rfl (by simp [z4d]) fun s o1 h1 hr1 => ?_))
  obtain ⟨w11, w12⟩ := s
  simp only [z5e] at h1
  simp only [z4d]
  refine zq rfl (zr rfl rfl rfl (by simp; rfl) ?_)
  refine z0a (zq rfl ?_)
  by_cases c31 : w12 < (a0.final.length : Int)
  ·rw [if_pos c31] at h1
   refine z0n rfl (by simp [c31]) (z0e rfl (z0a (zq rfl (zb rfl (zq rfl (zr rfl rfl rfl (by simp; rfl) ?_))))))
   refine z0a (zq rfl ?_)
   obtain ⟨f32, h2⟩ := z1O h1
   refine zr rfl rfl rfl (by simp [f32]; rfl) ?_
   refine z0a ?_
   by_cases c33 : (z2r .i64 (z1c .i64 a1 (IntKind.u64.wrap w12)) 1) = 1
   ·rw [if_pos c33] at h2
    have c33e := eq_true c33
    refine z0n rfl (by simp [c33e]) ?_
    obtain ⟨v15, f34, h3⟩ := z0T h2
    obtain ⟨v16, f35, h4⟩ := z0T h3
    obtain ⟨f36, h5⟩ := z1O h4
    refine zr rfl rfl rfl (by simp [f34, f35, f36]; rfl) ?_
    refine z0h (z0a (zr rfl rfl rfl (by simp; rfl) ?_))
    have ho := z0c h5
    refine z0g ho ?_
    simp [z4d]
   ·rw [if_neg c33] at h2
    have c33e := eq_false c33
    refine z0l rfl (by simp [c33e]) (z0e rfl (z0h (z0a (zr rfl rfl rfl (by simp; rfl) ?_))))
    have ho := z0c h2
    refine z0g ho ?_
    simp [z4d]
  ·rw [if_neg c31] at h1
   refine z0l rfl (by simp [c31]) (z1b rfl (z0x ?_))
   obtain ⟨rr1, h2, ho1⟩ := z0f h1
   have hs1 := hr1 _ ho1
   subst hs1
   refine z0o ho1 (z0d rfl (z0a (zq rfl (zr rfl rfl rfl (by simp; rfl) ?_))))
   refine z0a (z0F rfl ?_)
   cases h2
   simp
def z5N (a0 : DFA) (a1 : Int) (a2 : Int) : Int × Int -> Option ((Int × Int) ⊕ Int)
  | (w11, w12) =>
  if w12 < (a0.next.length : Int) then
    (atI a0.next w12).bind fun v15 =>
    chk (¬ w12 < 0) <|
    if (z2r .i64 (z1c .i64 a1 w12) 1) = 1 then
      (atI v15 a2).bind fun v16 =>
      chk (¬ v16 < 0) <|
      z0B (orI .i64 w11 (zfW .i64 1 v16), IntKind.i64.wrap (w12 + 1))
    else
      z0B (w11, IntKind.i64.wrap (w12 + 1))
  else
    z1i <|
    some w11
def z4K (a0 : DFA) (a1 : Int) (a2 : Int) : Int × Int -> Fr
  | (w11, w12) => ⟨32, [(1, .one (.t none (.sc (.int .i64 a1)))), (2, .one (.t none (.sc (.int .i64 a2)))), (7, .one (.t none (.sc (.int .i64 w11)))), (11, .one (.t none (.sl a0.next.length (a0.next.map fun x0 => .sl x0.length (x0.map fun x1 => .sc (.int .i64 x1)))))), (12, .one (.t none (.sc (.int .i64 (a0.next.length : Int))))), (13, .one (.t none (.sc (.int .i64 w12))))], []⟩
def z4P (a0 : DFA) (a1 : Int) (a2 : Int) : Option (Int) :=
  z0Z (z5N a0 a1 a2) LFm (0, 0)
theorem z7L {a0 : DFA} {a1 : Int} {a2 : Int} {r : Int} (h0 : z4P a0 a1 a2 = some r) : L 51 [.agg [.sc (.int .i64 a0.letters), .sc (.int .i64 a0.start), .sl a0.final.length (a0.final.map fun x0 => .sc (.bool x0)), .sl a0.next.length (a0.next.map fun x0 => .sl x0.length (x0.map fun x1 => .sc (.int .i64 x1)))], .sc (.int .i64 a1), .sc (.int .i64 a2)] = some (.sc (.int .i64 r), [.dead, .dead, .dead]) := by
  simp only [z4P] at h0
  refine z2B zv8 zwx (z1v zyp ⟨of_decide_eq_true rfl, of_decide_eq_true rfl⟩ ?_)
  simp only [z1D, z1A, z1z, z1F, z3d]
  refine zq rfl (zr rfl rfl rfl (by simp; rfl) ?_)
  refine z0a (zq rfl (zr rfl rfl rfl (by simp; rfl) ?_))
  refine z0a (zq rfl (zq rfl (zr rfl rfl rfl (by simp; rfl) ?_)))
  refine z0a (zb rfl (z0G h0 (z4K a0 a1 a2) rfl rfl (by simp [z4K]) fun s o1 h1 hr1 => ?_))
  obtain ⟨w11, w12⟩ := s
  simp only [z5N] at h1
  simp only [z4K]
  refine zq rfl (zr rfl rfl rfl (by simp; rfl) ?_)
  refine z0a (zq rfl ?_)
  by_cases c29 : w12 < (a0.next.length : Int)
  ·rw [if_pos c29] at h1
   refine z0n rfl (by simp [c29]) (z0e rfl (z0a (zq rfl (zb rfl (zq rfl ?_)))))
   obtain ⟨v15, f30, h2⟩ := z0T h1
   refine zr rfl rfl rfl (by simp [f30]; rfl) ?_
   refine z0a (zq rfl ?_)
   obtain ⟨f31, h3⟩ := z1O h2
   refine zr rfl rfl rfl (by simp [f31]; rfl) ?_
   refine z0a ?_
   by_cases c32 : (z2r .i64 (z1c .i64 a1 w12) 1) = 1
   ·rw [if_pos c32] at h3
    have c32e := eq_true c32
    refine z0n rfl (by simp [c32e]) ?_
    obtain ⟨v16, f33, h4⟩ := z0T h3
    obtain ⟨f34, h5⟩ := z1O h4
    refine zr rfl rfl rfl (by simp [f33, f34]; rfl) ?_
    refine z0h (z0a (zr rfl rfl rfl (by simp; rfl) ?_))
    have ho := z0c h5
    refine z0g ho ?_
    simp [z4K]
   ·rw [if_neg c32] at h3
    have c32e := eq_false c32
    refine z0l rfl (by simp [c32e]) (z0e rfl (z0h (z0a (zr rfl rfl rfl (by simp; rfl) ?_))))
    have ho := z0c h3
    refine z0g ho ?_
    simp [z4K]
  ·rw [if_neg c29] at h1
   refine z0l rfl (by simp [c29]) (z1b rfl (z0x ?_))
   obtain ⟨rr1, h2, ho1⟩ := z0f h1
   have hs1 := hr1 _ ho1
   subst hs1
   refine z0o ho1 (z0d rfl (z0a (zq rfl (zr rfl rfl rfl (by simp; rfl) ?_))))
   refine z0a (z0F rfl ?_)
   cases h2
   simp
def z6w (a0 : DFA) (a2 : ByteArray) : Int × Int -> Option ((Int × Int) ⊕ Int)
  | (w11, w12) =>
  if w12 < (a2.size : Int) then
    (ziS a2 w12).bind fun v15 =>
    (z4U a0 w11 (IntKind.i64.wrap (IntKind.u8.wrap (v15 - 97)))).bind fun v16 =>
    z0B (v16, IntKind.i64.wrap (w12 + 1))
  else
    z1i <|
    some w11
def z6v (a0 : DFA) (a2 : ByteArray) : Int × Int -> Fr
  | (w11, w12) => ⟨23, [(1, .one (.t none (.sc (.int .i64 w11)))), (2, .one (.t none (.sc (.string a2)))), (3, .one (.a 3 [] (0))), (7, .one (.t none (.sc (.int .i64 w12))))], [(3, .vr [.sc (.int .i64 a0.letters), .sc (.int .i64 a0.start), .sl a0.final.length (a0.final.map fun x0 => .sc (.bool x0)), .sl a0.next.length (a0.next.map fun x0 => .sl x0.length (x0.map fun x1 => .sc (.int .i64 x1)))])]⟩
def z8c (a0 : DFA) (a1 : Int) (a2 : ByteArray) : Option (Int) :=
  z0Z (z6w a0 a2) LFm (a1, 0)
theorem zgt {a0 : DFA} {a1 : Int} {a2 : ByteArray} {r : Int} (h0 : z8c a0 a1 a2 = some r) : L 56 [.agg [.sc (.int .i64 a0.letters), .sc (.int .i64 a0.start), .sl a0.final.length (a0.final.map fun x0 => .sc (.bool x0)), .sl a0.next.length (a0.next.map fun x0 => .sl x0.length (x0.map fun x1 => .sc (.int .i64 x1)))], .sc (.int .i64 a1), .sc (.string a2)] = some (.sc (.int .i64 r), [.dead, .dead, .dead]) := by
  simp only [z8c] at h0
  refine z2B zv3 zws (z1v zyk ⟨of_decide_eq_true rfl, of_decide_eq_true rfl⟩ ?_)
  simp only [z1D, z1A, z1z, z1F, z3d]
  refine zq rfl (zr rfl rfl rfl (by simp; rfl) ?_)
  refine z0a (zq rfl (zq rfl (zr rfl rfl rfl (by simp; rfl) ?_)))
  refine z0a (zb rfl (z0G h0 (z6v a0 a2) rfl rfl (by simp [z6v]) fun s o1 h1 hr1 => ?_))
  obtain ⟨w11, w12⟩ := s
  simp only [z6w] at h1
  simp only [z6v]
  refine zq rfl (zq rfl (zr rfl rfl rfl (by simp; rfl) ?_))
  refine z0a ?_
  by_cases c16 : w12 < (a2.size : Int)
  ·rw [if_pos c16] at h1
   refine z0n rfl (by simp [c16]) (z0e rfl (z0a (zq rfl (zb rfl ?_))))
   obtain ⟨v15, f17, h2⟩ := z0b h1
   obtain ⟨f17a, f17b, f17w, f17c, f17d, f17g⟩ := z9W f17
   have f17d := f17d.symm
   obtain ⟨v16, f18, h3⟩ := z0b h2
   have f18k := z8X f18
   try simp at f18k
   refine z1B rfl rfl rfl rfl ?_; repeat' ((first | refine z0z rfl rfl fun Q' hQ => ?_ | refine z0s rfl fun Q' hQ => ?_); simp [f17a, f17b, f17c, f17d, f17g, f18k]; refine hQ.out _ ?_; clear hQ; clear Q')
   refine z0h (z0a (zr rfl rfl rfl (by simp; rfl) ?_))
   have ho := z0c h3
   refine z0g ho ?_
   simp [z6v]
  ·rw [if_neg c16] at h1
   refine z0l rfl (by simp [c16]) (z1b rfl (z0x ?_))
   obtain ⟨rr1, h2, ho1⟩ := z0f h1
   have hs1 := hr1 _ ho1
   subst hs1
   refine z0o ho1 (z0d rfl (z0a (zq rfl (zr rfl rfl rfl (by simp; rfl) ?_))))
   refine z0a (z0F rfl ?_)
   cases h2
   simp
def z4l (a0 : DFA) (a2 : ByteArray) : Int × Int -> Option ((Int × Int) ⊕ (Int × Int))
  | (w17, w18) =>
  if w18 < (a2.size : Int) then
    (ziS a2 w18).bind fun v21 =>
    (z4P a0 w17 (IntKind.i64.wrap (IntKind.u8.wrap (v21 - 97)))).bind fun v22 =>
    z0B (v22, IntKind.i64.wrap (w18 + 1))
  else
    z1i <|
    some (w17, 0)
def z5l (a0 : DFA) (a2 : ByteArray) : Int × Int -> Fr
  | (w17, w18) => ⟨41, [(1, .one (.t none (.sc (.int .i64 w17)))), (2, .one (.t none (.sc (.string a2)))), (3, .one (.a 3 [] (0))), (27, .one (.t none (.sc (.int .i64 (a2.size : Int))))), (28, .one (.t none (.sc (.int .i64 w18))))], [(3, .vr [.sc (.int .i64 a0.letters), .sc (.int .i64 a0.start), .sl a0.final.length (a0.final.map fun x0 => .sc (.bool x0)), .sl a0.next.length (a0.next.map fun x0 => .sl x0.length (x0.map fun x1 => .sc (.int .i64 x1)))])]⟩
def z3s (a0 : DFA) (a1 : Int) (a2 : ByteArray) : Option (Int × Int) :=
  (z3e a0).bind fun v12 =>
  if v12 = 0 then
    (z4i a0 a1).bind fun v13 =>
    if v13 = true then
      (z7S a2 a0.letters).bind fun v14 =>
      if v14 = true then
        z0Z (z4l a0 a2) LFm (a1, 0)
      else
        some (0, 1)
    else
      some (0, 1)
  else
    some (0, v12)
theorem z9h {a0 : DFA} {a1 : Int} {a2 : ByteArray} {r : Int × Int} (h0 : z3s a0 a1 a2 = some r) : L 19 [.agg [.sc (.int .i64 a0.letters), .sc (.int .i64 a0.start), .sl a0.final.length (a0.final.map fun x0 => .sc (.bool x0)), .sl a0.next.length (a0.next.map fun x0 => .sl x0.length (x0.map fun x1 => .sc (.int .i64 x1)))], .sc (.int .i64 a1), .sc (.string a2)] = some (.tup [.sc (.int .i64 r.1), .sc (.int .i64 r.2)], [.dead, .dead, .dead]) := by
  simp only [z3s] at h0
  refine z2B zvv zwV (z1v zyN ⟨of_decide_eq_true rfl, of_decide_eq_true rfl⟩ ?_)
  simp only [z1D, z1A, z1z, z1F, z3d]
  refine zq rfl (zr rfl rfl rfl (by simp; rfl) ?_)
  refine z0a (zq rfl (zq rfl ?_))
  obtain ⟨v12, f16, h1⟩ := z0b h0
  have f16k := z5g f16
  try simp at f16k
  refine zr rfl rfl rfl (by simp [f16k]; rfl) ?_
  refine z0a (zq rfl (zr rfl rfl rfl (by simp; rfl) ?_))
  refine z0a ?_
  by_cases c17 : v12 = 0
  ·rw [if_pos c17] at h1
   have c17e := eq_true c17
   refine z0l rfl (by simp [c17e]) (z0e rfl (z0a (zq rfl (zq rfl ?_))))
   obtain ⟨v13, f18, h2⟩ := z0b h1
   have f18k := z7f f18
   try simp at f18k
   by_cases c19 : v13 = true
   ·rw [if_pos c19] at h2
    obtain ⟨v14, f20, h3⟩ := z0b h2
    have f20k := zgi f20
    try simp at f20k
    refine zr rfl rfl rfl (by simp [f18k, c19, f20k]; rfl) ?_
    refine z0a ?_
    by_cases c21 : v14 = true
    ·rw [if_pos c21] at h3
     refine z0l rfl (by simp [c21]) (z0e rfl (z0a (zq rfl (zq rfl (zr rfl rfl rfl (by simp; rfl) ?_)))))
     refine z0a (zb rfl (z0G h3 (z5l a0 a2) rfl rfl (by simp [z5l]) fun s o1 h4 hr1 => ?_))
     obtain ⟨w17, w18⟩ := s
     simp only [z4l] at h4
     simp only [z5l]
     refine zq rfl (zr rfl rfl rfl (by simp; rfl) ?_)
     refine z0a (zq rfl ?_)
     by_cases c28 : w18 < (a2.size : Int)
     ·rw [if_pos c28] at h4
      refine z0n rfl (by simp [c28]) (z0e rfl (z0a (zq rfl (zb rfl (zq rfl (zr rfl rfl rfl (by simp; rfl) ?_))))))
      refine z0a ?_
      obtain ⟨v21, f29, h5⟩ := z0b h4
      obtain ⟨f29a, f29b, f29w, f29c, f29d, f29g⟩ := z9W f29
      have f29d := f29d.symm
      obtain ⟨v22, f30, h6⟩ := z0b h5
      have f30k := z7L f30
      try simp at f30k
      refine z1B rfl rfl rfl rfl ?_; repeat' ((first | refine z0z rfl rfl fun Q' hQ => ?_ | refine z0s rfl fun Q' hQ => ?_); simp [f29a, f29b, f29c, f29d, f29g, f30k]; refine hQ.out _ ?_; clear hQ; clear Q')
      refine z0h (z0a (zr rfl rfl rfl (by simp; rfl) ?_))
      have ho := z0c h6
      refine z0g ho ?_
      simp [z5l]
     ·rw [if_neg c28] at h4
      refine z0l rfl (by simp [c28]) (z1b rfl (z0x ?_))
      obtain ⟨rr1, h5, ho1⟩ := z0f h4
      have hs1 := hr1 _ ho1
      subst hs1
      refine z0o ho1 (z0d rfl (z0a (zq rfl (zr rfl rfl rfl (by simp; rfl) ?_))))
      refine z0a (z0F rfl ?_)
      cases h5
      simp
    ·rw [if_neg c21] at h3
     refine z0n rfl (by simp [c21]) (zq rfl (zr rfl rfl rfl (by simp; rfl) ?_))
     refine z0a (z0F rfl (z0p ?_))
     cases h3
     simp [c19, c21]
   ·rw [if_neg c19] at h2
    refine zr rfl rfl rfl (by simp [f18k, c19]; rfl) ?_
    refine z0a (z0n rfl (by simp) (zq rfl (zr rfl rfl rfl (by simp; rfl) ?_)))
    refine z0a (z0F rfl (z0p ?_))
    cases h2
    simp [c19]
  ·rw [if_neg c17] at h1
   have c17e := eq_false c17
   refine z0n rfl (by simp [c17e]) (zq rfl (zr rfl rfl rfl (by simp; rfl) ?_))
   refine z0a (z0F rfl (z0p ?_))
   cases h1
   simp
def z3N (a0 : DFA) (a1 : Int) (a2 : ByteArray) : Option (Int × Int) :=
  (z5d a0).bind fun v5 =>
  if v5 = 0 then
    (z4O a0 a1).bind fun v6 =>
    if v6 = true then
      (z4f a2 a0.letters).bind fun v7 =>
      if v7 = true then
        (z8c a0 a1 a2).bind fun v8 =>
        some (v8, 0)
      else
        some (0, 1)
    else
      some (0, 1)
  else
    some (0, v5)
theorem za6 {a0 : DFA} {a1 : Int} {a2 : ByteArray} {r : Int × Int} (h0 : z3N a0 a1 a2 = some r) : L 24 [.agg [.sc (.int .i64 a0.letters), .sc (.int .i64 a0.start), .sl a0.final.length (a0.final.map fun x0 => .sc (.bool x0)), .sl a0.next.length (a0.next.map fun x0 => .sl x0.length (x0.map fun x1 => .sc (.int .i64 x1)))], .sc (.int .i64 a1), .sc (.string a2)] = some (.tup [.sc (.int .i64 r.1), .sc (.int .i64 r.2)], [.dead, .dead, .dead]) := by
  simp only [z3N] at h0
  refine z2B zvt zwT (z1v zyL ⟨of_decide_eq_true rfl, of_decide_eq_true rfl⟩ ?_)
  simp only [z1D, z1A, z1z, z1F, z3d]
  refine zq rfl (zr rfl rfl rfl (by simp; rfl) ?_)
  refine z0a (zq rfl (zq rfl ?_))
  obtain ⟨v5, f8, h1⟩ := z0b h0
  have f8k := z7A f8
  try simp at f8k
  refine zr rfl rfl rfl (by simp [f8k]; rfl) ?_
  refine z0a (zq rfl (zr rfl rfl rfl (by simp; rfl) ?_))
  refine z0a ?_
  by_cases c9 : v5 = 0
  ·rw [if_pos c9] at h1
   have c9e := eq_true c9
   refine z0l rfl (by simp [c9e]) (z0e rfl (z0a (zq rfl (zq rfl ?_))))
   obtain ⟨v6, f10, h2⟩ := z0b h1
   have f10k := z7H f10
   try simp at f10k
   by_cases c11 : v6 = true
   ·rw [if_pos c11] at h2
    obtain ⟨v7, f12, h3⟩ := z0b h2
    have f12k := zeW f12
    try simp at f12k
    refine zr rfl rfl rfl (by simp [f10k, c11, f12k]; rfl) ?_
    refine z0a ?_
    by_cases c13 : v7 = true
    ·rw [if_pos c13] at h3
     refine z0l rfl (by simp [c13]) (z0e rfl (z0a (zq rfl ?_)))
     obtain ⟨v8, f14, h4⟩ := z0b h3
     have f14k := zgt f14
     try simp at f14k
     refine zr rfl rfl rfl (by simp [f14k]; rfl) ?_
     refine z0a (z0F rfl ?_)
     cases h4
     simp [c11, c13]
    ·rw [if_neg c13] at h3
     refine z0n rfl (by simp [c13]) (zq rfl (zr rfl rfl rfl (by simp; rfl) ?_))
     refine z0a (z0F rfl (z0p ?_))
     cases h3
     simp [c11, c13]
   ·rw [if_neg c11] at h2
    refine zr rfl rfl rfl (by simp [f10k, c11]; rfl) ?_
    refine z0a (z0n rfl (by simp) (zq rfl (zr rfl rfl rfl (by simp; rfl) ?_)))
    refine z0a (z0F rfl (z0p ?_))
    cases h2
    simp [c11]
  ·rw [if_neg c9] at h1
   have c9e := eq_false c9
   refine z0n rfl (by simp [c9e]) (zq rfl (zr rfl rfl rfl (by simp; rfl) ?_))
   refine z0a (z0F rfl (z0p ?_))
   cases h1
   simp
def z2M (a0 : Int) (a1 : Int) : Option (Bool) :=
  some (decide ((zgV .i64 a1 a0) = 0))
theorem z3Z {a0 : Int} {a1 : Int} {r : Bool} (h0 : z2M a0 a1 = some r) : L 58 [.sc (.int .i64 a0), .sc (.int .i64 a1)] = some (.sc (.bool r), [.dead, .dead]) := by
  simp only [z2M] at h0
  refine z2B zv1 zwq (z1v zyi ⟨of_decide_eq_true rfl, of_decide_eq_true rfl⟩ ?_)
  simp only [z1D, z1A, z1z, z1F, z3d]
  refine zq rfl (zr rfl rfl rfl (by simp; rfl) ?_)
  refine z0a (zq rfl (zr rfl rfl rfl (by simp; rfl) ?_))
  refine z0a (z0F rfl ?_)
  cases h0
  simp
def z4h (a0 : DFA) (w77 : Int) : Int × List Bool × List Int × List ByteArray -> Option ((Int × List Bool × List Int × List ByteArray) ⊕ ((Int × List Bool × List Int × List ByteArray) ⊕ (List Int × List ByteArray)))
  | (w105, w106, w107, w108) =>
  if w105 < a0.letters then
    (atI w107 w77).bind fun v114 =>
    (z4P a0 v114 w105).bind fun v115 =>
    (atI w106 v115).bind fun v116 =>
    if v116 = true then
      z0B (IntKind.i64.wrap (w105 + 1), w106, w107, w108)
    else
      chk (z5B 8 (w107.length + 1)) <|
      (atI w108 w77).bind fun v118 =>
      chk (zcQ v118 ⟨#[UInt8.ofNat (IntKind.u8.wrap (IntKind.i64.wrap (97 + w105))).toNat]⟩) <|
      chk (z5B 16 (w108.length + 1)) <|
      z0B (IntKind.i64.wrap (w105 + 1), (w106.set v115.toNat true), w107 ++ [v115], w108 ++ [v118 ++ ⟨#[UInt8.ofNat (IntKind.u8.wrap (IntKind.i64.wrap (97 + w105))).toNat]⟩])
  else
    z1i <|
    z0B (IntKind.i64.wrap (w77 + 1), w106, w107, w108)
def z4g (a0 : DFA) (w77 : Int) : Int × List Bool × List Int × List ByteArray -> Fr
  | (w105, w106, w107, w108) => ⟨69, [(2, .one (.a 2 [] (0))), (6, .one (.h 6 [])), (7, .one (.h 7 [])), (8, .one (.h 8 [])), (9, .one (.t none (.sc (.int .i64 w77)))), (30, .one (.t none (.sc (.int .i64 a0.letters)))), (31, .one (.t none (.sc (.int .i64 w105))))], [(2, .vr [.sc (.int .i64 a0.letters), .sc (.int .i64 a0.start), .sl a0.final.length (a0.final.map fun x0 => .sc (.bool x0)), .sl a0.next.length (a0.next.map fun x0 => .sl x0.length (x0.map fun x1 => .sc (.int .i64 x1)))]), (6, .os 1 w106.length (w106.map fun x0 => .sc (.bool x0))), (7, .os 1 w107.length (w107.map fun x0 => .sc (.int .i64 x0))), (8, .os 1 w108.length (w108.map fun x0 => .sc (.string x0)))]⟩
def z7d (a0 : DFA) : Int × List Bool × List Int × List ByteArray -> Option ((Int × List Bool × List Int × List ByteArray) ⊕ (List Int × List ByteArray))
  | (w77, w78, w79, w80) =>
  if w77 < (w79.length : Int) then
    z0Z (z4h a0 w77) LFm (0, w78, w79, w80)
  else
    z1i <|
    some (w79, w80)
def z5h (a0 : DFA) : Int × List Bool × List Int × List ByteArray -> Fr
  | (w77, w78, w79, w80) => ⟨69, [(2, .one (.a 2 [] (0))), (6, .one (.h 6 [])), (7, .one (.h 7 [])), (8, .one (.h 8 [])), (9, .one (.t none (.sc (.int .i64 w77))))], [(2, .vr [.sc (.int .i64 a0.letters), .sc (.int .i64 a0.start), .sl a0.final.length (a0.final.map fun x0 => .sc (.bool x0)), .sl a0.next.length (a0.next.map fun x0 => .sl x0.length (x0.map fun x1 => .sc (.int .i64 x1)))]), (6, .os 1 w78.length (w78.map fun x0 => .sc (.bool x0))), (7, .os 1 w79.length (w79.map fun x0 => .sc (.int .i64 x0))), (8, .os 1 w80.length (w80.map fun x0 => .sc (.string x0)))]⟩
def z4W (a0 : DFA) (a1 : Int) : Option (List Int × List ByteArray) :=
  chk (¬ (a0.final.length : Int) < 0) <|
  chk (z2g 1 (zfW .i64 1 (a0.final.length : Int))) <|
  chk (0 <= a1 /\ a1 < (zfW .i64 1 (a0.final.length : Int))) <|
  z0Z (z7d a0) LFm (0, ((List.replicate (zfW .i64 1 (a0.final.length : Int)).toNat (false : Bool)).set a1.toNat true), [a1], [ByteArray.empty])
theorem z9d {a0 : DFA} {a1 : Int} {r : List Int × List ByteArray} (h0 : z4W a0 a1 = some r) : L 57 [.agg [.sc (.int .i64 a0.letters), .sc (.int .i64 a0.start), .sl a0.final.length (a0.final.map fun x0 => .sc (.bool x0)), .sl a0.next.length (a0.next.map fun x0 => .sl x0.length (x0.map fun x1 => .sc (.int .i64 x1)))], .sc (.int .i64 a1)] = some (.tup [.os 1 r.1.length (r.1.map fun x0 => .sc (.int .i64 x0)), .os 1 r.2.length (r.2.map fun x0 => .sc (.string x0))], [.dead, .dead]) := by
  simp only [z4W] at h0
  refine z2B zv2 zwr (z1v zyj ⟨of_decide_eq_true rfl, of_decide_eq_true rfl⟩ ?_)
  simp only [z1D, z1A, z1z, z1F, z3d]
  refine zq rfl (zr rfl rfl rfl (by simp; rfl) ?_)
  refine z0a (zq rfl ?_)
  obtain ⟨f84, h1⟩ := z1O h0
  obtain ⟨f85, h2⟩ := zsP h1
  refine zr rfl rfl rfl (by simp [f84, f85]; rfl) ?_
  refine z0a (zq rfl ?_)
  obtain ⟨f86, h3⟩ := z1O h2
  obtain ⟨f86a, f86b⟩ := f86
  have f86c : a1.toNat < (zfW .i64 1 (a0.final.length : Int)).toNat := by omega
  have f86d : a1.toNat + 1 <= (zfW .i64 1 (a0.final.length : Int)).toNat := by omega
  refine zr rfl rfl rfl (by simp [f85, f86a, f86b, f86c, f86d]; rfl) ?_
  refine z0a (zq rfl (zr rfl rfl rfl (by simp; rfl) ?_))
  refine z0a (zq rfl (zq rfl (zr rfl rfl rfl (by simp; rfl) ?_)))
  refine z0a (zb rfl (z0G h3 (z5h a0) rfl rfl (by simp [z5h]) fun s o1 h4 hr1 => ?_))
  obtain ⟨w77, w78, w79, w80⟩ := s
  simp only [z7d] at h4
  simp only [z5h]
  refine zq rfl (zq rfl (zr rfl rfl rfl (by simp; rfl) ?_))
  refine z0a ?_
  by_cases c139 : w77 < (w79.length : Int)
  ·rw [if_pos c139] at h4
   refine z0n rfl (by simp [c139]) (z0e rfl (z0a (zq rfl (zb rfl (zq rfl (zr rfl rfl rfl (by simp; rfl) ?_))))))
   refine z0a (zb rfl (z0G h4 (z4g a0 w77) rfl rfl (by simp [z4g]) fun s o2 h5 hr2 => ?_))
   obtain ⟨w105, w106, w107, w108⟩ := s
   simp only [z4h] at h5
   simp only [z4g]
   refine zq rfl (zr rfl rfl rfl (by simp; rfl) ?_)
   refine z0a (zq rfl ?_)
   by_cases c158 : w105 < a0.letters
   ·rw [if_pos c158] at h5
    refine z0n rfl (by simp [c158]) (z0e rfl (z0a (zq rfl (zb rfl (zq rfl (zr rfl rfl rfl (by simp; rfl) ?_))))))
    refine z0a (zq rfl ?_)
    obtain ⟨v114, f159, h6⟩ := z0T h5
    obtain ⟨v115, f160, h7⟩ := z0b h6
    have f160k := z7L f160
    try simp at f160k
    refine z1B rfl rfl rfl rfl ?_; repeat' ((first | refine z0z rfl rfl fun Q' hQ => ?_ | refine z0s rfl fun Q' hQ => ?_); simp [f159, f160k]; refine hQ.out _ ?_; clear hQ; clear Q')
    refine z0a (zq rfl ?_)
    obtain ⟨v116, f161, h8⟩ := z0T h7
    refine zr rfl rfl rfl (by simp [f161]; rfl) ?_
    refine z0a ?_
    by_cases c162 : v116 = true
    ·rw [if_pos c162] at h8
     refine z0l rfl (by simp [c162]) (z0e rfl (z0h (z0a (zr rfl rfl rfl (by simp; rfl) ?_))))
     have ho := z0c h8
     refine z0g ho ?_
     simp [z4g, c162]
    ·rw [if_neg c162] at h8
     refine z0n rfl (by simp [c162]) (zq rfl (zr rfl rfl rfl (by simp [f161]; rfl) ?_))
     refine z0a (zq rfl ?_)
     obtain ⟨f163, h9⟩ := zcR h8
     refine zr rfl rfl rfl (by simp [f163]; rfl) ?_
     refine z0a ?_
     obtain ⟨v118, f164, h10⟩ := z0T h9
     obtain ⟨f165, h11⟩ := z1O h10
     obtain ⟨f166, h12⟩ := zcR h11
     refine z1B rfl rfl rfl rfl ?_; repeat' ((first | refine z0z rfl rfl fun Q' hQ => ?_ | refine z0s rfl fun Q' hQ => ?_); simp [f164, f165, f166]; refine hQ.out _ ?_; clear hQ; clear Q')
     refine z0h (z0a (zr rfl rfl rfl (by simp; rfl) ?_))
     have ho := z0c h12
     refine z0g ho ?_
     simp [z4g, c162]
   ·rw [if_neg c158] at h5
    refine z0l rfl (by simp [c158]) (z1b rfl (z0x ?_))
    obtain ⟨rr2, h6, ho2⟩ := z0f h5
    have hs2 := hr2 _ ho2
    subst hs2
    refine z0o ho2 (z0d rfl (z0h (z0a (zr rfl rfl rfl (by simp; rfl) ?_))))
    have ho := z0c h6
    refine z0g ho ?_
    simp [z5h]
  ·rw [if_neg c139] at h4
   refine z0l rfl (by simp [c139]) (z1b rfl (z0x ?_))
   obtain ⟨rr1, h5, ho1⟩ := z0f h4
   have hs1 := hr1 _ ho1
   subst hs1
   refine z0o ho1 (z0d rfl (z0a (zq rfl (zr rfl rfl rfl (by simp; rfl) ?_))))
   refine z0a (z0F rfl ?_)
   cases h5
   simp
def z4G (a0 : DFA) (w53 : Int) : Int × List Int × List ByteArray × (List (Int × Bool)) -> Option ((Int × List Int × List ByteArray × (List (Int × Bool))) ⊕ ((Int × List Int × List ByteArray × (List (Int × Bool))) ⊕ (List Int × List ByteArray)))
  | (w73, w74, w75, w76) =>
  if w73 < a0.letters then
    (atI w74 w53).bind fun v80 =>
    (z4U a0 v80 w73).bind fun v81 =>
    if ((zep v81 w76).getD false) = true then
      z0B (IntKind.i64.wrap (w73 + 1), w74, w75, w76)
    else
      (atI w75 w53).bind fun v82 =>
      chk (z5B 8 (w74.length + 1)) <|
      chk (zcQ v82 ⟨#[UInt8.ofNat (IntKind.u8.wrap (IntKind.i64.wrap (97 + w73))).toNat]⟩) <|
      chk (z5B 16 (w75.length + 1)) <|
      z0B (IntKind.i64.wrap (w73 + 1), w74 ++ [v81], w75 ++ [v82 ++ ⟨#[UInt8.ofNat (IntKind.u8.wrap (IntKind.i64.wrap (97 + w73))).toNat]⟩], zgo v81 true w76)
  else
    z1i <|
    z0B (IntKind.i64.wrap (w53 + 1), w74, w75, w76)
def z4F (a0 : DFA) (w53 : Int) : Int × List Int × List ByteArray × (List (Int × Bool)) -> Fr
  | (w73, w74, w75, w76) => ⟨62, [(2, .one (.a 2 [] (0))), (6, .one (.h 6 [])), (7, .one (.h 7 [])), (8, .one (.h 8 [])), (9, .one (.t none (.sc (.int .i64 w53)))), (10, .one (.t none (.sc (.int .i64 w73))))], [(2, .vr [.sc (.int .i64 a0.letters), .sc (.int .i64 a0.start), .sl a0.final.length (a0.final.map fun x0 => .sc (.bool x0)), .sl a0.next.length (a0.next.map fun x0 => .sl x0.length (x0.map fun x1 => .sc (.int .i64 x1)))]), (6, .os 1 w74.length (w74.map fun x0 => .sc (.int .i64 x0))), (7, .os 1 w75.length (w75.map fun x0 => .sc (.string x0))), (8, .mp (some .i64) (w76.map fun x0 => (.int .i64 x0.1, .bool x0.2)))]⟩
def z7G (a0 : DFA) : Int × List Int × List ByteArray × (List (Int × Bool)) -> Option ((Int × List Int × List ByteArray × (List (Int × Bool))) ⊕ (List Int × List ByteArray))
  | (w53, w54, w55, w56) =>
  if w53 < (w54.length : Int) then
    z0Z (z4G a0 w53) LFm (0, w54, w55, w56)
  else
    z1i <|
    some (w54, w55)
def z5J (a0 : DFA) : Int × List Int × List ByteArray × (List (Int × Bool)) -> Fr
  | (w53, w54, w55, w56) => ⟨62, [(2, .one (.a 2 [] (0))), (6, .one (.h 6 [])), (7, .one (.h 7 [])), (8, .one (.h 8 [])), (9, .one (.t none (.sc (.int .i64 w53))))], [(2, .vr [.sc (.int .i64 a0.letters), .sc (.int .i64 a0.start), .sl a0.final.length (a0.final.map fun x0 => .sc (.bool x0)), .sl a0.next.length (a0.next.map fun x0 => .sl x0.length (x0.map fun x1 => .sc (.int .i64 x1)))]), (6, .os 1 w54.length (w54.map fun x0 => .sc (.int .i64 x0))), (7, .os 1 w55.length (w55.map fun x0 => .sc (.string x0))), (8, .mp (some .i64) (w56.map fun x0 => (.int .i64 x0.1, .bool x0.2)))]⟩
def z3L (a0 : DFA) (a1 : Int) : Option (List Int × List ByteArray) :=
  z0Z (z7G a0) LFm (0, [a1], [ByteArray.empty], zgo a1 true ([] : List (Int × Bool)))
theorem z4E {a0 : DFA} {a1 : Int} {r : List Int × List ByteArray} (h0 : z3L a0 a1 = some r) : L 43 [.agg [.sc (.int .i64 a0.letters), .sc (.int .i64 a0.start), .sl a0.final.length (a0.final.map fun x0 => .sc (.bool x0)), .sl a0.next.length (a0.next.map fun x0 => .sl x0.length (x0.map fun x1 => .sc (.int .i64 x1)))], .sc (.int .i64 a1)] = some (.tup [.os 1 r.1.length (r.1.map fun x0 => .sc (.int .i64 x0)), .os 1 r.2.length (r.2.map fun x0 => .sc (.string x0))], [.dead, .dead]) := by
  simp only [z3L] at h0
  refine z2B zvf zwE (z1v zyw ⟨of_decide_eq_true rfl, of_decide_eq_true rfl⟩ ?_)
  simp only [z1D, z1A, z1z, z1F, z3d]
  refine zq rfl (zr rfl rfl rfl (by simp; rfl) ?_)
  refine z0a (zq rfl (zr rfl rfl rfl (by simp; rfl) ?_))
  refine z0a (zq rfl (zr rfl rfl rfl (by simp; rfl) ?_))
  refine z0a (zq rfl (zq rfl (zr rfl rfl rfl (by simp; rfl) ?_)))
  refine z0a (zb rfl (z0G h0 (z5J a0) rfl rfl (by simp [z5J]) fun s o1 h1 hr1 => ?_))
  obtain ⟨w53, w54, w55, w56⟩ := s
  simp only [z7G] at h1
  simp only [z5J]
  refine zq rfl (zq rfl (zr rfl rfl rfl (by simp; rfl) ?_))
  refine z0a ?_
  by_cases c118 : w53 < (w54.length : Int)
  ·rw [if_pos c118] at h1
   refine z0n rfl (by simp [c118]) (z0e rfl (z0a (zq rfl (zb rfl (zq rfl (zr rfl rfl rfl (by simp; rfl) ?_))))))
   refine z0a (zb rfl (z0G h1 (z4F a0 w53) rfl rfl (by simp [z4F]) fun s o2 h2 hr2 => ?_))
   obtain ⟨w73, w74, w75, w76⟩ := s
   simp only [z4G] at h2
   simp only [z4F]
   refine zq rfl (zq rfl (zr rfl rfl rfl (by simp; rfl) ?_))
   refine z0a ?_
   by_cases c135 : w73 < a0.letters
   ·rw [if_pos c135] at h2
    refine z0n rfl (by simp [c135]) (z0e rfl (z0a (zq rfl (zb rfl (zq rfl ?_)))))
    obtain ⟨v80, f136, h3⟩ := z0T h2
    obtain ⟨v81, f137, h4⟩ := z0b h3
    have f137k := z8X f137
    try simp at f137k
    refine z1B rfl rfl rfl rfl ?_; repeat' ((first | refine z0z rfl rfl fun Q' hQ => ?_ | refine z0s rfl fun Q' hQ => ?_); simp [f136, f137k]; refine hQ.out _ ?_; clear hQ; clear Q')
    refine z0a (zq rfl (zr rfl rfl rfl (by simp; rfl) ?_))
    refine z0a ?_
    by_cases c138 : ((zep v81 w76).getD false) = true
    ·rw [if_pos c138] at h4
     refine z0l rfl (by simp [c138]) (z0e rfl (z0h (z0a (zr rfl rfl rfl (by simp; rfl) ?_))))
     have ho := z0c h4
     refine z0g ho ?_
     simp [z4F, c138]
    ·rw [if_neg c138] at h4
     refine z0n rfl (by simp [c138]) (zq rfl (zr rfl rfl rfl (by simp; rfl) ?_))
     refine z0a ?_
     obtain ⟨v82, f139, h5⟩ := z0T h4
     obtain ⟨f140, h6⟩ := zcR h5
     obtain ⟨f141, h7⟩ := z1O h6
     obtain ⟨f142, h8⟩ := zcR h7
     refine zic rfl rfl rfl rfl ?_
     refine z1J rfl rfl (by simp [z0j, z0i, f139, f140, f141, f142]; rfl) ?_
     refine z1J rfl rfl (by simp [z0j, z0i, f139, f140, f141, f142]; rfl) ?_
     refine z1J rfl rfl (by simp [z0j, z0i, f139, f140, f141, f142]; rfl) ?_
     refine z1J rfl rfl (by simp [z0j, z0i, f139, f140, f141, f142]; rfl) ?_
     refine z1J rfl rfl (by simp [z0j, z0i, f139, f140, f141, f142]; rfl) ?_
     refine z1J rfl rfl (by simp [z0j, z0i, f139, f140, f141, f142]; rfl) ?_
     refine z1J rfl rfl (by simp [z0j, z0i, f139, f140, f141, f142]; rfl) ?_
     refine z1J rfl rfl (by simp [z0j, z0i, f139, f140, f141, f142]; rfl) ?_
     refine z1J rfl rfl (by simp [z0j, z0i, f139, f140, f141, f142]; rfl) ?_
     refine z1J rfl rfl (by simp [z0j, z0i, f139, f140, f141, f142]; rfl) ?_
     refine z7F ?_
     refine z1J rfl rfl (by simp [z0j, z0i, f139, f140, f141, f142]; rfl) ?_
     refine z7F ?_
     refine z1J rfl rfl (by simp [z0j, z0i, f139, f140, f141, f142]; rfl) ?_
     refine z1J rfl rfl (by simp [z0j, z0i, f139, f140, f141, f142]; rfl) ?_
     refine z1J rfl rfl (by simp [z0j, z0i, f139, f140, f141, f142]; rfl) ?_
     refine z1J rfl rfl (by simp [z0j, z0i, f139, f140, f141, f142]; rfl) ?_
     refine z1J rfl rfl (by simp [z0j, z0i, f139, f140, f141, f142]; rfl) ?_
     refine z1J rfl rfl (by simp [z0j, z0i, f139, f140, f141, f142]; rfl) ?_
     refine z1J rfl rfl (by simp [z0j, z0i, f139, f140, f141, f142]; rfl) ?_
     refine z1J rfl rfl (by simp [z0j, z0i, f139, f140, f141, f142]; rfl) ?_
     refine z8G ?_
     refine ⟨?_, ?_⟩
     ·refine z1J rfl rfl (by simp [z0j, z0i, f139, f140, f141, f142]; rfl) ?_
      refine z1J rfl rfl (by simp [z0j, z0i, f139, f140, f141, f142]; rfl) ?_
      refine z1J rfl rfl (by simp [z0j, z0i, f139, f140, f141, f142]; rfl) ?_
      refine z7F ?_
      refine z1J rfl rfl (by simp [z0j, z0i, f139, f140, f141, f142]; rfl) ?_
      refine z1J rfl rfl (by simp [z0j, z0i, f139, f140, f141, f142]; rfl) ?_
      refine z1J rfl rfl (by simp [z0j, z0i, f139, f140, f141, f142]; rfl) ?_
      refine z1J rfl rfl (by simp [z0j, z0i, f139, f140, f141, f142]; rfl) ?_
      refine z1J rfl rfl (by simp [z0j, z0i, f139, f140, f141, f142]; rfl) ?_
      refine z8G ?_
      refine ⟨?_, ?_⟩
      ·refine z1J rfl rfl (by simp [z0j, z0i, f139, f140, f141, f142]; rfl) ?_
       refine z1J rfl rfl (by simp [z0j, z0i, f139, f140, f141, f142]; rfl) ?_
       refine z1J rfl rfl (by simp [z0j, z0i, f139, f140, f141, f142]; rfl) ?_
       refine z1J rfl rfl (by simp [z0j, z0i, f139, f140, f141, f142]; rfl) ?_
       refine z1J rfl rfl (by simp [z0j, z0i, f139, f140, f141, f142]; rfl) ?_
       refine z8G ?_
       simp [z8L, f139, f140, f141, f142]
      simp [z8L, f139, f140, f141, f142]
     refine ⟨?_, ?_⟩
     ·refine z1J rfl rfl (by simp [z0j, z0i, f139, f140, f141, f142]; rfl) ?_
      refine z1J rfl rfl (by simp [z0j, z0i, f139, f140, f141, f142]; rfl) ?_
      refine z1J rfl rfl (by simp [z0j, z0i, f139, f140, f141, f142]; rfl) ?_
      refine z7F ?_
      refine z1J rfl rfl (by simp [z0j, z0i, f139, f140, f141, f142]; rfl) ?_
      refine z7F ?_
      refine z1J rfl rfl (by simp [z0j, z0i, f139, f140, f141, f142]; rfl) ?_
      refine z1J rfl rfl (by simp [z0j, z0i, f139, f140, f141, f142]; rfl) ?_
      refine z1J rfl rfl (by simp [z0j, z0i, f139, f140, f141, f142]; rfl) ?_
      refine z1J rfl rfl (by simp [z0j, z0i, f139, f140, f141, f142]; rfl) ?_
      refine z1J rfl rfl (by simp [z0j, z0i, f139, f140, f141, f142]; rfl) ?_
      refine z8G ?_
      refine ⟨?_, ?_⟩
      ·refine z1J rfl rfl (by simp [z0j, z0i, f139, f140, f141, f142]; rfl) ?_
       refine z1J rfl rfl (by simp [z0j, z0i, f139, f140, f141, f142]; rfl) ?_
       refine z1J rfl rfl (by simp [z0j, z0i, f139, f140, f141, f142]; rfl) ?_
       refine z1J rfl rfl (by simp [z0j, z0i, f139, f140, f141, f142]; rfl) ?_
       refine z1J rfl rfl (by simp [z0j, z0i, f139, f140, f141, f142]; rfl) ?_
       refine z8G ?_
       simp [z8L, f139, f140, f141, f142]
      refine ⟨?_, ?_⟩
      ·refine z1J rfl rfl (by simp [z0j, z0i, f139, f140, f141, f142]; rfl) ?_
       refine z1J rfl rfl (by simp [z0j, z0i, f139, f140, f141, f142]; rfl) ?_
       refine z1J rfl rfl (by simp [z0j, z0i, f139, f140, f141, f142]; rfl) ?_
       refine z1J rfl rfl (by simp [z0j, z0i, f139, f140, f141, f142]; rfl) ?_
       refine z1J rfl rfl (by simp [z0j, z0i, f139, f140, f141, f142]; rfl) ?_
       refine z1J rfl rfl (by simp [z0j, z0i, f139, f140, f141, f142]; rfl) ?_
       refine z8G ?_
       simp [z8L, f139, f140, f141, f142]
      simp [z8L, f139, f140, f141, f142]
     refine zhS rfl (by simp [f139, f140, f141, f142]; rfl) ?_
     refine z0h (z0a (zr rfl rfl rfl (by simp; rfl) ?_))
     have ho := z0c h8
     refine z0g ho ?_
     simp [z4F, c138]
   ·rw [if_neg c135] at h2
    refine z0l rfl (by simp [c135]) (z1b rfl (z0x ?_))
    obtain ⟨rr2, h3, ho2⟩ := z0f h2
    have hs2 := hr2 _ ho2
    subst hs2
    refine z0o ho2 (z0d rfl (z0h (z0a (zr rfl rfl rfl (by simp; rfl) ?_))))
    have ho := z0c h3
    refine z0g ho ?_
    simp [z5J]
  ·rw [if_neg c118] at h1
   refine z0l rfl (by simp [c118]) (z1b rfl (z0x ?_))
   obtain ⟨rr1, h2, ho1⟩ := z0f h1
   have hs1 := hr1 _ ho1
   subst hs1
   refine z0o ho1 (z0d rfl (z0a (zq rfl (zr rfl rfl rfl (by simp; rfl) ?_))))
   refine z0a (z0F rfl ?_)
   cases h2
   simp
def z4k (a1 : Int) (v18 : List Int × List ByteArray) : Int -> Option (Int ⊕ (ByteArray × Bool × Int))
  | w22 =>
  if w22 < (v18.1.length : Int) then
    (atI v18.1 w22).bind fun v26 =>
    (z2M v26 a1).bind fun v27 =>
    if v27 = true then
      (atI v18.2 w22).bind fun v28 =>
      z1i <|
      some (v28, true, 0)
    else
      z0B (IntKind.i64.wrap (w22 + 1))
  else
    z1i <|
    some (ByteArray.empty, false, 0)
def z5k (a1 : Int) (v18 : List Int × List ByteArray) : Int -> Fr
  | w22 => ⟨50, [(1, .one (.t none (.sc (.int .i64 a1)))), (11, .one (.h 11 [])), (35, .one (.h 10 [])), (36, .one (.t none (.sc (.int .i64 (v18.1.length : Int))))), (37, .one (.t none (.sc (.int .i64 w22))))], [(11, .os 1 v18.2.length (v18.2.map fun x0 => .sc (.string x0))), (10, .os 1 v18.1.length (v18.1.map fun x0 => .sc (.int .i64 x0)))]⟩
def z3r (a0 : DFA) (a1 : Int) (a2 : Int) : Option (ByteArray × Bool × Int) :=
  (z3e a0).bind fun v15 =>
  if v15 = 0 then
    (z4i a0 a1).bind fun v16 =>
    if v16 = true then
      (z4i a0 a2).bind fun v17 =>
      if v17 = true then
        (z4W a0 a2).bind fun v18 =>
        z0Z (z4k a1 v18) LFm 0
      else
        some (ByteArray.empty, false, 1)
    else
      some (ByteArray.empty, false, 1)
  else
    some (ByteArray.empty, false, v15)
theorem z9g {a0 : DFA} {a1 : Int} {a2 : Int} {r : ByteArray × Bool × Int} (h0 : z3r a0 a1 a2 = some r) : L 25 [.agg [.sc (.int .i64 a0.letters), .sc (.int .i64 a0.start), .sl a0.final.length (a0.final.map fun x0 => .sc (.bool x0)), .sl a0.next.length (a0.next.map fun x0 => .sl x0.length (x0.map fun x1 => .sc (.int .i64 x1)))], .sc (.int .i64 a1), .sc (.int .i64 a2)] = some (.tup [.sc (.string r.1), .sc (.bool r.2.1), .sc (.int .i64 r.2.2)], [.dead, .dead, .dead]) := by
  simp only [z3r] at h0
  refine z2B zvs zwS (z1v zyK ⟨of_decide_eq_true rfl, of_decide_eq_true rfl⟩ ?_)
  simp only [z1D, z1A, z1z, z1F, z3d]
  refine zq rfl (zr rfl rfl rfl (by simp; rfl) ?_)
  refine z0a (zq rfl (zq rfl ?_))
  obtain ⟨v15, f23, h1⟩ := z0b h0
  have f23k := z5g f23
  try simp at f23k
  refine zr rfl rfl rfl (by simp [f23k]; rfl) ?_
  refine z0a (zq rfl (zr rfl rfl rfl (by simp; rfl) ?_))
  refine z0a ?_
  by_cases c24 : v15 = 0
  ·rw [if_pos c24] at h1
   have c24e := eq_true c24
   refine z0l rfl (by simp [c24e]) (z0e rfl (z0a (zq rfl (zq rfl ?_))))
   obtain ⟨v16, f25, h2⟩ := z0b h1
   have f25k := z7f f25
   try simp at f25k
   by_cases c26 : v16 = true
   ·rw [if_pos c26] at h2
    obtain ⟨v17, f27, h3⟩ := z0b h2
    have f27k := z7f f27
    try simp at f27k
    refine zr rfl rfl rfl (by simp [f25k, c26, f27k]; rfl) ?_
    refine z0a ?_
    by_cases c28 : v17 = true
    ·rw [if_pos c28] at h3
     refine z0l rfl (by simp [c28]) (z0e rfl (z0a (zq rfl ?_)))
     obtain ⟨v18, f29, h4⟩ := z0b h3
     have f29k := z9d f29
     try simp at f29k
     refine zr rfl rfl rfl (by simp [f29k]; rfl) ?_
     refine z0a (zq rfl (zq rfl (zr rfl rfl rfl (by simp; rfl) ?_)))
     refine z0a (zb rfl (z0G h4 (z5k a1 v18) rfl rfl (by simp [z5k]) fun s o1 h5 hr1 => ?_))
     obtain ⟨w22, hs1⟩ : ∃ y, y = s := ⟨_, rfl⟩
     subst hs1
     simp only [z4k] at h5
     simp only [z5k]
     refine zq rfl (zr rfl rfl rfl (by simp; rfl) ?_)
     refine z0a (zq rfl ?_)
     by_cases c40 : w22 < (v18.1.length : Int)
     ·rw [if_pos c40] at h5
      refine z0n rfl (by simp [c40]) (z0e rfl (z0a (zq rfl (zb rfl (zq rfl ?_)))))
      obtain ⟨v26, f41, h6⟩ := z0T h5
      refine zr rfl rfl rfl (by simp [f41]; rfl) ?_
      refine z0a (zq rfl ?_)
      obtain ⟨v27, f42, h7⟩ := z0b h6
      have f42k := z3Z f42
      try simp at f42k
      refine zr rfl rfl rfl (by simp [f42k]; rfl) ?_
      refine z0a ?_
      by_cases c43 : v27 = true
      ·rw [if_pos c43] at h7
       refine z0n rfl (by simp [c43]) (zq rfl ?_)
       obtain ⟨v28, f44, h8⟩ := z0T h7
       refine zr rfl rfl rfl (by simp [f44]; rfl) ?_
       refine z0a (z0F rfl (z1o (z0p ?_)))
       obtain ⟨rr1, h9, ho1⟩ := z0f h8
       have hs1 := hr1 _ ho1
       subst hs1
       refine z2q ho1 (z1o (z0p ?_))
       cases h9
       simp [c43]
      ·rw [if_neg c43] at h7
       refine z0l rfl (by simp [c43]) (z0e rfl (z0h (z0a (zr rfl rfl rfl (by simp; rfl) ?_))))
       have ho := z0c h7
       refine z0g ho ?_
       simp [z5k, c43]
     ·rw [if_neg c40] at h5
      refine z0l rfl (by simp [c40]) (z1b rfl (z0x ?_))
      obtain ⟨rr1, h6, ho1⟩ := z0f h5
      have hs1 := hr1 _ ho1
      subst hs1
      refine z0o ho1 (z0d rfl (z0a (zq rfl (zr rfl rfl rfl (by simp; rfl) ?_))))
      refine z0a (z0F rfl ?_)
      cases h6
      simp
    ·rw [if_neg c28] at h3
     refine z0n rfl (by simp [c28]) (zq rfl (zr rfl rfl rfl (by simp; rfl) ?_))
     refine z0a (z0F rfl (z0p ?_))
     cases h3
     simp [c26, c28]
   ·rw [if_neg c26] at h2
    refine zr rfl rfl rfl (by simp [f25k, c26]; rfl) ?_
    refine z0a (z0n rfl (by simp) (zq rfl (zr rfl rfl rfl (by simp; rfl) ?_)))
    refine z0a (z0F rfl (z0p ?_))
    cases h2
    simp [c26]
  ·rw [if_neg c24] at h1
   have c24e := eq_false c24
   refine z0n rfl (by simp [c24e]) (zq rfl (zr rfl rfl rfl (by simp; rfl) ?_))
   refine z0a (z0F rfl (z0p ?_))
   cases h1
   simp
def z4H (a1 : Int) (v15 : List Int × List ByteArray) : Int -> Option (Int ⊕ (ByteArray × Bool × Int))
  | w18 =>
  if w18 < (v15.1.length : Int) then
    (atI v15.1 w18).bind fun v21 =>
    if (z2r .i64 a1 v21) = a1 then
      (atI v15.2 w18).bind fun v22 =>
      z1i <|
      some (v22, true, 0)
    else
      z0B (IntKind.i64.wrap (w18 + 1))
  else
    z1i <|
    some (ByteArray.empty, false, 0)
def z5K (a1 : Int) (v15 : List Int × List ByteArray) : Int -> Fr
  | w18 => ⟨52, [(1, .one (.t none (.sc (.int .i64 a1)))), (11, .one (.h 11 [])), (35, .one (.h 10 [])), (36, .one (.t none (.sc (.int .i64 (v15.1.length : Int))))), (37, .one (.t none (.sc (.int .i64 w18))))], [(11, .os 1 v15.2.length (v15.2.map fun x0 => .sc (.string x0))), (10, .os 1 v15.1.length (v15.1.map fun x0 => .sc (.int .i64 x0)))]⟩
def z3M (a0 : DFA) (a1 : Int) (a2 : Int) : Option (ByteArray × Bool × Int) :=
  (z5d a0).bind fun v12 =>
  if v12 = 0 then
    (z4O a0 a1).bind fun v13 =>
    if v13 = true then
      (z4O a0 a2).bind fun v14 =>
      if v14 = true then
        (z3L a0 a2).bind fun v15 =>
        z0Z (z4H a1 v15) LFm 0
      else
        some (ByteArray.empty, false, 1)
    else
      some (ByteArray.empty, false, 1)
  else
    some (ByteArray.empty, false, v12)
theorem za5 {a0 : DFA} {a1 : Int} {a2 : Int} {r : ByteArray × Bool × Int} (h0 : z3M a0 a1 a2 = some r) : L 26 [.agg [.sc (.int .i64 a0.letters), .sc (.int .i64 a0.start), .sl a0.final.length (a0.final.map fun x0 => .sc (.bool x0)), .sl a0.next.length (a0.next.map fun x0 => .sl x0.length (x0.map fun x1 => .sc (.int .i64 x1)))], .sc (.int .i64 a1), .sc (.int .i64 a2)] = some (.tup [.sc (.string r.1), .sc (.bool r.2.1), .sc (.int .i64 r.2.2)], [.dead, .dead, .dead]) := by
  simp only [z3M] at h0
  refine z2B zvr zwR (z1v zyJ ⟨of_decide_eq_true rfl, of_decide_eq_true rfl⟩ ?_)
  simp only [z1D, z1A, z1z, z1F, z3d]
  refine zq rfl (zr rfl rfl rfl (by simp; rfl) ?_)
  refine z0a (zq rfl (zq rfl ?_))
  obtain ⟨v12, f20, h1⟩ := z0b h0
  have f20k := z7A f20
  try simp at f20k
  refine zr rfl rfl rfl (by simp [f20k]; rfl) ?_
  refine z0a (zq rfl (zr rfl rfl rfl (by simp; rfl) ?_))
  refine z0a ?_
  by_cases c21 : v12 = 0
  ·rw [if_pos c21] at h1
   have c21e := eq_true c21
   refine z0l rfl (by simp [c21e]) (z0e rfl (z0a (zq rfl (zq rfl ?_))))
   obtain ⟨v13, f22, h2⟩ := z0b h1
   have f22k := z7H f22
   try simp at f22k
   by_cases c23 : v13 = true
   ·rw [if_pos c23] at h2
    obtain ⟨v14, f24, h3⟩ := z0b h2
    have f24k := z7H f24
    try simp at f24k
    refine zr rfl rfl rfl (by simp [f22k, c23, f24k]; rfl) ?_
    refine z0a ?_
    by_cases c25 : v14 = true
    ·rw [if_pos c25] at h3
     refine z0l rfl (by simp [c25]) (z0e rfl (z0a (zq rfl ?_)))
     obtain ⟨v15, f26, h4⟩ := z0b h3
     have f26k := z4E f26
     try simp at f26k
     refine zr rfl rfl rfl (by simp [f26k]; rfl) ?_
     refine z0a (zq rfl (zq rfl (zr rfl rfl rfl (by simp; rfl) ?_)))
     refine z0a (zb rfl (z0G h4 (z5K a1 v15) rfl rfl (by simp [z5K]) fun s o1 h5 hr1 => ?_))
     obtain ⟨w18, hs1⟩ : ∃ y, y = s := ⟨_, rfl⟩
     subst hs1
     simp only [z4H] at h5
     simp only [z5K]
     refine zq rfl (zr rfl rfl rfl (by simp; rfl) ?_)
     refine z0a (zq rfl ?_)
     by_cases c35 : w18 < (v15.1.length : Int)
     ·rw [if_pos c35] at h5
      refine z0n rfl (by simp [c35]) (z0e rfl (z0a (zq rfl (zb rfl (zq rfl ?_)))))
      obtain ⟨v21, f36, h6⟩ := z0T h5
      refine zr rfl rfl rfl (by simp [f36]; rfl) ?_
      refine z0a (zq rfl (zr rfl rfl rfl (by simp; rfl) ?_))
      refine z0a ?_
      by_cases c37 : (z2r .i64 a1 v21) = a1
      ·rw [if_pos c37] at h6
       have c37e := eq_true c37
       refine z0n rfl (by simp [c37e]) (zq rfl ?_)
       obtain ⟨v22, f38, h7⟩ := z0T h6
       refine zr rfl rfl rfl (by simp [f38]; rfl) ?_
       refine z0a (z0F rfl (z1o (z0p ?_)))
       obtain ⟨rr1, h8, ho1⟩ := z0f h7
       have hs1 := hr1 _ ho1
       subst hs1
       refine z2q ho1 (z1o (z0p ?_))
       cases h8
       simp
      ·rw [if_neg c37] at h6
       have c37e := eq_false c37
       refine z0l rfl (by simp [c37e]) (z0e rfl (z0h (z0a (zr rfl rfl rfl (by simp; rfl) ?_))))
       have ho := z0c h6
       refine z0g ho ?_
       simp [z5K]
     ·rw [if_neg c35] at h5
      refine z0l rfl (by simp [c35]) (z1b rfl (z0x ?_))
      obtain ⟨rr1, h6, ho1⟩ := z0f h5
      have hs1 := hr1 _ ho1
      subst hs1
      refine z0o ho1 (z0d rfl (z0a (zq rfl (zr rfl rfl rfl (by simp; rfl) ?_))))
      refine z0a (z0F rfl ?_)
      cases h6
      simp
    ·rw [if_neg c25] at h3
     refine z0n rfl (by simp [c25]) (zq rfl (zr rfl rfl rfl (by simp; rfl) ?_))
     refine z0a (z0F rfl (z0p ?_))
     cases h3
     simp [c23, c25]
   ·rw [if_neg c23] at h2
    refine zr rfl rfl rfl (by simp [f22k, c23]; rfl) ?_
    refine z0a (z0n rfl (by simp) (zq rfl (zr rfl rfl rfl (by simp; rfl) ?_)))
    refine z0a (z0F rfl (z0p ?_))
    cases h2
    simp [c23]
  ·rw [if_neg c21] at h1
   have c21e := eq_false c21
   refine z0n rfl (by simp [c21e]) (zq rfl (zr rfl rfl rfl (by simp; rfl) ?_))
   refine z0a (z0F rfl (z0p ?_))
   cases h1
   simp
def zaZ : Int × Int -> Option ((Int × Int) ⊕ Int)
  | (w3, w4) =>
  if 0 < w3 then
    chk (¬ 1 < 0) <|
    z0B (z1c .i64 w3 1, IntKind.i64.wrap (w4 + (z2r .i64 w3 1)))
  else
    z1i <|
    some w4
def z6x : Int × Int -> Fr
  | (w3, w4) => ⟨13, [(0, .one (.t none (.sc (.int .i64 w3)))), (3, .one (.t none (.sc (.int .i64 w4))))], []⟩
def z4q (a0 : Int) : Option (Int) :=
  z0Z (zaZ) LFm (a0, 0)
theorem z4p {a0 : Int} {r : Int} (h0 : z4q a0 = some r) : L 18 [.sc (.int .i64 a0)] = some (.sc (.int .i64 r), [.dead]) := by
  simp only [z4q] at h0
  refine z2B zvw zwW (z1v zyO ⟨of_decide_eq_true rfl, of_decide_eq_true rfl⟩ ?_)
  simp only [z1D, z1A, z1z, z1F, z3d]
  refine zq rfl (zr rfl rfl rfl (by simp; rfl) ?_)
  refine z0a (zq rfl (zr rfl rfl rfl (by simp; rfl) ?_))
  refine z0a (zq rfl (zb rfl (z0G h0 z6x rfl rfl (by simp [z6x]) fun s o1 h1 hr1 => ?_)))
  obtain ⟨w3, w4⟩ := s
  simp only [zaZ] at h1
  simp only [z6x]
  refine zq rfl (zq rfl (zr rfl rfl rfl (by simp; rfl) ?_))
  refine z0a ?_
  by_cases c11 : 0 < w3
  ·rw [if_pos c11] at h1
   refine z0n rfl (by simp [c11]) (z0e rfl (z0a (zq rfl (zb rfl (zr rfl rfl rfl (by simp; rfl) ?_)))))
   refine z0h (z0a ?_)
   obtain ⟨f12, h2⟩ := z1O h1
   refine zr rfl rfl rfl (by simp [f12]; rfl) ?_
   have ho := z0c h2
   refine z0g ho ?_
   simp [z6x]
  ·rw [if_neg c11] at h1
   refine z0l rfl (by simp [c11]) (z1b rfl (z0x ?_))
   obtain ⟨rr1, h2, ho1⟩ := z0f h1
   have hs1 := hr1 _ ho1
   subst hs1
   refine z0o ho1 (z0d rfl (z0a (zq rfl (zr rfl rfl rfl (by simp; rfl) ?_))))
   refine z0a (z0F rfl ?_)
   cases h2
   simp
def z2H (a0 : Int) : Option (Int) :=
  chk (¬ 1 < 0) <|
  chk (¬ 2 < 0) <|
  chk (¬ 4 < 0) <|
  chk (¬ 8 < 0) <|
  chk (¬ 16 < 0) <|
  chk (¬ 32 < 0) <|
  some (z2r .i64 (IntKind.i64.wrap (IntKind.u64.wrap ((IntKind.u64.wrap ((IntKind.u64.wrap ((z2r .u64 (IntKind.u64.wrap ((z1c .u64 (IntKind.u64.wrap ((z2r .u64 (z1c .u64 (IntKind.u64.wrap ((z2r .u64 (z1c .u64 a0 1) 6148914691236517205) + (z2r .u64 a0 6148914691236517205))) 2) 3689348814741910323) + (z2r .u64 (IntKind.u64.wrap ((z2r .u64 (z1c .u64 a0 1) 6148914691236517205) + (z2r .u64 a0 6148914691236517205))) 3689348814741910323))) 4) + (IntKind.u64.wrap ((z2r .u64 (z1c .u64 (IntKind.u64.wrap ((z2r .u64 (z1c .u64 a0 1) 6148914691236517205) + (z2r .u64 a0 6148914691236517205))) 2) 3689348814741910323) + (z2r .u64 (IntKind.u64.wrap ((z2r .u64 (z1c .u64 a0 1) 6148914691236517205) + (z2r .u64 a0 6148914691236517205))) 3689348814741910323))))) 1085102592571150095) + (z1c .u64 (z2r .u64 (IntKind.u64.wrap ((z1c .u64 (IntKind.u64.wrap ((z2r .u64 (z1c .u64 (IntKind.u64.wrap ((z2r .u64 (z1c .u64 a0 1) 6148914691236517205) + (z2r .u64 a0 6148914691236517205))) 2) 3689348814741910323) + (z2r .u64 (IntKind.u64.wrap ((z2r .u64 (z1c .u64 a0 1) 6148914691236517205) + (z2r .u64 a0 6148914691236517205))) 3689348814741910323))) 4) + (IntKind.u64.wrap ((z2r .u64 (z1c .u64 (IntKind.u64.wrap ((z2r .u64 (z1c .u64 a0 1) 6148914691236517205) + (z2r .u64 a0 6148914691236517205))) 2) 3689348814741910323) + (z2r .u64 (IntKind.u64.wrap ((z2r .u64 (z1c .u64 a0 1) 6148914691236517205) + (z2r .u64 a0 6148914691236517205))) 3689348814741910323))))) 1085102592571150095) 8))) + (z1c .u64 (IntKind.u64.wrap ((z2r .u64 (IntKind.u64.wrap ((z1c .u64 (IntKind.u64.wrap ((z2r .u64 (z1c .u64 (IntKind.u64.wrap ((z2r .u64 (z1c .u64 a0 1) 6148914691236517205) + (z2r .u64 a0 6148914691236517205))) 2) 3689348814741910323) + (z2r .u64 (IntKind.u64.wrap ((z2r .u64 (z1c .u64 a0 1) 6148914691236517205) + (z2r .u64 a0 6148914691236517205))) 3689348814741910323))) 4) + (IntKind.u64.wrap ((z2r .u64 (z1c .u64 (IntKind.u64.wrap ((z2r .u64 (z1c .u64 a0 1) 6148914691236517205) + (z2r .u64 a0 6148914691236517205))) 2) 3689348814741910323) + (z2r .u64 (IntKind.u64.wrap ((z2r .u64 (z1c .u64 a0 1) 6148914691236517205) + (z2r .u64 a0 6148914691236517205))) 3689348814741910323))))) 1085102592571150095) + (z1c .u64 (z2r .u64 (IntKind.u64.wrap ((z1c .u64 (IntKind.u64.wrap ((z2r .u64 (z1c .u64 (IntKind.u64.wrap ((z2r .u64 (z1c .u64 a0 1) 6148914691236517205) + (z2r .u64 a0 6148914691236517205))) 2) 3689348814741910323) + (z2r .u64 (IntKind.u64.wrap ((z2r .u64 (z1c .u64 a0 1) 6148914691236517205) + (z2r .u64 a0 6148914691236517205))) 3689348814741910323))) 4) + (IntKind.u64.wrap ((z2r .u64 (z1c .u64 (IntKind.u64.wrap ((z2r .u64 (z1c .u64 a0 1) 6148914691236517205) + (z2r .u64 a0 6148914691236517205))) 2) 3689348814741910323) + (z2r .u64 (IntKind.u64.wrap ((z2r .u64 (z1c .u64 a0 1) 6148914691236517205) + (z2r .u64 a0 6148914691236517205))) 3689348814741910323))))) 1085102592571150095) 8))) 16))) + (z1c .u64 (IntKind.u64.wrap ((IntKind.u64.wrap ((z2r .u64 (IntKind.u64.wrap ((z1c .u64 (IntKind.u64.wrap ((z2r .u64 (z1c .u64 (IntKind.u64.wrap ((z2r .u64 (z1c .u64 a0 1) 6148914691236517205) + (z2r .u64 a0 6148914691236517205))) 2) 3689348814741910323) + (z2r .u64 (IntKind.u64.wrap ((z2r .u64 (z1c .u64 a0 1) 6148914691236517205) + (z2r .u64 a0 6148914691236517205))) 3689348814741910323))) 4) + (IntKind.u64.wrap ((z2r .u64 (z1c .u64 (IntKind.u64.wrap ((z2r .u64 (z1c .u64 a0 1) 6148914691236517205) + (z2r .u64 a0 6148914691236517205))) 2) 3689348814741910323) + (z2r .u64 (IntKind.u64.wrap ((z2r .u64 (z1c .u64 a0 1) 6148914691236517205) + (z2r .u64 a0 6148914691236517205))) 3689348814741910323))))) 1085102592571150095) + (z1c .u64 (z2r .u64 (IntKind.u64.wrap ((z1c .u64 (IntKind.u64.wrap ((z2r .u64 (z1c .u64 (IntKind.u64.wrap ((z2r .u64 (z1c .u64 a0 1) 6148914691236517205) + (z2r .u64 a0 6148914691236517205))) 2) 3689348814741910323) + (z2r .u64 (IntKind.u64.wrap ((z2r .u64 (z1c .u64 a0 1) 6148914691236517205) + (z2r .u64 a0 6148914691236517205))) 3689348814741910323))) 4) + (IntKind.u64.wrap ((z2r .u64 (z1c .u64 (IntKind.u64.wrap ((z2r .u64 (z1c .u64 a0 1) 6148914691236517205) + (z2r .u64 a0 6148914691236517205))) 2) 3689348814741910323) + (z2r .u64 (IntKind.u64.wrap ((z2r .u64 (z1c .u64 a0 1) 6148914691236517205) + (z2r .u64 a0 6148914691236517205))) 3689348814741910323))))) 1085102592571150095) 8))) + (z1c .u64 (IntKind.u64.wrap ((z2r .u64 (IntKind.u64.wrap ((z1c .u64 (IntKind.u64.wrap ((z2r .u64 (z1c .u64 (IntKind.u64.wrap ((z2r .u64 (z1c .u64 a0 1) 6148914691236517205) + (z2r .u64 a0 6148914691236517205))) 2) 3689348814741910323) + (z2r .u64 (IntKind.u64.wrap ((z2r .u64 (z1c .u64 a0 1) 6148914691236517205) + (z2r .u64 a0 6148914691236517205))) 3689348814741910323))) 4) + (IntKind.u64.wrap ((z2r .u64 (z1c .u64 (IntKind.u64.wrap ((z2r .u64 (z1c .u64 a0 1) 6148914691236517205) + (z2r .u64 a0 6148914691236517205))) 2) 3689348814741910323) + (z2r .u64 (IntKind.u64.wrap ((z2r .u64 (z1c .u64 a0 1) 6148914691236517205) + (z2r .u64 a0 6148914691236517205))) 3689348814741910323))))) 1085102592571150095) + (z1c .u64 (z2r .u64 (IntKind.u64.wrap ((z1c .u64 (IntKind.u64.wrap ((z2r .u64 (z1c .u64 (IntKind.u64.wrap ((z2r .u64 (z1c .u64 a0 1) 6148914691236517205) + (z2r .u64 a0 6148914691236517205))) 2) 3689348814741910323) + (z2r .u64 (IntKind.u64.wrap ((z2r .u64 (z1c .u64 a0 1) 6148914691236517205) + (z2r .u64 a0 6148914691236517205))) 3689348814741910323))) 4) + (IntKind.u64.wrap ((z2r .u64 (z1c .u64 (IntKind.u64.wrap ((z2r .u64 (z1c .u64 a0 1) 6148914691236517205) + (z2r .u64 a0 6148914691236517205))) 2) 3689348814741910323) + (z2r .u64 (IntKind.u64.wrap ((z2r .u64 (z1c .u64 a0 1) 6148914691236517205) + (z2r .u64 a0 6148914691236517205))) 3689348814741910323))))) 1085102592571150095) 8))) 16))) 32)))) 127)
theorem z8f {a0 : Int} {r : Int} (h0 : z2H a0 = some r) : L 91 [.sc (.int .u64 a0)] = some (.sc (.int .i64 r), [.dead]) := by
  simp only [z2H] at h0
  refine z2B zuK zw9 (z1v zy1 ⟨of_decide_eq_true rfl, of_decide_eq_true rfl⟩ ?_)
  simp only [z1D, z1A, z1z, z1F, z3d]
  refine zq rfl (zr rfl rfl rfl (by simp; rfl) ?_)
  refine z0a (zq rfl ?_)
  obtain ⟨f7, h1⟩ := z1O h0
  refine zr rfl rfl rfl (by simp [f7]; rfl) ?_
  refine z0a (zq rfl ?_)
  obtain ⟨f8, h2⟩ := z1O h1
  refine zr rfl rfl rfl (by simp [f8]; rfl) ?_
  refine z0a (zq rfl ?_)
  obtain ⟨f9, h3⟩ := z1O h2
  refine zr rfl rfl rfl (by simp [f9]; rfl) ?_
  refine z0a (zq rfl ?_)
  obtain ⟨f10, h4⟩ := z1O h3
  refine zr rfl rfl rfl (by simp [f10]; rfl) ?_
  refine z0a (zq rfl ?_)
  obtain ⟨f11, h5⟩ := z1O h4
  refine zr rfl rfl rfl (by simp [f11]; rfl) ?_
  refine z0a (zq rfl ?_)
  obtain ⟨f12, h6⟩ := z1O h5
  refine zr rfl rfl rfl (by simp [f12]; rfl) ?_
  refine z0a (zq rfl (zr rfl rfl rfl (by simp; rfl) ?_))
  refine z0a (z0F rfl ?_)
  cases h6
  simp
def z3O (a0 : Int) : Option (Int) :=
  (z2H a0).bind fun v2 =>
  some v2
theorem z8M {a0 : Int} {r : Int} (h0 : z3O a0 = some r) : L 78 [.sc (.int .u64 a0)] = some (.sc (.int .i64 r), [.dead]) := by
  simp only [z3O] at h0
  refine z2B zuN zwc (z1v zy4 ⟨of_decide_eq_true rfl, of_decide_eq_true rfl⟩ ?_)
  simp only [z1D, z1A, z1z, z1F, z3d]
  refine zq rfl (zr rfl rfl rfl (by simp; rfl) ?_)
  refine z0a (zq rfl (z0l rfl (by simp) (z0e rfl (z0a (zq rfl ?_)))))
  obtain ⟨v2, f2, h1⟩ := z0b h0
  have f2k := z8f f2
  try simp at f2k
  refine zr rfl rfl rfl (by simp [f2k]; rfl) ?_
  refine z0a (z0F rfl ?_)
  cases h1
  simp
def z5w (a0 : Int) : Option (Int) :=
  (z3O (IntKind.u64.wrap a0)).bind fun v2 =>
  some v2
theorem za9 {a0 : Int} {r : Int} (h0 : z5w a0 = some r) : L 68 [.sc (.int .i64 a0)] = some (.sc (.int .i64 r), [.dead]) := by
  simp only [z5w] at h0
  refine z2B zuV zwk (z1v zyc ⟨of_decide_eq_true rfl, of_decide_eq_true rfl⟩ ?_)
  simp only [z1D, z1A, z1z, z1F, z3d]
  refine zq rfl (zr rfl rfl rfl (by simp; rfl) ?_)
  refine z0a (zq rfl ?_)
  obtain ⟨v2, f2, h1⟩ := z0b h0
  have f2k := z8M f2
  try simp at f2k
  refine zr rfl rfl rfl (by simp [f2k]; rfl) ?_
  refine z0a (z0F rfl ?_)
  cases h1
  simp
end
end Go.Proofs.Ytbnnipkanechoaa
end
section
namespace Go.Proofs.Ytbnnipkanechoaa
open Go
set_option maxRecDepth 100000
theorem zcS {a : Nat} (h : a < 2 ^ 62) : IntKind.i64.wrap (a : Int) = (a : Int) := z3F (by omega) (by omega)
theorem z9X {a b : Nat} (ha : a < 2 ^ 62) (hb : b < 2 ^ 62) : z2r .i64 (a : Int) (b : Int) = ((a &&& b : Nat) : Int) := by
  unfold z2r
  have e : (BitVec.ofInt IntKind.i64.bits (a : Int) &&& BitVec.ofInt IntKind.i64.bits (b : Int)).toNat = a &&& b := by
    show (BitVec.ofInt 64 (a : Int) &&& BitVec.ofInt 64 (b : Int)).toNat = _
    rw [BitVec.toNat_and, BitVec.toNat_ofInt, BitVec.toNat_ofInt]
    have h1 : ((a : Int) % ((2 ^ 64 : Nat) : Int)).toNat = a := by omega
    have h2 : ((b : Int) % ((2 ^ 64 : Nat) : Int)).toNat = b := by omega
    rw [h1, h2]
  rw [e]
  exact zcS (Nat.lt_of_le_of_lt Nat.and_le_left ha)
theorem zsc {a b k : Nat} (ha : a < 2 ^ k) (hb : b < 2 ^ k) : a ||| b < 2 ^ k := Nat.or_lt_two_pow ha hb
theorem zob {a b : Nat} (ha : a < 2 ^ 62) (hb : b < 2 ^ 62) : orI .i64 (a : Int) (b : Int) = ((a ||| b : Nat) : Int) := by
  unfold orI
  have e : (BitVec.ofInt IntKind.i64.bits (a : Int) ||| BitVec.ofInt IntKind.i64.bits (b : Int)).toNat = a ||| b := by
    show (BitVec.ofInt 64 (a : Int) ||| BitVec.ofInt 64 (b : Int)).toNat = _
    rw [BitVec.toNat_or, BitVec.toNat_ofInt, BitVec.toNat_ofInt]
    have h1 : ((a : Int) % ((2 ^ 64 : Nat) : Int)).toNat = a := by omega
    have h2 : ((b : Int) % ((2 ^ 64 : Nat) : Int)).toNat = b := by omega
    rw [h1, h2]
  rw [e]
  exact zcS (zsc ha hb)
theorem zkb {a b : Nat} (ha : a < 2 ^ 62) (hb : b < 2 ^ 62) : zgV .i64 (a : Int) (b : Int) = 0 ↔ a &&& b = a := by
  unfold zgV
  have e : (BitVec.ofInt IntKind.i64.bits (a : Int) &&& ~~~ BitVec.ofInt IntKind.i64.bits (b : Int)).toNat = (BitVec.ofNat 64 a &&& ~~~ BitVec.ofNat 64 b).toNat := by
    show (BitVec.ofInt 64 (a : Int) &&& ~~~ BitVec.ofInt 64 (b : Int)).toNat = _
    congr 2
  rw [e]
  have hle : (BitVec.ofNat 64 a &&& ~~~ BitVec.ofNat 64 b).toNat <= a := by
    rw [BitVec.toNat_and]
    refine Nat.le_trans Nat.and_le_left ?_
    simp only [BitVec.toNat_ofNat]
    omega
  rw [zcS (by omega)]
  have ta : ∀ i, (BitVec.ofNat 64 a).toNat.testBit i = a.testBit i := fun i => by
    rw [BitVec.toNat_ofNat, Nat.mod_eq_of_lt (by omega)]
  have tb : ∀ i, (BitVec.ofNat 64 b).toNat.testBit i = b.testBit i := fun i => by
    rw [BitVec.toNat_ofNat, Nat.mod_eq_of_lt (by omega)]
  have hz : ∀ i, (BitVec.ofNat 64 a &&& ~~~ BitVec.ofNat 64 b).toNat.testBit i = (a.testBit i && !(b.testBit i)) := fun i => by
    rw [BitVec.testBit_toNat, BitVec.getLsbD_and, BitVec.getLsbD_not]
    by_cases hi : i < 64
    · simp only [hi, decide_true, Bool.true_and]
      rw [← BitVec.testBit_toNat, ← BitVec.testBit_toNat, ta, tb]
    · have : a.testBit i = false := Nat.testBit_lt_two_pow (Nat.lt_of_lt_of_le ha (Nat.pow_le_pow_right (by omega) (by omega)))
      rw [← BitVec.testBit_toNat, ta, this]; simp
  constructor
  · intro h
    have h0 : (BitVec.ofNat 64 a &&& ~~~ BitVec.ofNat 64 b).toNat = 0 := by omega
    apply Nat.eq_of_testBit_eq
    intro i
    have := hz i
    rw [h0, Nat.zero_testBit] at this
    rw [Nat.testBit_and]
    revert this
    cases a.testBit i <;> cases b.testBit i <;> simp
  · intro h
    have : (BitVec.ofNat 64 a &&& ~~~ BitVec.ofNat 64 b).toNat = 0 := by
      apply Nat.eq_of_testBit_eq
      intro i
      have e2 : (a &&& b).testBit i = a.testBit i := by rw [h]
      rw [Nat.testBit_and] at e2
      rw [hz, Nat.zero_testBit]
      revert e2
      cases a.testBit i <;> cases b.testBit i <;> simp
    omega
theorem zpC {a q : Nat} (hq : q <= 64) : z1c .i64 (a : Int) (q : Int) = ((a >>> q : Nat) : Int) := by
  unfold z1c
  have e : min ((q : Int).toNat) IntKind.i64.bits = q := by
    show min ((q : Int).toNat) 64 = q
    omega
  rw [e, Nat.shiftRight_eq_div_pow, Int.fdiv_eq_ediv_of_nonneg _ (by exact Int.pow_nonneg (by omega))]
  simp
theorem z5G {q : Nat} (hq : q <= 61) : zfW .i64 1 (q : Int) = ((2 ^ q : Nat) : Int) := by
  rw [znT]
  have e : min ((q : Int).toNat) IntKind.i64.bits = q := by
    show min ((q : Int).toNat) 64 = q
    omega
  rw [e, Int.one_mul]
  have : ((2 : Int) ^ q) = ((2 ^ q : Nat) : Int) := by simp
  rw [this]
  exact zcS (Nat.pow_lt_pow_right (by omega) (by omega))
theorem zgS {a q : Nat} (ha : a < 2 ^ 62) (hq : q <= 64) : (z2r .i64 (z1c .i64 (a : Int) (q : Int)) 1 = 1) ↔ a.testBit q = true := by
  rw [zpC hq, show (1 : Int) = ((1 : Nat) : Int) from rfl, z9X (by rw [Nat.shiftRight_eq_div_pow]; exact Nat.lt_of_le_of_lt (Nat.div_le_self _ _) ha) (by decide), Nat.testBit]
  have : (1 &&& a >>> q) = (a >>> q) &&& 1 := Nat.and_comm ..
  rw [this]
  have h2 := Nat.and_one_is_mod (a >>> q)
  rw [h2]
  simp only [bne_iff_ne, ne_eq]
  omega
theorem zj4 {q : Nat} (h : q < 2 ^ 62) : IntKind.u64.wrap (q : Int) = (q : Int) := by rw [IntKind.wrap_u64]; omega
def zij (rows : List (List Int)) (s a : Nat) : Nat -> Nat
  | 0 => 0
  | q + 1 => if s.testBit q = true then zij rows s a q ||| 2 ^ ((rows.getD q []).getD a 0).toNat else zij rows s a q
def mvN (d : DFA) (s a : Nat) : Nat := zij d.next s a d.next.length
theorem ze6 {d : DFA} {m n : Nat} (hd : DfaOk d m n) {q a : Nat} (hq : q < n) (ha : a < m) : ∃ h1 : q < d.next.length, ∃ h2 : a < d.next[q].length, (d.next.getD q []).getD a 0 = d.next[q][a] /\ 0 <= d.next[q][a] /\ d.next[q][a] < n := by
  have h1 : q < d.next.length := by rw [hd.nl]; exact hq
  have hr := hd.row _ (List.getElem_mem h1)
  have h2 : a < d.next[q].length := by rw [hr.1]; exact ha
  exact ⟨h1, h2, by simp [List.getD, h1, h2], hr.2 _ (List.getElem_mem h2)⟩
theorem zkD {d : DFA} {m n : Nat} (hd : DfaOk d m n) {s a : Nat} (ha : a < m) (p : Nat) : ∀ q, q <= n -> ((zij d.next s a q).testBit p = true ↔ ∃ i, i < q /\ s.testBit i = true /\ ((d.next.getD i []).getD a 0).toNat = p)
  | 0, _ => by simp [zij]
  | q + 1, hq => by
    have ih := zkD hd (s := s) ha p q (by omega)
    unfold zij
    by_cases hb : s.testBit q = true
    · rw [if_pos hb, Nat.testBit_or, Bool.or_eq_true, ih, Nat.testBit_two_pow]
      constructor
      · rintro (⟨i, h1, h2, h3⟩ | h)
        · exact ⟨i, by omega, h2, h3⟩
        · exact ⟨q, by omega, hb, by simpa using h⟩
      · rintro ⟨i, h1, h2, h3⟩
        by_cases e : i = q
        · subst e; right; simpa using h3
        · left; exact ⟨i, by omega, h2, h3⟩
    · rw [if_neg hb, ih]
      constructor
      · rintro ⟨i, h1, h2, h3⟩; exact ⟨i, by omega, h2, h3⟩
      · rintro ⟨i, h1, h2, h3⟩
        by_cases e : i = q
        · subst e; exact absurd h2 hb
        · exact ⟨i, by omega, h2, h3⟩
theorem zee {d : DFA} {m n : Nat} (hd : DfaOk d m n) {s a : Nat} (ha : a < m) : ∀ q, q <= n -> zij d.next s a q < 2 ^ n
  | 0, _ => Nat.two_pow_pos n
  | q + 1, hq => by
    have ih := zee hd (s := s) ha q (by omega)
    unfold zij
    split
    · obtain ⟨h1, h2, e, h3, h4⟩ := ze6 hd (q := q) (by omega) ha
      refine zsc ih (Nat.pow_lt_pow_right (by omega) ?_)
      rw [e]; omega
    · exact ih
theorem zgx {d : DFA} {m n : Nat} (hd : DfaOk d m n) {s a : Nat} (ha : a < m) (p : Nat) : (mvN d s a).testBit p = true ↔ ∃ i, i < n /\ s.testBit i = true /\ ((d.next.getD i []).getD a 0).toNat = p := by
  unfold mvN; rw [hd.nl]; exact zkD hd ha p n (Nat.le_refl _)
theorem zg1 {d : DFA} {m n : Nat} (hd : DfaOk d m n) {s a : Nat} (ha : a < m) : mvN d s a < 2 ^ n := by
  unfold mvN; rw [hd.nl]; exact zee hd ha n (Nat.le_refl _)
theorem zau {n : Nat} (h : n <= 12) : 2 ^ n <= 4096 := Nat.pow_le_pow_right (n := 2) (by omega) h
theorem zjI {d : DFA} {m n : Nat} (hd : DfaOk d m n) (hn : n <= 12) {s a : Nat} (hs : s < 2 ^ n) (ha : a < m) : z4P d (s : Int) (a : Int) = some ((mvN d s a : Nat) : Int) := by
  have h12 := zau hn
  unfold z4P mvN
  refine z1G (s := ((0 : Int), (0 : Int))) n (fun q => (((zij d.next s a q : Nat) : Int), (q : Int))) rfl (by simp only [LFm]; omega) (fun q hq => ?_) ?_
  · have hlt := zee hd (s := s) ha q (by omega)
    obtain ⟨h1, h2, e, h3, h4⟩ := ze6 hd (q := q) hq ha
    simp only [z5N]
    rw [if_pos (by omega), z2w h1]
    simp only [Option.bind_some]
    rw [z1q _ (by omega), z1M (by omega)]
    by_cases hb : s.testBit q = true
    · rw [if_pos ((zgS (by omega) (by omega)).2 hb), z2w h2]
      simp only [Option.bind_some]
      obtain ⟨v, hv⟩ := Int.eq_ofNat_of_zero_le h3
      rw [z1q _ (by omega), hv, z5G (by omega), zob (by omega) (Nat.pow_lt_pow_right (by omega) (by omega))]
      simp only [zij]
      rw [if_pos hb, e, hv, Int.toNat_natCast]
    · rw [if_neg (fun h => hb ((zgS (by omega) (by omega)).1 h))]
      simp only [zij]
      rw [if_neg hb]
  · simp only [z5N]
    rw [if_neg (by rw [hd.nl]; omega), hd.nl]
theorem ziY {d : DFA} {m n : Nat} (hd : DfaOk d m n) (hn : n <= 12) {s a : Nat} (hs : s < 2 ^ n) (ha : a < m) : z4U d (s : Int) (a : Int) = some ((mvN d s a : Nat) : Int) := by
  have h12 := zau hn
  unfold z4U mvN
  refine z1G (s := ((0 : Int), (0 : Int))) n (fun q => (((zij d.next s a q : Nat) : Int), (q : Int))) rfl (by simp only [LFm]; omega) (fun q hq => ?_) ?_
  · have hlt := zee hd (s := s) ha q (by omega)
    obtain ⟨h1, h2, e, h3, h4⟩ := ze6 hd (q := q) hq ha
    simp only [z5e]
    rw [if_pos (by rw [hd.fin]; omega), zj4 (by omega), z1q _ (by omega), z1M (by omega)]
    by_cases hb : s.testBit q = true
    · rw [if_pos ((zgS (by omega) (by omega)).2 hb), z2w h1]
      simp only [Option.bind_some]
      rw [z2w h2]
      simp only [Option.bind_some]
      obtain ⟨v, hv⟩ := Int.eq_ofNat_of_zero_le h3
      rw [hv, zj4 (by omega), z1q _ (by omega), z5G (by omega), zob (by omega) (Nat.pow_lt_pow_right (by omega) (by omega))]
      simp only [zij]
      rw [if_pos hb, e, hv, Int.toNat_natCast]
    · rw [if_neg (fun h => hb ((zgS (by omega) (by omega)).1 h))]
      simp only [zij]
      rw [if_neg hb]
  · simp only [z5e]
    rw [if_neg (by rw [hd.fin]; omega), hd.nl]
end Go.Proofs.Ytbnnipkanechoaa
end
section
namespace Go.Proofs.Ytbnnipkanechoaa
open Go
set_option maxRecDepth 100000
def zr0 (d : DFA) (r : List Int) : Bool := decide ((r.length : Int) = d.letters) && r.all fun x => decide (0 <= x /\ x < (d.final.length : Int))
def z8H (d : DFA) : Bool := decide (d.next.length = d.final.length) && decide (0 <= d.start /\ d.start < (d.final.length : Int)) && d.next.all (zr0 d)
def zpo (d : DFA) : Int := if d.letters < 1 ∨ 6 < d.letters then 1 else if 512 < d.final.length then 3 else if z8H d = true then 0 else 4
def zqc (d : DFA) : Prop := d.final.length < 2 ^ 61 /\ d.next.length < 2 ^ 61 /\ ∀ r ∈ d.next, r.length < 2 ^ 61
theorem zke {d : DFA} (hc : zqc d) : z0Z (z3E d) LFm 0 = some (if d.next.all (zr0 d) = true then 0 else 4) := by
  rw [zis (l := d.next) ([] : List Int) (zr0 d) (A := some 4) (B := some 0) (by have := hc.2.1; omega) (fun k hk => ?_) ?_]
  · split <;> rfl
  · simp only [z3E]
    rw [if_neg (by omega)]
  · simp only [z3E]
    have hkl := hc.2.1
    have hrl := hc.2.2 _ (List.getElem_mem hk)
    rw [if_pos (by omega), z2w hk]
    simp only [Option.bind_some, List.getD, List.getElem?_eq_getElem hk, Option.getD_some]
    by_cases hl : (d.next[k].length : Int) = d.letters
    · rw [if_pos hl]
      rw [zis (l := d.next[k]) (0 : Int) (fun x => decide (0 <= x /\ x < (d.final.length : Int))) (A := z1i (some 4)) (B := z0B ((k + 1 : Nat) : Int)) (by omega) (fun j hj => ?_) ?_]
      · simp only [zr0, hl, decide_true, Bool.true_and]
      · simp only [z4N]
        rw [if_neg (by omega), z1M (by omega)]
      · simp only [z4N]
        rw [if_pos (by omega), z2w hj]
        simp only [Option.bind_some, List.getD, List.getElem?_eq_getElem hj, Option.getD_some]
        by_cases h1 : d.next[k][j] < 0
        · rw [if_pos h1, if_neg (by simp; omega)]
        · rw [if_neg h1]
          by_cases h2 : (d.final.length : Int) <= d.next[k][j]
          · rw [if_pos h2, if_neg (by simp; omega)]
          · rw [if_neg h2, if_pos (by simp; omega), z1M (by omega)]
    · rw [if_neg hl]
      rw [if_neg (by simp [zr0, hl])]
theorem zp2 {d : DFA} (hc : zqc d) : z6l d = some (zpo d) := by
  unfold z6l zpo
  by_cases h1 : d.letters < 1
  · rw [if_pos h1, if_pos (.inl h1)]
  rw [if_neg h1]
  by_cases h2 : 6 < d.letters
  · rw [if_pos h2, if_pos (.inr h2)]
  have hno : ¬ (d.letters < 1 ∨ 6 < d.letters) := by omega
  rw [if_neg h2, if_neg hno]
  by_cases h3 : 512 < (d.final.length : Int)
  · have h3' : 512 < d.final.length := by omega
    rw [if_pos h3, if_pos h3']
  have h3' : ¬ 512 < d.final.length := by omega
  rw [if_neg h3, if_neg h3']
  by_cases h4 : (d.next.length : Int) = (d.final.length : Int)
  · rw [if_pos h4]
    by_cases h5 : d.start < 0
    · rw [if_pos h5, if_neg (by simp [z8H]; omega)]
    rw [if_neg h5]
    by_cases h6 : (d.final.length : Int) <= d.start
    · rw [if_pos h6, if_neg (by simp [z8H]; omega)]
    rw [if_neg h6, zke hc]
    congr 1
    have e1 : decide (d.next.length = d.final.length) = true := by simp; omega
    have e2 : decide (0 <= d.start /\ d.start < (d.final.length : Int)) = true := by simp; omega
    simp only [z8H, e1, e2, Bool.true_and]
  · rw [if_neg h4, if_neg (by simp [z8H]; omega)]
theorem zrD (d : DFA) : z5u d = z3E d := rfl
theorem zo6 {d : DFA} (hc : zqc d) : z4I d = some (zpo d) := by
  unfold z4I z2W zpo
  by_cases h1 : 1 <= d.letters
  · rw [if_pos h1]
    simp only [Option.bind_some]
    by_cases h2 : 6 < d.letters
    · have hno : d.letters < 1 ∨ 6 < d.letters := .inr h2
      rw [if_neg (by simp; omega), if_pos hno]
    · have hno : ¬ (d.letters < 1 ∨ 6 < d.letters) := by omega
      rw [if_pos (by simp; omega), if_neg hno]
      by_cases h3 : 512 < (d.final.length : Int)
      · have h3' : 512 < d.final.length := by omega
        rw [if_pos h3, if_pos h3']
      have h3' : ¬ 512 < d.final.length := by omega
      rw [if_neg h3, if_neg h3']
      by_cases h0 : (d.final.length : Int) = 0
      · rw [if_pos h0, if_neg (by simp [z8H]; omega)]
      rw [if_neg h0]
      by_cases h4 : (d.next.length : Int) = (d.final.length : Int)
      · rw [if_pos h4]
        by_cases h5 : d.start < 0
        · rw [if_pos h5, if_neg (by simp [z8H]; omega)]
        rw [if_neg h5]
        by_cases h6 : (d.final.length : Int) <= d.start
        · rw [if_pos h6, if_neg (by simp [z8H]; omega)]
        rw [if_neg h6, zrD, zke hc]
        congr 1
        have e1 : decide (d.next.length = d.final.length) = true := by simp; omega
        have e2 : decide (0 <= d.start /\ d.start < (d.final.length : Int)) = true := by simp; omega
        simp only [z8H, e1, e2, Bool.true_and]
      · rw [if_neg h4, if_neg (by simp [z8H]; omega)]
  · rw [if_neg h1]
    simp only [Option.bind_some]
    have hno : d.letters < 1 ∨ 6 < d.letters := by omega
    rw [if_pos hno]
    rfl
def zio (d : DFA) : Int := if zpo d = 0 then (if 12 < d.final.length then 3 else 0) else zpo d
theorem z5s {d : DFA} (hc : zqc d) : z3e d = some (zio d) := by
  unfold z3e zio
  rw [zp2 hc]
  simp only [Option.bind_some]
  split
  · split
    · rw [if_pos (by omega)]
    · rw [if_neg (by omega)]
  · rfl
theorem zcJ {d : DFA} (hc : zqc d) : z5d d = some (zio d) := by
  unfold z5d zio
  rw [zo6 hc]
  simp only [Option.bind_some]
  split
  · split
    · rw [if_pos (by omega)]
    · rw [if_neg (by omega)]
  · rfl
theorem zrU {d : DFA} {m n : Nat} (hd : DfaOk d m n) (hn : n <= 512) : zpo d = 0 := by
  have h1 := hd.lt
  have h2 := hd.m1
  have h3 := hd.m6
  have hf := hd.fin
  have hl := hd.nl
  unfold zpo
  rw [if_neg (by omega), if_neg (by omega), if_pos]
  have e1 : decide (d.next.length = d.final.length) = true := by simp; omega
  have e2 : decide (0 <= d.start /\ d.start < (d.final.length : Int)) = true := by have := hd.s0; have := hd.s1; simp; omega
  simp only [z8H, e1, e2, Bool.true_and, List.all_eq_true]
  intro r hr
  obtain ⟨a, b⟩ := hd.row r hr
  have e3 : decide ((r.length : Int) = d.letters) = true := by simp; omega
  simp only [zr0, e3, Bool.true_and, List.all_eq_true, decide_eq_true_eq]
  intro x hx
  have := b x hx
  omega
theorem zse {d : DFA} (h : zpo d = 0) : DfaOk d d.letters.toNat d.final.length /\ d.final.length <= 512 := by
  unfold zpo at h
  split at h
  · cases h
  split at h
  · cases h
  split at h
  case isFalse => cases h
  rename_i h1 h2 h3
  simp only [z8H, Bool.and_eq_true, decide_eq_true_eq, List.all_eq_true, zr0] at h3
  obtain ⟨⟨h4, h5⟩, h6⟩ := h3
  refine ⟨⟨by omega, by omega, by omega, by omega, rfl, h4, h5.1, h5.2, fun r hr => ?_⟩, by omega⟩
  obtain ⟨a, b⟩ := h6 r hr
  exact ⟨by omega, fun x hx => b x hx⟩
theorem zg2 {d : DFA} {m n : Nat} (hd : DfaOk d m n) (hn : n <= 12) : zio d = 0 := by
  have hf := hd.fin
  unfold zio
  rw [zrU hd (by omega), if_pos rfl, if_neg (by omega)]
theorem zsf {d : DFA} (h : zio d = 0) : DfaOk d d.letters.toNat d.final.length /\ d.final.length <= 12 := by
  unfold zio at h
  split at h
  · rename_i hv
    split at h
    · cases h
    · exact ⟨(zse hv).1, by omega⟩
  · rename_i hv
    exact absurd h hv
theorem zga {d : DFA} {m n : Nat} (hd : DfaOk d m n) (hn : n <= 12) : zqc d := ⟨by rw [hd.fin]; omega, by rw [hd.nl]; omega, fun r hr => by have := (hd.row r hr).1; have := hd.m6; omega⟩
theorem zeR (w : ByteArray) (m : Int) : z7S w m = z4f w m := by
  unfold z7S z4f z2W
  by_cases h1 : m < 1
  · rw [if_pos h1, if_neg (by omega)]; rfl
  rw [if_neg h1]
  have h1' : 1 <= m := by omega
  by_cases h2 : 6 < m
  · rw [if_pos h2, if_pos h1']
    simp only [Option.bind_some]
    rw [if_neg (by simp; omega)]
  rw [if_neg h2, if_pos h1']
  simp only [Option.bind_some]
  rw [if_pos (show decide (m <= 6) = true by simp; omega)]
  rfl
def z7K (m : Int) (c : UInt8) : Bool := decide (97 <= c.toNat) && decide ((c.toNat : Int) < 97 + m)
theorem zbp {k : Nat} (h : 97 <= k) (h2 : k < 256) : IntKind.i64.wrap (IntKind.u8.wrap ((k : Int) - 97)) = ((k - 97 : Nat) : Int) := by
  rw [zrR (by omega) (by omega), z3F (by omega) (by omega)]; omega
theorem zeG {w : ByteArray} {k : Nat} (h : k < w.size) : w[k] = w.data.toList.getD k 0 := by
  have h' : k < w.data.toList.length := by rw [Array.length_toList]; exact h
  rw [List.getD, List.getElem?_eq_getElem h', Option.getD_some, Array.getElem_toList]
  rfl
theorem zqq {w : ByteArray} {m : Int} (hm : 1 <= m /\ m <= 6) : z4f w m = some (decide (w.size <= 2048) && w.data.toList.all (z7K m)) := by
  unfold z4f z2W
  rw [if_pos hm.1]
  simp only [Option.bind_some]
  rw [if_pos (show decide (m <= 6) = true by simp; omega)]
  by_cases h : 2048 < (w.size : Int)
  · rw [if_pos h, show decide (w.size <= 2048) = false by simp; omega]; rfl
  rw [if_neg h, show decide (w.size <= 2048) = true by simp; omega, Bool.true_and]
  have hl : w.data.toList.length = w.size := by rw [Array.length_toList]; rfl
  rw [z6j (s := (0 : Int)) w.size (fun k => (k : Int)) (fun k => !z7K m (w.data.toList.getD k 0)) (fun _ => some false) (x := some true) rfl (by simp only [LFm]; omega)]
  · rw [zgK]
    simp only [Bool.not_not]
    rw [← hl, zeb]
    cases w.data.toList.all (z7K m) <;> rfl
  · intro k hk
    have hb : w[k].toNat < 256 := w[k].toNat_lt
    simp only [z5M]
    rw [if_pos (by omega), zeH hk]
    simp only [Option.bind_some]
    rw [← zeG hk]
    by_cases h1 : (w[k].toNat : Int) < 97
    · have : z7K m w[k] = false := by simp only [z7K, Bool.and_eq_false_iff, decide_eq_false_iff_not]; omega
      simp only [h1, this, Bool.not_false, if_true]
    · rw [if_neg h1, zbp (by omega) hb]
      by_cases h2 : m <= ((w[k].toNat - 97 : Nat) : Int)
      · have : z7K m w[k] = false := by simp only [z7K, Bool.and_eq_false_iff, decide_eq_false_iff_not]; omega
        simp only [h2, this, Bool.not_false, if_true]
      · have : z7K m w[k] = true := by simp only [z7K, Bool.and_eq_true, decide_eq_true_eq]; omega
        rw [if_neg h2, this, if_neg (by simp), z1M (by omega)]
  · simp only [z5M]
    rw [if_neg (by omega)]
def zgj (m : Nat) (w : ByteArray) : Prop := w.size <= 2048 /\ ∀ c ∈ w.data.toList, 97 <= c.toNat /\ c.toNat < 97 + m
instance (m : Nat) (w : ByteArray) : Decidable (zgj m w) := by unfold zgj; exact inferInstance
theorem zgf {w : ByteArray} {m : Nat} (hm : 1 <= m /\ m <= 6) : z4f w (m : Int) = some (decide (zgj m w)) := by
  rw [zqq (by omega)]
  congr 1
  rw [Bool.eq_iff_iff, decide_eq_true_iff]
  unfold zgj
  simp only [Bool.and_eq_true, decide_eq_true_eq, List.all_eq_true, z7K]
  constructor
  · rintro ⟨a, b⟩; exact ⟨a, fun c hc => by have := b c hc; omega⟩
  · rintro ⟨a, b⟩; exact ⟨a, fun c hc => by have := b c hc; omega⟩
theorem zgD {d : DFA} {m n : Nat} (hd : DfaOk d m n) (hn : n <= 12) (s : Int) : z4i d s = some (decide (0 <= s /\ s < ((2 ^ n : Nat) : Int))) := by
  unfold z4i
  rw [hd.fin]
  by_cases h : 0 <= s
  · rw [if_pos h, z1q _ (by omega), z5G (by omega)]
    congr 1
    rw [Bool.eq_iff_iff]; simp only [decide_eq_true_eq]; omega
  · rw [if_neg h]
    congr 1
    symm
    simp only [decide_eq_false_iff_not]; omega
theorem zqM {d : DFA} {m n : Nat} (hd : DfaOk d m n) (hn : n <= 12) : z8e d = some (((2 ^ n - 1 : Nat) : Int)) := by
  have h12 := zau hn
  have hp := Nat.two_pow_pos n
  unfold z8e
  rw [hd.fin, zj4 (by omega), z1q _ (by omega), z5G (by omega), z3F (by omega) (by omega)]
  congr 1
  omega
theorem zgY {d : DFA} {m n : Nat} (hd : DfaOk d m n) (hn : n <= 12) (s : Int) : z4O d s = some (decide (0 <= s /\ s < ((2 ^ n : Nat) : Int))) := by
  have hp := Nat.two_pow_pos n
  unfold z4O
  by_cases h : 0 <= s
  · rw [if_pos h, zqM hd hn]
    simp only [Option.bind_some]
    congr 1
    rw [Bool.eq_iff_iff]; simp only [decide_eq_true_eq]; omega
  · rw [if_neg h]
    congr 1
    symm
    simp only [decide_eq_false_iff_not]; omega
theorem z8E {r p : Nat} (hr : r < 2 ^ 62) (hp : p < 2 ^ 62) : z2M (r : Int) (p : Int) = some (decide (p &&& r = p)) := by
  unfold z2M
  congr 1
  rw [Bool.eq_iff_iff]; simp only [decide_eq_true_eq]
  exact zkb hp hr
def zeO (d : DFA) : Nat -> List UInt8 -> Nat
  | s, [] => s
  | s, c :: w => zeO d (mvN d s (c.toNat - 97)) w
theorem z7a (d : DFA) : ∀ (s : Nat) (u v : List UInt8), zeO d s (u ++ v) = zeO d (zeO d s u) v
  | s, [], v => rfl
  | s, c :: u, v => by simp only [List.cons_append, zeO, z7a]
theorem zgr {d : DFA} {m n : Nat} (hd : DfaOk d m n) : ∀ {w : List UInt8} {s : Nat}, s < 2 ^ n -> (∀ c ∈ w, 97 <= c.toNat /\ c.toNat < 97 + m) -> zeO d s w < 2 ^ n
  | [], s, hs, _ => hs
  | c :: w, s, hs, hw => by
    have hc := hw c (List.mem_cons_self ..)
    exact zgr (w := w) (s := mvN d s (c.toNat - 97)) hd (zg1 hd (by omega)) fun c' hc' => hw c' (List.mem_cons_of_mem _ hc')
theorem zhT {α : Type} {l : List α} {k : Nat} (h : k < l.length) : l.take (k + 1) = l.take k ++ [l[k]] := by rw [List.take_succ_eq_append_getElem h]
theorem zrF {d : DFA} {m n : Nat} (hd : DfaOk d m n) (hn : n <= 12) {s : Nat} (hs : s < 2 ^ n) {w : ByteArray} (hw : zgj m w) : z8c d (s : Int) w = some ((zeO d s w.data.toList : Nat) : Int) := by
  have hl : w.data.toList.length = w.size := by rw [Array.length_toList]; rfl
  have h48 := hw.1
  unfold z8c
  refine z1G (s := ((s : Int), (0 : Int))) w.size (fun k => (((zeO d s (w.data.toList.take k) : Nat) : Int), (k : Int))) rfl (by simp only [LFm]; omega) (fun k hk => ?_) ?_
  · have hk' : k < w.data.toList.length := by omega
    have hc := hw.2 _ (List.getElem_mem hk')
    have hb : w[k] = w.data.toList[k] := by rw [zeG hk, List.getD, List.getElem?_eq_getElem hk', Option.getD_some]
    have h256 : w[k].toNat < 256 := w[k].toNat_lt
    simp only [z6w]
    rw [if_pos (by omega), zeH hk]
    simp only [Option.bind_some]
    rw [hb] at *
    rw [zbp hc.1 h256, ziY hd hn (zgr hd hs fun c hc => hw.2 c (List.mem_of_mem_take hc)) (by omega)]
    simp only [Option.bind_some]
    rw [z1M (by omega), zhT hk', z7a]
    rfl
  · simp only [z6w]
    rw [if_neg (by omega), ← hl, List.take_length]
theorem ziV {d : DFA} {m n : Nat} (hd : DfaOk d m n) (hn : n <= 12) {s : Nat} (hs : s < 2 ^ n) {w : ByteArray} (hw : zgj m w) : z0Z (z4l d w) LFm ((s : Int), 0) = some (((zeO d s w.data.toList : Nat) : Int), 0) := by
  have hl : w.data.toList.length = w.size := by rw [Array.length_toList]; rfl
  have h48 := hw.1
  refine z1G (s := ((s : Int), (0 : Int))) w.size (fun k => (((zeO d s (w.data.toList.take k) : Nat) : Int), (k : Int))) rfl (by simp only [LFm]; omega) (fun k hk => ?_) ?_
  · have hk' : k < w.data.toList.length := by omega
    have hc := hw.2 _ (List.getElem_mem hk')
    have hb : w[k] = w.data.toList[k] := by rw [zeG hk, List.getD, List.getElem?_eq_getElem hk', Option.getD_some]
    have h256 : w[k].toNat < 256 := w[k].toNat_lt
    simp only [z4l]
    rw [if_pos (by omega), zeH hk]
    simp only [Option.bind_some]
    rw [hb] at *
    rw [zbp hc.1 h256, zjI hd hn (zgr hd hs fun c hc => hw.2 c (List.mem_of_mem_take hc)) (by omega)]
    simp only [Option.bind_some]
    rw [z1M (by omega), zhT hk', z7a]
    rfl
  · simp only [z4l]
    rw [if_neg (by omega), ← hl, List.take_length]
def zlq (d : DFA) (m n : Nat) (s : Int) (w : ByteArray) : Int × Int := if (0 <= s /\ s < ((2 ^ n : Nat) : Int)) /\ zgj m w then (((zeO d s.toNat w.data.toList : Nat) : Int), 0) else (0, 1)
theorem zqs {d : DFA} {m n : Nat} (hd : DfaOk d m n) (hn : n <= 12) (s : Int) (w : ByteArray) : z3s d s w = some (zlq d m n s w) := by
  unfold z3s zlq
  rw [z5s (zga hd hn), zg2 hd hn]
  simp only [Option.bind_some, if_true]
  rw [zgD hd hn]
  simp only [Option.bind_some, decide_eq_true_eq]
  by_cases h : 0 <= s /\ s < ((2 ^ n : Nat) : Int)
  · rw [if_pos h, zeR, hd.lt, zgf ⟨hd.m1, hd.m6⟩]
    simp only [Option.bind_some, decide_eq_true_eq]
    by_cases hw : zgj m w
    · rw [if_pos hw, if_pos ⟨h, hw⟩]
      obtain ⟨k, rfl⟩ := Int.eq_ofNat_of_zero_le h.1
      rw [ziV hd hn (by omega) hw, Int.toNat_natCast]
    · rw [if_neg hw, if_neg (fun hh => hw hh.2)]
  · rw [if_neg h, if_neg (fun hh => h hh.1)]
theorem zjD {d : DFA} {m n : Nat} (hd : DfaOk d m n) (hn : n <= 12) (s : Int) (w : ByteArray) : z3N d s w = some (zlq d m n s w) := by
  unfold z3N zlq
  rw [zcJ (zga hd hn), zg2 hd hn]
  simp only [Option.bind_some, if_true]
  rw [zgY hd hn]
  simp only [Option.bind_some, decide_eq_true_eq]
  by_cases h : 0 <= s /\ s < ((2 ^ n : Nat) : Int)
  · rw [if_pos h, hd.lt, zgf ⟨hd.m1, hd.m6⟩]
    simp only [Option.bind_some, decide_eq_true_eq]
    by_cases hw : zgj m w
    · rw [if_pos hw, if_pos ⟨h, hw⟩]
      obtain ⟨k, rfl⟩ := Int.eq_ofNat_of_zero_le h.1
      rw [zrF hd hn (by omega) hw, Int.toNat_natCast]
      rfl
    · rw [if_neg hw, if_neg (fun hh => hw hh.2)]
  · rw [if_neg h, if_neg (fun hh => h hh.1)]
end Go.Proofs.Ytbnnipkanechoaa
end
section
namespace Go.Proofs.Ytbnnipkanechoaa
open Go
set_option maxRecDepth 100000
def zsQ (a : Nat) : ByteArray := ⟨#[UInt8.ofNat (97 + a)]⟩
abbrev RS := List Nat × List ByteArray
def zgl (d : DFA) (i a : Nat) (st : RS) : RS := if mvN d (st.1.getD i 0) a ∈ st.1 then st else (st.1 ++ [mvN d (st.1.getD i 0) a], st.2 ++ [st.2.getD i ByteArray.empty ++ zsQ a])
def z6H (d : DFA) (i : Nat) (st : RS) : Nat -> RS
  | 0 => st
  | a + 1 => zgl d i a (z6H d i st a)
def z6n (d : DFA) (m s : Nat) : Nat -> RS
  | 0 => ([s], [ByteArray.empty])
  | k + 1 => if k < (z6n d m s k).1.length then z6H d k (z6n d m s k) m else z6n d m s k
structure RInv (d : DFA) (m n s : Nat) (st : RS) : Prop where
  nd : st.1.Nodup
  lt : ∀ x ∈ st.1, x < 2 ^ n
  len : st.2.length = st.1.length
  f0 : st.1[0]? = some s
  w0 : st.2[0]? = some ByteArray.empty
  ok : ∀ i, i < st.1.length -> (st.2.getD i ByteArray.empty).size <= i /\ (∀ c ∈ (st.2.getD i ByteArray.empty).data.toList, 97 <= c.toNat /\ c.toNat < 97 + m) /\ zeO d s (st.2.getD i ByteArray.empty).data.toList = st.1.getD i 0
theorem z8D {α : Type} {l r : List α} {i : Nat} (d : α) (h : i < l.length) : (l ++ r).getD i d = l.getD i d := by
  rw [List.getD, List.getD, List.getElem?_append_left h]
theorem zeq {α : Type} {l : List α} {x d : α} {i : Nat} (h : i = l.length) : (l ++ [x]).getD i d = x := by
  subst h; simp [List.getD]
theorem z1u {l : List Nat} {i : Nat} (h : i < l.length) : l.getD i 0 ∈ l := by
  rw [List.getD, List.getElem?_eq_getElem h]; exact List.getElem_mem h
theorem zov {α : Type} : ∀ {l r : List α}, l.Nodup -> (∀ x ∈ l, x ∈ r) -> l.length <= r.length
  | [], r, _, _ => by simp
  | x :: l, r, hn, hs => by
    obtain ⟨a, b, rfl⟩ := List.append_of_mem (hs x (List.mem_cons_self ..))
    have hn' := List.nodup_cons.1 hn
    have := zov (r := a ++ b) hn'.2 fun y hy => by
      have h1 := hs y (List.mem_cons_of_mem _ hy)
      have hne : y ≠ x := fun e => hn'.1 (e ▸ hy)
      rcases List.mem_append.1 h1 with h | h
      · exact List.mem_append.2 (.inl h)
      · rcases List.mem_cons.1 h with h | h
        · exact absurd h hne
        · exact List.mem_append.2 (.inr h)
    simp only [List.length_cons, List.length_append] at *
    omega
theorem z1j {l : List Nat} {N : Nat} (hn : l.Nodup) (hl : ∀ x ∈ l, x < N) : l.length <= N := by
  have := zov hn (r := List.range N) fun x hx => List.mem_range.2 (hl x hx)
  simpa using this
theorem zou (a : Nat) : (zsQ a).data.toList = [UInt8.ofNat (97 + a)] := rfl
theorem zqf (u v : ByteArray) : (u ++ v).data.toList = u.data.toList ++ v.data.toList := by simp
theorem zqe (u v : ByteArray) : (u ++ v).size = u.size + v.size := by simp
theorem zb8 (a : Nat) : (zsQ a).size = 1 := rfl
theorem zkI {a : Nat} (h : a < 26) : (UInt8.ofNat (97 + a)).toNat = 97 + a := by simp [UInt8.toNat_ofNat']; omega
theorem zpA {d : DFA} {m n s : Nat} (hd : DfaOk d m n) {st : RS} (h : RInv d m n s st) {i a : Nat} (hi : i < st.1.length) (ha : a < m) :
    RInv d m n s (zgl d i a st) /\ mvN d (st.1.getD i 0) a ∈ (zgl d i a st).1 /\ ∃ S W, (zgl d i a st).1 = st.1 ++ S /\ (zgl d i a st).2 = st.2 ++ W := by
  have hm6 := hd.m6
  unfold zgl
  split
  · rename_i hm
    exact ⟨h, hm, [], [], by simp, by simp⟩
  · rename_i hm
    obtain ⟨o1, o2, o3⟩ := h.ok i hi
    refine ⟨⟨?_, ?_, by simp [h.len], ?_, ?_, ?_⟩, by simp, _, _, rfl, rfl⟩
    · refine List.nodup_append.2 ⟨h.nd, by simp, fun x hx y hy => ?_⟩
      obtain rfl : y = _ := by simpa using hy
      exact fun e => hm (e ▸ hx)
    · intro x hx
      rcases List.mem_append.1 hx with hx | hx
      · exact h.lt x hx
      · obtain rfl : x = _ := by simpa using hx
        exact zg1 hd ha
    · rw [List.getElem?_append_left (by omega)]; exact h.f0
    · rw [List.getElem?_append_left (by rw [h.len]; omega)]; exact h.w0
    · intro j hj
      simp only [List.length_append, List.length_singleton] at hj
      by_cases e : j = st.1.length
      · rw [zeq e, zeq (by rw [h.len]; exact e), zqe, zqf, zou, zb8, z7a, o3]
        refine ⟨by omega, fun c hc => ?_, ?_⟩
        · rcases List.mem_append.1 hc with hc | hc
          · exact o2 c hc
          · obtain rfl := List.mem_singleton.1 hc
            rw [zkI (by omega)]; omega
        · simp only [zeO]
          rw [zkI (by omega), Nat.add_sub_cancel_left]
      · rw [z8D _ (show j < st.2.length by rw [h.len]; omega), z8D _ (show j < st.1.length by omega)]
        exact h.ok j (by omega)
theorem zen {d : DFA} {m n s : Nat} (hd : DfaOk d m n) {st : RS} (h : RInv d m n s st) {i : Nat} (hi : i < st.1.length) : ∀ a, a <= m ->
    RInv d m n s (z6H d i st a) /\ (∀ b, b < a -> mvN d (st.1.getD i 0) b ∈ (z6H d i st a).1) /\ (∃ S W, (z6H d i st a).1 = st.1 ++ S /\ (z6H d i st a).2 = st.2 ++ W)
  | 0, _ => ⟨h, fun b hb => by omega, [], [], by simp [z6H], by simp [z6H]⟩
  | a + 1, ha => by
    obtain ⟨h1, h2, S, W, h3, h4⟩ := zen hd h hi a (by omega)
    have hi' : i < (z6H d i st a).1.length := by rw [h3, List.length_append]; omega
    obtain ⟨k1, k2, S', W', k3, k4⟩ := zpA hd h1 hi' (show a < m by omega)
    have e : (z6H d i st a).1.getD i 0 = st.1.getD i 0 := by rw [h3, z8D _ hi]
    rw [e] at k2
    refine ⟨k1, fun b hb => ?_, S ++ S', W ++ W', by rw [z6H, k3, h3, List.append_assoc], by rw [z6H, k4, h4, List.append_assoc]⟩
    by_cases hb' : b = a
    · subst hb'; exact k2
    · rw [z6H, k3]; exact List.mem_append.2 (.inl (h2 b (by omega)))
theorem z8V {d : DFA} {m n s : Nat} (hd : DfaOk d m n) (hs : s < 2 ^ n) : ∀ k, RInv d m n s (z6n d m s k) /\ ∀ j, j < k -> j < (z6n d m s k).1.length -> ∀ a, a < m -> mvN d ((z6n d m s k).1.getD j 0) a ∈ (z6n d m s k).1
  | 0 => ⟨⟨by simp [z6n], by simpa [z6n] using hs, rfl, rfl, rfl, fun i hi => by
      obtain rfl : i = 0 := by simpa [z6n] using hi
      exact ⟨Nat.le_refl _, fun c hc => by simp [z6n, List.getD] at hc, rfl⟩⟩, fun j hj => by omega⟩
  | k + 1 => by
    obtain ⟨h1, h2⟩ := z8V hd hs k
    unfold z6n
    split
    · rename_i hk
      obtain ⟨k1, k2, S, W, k3, k4⟩ := zen hd h1 hk m (Nat.le_refl _)
      refine ⟨k1, fun j hj hjl a ha => ?_⟩
      by_cases e : j = k
      · subst e
        have := k2 a ha
        rwa [show (z6H d j (z6n d m s j) m).1.getD j 0 = (z6n d m s j).1.getD j 0 by rw [k3, z8D _ hk]]
      · have hj' : j < (z6n d m s k).1.length := by omega
        have := h2 j (by omega) hj' a ha
        rw [show (z6H d k (z6n d m s k) m).1.getD j 0 = (z6n d m s k).1.getD j 0 by rw [k3, z8D _ hj'], k3]
        exact List.mem_append.2 (.inl this)
    · rename_i hk
      exact ⟨h1, fun j hj hjl a ha => h2 j (by omega) hjl a ha⟩
theorem zgq {d : DFA} {m n s : Nat} (hd : DfaOk d m n) (hs : s < 2 ^ n) (k : Nat) : (z6n d m s k).1.length <= 2 ^ n := z1j (z8V hd hs k).1.nd (z8V hd hs k).1.lt
theorem zcT {d : DFA} {m s : Nat} {k : Nat} (h : ¬ k < (z6n d m s k).1.length) : ∀ j, k <= j -> z6n d m s j = z6n d m s k
  | 0, hj => by
    obtain rfl : k = 0 := by omega
    rfl
  | j + 1, hj => by
    by_cases e : k = j + 1
    · rw [e]
    · have ih := zcT h j (by omega)
      rw [z6n, ih, if_neg (by omega)]
def z1d (d : DFA) (m n s : Nat) : RS := z6n d m s (2 ^ n)
theorem zcD {d : DFA} {m n s : Nat} (hd : DfaOk d m n) (hs : s < 2 ^ n) {x a : Nat} (hx : x ∈ (z1d d m n s).1) (ha : a < m) : mvN d x a ∈ (z1d d m n s).1 := by
  obtain ⟨i, hi, rfl⟩ := List.getElem_of_mem hx
  have hl := zgq hd hs (2 ^ n)
  have := (z8V hd hs (2 ^ n)).2 i (by unfold z1d at hi; omega) hi a ha
  have e : (z6n d m s (2 ^ n)).1.getD i 0 = (z1d d m n s).1[i] := by
    show (z1d d m n s).1.getD i 0 = _
    rw [List.getD, List.getElem?_eq_getElem hi, Option.getD_some]
  rw [e] at this
  exact this
theorem z3S {d : DFA} {m n s : Nat} (hd : DfaOk d m n) (hs : s < 2 ^ n) : RInv d m n s (z1d d m n s) := (z8V hd hs _).1
def toI (l : List Nat) : List Int := l.map fun x => ((x : Nat) : Int)
theorem z0q (l : List Nat) : (toI l).length = l.length := by simp [toI]
theorem z6s (l : List Nat) (x : Nat) : toI (l ++ [x]) = toI l ++ [((x : Nat) : Int)] := by simp [toI]
theorem z2v {l : List Nat} {i : Nat} (h : i < l.length) : atI (toI l) (i : Int) = some ((l.getD i 0 : Nat) : Int) := by
  rw [z2w (by rw [z0q]; exact h)]
  simp [toI, List.getD, h]
theorem zcf {l : List ByteArray} {i : Nat} (h : i < l.length) : atI l (i : Int) = some (l.getD i ByteArray.empty) := by
  rw [z2w h, List.getD, List.getElem?_eq_getElem h, Option.getD_some]
def zim (n : Nat) (S : List Nat) : List Bool := (List.range (2 ^ n)).map fun x => decide (x ∈ S)
theorem zsn {n : Nat} {S : List Nat} {x : Nat} (h : x < 2 ^ n) : atI (zim n S) (x : Int) = some (decide (x ∈ S)) := by
  rw [z2w (by simpa [zim] using h)]; simp [zim]
theorem zoi {n : Nat} {S : List Nat} {x : Nat} : (zim n S).set x true = zim n (S ++ [x]) := by
  apply List.ext_getElem (by simp [zim])
  intro i h1 h2
  simp only [zim, List.getElem_set, List.getElem_map, List.getElem_range, List.mem_append, List.mem_singleton]
  by_cases e : x = i
  · subst e; simp
  · rw [if_neg e]
    have : ¬ i = x := fun h => e h.symm
    simp [this]
theorem zoj {n s : Nat} : (List.replicate (2 ^ n) false).set s true = zim n [s] := by
  have : List.replicate (2 ^ n) false = zim n [] := by
    apply List.ext_getElem (by simp [zim])
    intro i h1 h2
    simp [zim]
  rw [this, zoi]; rfl
def zom (S : List Nat) : List (Int × Bool) := S.map fun x => (((x : Nat) : Int), true)
theorem zol (x : Nat) : ∀ S : List Nat, ((zep ((x : Nat) : Int) (zom S)).getD false) = decide (x ∈ S)
  | [] => rfl
  | y :: S => by
    have ih := zol x S
    simp only [zom, List.map_cons, zep]
    by_cases e : y = x
    · subst e; simp
    · rw [if_neg (by omega)]
      have : ¬ x = y := fun h => e h.symm
      simp only [List.mem_cons, this, false_or]
      exact ih
theorem map_set {x : Nat} : ∀ {S : List Nat}, x ∉ S -> zgo ((x : Nat) : Int) true (zom S) = zom (S ++ [x])
  | [], _ => rfl
  | y :: S, h => by
    have ih := map_set (x := x) (S := S) (fun hh => h (List.mem_cons_of_mem _ hh))
    have hne : y ≠ x := fun e => h (by simp [e])
    simp only [zom, List.map_cons, zgo, List.cons_append]
    rw [if_neg (by omega)]
    congr 1
theorem zjO {a : Nat} (h : a < 26) : (⟨#[UInt8.ofNat (IntKind.u8.wrap (IntKind.i64.wrap (97 + (a : Int)))).toNat]⟩ : ByteArray) = zsQ a := by
  rw [z3F (by omega) (by omega), zrR (by omega) (by omega)]
  have : (97 + (a : Int)).toNat = 97 + a := by omega
  rw [this]; rfl
theorem zjS {d : DFA} {m n s : Nat} (hd : DfaOk d m n) (hn : n <= 12) {st : RS} (h : RInv d m n s st) {i : Nat} (hi : i < st.1.length) :
    z0Z (z4h d i) LFm (0, zim n st.1, toI st.1, st.2) = z0B (((i + 1 : Nat) : Int), zim n (z6H d i st m).1, toI (z6H d i st m).1, (z6H d i st m).2) := by
  have h12 := zau hn
  have hm6 := hd.m6
  have hl := z1j h.nd h.lt
  refine z1G (s := ((0 : Int), zim n st.1, toI st.1, st.2)) m (fun a => ((a : Int), zim n (z6H d i st a).1, toI (z6H d i st a).1, (z6H d i st a).2)) rfl (by simp only [LFm]; omega) (fun a ha => ?_) ?_
  · obtain ⟨k1, _, S, W, k3, k4⟩ := zen hd h hi a (by omega)
    have hl2 := z1j k1.nd k1.lt
    have hi' : i < (z6H d i st a).1.length := by rw [k3, List.length_append]; omega
    have hx : (z6H d i st a).1.getD i 0 < 2 ^ n := k1.lt _ (z1u hi')
    obtain ⟨o1, _, _⟩ := k1.ok i hi'
    simp only [z4h]
    rw [if_pos (by rw [hd.lt]; omega), z2v hi']
    simp only [Option.bind_some]
    rw [zjI hd hn hx ha]
    simp only [Option.bind_some]
    rw [zsn (zg1 hd ha)]
    simp only [Option.bind_some, decide_eq_true_eq]
    rw [z1M (by omega), z6H]
    unfold zgl
    have hml := zg1 hd (s := (z6H d i st a).1.getD i 0) ha
    have hlt := hd.lt
    clear hd h k3 k4
    revert hml
    generalize z6H d i st a = st' at *
    generalize mvN d (st'.1.getD i 0) a = x
    intro hml
    by_cases hm : x ∈ st'.1
    · rw [if_pos hm, if_pos hm]
    · rw [if_neg hm, if_neg hm, z1q _ (by unfold z5B; rw [z0q]; omega), zcf (by rw [k1.len]; exact hi'), Option.bind_some]
      rw [zjO (by omega), z1q _ (by unfold zcQ; rw [zb8]; omega), z1q _ (by unfold z5B; rw [k1.len]; omega), Int.toNat_natCast, zoi]
      rw [z6s]
  · simp only [z4h]
    rw [if_neg (by rw [hd.lt]; omega), z1M (by omega)]
theorem zkv {d : DFA} {m n s : Nat} (hd : DfaOk d m n) (hn : n <= 12) (hs : s < 2 ^ n) : z4W d (s : Int) = some (toI (z1d d m n s).1, (z1d d m n s).2) := by
  have h12 := zau hn
  have hp := Nat.two_pow_pos n
  unfold z4W
  rw [hd.fin, z1q _ (by omega), z5G (by omega), z1q _ (by unfold z2g; omega), z1q _ (by omega), Int.toNat_natCast, Int.toNat_natCast, zoj]
  refine zb6 (s := ((0 : Int), zim n [s], [(s : Int)], [ByteArray.empty])) (fun z => ∃ k : Nat, k <= 2 ^ n /\ z = ((k : Int), zim n (z6n d m s k).1, toI (z6n d m s k).1, (z6n d m s k).2)) (fun z => 2 ^ n + 1 - z.1.toNat) ⟨0, by omega, rfl⟩ (by simp only [LFm]; omega) ?_
  rintro z ⟨k, hk, rfl⟩
  have hl := zgq hd hs k
  simp only [z7d]
  by_cases h : k < (z6n d m s k).1.length
  · left
    rw [if_pos (by rw [z0q]; omega), zjS hd hn (z8V hd hs k).1 h]
    refine ⟨_, rfl, ⟨k + 1, by omega, ?_⟩, by simp only; omega⟩
    rw [z6n, if_pos h]
  · right
    rw [if_neg (by rw [z0q]; omega)]
    unfold z1d
    rw [zcT h _ hk]
theorem zjT {d : DFA} {m n s : Nat} (hd : DfaOk d m n) (hn : n <= 12) {st : RS} (h : RInv d m n s st) {i : Nat} (hi : i < st.1.length) :
    z0Z (z4G d i) LFm (0, toI st.1, st.2, zom st.1) = z0B (((i + 1 : Nat) : Int), toI (z6H d i st m).1, (z6H d i st m).2, zom (z6H d i st m).1) := by
  have h12 := zau hn
  have hm6 := hd.m6
  have hl := z1j h.nd h.lt
  refine z1G (s := ((0 : Int), toI st.1, st.2, zom st.1)) m (fun a => ((a : Int), toI (z6H d i st a).1, (z6H d i st a).2, zom (z6H d i st a).1)) rfl (by simp only [LFm]; omega) (fun a ha => ?_) ?_
  · obtain ⟨k1, _, S, W, k3, k4⟩ := zen hd h hi a (by omega)
    have hl2 := z1j k1.nd k1.lt
    have hi' : i < (z6H d i st a).1.length := by rw [k3, List.length_append]; omega
    have hx : (z6H d i st a).1.getD i 0 < 2 ^ n := k1.lt _ (z1u hi')
    obtain ⟨o1, _, _⟩ := k1.ok i hi'
    simp only [z4G]
    rw [if_pos (by rw [hd.lt]; omega), z2v hi']
    simp only [Option.bind_some]
    rw [ziY hd hn hx ha]
    simp only [Option.bind_some]
    rw [zol]
    simp only [decide_eq_true_eq]
    rw [z1M (by omega), z6H]
    unfold zgl
    by_cases hm : mvN d ((z6H d i st a).1.getD i 0) a ∈ (z6H d i st a).1
    · rw [if_pos hm, if_pos hm]
    · rw [if_neg hm, if_neg hm, zcf (by rw [k1.len]; exact hi'), Option.bind_some]
      rw [z1q _ (by unfold z5B; rw [z0q]; omega), zjO (by omega), z1q _ (by unfold zcQ; rw [zb8]; omega), z1q _ (by unfold z5B; rw [k1.len]; omega), map_set hm, z6s]
  · simp only [z4G]
    rw [if_neg (by rw [hd.lt]; omega), z1M (by omega)]
theorem zbo {d : DFA} {m n s : Nat} (hd : DfaOk d m n) (hn : n <= 12) (hs : s < 2 ^ n) : z3L d (s : Int) = some (toI (z1d d m n s).1, (z1d d m n s).2) := by
  have h12 := zau hn
  have hp := Nat.two_pow_pos n
  unfold z3L
  refine zb6 (s := ((0 : Int), [(s : Int)], [ByteArray.empty], zom [s])) (fun z => ∃ k : Nat, k <= 2 ^ n /\ z = ((k : Int), toI (z6n d m s k).1, (z6n d m s k).2, zom (z6n d m s k).1)) (fun z => 2 ^ n + 1 - z.1.toNat) ⟨0, by omega, rfl⟩ (by simp only [LFm]; omega) ?_
  rintro z ⟨k, hk, rfl⟩
  have hl := zgq hd hs k
  simp only [z7G]
  by_cases h : k < (z6n d m s k).1.length
  · left
    rw [if_pos (by rw [z0q]; omega), zjT hd hn (z8V hd hs k).1 h]
    refine ⟨_, rfl, ⟨k + 1, by omega, ?_⟩, by simp only; omega⟩
    rw [z6n, if_pos h]
  · right
    rw [if_neg (by rw [z0q]; omega)]
    unfold z1d
    rw [zcT h _ hk]
end Go.Proofs.Ytbnnipkanechoaa
end
section
namespace Go.Proofs.Ytbnnipkanechoaa
open Go
set_option maxRecDepth 100000
abbrev isB (n : Nat) (s : Int) : Prop := 0 <= s /\ s < ((2 ^ n : Nat) : Int)
def zoS (p : Nat) (st : RS) : ByteArray × Bool × Int := match (List.range st.1.length).find? fun k => decide (p &&& st.1.getD k 0 = p) with
  | some k => (st.2.getD k ByteArray.empty, true, 0)
  | none => (ByteArray.empty, false, 0)
def zt3 (d : DFA) (m n : Nat) (p r : Int) : ByteArray × Bool × Int := if isB n p /\ isB n r then zoS p.toNat (z1d d m n r.toNat) else (ByteArray.empty, false, 1)
theorem zl4 {α : Type} {f : Nat -> α} {o : Option Nat} {x : α} : (match o with | some k => some (f k) | none => some x) = some (match o with | some k => f k | none => x) := by cases o <;> rfl
theorem zna {d : DFA} {m n s : Nat} (hd : DfaOk d m n) (hn : n <= 12) (hs : s < 2 ^ n) {p : Nat} (hp : p < 2 ^ n) : z0Z (z4k (p : Int) (toI (z1d d m n s).1, (z1d d m n s).2)) LFm 0 = some (zoS p (z1d d m n s)) := by
  have h12 := zau hn
  have hi := z3S hd hs
  have hl := z1j hi.nd hi.lt
  rw [z6j (s := (0 : Int)) (z1d d m n s).1.length (fun k => (k : Int)) (fun k => decide (p &&& (z1d d m n s).1.getD k 0 = p)) (fun k => some ((z1d d m n s).2.getD k ByteArray.empty, true, 0)) (x := some (ByteArray.empty, false, 0)) rfl (by simp only [LFm]; omega)]
  · unfold zoS; exact zl4
  · intro k hk
    have hx := hi.lt _ (z1u hk)
    simp only [z4k]
    rw [if_pos (by rw [z0q]; omega), z2v hk, Option.bind_some, z8E (by omega) (by omega), Option.bind_some]
    simp only [decide_eq_true_eq]
    split
    · rw [zcf (by rw [hi.len]; exact hk), Option.bind_some]
    · rw [z1M (by omega)]
  · simp only [z4k]
    rw [if_neg (by rw [z0q]; omega)]
theorem znd {d : DFA} {m n s : Nat} (hd : DfaOk d m n) (hn : n <= 12) (hs : s < 2 ^ n) {p : Nat} (hp : p < 2 ^ n) : z0Z (z4H (p : Int) (toI (z1d d m n s).1, (z1d d m n s).2)) LFm 0 = some (zoS p (z1d d m n s)) := by
  have h12 := zau hn
  have hi := z3S hd hs
  have hl := z1j hi.nd hi.lt
  rw [z6j (s := (0 : Int)) (z1d d m n s).1.length (fun k => (k : Int)) (fun k => decide (p &&& (z1d d m n s).1.getD k 0 = p)) (fun k => some ((z1d d m n s).2.getD k ByteArray.empty, true, 0)) (x := some (ByteArray.empty, false, 0)) rfl (by simp only [LFm]; omega)]
  · unfold zoS; exact zl4
  · intro k hk
    have hx := hi.lt _ (z1u hk)
    simp only [z4H]
    rw [if_pos (by rw [z0q]; omega), z2v hk, Option.bind_some, z9X (by omega) (by omega)]
    simp only [decide_eq_true_eq]
    by_cases h : p &&& (z1d d m n s).1.getD k 0 = p
    · rw [if_pos (by rw [h]), if_pos h, zcf (by rw [hi.len]; exact hk), Option.bind_some]
    · rw [if_neg (by omega), if_neg h, z1M (by omega)]
  · simp only [z4H]
    rw [if_neg (by rw [z0q]; omega)]
theorem zqk {d : DFA} {m n : Nat} (hd : DfaOk d m n) (hn : n <= 12) (p r : Int) : z3r d p r = some (zt3 d m n p r) := by
  unfold z3r zt3
  rw [z5s (zga hd hn), zg2 hd hn, Option.bind_some, if_pos rfl, zgD hd hn, Option.bind_some]
  simp only [decide_eq_true_eq]
  by_cases h : isB n p
  · rw [if_pos h, zgD hd hn, Option.bind_some]
    simp only [decide_eq_true_eq]
    by_cases h2 : isB n r
    · rw [if_pos h2, if_pos ⟨h, h2⟩]
      obtain ⟨k, rfl⟩ := Int.eq_ofNat_of_zero_le h.1
      obtain ⟨j, rfl⟩ := Int.eq_ofNat_of_zero_le h2.1
      have hk := h.2
      have hj := h2.2
      rw [zkv hd hn (by omega), Option.bind_some, zna hd hn (by omega) (by omega)]
      rfl
    · rw [if_neg h2, if_neg (fun hh => h2 hh.2)]
  · rw [if_neg h, if_neg (fun hh => h hh.1)]
theorem zqr {d : DFA} {m n : Nat} (hd : DfaOk d m n) (hn : n <= 12) (p r : Int) : z3M d p r = some (zt3 d m n p r) := by
  unfold z3M zt3
  rw [zcJ (zga hd hn), zg2 hd hn, Option.bind_some, if_pos rfl, zgY hd hn, Option.bind_some]
  simp only [decide_eq_true_eq]
  by_cases h : isB n p
  · rw [if_pos h, zgY hd hn, Option.bind_some]
    simp only [decide_eq_true_eq]
    by_cases h2 : isB n r
    · rw [if_pos h2, if_pos ⟨h, h2⟩]
      obtain ⟨k, rfl⟩ := Int.eq_ofNat_of_zero_le h.1
      obtain ⟨j, rfl⟩ := Int.eq_ofNat_of_zero_le h2.1
      have hk := h.2
      have hj := h2.2
      rw [zbo hd hn (by omega), Option.bind_some, znd hd hn (by omega) (by omega)]
      rfl
    · rw [if_neg h2, if_neg (fun hh => h2 hh.2)]
  · rw [if_neg h, if_neg (fun hh => h hh.1)]
def zh0 (p r : Nat) : Prop := p &&& r = p
theorem z5E {p r : Nat} : zh0 p r ↔ ∀ q, p.testBit q = true -> r.testBit q = true := by
  unfold zh0
  constructor
  · intro h q hq
    have : (p &&& r).testBit q = true := by rw [h]; exact hq
    rw [Nat.testBit_and, Bool.and_eq_true] at this
    exact this.2
  · intro h
    apply Nat.eq_of_testBit_eq
    intro q
    rw [Nat.testBit_and]
    cases hp : p.testBit q with
    | false => rfl
    | true => rw [h q hp]; rfl
theorem zpz (p : Nat) : zh0 p p := Nat.and_self p
theorem znK {p q r : Nat} (h1 : zh0 p q) (h2 : zh0 q r) : zh0 p r := z5E.2 fun i hi => z5E.1 h2 i (z5E.1 h1 i hi)
theorem zhW {p q : Nat} (h1 : zh0 p q) (h2 : zh0 q p) : p = q := Nat.eq_of_testBit_eq fun i => by
  have a := z5E.1 h1 i
  have b := z5E.1 h2 i
  cases hp : p.testBit i <;> cases hq : q.testBit i <;> simp_all
theorem zrg {d : DFA} {m n : Nat} (hd : DfaOk d m n) {p r a : Nat} (ha : a < m) (h : zh0 p r) : zh0 (mvN d p a) (mvN d r a) := z5E.2 fun q hq => by
  obtain ⟨i, h1, h2, h3⟩ := (zgx hd ha q).1 hq
  exact (zgx hd ha q).2 ⟨i, h1, z5E.1 h i h2, h3⟩
theorem zku {d : DFA} {m n : Nat} (hd : DfaOk d m n) : ∀ {w : List UInt8} {p r : Nat}, (∀ c ∈ w, 97 <= c.toNat /\ c.toNat < 97 + m) -> zh0 p r -> zh0 (zeO d p w) (zeO d r w)
  | [], p, r, _, h => h
  | c :: w, p, r, hw, h => zku (w := w) (p := mvN d p (c.toNat - 97)) (r := mvN d r (c.toNat - 97)) hd (fun c' hc' => hw c' (List.mem_cons_of_mem _ hc')) (zrg hd (by have := hw c (List.mem_cons_self ..); omega) h)
theorem ze9 {d : DFA} {m n s : Nat} (hd : DfaOk d m n) (hs : s < 2 ^ n) : ∀ {w : List UInt8} {x : Nat}, (∀ c ∈ w, 97 <= c.toNat /\ c.toNat < 97 + m) -> x ∈ (z1d d m n s).1 -> zeO d x w ∈ (z1d d m n s).1
  | [], x, _, h => h
  | c :: w, x, hw, h => ze9 (w := w) (x := mvN d x (c.toNat - 97)) hd hs (fun c' hc' => hw c' (List.mem_cons_of_mem _ hc')) (zcD hd hs h (by have := hw c (List.mem_cons_self ..); omega))
theorem zcj {d : DFA} {m n s : Nat} (hd : DfaOk d m n) (hs : s < 2 ^ n) : s ∈ (z1d d m n s).1 := by
  have := (z3S hd hs).f0
  exact List.mem_of_getElem? this
def zrP (d : DFA) (m : Nat) (p r : Nat) : Prop := ∃ w : List UInt8, (∀ c ∈ w, 97 <= c.toNat /\ c.toNat < 97 + m) /\ zh0 p (zeO d r w)
theorem zpf {d : DFA} {m n p r : Nat} (hd : DfaOk d m n) (hr : r < 2 ^ n) : zrP d m p r ↔ ∃ x ∈ (z1d d m n r).1, zh0 p x := by
  constructor
  · rintro ⟨w, h1, h2⟩
    exact ⟨_, ze9 hd hr h1 (zcj hd hr), h2⟩
  · rintro ⟨x, hx, hs⟩
    obtain ⟨i, hi, rfl⟩ := List.getElem_of_mem hx
    obtain ⟨_, o2, o3⟩ := (z3S hd hr).ok i hi
    refine ⟨_, o2, ?_⟩
    rw [o3, List.getD, List.getElem?_eq_getElem hi, Option.getD_some]
    exact hs
theorem zll (d : DFA) (m p : Nat) : zrP d m p p := ⟨[], fun c hc => by simp at hc, zpz p⟩
theorem zeJ {d : DFA} {m n p q r : Nat} (hd : DfaOk d m n) (h1 : zrP d m p q) (h2 : zrP d m q r) : zrP d m p r := by
  obtain ⟨u, u1, u2⟩ := h1
  obtain ⟨v, v1, v2⟩ := h2
  refine ⟨v ++ u, fun c hc => ?_, ?_⟩
  · rcases List.mem_append.1 hc with h | h
    · exact v1 c h
    · exact u1 c h
  · rw [z7a]
    exact znK u2 (zku hd u1 v2)
end Go.Proofs.Ytbnnipkanechoaa
end
